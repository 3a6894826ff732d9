/- Parts of one proof, laid by a program. -/
import Derived.Test.YtngjgahldnnapaaGreatDoorM00
import Derived.WalkKit
import Derived.Deep.LoopGhost
import Derived.Maps.AppendAt
import Derived.WideLaws
import Derived.Laws.MakeOwn
import Derived.Orders
set_option linter.unusedSimpArgs false
set_option linter.unusedVariables false
set_option maxRecDepth 100000
set_option maxHeartbeats 12800000
namespace Go.AI
inductive CV where
 |any
 |int (k:IntKind) (n:Int)
 |bool (b:Bool)
 |str (s:ByteArray)
 |nilI
 |nils
 |ifc (t:TypeId) (x:CV)
 |row (t:Bool) (size n:Nat) (f:Nat→CV)
 |osl (g size off n:Nat)
 |optr (g off:Nat)
 |rptr (n:Nat) (f:Nat→CV)
 |raw (v:Value)
inductive AV where
 |c (x:CV)
 |agg (cs:List CV)
 |tup (xs:List AV)
def Has (w:World) (g m:Nat):Prop:=∃cs ty,(∃fr,w.heap[g]?=some (.cells cs ty fr))∧m≤cs.size
def XX (S:Bool→Nat→Prop) (w:World):CV→Value→Prop
 |.any,_=>True
 |.int k n,v=>v=.int k n
 |.bool b,v=>v=.bool b
 |.str s,v=>v=.string s
 |.nilI,v=>v=.nilIface
 |.nils,v=>∃A,v=.slice A 0 0
 |.ifc t x,v=>∃u,v=.iface t u∧XX S w x u
 |.row t size n f,v=>∃A c,v=.slice A n c∧n≤c∧(0<n*size→∃ad,A=some ad∧S t ad.block∧∀j,j<n*size→∃u,w.cell? (ad.add j)=some u∧XX S w (f j) u)
 |.osl g size off n,v=>∃c,v=.slice (some ⟨g,off,none⟩) n c∧n≤c∧c≤maxLen∧Has w g (off+c*size)
 |.optr g off,v=>v=.pointer (some ⟨g,off,none⟩)
 |.rptr n f,v=>∃ad,v=.pointer (some ad)∧S false ad.block∧∀j,j<n→∃u,w.cell? (ad.add j)=some u∧XX S w (f j) u
 |.raw u,v=>v=u
def X4 (S:Bool→Nat→Prop) (w:World):List CV→List Value→Prop
 |[],[]=>True
 |c::cs,u::us=>XX S w c u∧X4 S w cs us
 |_,_=>False
def OH (S:Bool→Nat→Prop) (w:World):AV→Value→Prop
 |.c x,v=>XX S w x v
 |.agg cs,v=>∃us:List Value,v=.agg us.toArray∧X4 S w cs us
 |.tup _,_=>False
def Vc (S:Bool→Nat→Prop) (w:World):List AV→List Value→Prop
 |[],[]=>True
 |c::cs,u::us=>OH S w c u∧Vc S w cs us
 |_,_=>False
def VK (S:Bool→Nat→Prop) (w:World):AV→Value→Prop
 |.tup xs,v=>∃us:List Value,v=.tuple us.toArray∧Vc S w xs us
 |x,v=>OH S w x v
structure YA (S:Bool→Nat→Prop) (S':Bool→Nat→Prop) (w w':World):Prop where
 set:∀t b,S t b→S' t b
 block:∀t b,S t b→w'.heap[b]?=w.heap[b]?
 has:∀g m,Has w g m→Has w' g m
theorem YA.cell {S S':Bool→Nat→Prop} {w w':World} (h:YA S S' w w') {t:Bool} {p:Addr} (hp:S t p.block):w'.cell? p=w.cell? p:=
 World.cell?_of_block (w:=w) (h.block t p.block hp)
theorem block_add (a:Addr) (n:Nat):(a.add n).block=a.block:=by unfold Addr.add;split<;>rfl
theorem QdH (a:Addr) (i j:Nat):(a.add i).add j=a.add (i+j):=by
 unfold Addr.add
 by_cases hi:i=0<;>by_cases hj:j=0<;>simp [hi,hj,Nat.add_assoc]
theorem ZP (g o n:Nat):(⟨g,o,none⟩:Addr).add n=⟨g,o+n,none⟩:=by unfold Addr.add;split<;>simp_all
theorem XX.keep {S S':Bool→Nat→Prop} {w w':World} (h:YA S S' w w'):∀{x:CV} {v:Value},XX S w x v→XX S' w' x v:=by
 intro x
 induction x with
 |any=>intro v _;trivial
 |int k n=>intro v hr;exact hr
 |bool b=>intro v hr;exact hr
 |str s=>intro v hr;exact hr
 |nilI=>intro v hr;exact hr
 |nils=>intro v hr;exact hr
 |ifc t x ih=>intro v hr;obtain⟨u,hu,hx⟩:=hr;exact⟨u,hu,ih hx⟩
 |row t size n f ih=>
  intro v hr
  obtain⟨A,c,hv,hc,hn⟩:=hr
  refine⟨A,c,hv,hc,fun h0=> ?_⟩
  obtain⟨ad,hA,hS,hj⟩:=hn h0
  refine⟨ad,hA,h.set _ _ hS,fun j hjl=> ?_⟩
  obtain⟨u,hu,hf⟩:=hj j hjl
  exact⟨u,(h.cell (t:=t) (by rw [block_add];exact hS)).trans hu,ih j hf⟩
 |osl g size off n=>intro v hr;obtain⟨c,hv,hc,hm,hh⟩:=hr;exact⟨c,hv,hc,hm,h.has _ _ hh⟩
 |optr g off=>intro v hr;exact hr
 |rptr n f ih=>
  intro v hr
  obtain⟨ad,hv,hS,hj⟩:=hr
  refine⟨ad,hv,h.set _ _ hS,fun j hjl=> ?_⟩
  obtain⟨u,hu,hf⟩:=hj j hjl
  exact⟨u,(h.cell (t:=false) (by rw [block_add];exact hS)).trans hu,ih j hf⟩
 |raw u=>intro v hr;exact hr
theorem X4.keep {S S':Bool→Nat→Prop} {w w':World} (h:YA S S' w w'):∀{cs:List CV} {us:List Value},X4 S w cs us→X4 S' w' cs us
 |[],[],_=>trivial
 |_::_,_::_,hr=>⟨XX.keep h hr.1,X4.keep h hr.2⟩
 |[],_::_,hr=>hr.elim
 |_::_,[],hr=>hr.elim
theorem OH.keep {S S':Bool→Nat→Prop} {w w':World} (h:YA S S' w w') {x:AV} {v:Value} (hr:OH S w x v):OH S' w' x v:=by
 cases x with
 |c x=>exact XX.keep h hr
 |agg cs=>obtain⟨us,hv,hu⟩:=hr;exact⟨us,hv,X4.keep h hu⟩
 |tup xs=>exact hr.elim
theorem Vc.keep {S S':Bool→Nat→Prop} {w w':World} (h:YA S S' w w'):∀{cs:List AV} {us:List Value},Vc S w cs us→Vc S' w' cs us
 |[],[],_=>trivial
 |_::_,_::_,hr=>⟨OH.keep h hr.1,Vc.keep h hr.2⟩
 |[],_::_,hr=>hr.elim
 |_::_,[],hr=>hr.elim
theorem VK.keep {S S':Bool→Nat→Prop} {w w':World} (h:YA S S' w w') {x:AV} {v:Value} (hr:VK S w x v):VK S' w' x v:=by
 cases x with
 |c x=>exact OH.keep h (x:=.c x) hr
 |agg cs=>exact OH.keep h (x:=.agg cs) hr
 |tup xs=>obtain⟨us,hv,hu⟩:=hr;exact⟨us,hv,Vc.keep h hu⟩
theorem X4.length {S:Bool→Nat→Prop} {w:World}:∀{cs:List CV} {us:List Value},X4 S w cs us→us.length=cs.length
 |[],[],_=>rfl
 |_::_,_::_,hr=>by simp [X4.length hr.2]
 |[],_::_,hr=>hr.elim
 |_::_,[],hr=>hr.elim
theorem X4.get {S:Bool→Nat→Prop} {w:World}:∀{cs:List CV} {us:List Value},X4 S w cs us→∀(j:Nat) (c:CV),cs[j]?=some c→∃u,us[j]?=some u∧XX S w c u
 |[],[],_,j,c,hc=>by simp at hc
 |a::_,b::_,hr,0,c,hc=>by simp at hc;subst hc;exact⟨b,rfl,hr.1⟩
 |_::_,_::_,hr,j+1,c,hc=>by simp at hc⊢;exact X4.get hr.2 j c hc
 |[],_::_,hr,_,_,_=>hr.elim
 |_::_,[],hr,_,_,_=>hr.elim
inductive XD where
 |cells (ty:TypeId) (n:Nat) (f:Nat→CV)
 |gen (R:Obj→Prop)
 |vals (R:List Value→Obj→Prop) (xs:List AV)
abbrev Qa:=List (Nat×XD)
def Y0 (S:Bool→Nat→Prop) (w:World) (g:Nat):XD→Prop
 |.cells ty n f=>∃cs,w.heap[g]?=some (.cells cs ty (0,0))∧n≤cs.size∧∀j,j<n→∃u,cs[j]?=some u∧XX S w (f j) u
 |.gen R=>∃o,w.heap[g]?=some o∧R o
 |.vals R xs=>∃o us,w.heap[g]?=some o∧Vc S w xs us∧R us o
theorem Y0.lt {S:Bool→Nat→Prop} {w:World} {g:Nat} {o:XD} (h:Y0 S w g o):g<w.heap.size:=by
 cases o with
 |cells ty n f=>obtain⟨cs,hc,_⟩:=h;exact(Array.getElem?_eq_some_iff.1 hc).1
 |gen R=>obtain⟨o,hc,_⟩:=h;exact(Array.getElem?_eq_some_iff.1 hc).1
 |vals R xs=>obtain⟨o,us,hc,_⟩:=h;exact(Array.getElem?_eq_some_iff.1 hc).1
theorem Y0.keep {S S':Bool→Nat→Prop} {w w':World} (h:YA S S' w w') {g:Nat} {o:XD} (hb:w'.heap[g]?=w.heap[g]?) (hr:Y0 S w g o):Y0 S' w' g o:=by
 cases o with
 |cells ty n f=>
  obtain⟨cs,hc,hn,hj⟩:=hr
  exact⟨cs,hb.trans hc,hn,fun j hjl=>by obtain⟨u,hu,hf⟩:=hj j hjl;exact⟨u,hu,XX.keep h hf⟩⟩
 |gen R=>obtain⟨o,hc,hR⟩:=hr;exact⟨o,hb.trans hc,hR⟩
 |vals R xs=>obtain⟨o,us,hc,hu,hR⟩:=hr;exact⟨o,us,hb.trans hc,Vc.keep h hu,hR⟩
structure Fr (own:Nat→Prop) (w w':World):Prop where
 os:w'.os=w.os
 tape:w'.tape=w.tape
 output:w'.output=w.output
 size:w.heap.size≤w'.heap.size
 drawn:w.drawn≤w'.drawn
 block:∀b,b<w.heap.size→¬own b→w'.heap[b]?=w.heap[b]?
 has:∀g m,Has w g m→Has w' g m
theorem Fr.refl (own:Nat→Prop) (w:World):Fr own w w:=⟨rfl,rfl,rfl,Ac _,Ac _,fun _ _ _=>rfl,fun _ _ h=>h⟩
theorem Fr.trans {own own':Nat→Prop} {a b c:World} (h:Fr own a b) (k:Fr own' b c) (hk:∀x,own' x→x<a.heap.size→own x):Fr own a c:=
 ⟨k.os.trans h.os,k.tape.trans h.tape,k.output.trans h.output,Lt h.size k.size,Lt h.drawn k.drawn,
  fun x hx hn=>(k.block x (Ae hx h.size) (fun ho=>hn (hk x ho hx))).trans (h.block x hx hn),fun g m hh=>k.has g m (h.has g m hh)⟩
theorem Has.lt {w:World} {g m:Nat} (h:Has w g m):g<w.heap.size:=by
 obtain⟨cs,ty,⟨_,hc⟩,_⟩:=h
 exact(Array.getElem?_eq_some_iff.1 hc).1
theorem Fr.alloc (own:Nat→Prop) (w:World) (o:Obj):Fr own w (w.alloc o):=by
 have hb:∀b,b<w.heap.size→(w.alloc o).heap[b]?=w.heap[b]?:=fun b hb=>RowKit.Below.heap_alloc w o b hb
 exact⟨rfl,rfl,rfl,by simp,Ac _,fun b hb' _=>hb b hb',fun g m hh=>by
  have hl:=hh.lt
  obtain⟨cs,ty,⟨fr,hc⟩,hs⟩:=hh
  exact⟨cs,ty,⟨fr,(hb g hl).trans hc⟩,hs⟩⟩
theorem Fr.drew (own:Nat→Prop) (w:World) (n:Nat) (hd:w.drawn≤n:=by omega):Fr own w {w with drawn:=n}:=⟨rfl,rfl,rfl,Ac _,hd,fun _ _ _=>rfl,fun _ _ h=>h⟩
theorem Fr.setCell {own:Nat→Prop} (w:World) (p:Addr) (u:Value) (hp:own p.block):Fr own w (w.setCell p u):=by
 refine⟨rfl,rfl,rfl,by simp [World.setCell],Ac _,fun b _ hn=>RowKit.Below.heap_setCell w p u b (fun e=>hn (e▸hp)),fun g m hh=> ?_⟩
 obtain⟨cs,ty,⟨fr,hc⟩,hs⟩:=hh
 by_cases hg:g=p.block
 ·subst hg
  refine⟨if p.spot.isSome then cs else cs.setIfInBounds p.off u,ty,⟨fr,?_⟩,?_⟩
  ·simp [World.setCell,Array.getElem?_modify,hc]
  ·split<;>simp [hs]
 ·exact⟨cs,ty,⟨fr,(RowKit.Below.heap_setCell w p u g hg).trans hc⟩,hs⟩
def pwB:List Nat:=
 [1]
def pwZ:List Int:=(List.range 20).map fun i=>((10^i:Nat):Int)
def OI (S:Bool→Nat→Prop) (w:World):Prop:=∀b∈pwB,S true b∧∃ty fr,w.heap[b]?=some (.cells (pwZ.map fun z=>Value.int .u64 z).toArray ty fr)
theorem OI.keep {S S':Bool→Nat→Prop} {w w':World} (h:YA S S' w w') (t:OI S w):OI S' w':=fun b hb=>⟨h.set _ _ (t b hb).1,by rw [h.block _ _ (t b hb).1];exact(t b hb).2⟩
section
abbrev Sl:=List (Nat×AV)
def Sl.get:Sl→Nat→AV
 |[],_=>.c .any
 |(t',x)::σ,t=>if t'=t then x else Sl.get σ t
def Sl.set:Sl→Nat→AV→Sl
 |[],t,v=>[(t,v)]
 |(t',x)::σ,t,v=>if t'=t then(t,v)::σ else(t',x)::Sl.set σ t v
def Sl.setO (σ:Sl):Option Nat→AV→Sl
 |some d,v=>σ.set d v
 |none,_=>σ
theorem Sl.get_set (σ:Sl) (t:Nat) (v:AV) (t':Nat):(σ.set t v).get t'=if t=t' then v else σ.get t':=by
 induction σ with
 |nil=>simp [Sl.set,Sl.get]
 |cons p σ ih=>
  obtain⟨s,x⟩:=p
  by_cases h:s=t
  ·subst h;simp only [Sl.set,if_true,Sl.get];split<;>rfl
  ·simp only [Sl.set,h,if_false,Sl.get,ih]
   by_cases h1:s=t'
   ·subst h1;simp [h,Ne.symm h]
   ·simp [h1]
def Qa.keys (h:Qa):List Nat:=h.map (·.1)
def Qa.get:Qa→Nat→Option XD
 |[],_=>none
 |(g',x)::h,g=>if g'=g then some x else Qa.get h g
theorem Qa.get_mem {h:Qa} {g:Nat} {o:XD} (e:h.get g=some o):(g,o)∈h:=by
 induction h with
 |nil=>simp [Qa.get] at e
 |cons p h ih=>
  obtain⟨g',x⟩:=p
  unfold Qa.get at e
  split at e
  ·rename_i hg;subst hg;injection e with e;subst e;simp
  ·exact Lm _ (ih e)
def Qa.set:Qa→Nat→XD→Qa
 |[],_,_=>[]
 |(g',x)::h,g,o=>if g'=g then(g',o)::h else(g',x)::Qa.set h g o
theorem Qa.keys_set (h:Qa) (g:Nat) (o:XD):(h.set g o).keys=h.keys:=by
 induction h with
 |nil=>rfl
 |cons p h ih=>
  obtain⟨g',x⟩:=p
  unfold Qa.set
  split<;>simp_all [Qa.keys]
theorem Qa.mem_set {h:Qa} {g:Nat} {o:XD} {q:Nat×XD} (hn:h.keys.Nodup) (hq:q∈h.set g o):(q=(g,o)∨(q∈h∧q.1≠g)):=by
 induction h with
 |nil=>simp [Qa.set] at hq
 |cons p h ih=>
  obtain⟨g',x⟩:=p
  simp only [Qa.keys,Ld,List.nodup_cons] at hn
  unfold Qa.set at hq
  split at hq
  ·rename_i e
   subst e
   simp only [Lb] at hq
   rcases hq with rfl|hq
   ·exact .inl rfl
   ·refine .inr ⟨Lm _ hq,fun e=>hn.1 ?_⟩
    rw [←e];exact List.mem_map.2 ⟨q,hq,rfl⟩
  ·rename_i e
   simp only [Lb] at hq
   rcases hq with rfl|hq
   ·exact .inr ⟨by simp,e⟩
   ·rcases ih hn.2 hq with h1|⟨h1,h2⟩
    ·exact .inl h1
    ·exact .inr ⟨Lm _ h1,h2⟩
structure Vk where
 w0:World
 S0:Bool→Nat→Prop
 own0:Nat→Prop
 mono:∀b,S0 true b→S0 false b
 apart:∀t b,S0 t b→¬own0 b
 lt:∀t b,S0 t b→b<w0.heap.size
def QH (C:Vk) (h:Qa) (w:World) (t:Bool) (b:Nat):Prop:=(C.S0 t b∨C.w0.heap.size≤b)∧b<w.heap.size∧b∉h.keys
structure St (N:Nat) (C:Vk) (σ:Sl) (h:Qa) (a:Act) (w:World):Prop where
 size:a.tmps.size=N
 defers:a.defers=[]
 slots:∀t,VK (QH C h w) w (σ.get t) (a.tmps.getD t undef)
 heap:∀g o,(g,o)∈h→Y0 (QH C h w) w g o
 nodup:h.keys.Nodup
 keys:∀g∈h.keys,C.own0 g∨C.w0.heap.size≤g
 frame:Fr C.own0 C.w0 w
theorem St.klt {N:Nat} {C:Vk} {σ:Sl} {h:Qa} {a:Act} {w:World} (s:St N C σ h a w) {g:Nat} (hg:g∈h.keys):g<w.heap.size:=by
 obtain⟨p,hp,rfl⟩:=List.mem_map.1 hg
 exact(s.heap p.1 p.2 hp).lt
inductive It where
 |code (c:Code)
 |ops (all rest:List Oper)
 |blk (id:Nat)
 |stop (R:Sl→Qa→Prop)
structure Vl where
 P:Program
 N:Nat
 C:Vk
 Q:Exit→Act→World→Prop
def exW (E:Vl):List It→Exit→Act→World→Prop
 |[],e,a,w=>E.Q e a w
 |.code c::K,.normal,a,w=>c.wp E.P (exW E K) a w
 |.ops all rest::K,.normal,a,w=>wpList E.P all.toArray (exW E K) rest a w
 |.blk _::K,.normal,a,w=>exW E K .normal a w
 |.blk id::K,.exit id',a,w=>if id'=id then exW E K .normal a w else exW E K (.exit id') a w
 |.stop R::_,.normal,a,w=>∃σ h,R σ h∧St E.N E.C σ h a w
 |_::K,e,a,w=>exW E K e a w
def aw (E:Vl) (K:List It) (σ:Sl) (h:Qa):Prop:=∀a w,St E.N E.C σ h a w→exW E K .normal a w
section
variable {E : Vl} {K : List It} {σ : Sl} {h : Qa}
theorem Qf0 (c:Code):exW E (.code c::K)=Exit.then (c.wp E.P (exW E K)) (exW E K):=by
 funext e a w;cases e<;>rfl
theorem Yd {x y:Code} (k:aw E (.code x::.code y::K) σ h):aw E (.code (.seq x y)::K) σ h:=fun a w s=>by
 have:=k a w s
 show Code.wp _ _ _ _ _
 refine wp_seq ?_
 rw [←Qf0]
 exact this
theorem QdI (k:aw E K σ h):aw E (.code .skip::K) σ h:=fun a w s=>wp_skip (k a w s)
theorem Qtd (id:Nat):exW E (.blk id::K)=Exit.inBlock id (exW E K):=by
 funext e a w;cases e<;>rfl
theorem Zz {id:Nat} {c:Code} (k:aw E (.code c::.blk id::K) σ h):aw E (.code (.block id c)::K) σ h:=fun a w s=>by
 refine wp_block ?_
 rw [←Qtd]
 exact k a w s
theorem Qv9 {id:Nat} (k:aw E K σ h):aw E (.blk id::K) σ h:=fun a w s=>k a w s
def Qd8 (id:Nat):List It→Option (List It)
 |.blk id'::K=>if id=id' then some K else Qd8 id K
 |_::K=>Qd8 id K
 |[]=>none
theorem OJ {id:Nat}:∀{K K':List It},Qd8 id K=some K'→∀a w,exW E K' .normal a w→exW E K (.exit id) a w
 |[],_,h,_,_,_=>by simp [Qd8] at h
 |.code _::K,_,h,a,w,k=>OJ (K:=K) h a w k
 |.ops _ _::K,_,h,a,w,k=>OJ (K:=K) h a w k
 |.stop _::K,_,h,a,w,k=>OJ (K:=K) h a w k
 |.blk id'::K,K',h,a,w,k=>by
  simp only [Qd8] at h
  simp only [exW]
  split at h
  ·rename_i e;subst e;injection h with h;subst h;rw [iP rfl];exact k
  ·rename_i e;rw [iN e];exact OJ (K:=K) h a w k
theorem Qte {id:Nat} {K':List It} (hk:Qd8 id K=some K') (k:aw E K' σ h):aw E (.code (.exit id)::K) σ h:=
 fun a w s=>wp_exit (OJ hk a w (k a w s))
theorem WT:∀{K:List It} (a:Act) (w:World),E.Q .ret a w→exW E K .ret a w
 |[],_,_,k=>k
 |.code _::K,a,w,k=>WT (K:=K) a w k
 |.ops _ _::K,a,w,k=>WT (K:=K) a w k
 |.stop _::K,a,w,k=>WT (K:=K) a w k
 |.blk _::K,a,w,k=>WT (K:=K) a w k
theorem St.eval {N:Nat} {C:Vk} {a:Act} {w:World} (s:St N C σ h a w) (t:Nat):VK (QH C h w) w (σ.get t) (a.eval (.tmp t)):=s.slots t
theorem QS {t:Nat} {x y:Code} {b:Bool} (hb:σ.get t=.c (.bool b)) (k1:b=true→aw E (.code x::K) σ h) (k2:b=false→aw E (.code y::K) σ h):
  aw E (.code (.cond (.tmp t) x y)::K) σ h:=fun a w s=>by
 have he:=s.eval t
 rw [hb] at he
 exact wp_cond_split (t:=b) he (fun e=>k1 e a w s) (fun e=>k2 e a w s)
def Sl.le (σ' σ:Sl):Prop:=∀t,σ'.get t=.c .any∨σ'.get t=σ.get t
theorem St.weak {N:Nat} {C:Vk} {σ':Sl} {h':Qa} {a:Act} {w:World} (s:St N C σ h a w) (h1:σ'.le σ) (h2:h'.Sublist h):St N C σ' h' a w:=by
 have hk:∀b,b∈h'.keys→b∈h.keys:=fun b hb=>by
  obtain⟨p,hp,e⟩:=List.mem_map.1 hb
  exact List.mem_map.2 ⟨p,h2.subset hp,e⟩
 have kp:YA (QH C h w) (QH C h' w) w w:=⟨fun t b hb=>⟨hb.1,hb.2.1,fun hm=>hb.2.2 (hk b hm)⟩,fun _ _ _=>rfl,fun _ _ e=>e⟩
 refine⟨s.size,s.defers,fun t=> ?_,fun g o hm=>Y0.keep kp rfl (s.heap g o (h2.subset hm)),?_,fun g hg=>s.keys g (hk g hg),s.frame⟩
 ·rcases h1 t with e|e
  ·rw [e];trivial
  ·rw [e];exact VK.keep kp (s.slots t)
 ·exact(h2.map _).nodup s.nodup
theorem QM {σ':Sl} {h':Qa} (h1:σ'.le σ) (h2:h'.Sublist h) (k:aw E K σ' h'):aw E K σ h:=fun a w s=>k a w (s.weak h1 h2)
theorem Sl.le_refl (σ:Sl):σ.le σ:=fun _=>.inr rfl
theorem Qb {R:Sl→Qa→Prop} (k:R σ h):aw E (.stop R::K) σ h:=fun _ _ s=>⟨σ,h,k,s⟩
theorem Qtf {c:Code} (I:Nat→Sl→Qa→Prop) (n:Nat) (h0:I n σ h)
  (round:∀m σ' h',I m σ' h'→aw E (.code c::.stop (fun σ'' h''=>∃m',m'<m∧I m' σ'' h'')::K) σ' h'):aw E (.code (.loop c)::K) σ h:=fun a w s=>by
 refine wp_loop_ghost (fun m a w=>∃σ' h',I m σ' h'∧St E.N E.C σ' h' a w) n ⟨σ,h,h0,s⟩ ?_
 rintro m a' w' ⟨σ',h',hI,s'⟩
 refine wp_mono (round m σ' h' hI a' w' s') ?_
 intro e a2 w2 hq
 cases e with
 |normal=>
  obtain⟨σ2,h2,⟨m',hm,hI'⟩,s2⟩:=hq
  exact⟨m',hm,σ2,h2,hI',s2⟩
 |exit id=>exact hq
 |goto l=>exact hq
 |ret=>exact hq
 |panic c=>exact hq
 |outgrown=>exact hq
def Sl.sub:Sl→Sl→Prop
 |[],_=>True
 |(t,x)::σ0,σ=>σ.get t=x∧Sl.sub σ0 σ
theorem Sl.sub_le:∀{σ0 σ:Sl},Sl.sub σ0 σ→σ0.le σ
 |[],_,_=>fun _=>.inl rfl
 |(t,x)::σ0,σ,hs=>fun t'=>by
  simp only [Sl.get]
  by_cases e:t=t'
  ·subst e;rw [iP rfl];exact .inr hs.1.symm
  ·rw [iN e];exact Sl.sub_le hs.2 t'
theorem Qh {α:Type} {c:Code} (S:α→Sl) (H:α→Qa) (F:α→Prop) (m:α→Nat) (x0:α) (hs:Sl.sub (S x0) σ) (hh:(H x0).Sublist h) (hf:F x0)
  (round:∀x,F x→aw E (.code c::.stop (fun σ' h'=>∃x',m x'<m x∧Sl.sub (S x') σ'∧(H x').Sublist h'∧F x')::K) (S x) (H x)):aw E (.code (.loop c)::K) σ h:=by
 refine Qtf (fun n σ' h'=>∃x,m x=n∧Sl.sub (S x) σ'∧(H x).Sublist h'∧F x) (m x0) ⟨x0,rfl,hs,hh,hf⟩ ?_
 rintro n σ' h' ⟨x,rfl,h1,h2,h3⟩
 refine QM (Sl.sub_le h1) h2 ?_
 intro a w s
 have:=round x h3 a w s
 refine wp_mono this ?_
 intro e a' w' hq
 cases e with
 |normal=>
  obtain⟨σ2,hp2,⟨x',hlt,r1,r2,r3⟩,s2⟩:=hq
  exact⟨σ2,hp2,⟨m x',hlt,x',rfl,r1,r2,r3⟩,s2⟩
 |exit id=>exact hq
 |goto l=>exact hq
 |ret=>exact hq
 |panic c=>exact hq
 |outgrown=>exact hq
theorem Zd {id:Nat} {l:List Oper} (k:aw E (.ops l l::K) σ h):aw E (.code (.region id l.toArray false)::K) σ h:=
 fun a w s=>wp_region_lit (k a w s)
theorem XA {l:List Oper} (k:aw E K σ h):aw E (.ops l []::K) σ h:=fun a w s=>wpList_nil (k a w s)
end
end
section
def U7:Value→CV
 |.int k n=>.int k n
 |.bool b=>.bool b
 |.string s=>.str s
 |.nilIface=>.nilI
 |.slice none 0 0=>.nils
 |v=>.raw v
def cst:Value→AV
 |.agg cs=>.agg (cs.toList.map U7)
 |v=>.c (U7 v)
theorem U8 (S:Bool→Nat→Prop) (w:World) (v:Value):XX S w (U7 v) v:=by
 unfold U7
 split<;>simp [XX]
theorem OK (S:Bool→Nat→Prop) (w:World):∀l:List Value,X4 S w (l.map U7) l
 |[]=>trivial
 |v::l=>⟨U8 S w v,OK S w l⟩
theorem Qtg (S:Bool→Nat→Prop) (w:World) (v:Value):VK S w (cst v) v:=by
 unfold cst
 split
 ·rename_i cs;exact⟨cs.toList,by simp,OK S w _⟩
 ·exact U8 S w v
def ev (σ:Sl):Operand→AV
 |.tmp t=>σ.get t
 |.const v=>cst v
 |.global g=>.c (.raw (.pointer (some ⟨g,0,none⟩)))
 |.func f=>.c (.raw (.func (.func f) #[] #[]))
def QR (P:Program) (t:TypeId):Option (TypeId×Nat×Nat):=
 match P.underlying t with
 |some (.slice e)=>(P.info? e).map fun i=>(e,i.size,i.bytes)
 |_=>none
def XN (P:Program) (t:TypeId):Option (Bool×Nat):=
 match P.underlying t,P.info? t with
 |some (.struct _),some i=>some (true,i.size)
 |some (.array _ _),some i=>some (true,i.size)
 |some _,some i=>some (false,i.size)
 |_,_=>none
def Qq (P:Program) (t i:Nat):Option Nat:=
 match P.underlying t with
 |some (.struct fs)=>match fs[i]? with
  |some f=>match P.info? f.type with
   |some j=>if j.size=0 then none else some f.offset
   |none=>none
  |none=>none
 |_=>none
def Z4 (P:Program) (t:TypeId):Option IntKind:=
 match P.underlying t with
 |some (.int k)=>some k
 |_=>none
def Qdf (P:Program) (t:TypeId):Bool:=
 match P.underlying t with
 |some .bool=>true
 |_=>false
def QaT (P:Program) (t:TypeId):Bool:=
 match P.underlying t with
 |some (.interface _)=>true
 |_=>false
def Qj (P:Program) (t:TypeId):Option (List CV):=((P.info? t).bind (·.zero)).map fun z=>z.cells.toList.map U7
theorem Xg {P:Program} {t e size bytes:Nat} (h:QR P t=some (e,size,bytes)):P.underlying t=some (.slice e)∧∃i,P.info? e=some i∧i.size=size∧i.bytes=bytes:=by
 unfold QR at h
 split at h
 ·rename_i e' he
  cases hi:P.info? e' with
  |none=>simp [hi] at h
  |some i=>simp [hi] at h;obtain⟨rfl,rfl,rfl⟩:=h;exact⟨he,i,hi,rfl,rfl⟩
 ·cases h
theorem Kx {P:Program} {t:Nat} {k:IntKind} (h:Z4 P t=some k):P.underlying t=some (.int k):=by
 unfold Z4 at h
 split at h
 ·rename_i k' hk;injection h with h;subst h;exact hk
 ·cases h
theorem Qd9 {P:Program} {t:Nat} (h:Qdf P t=true):P.underlying t=some .bool:=by
 unfold Qdf at h
 split at h
 ·assumption
 ·cases h
theorem Qoc {P:Program} {t:Nat} (h:QaT P t=true):∃ms,P.underlying t=some (.interface ms):=by
 unfold QaT at h
 split at h
 ·rename_i ms e;exact⟨ms,e⟩
 ·cases h
theorem Qma {P:Program} {t n:Nat} {ag:Bool} (h:XN P t=some (ag,n)) (w:World):(isAgg t).run P w=.ok ag w∧(sizeOf t).run P w=.ok n w:=by
 unfold XN at h
 split at h<;>first|(cases h;done)|skip
 all_goals
  rename_i h1 h2
  simp only [Aa,Ab] at h
  obtain⟨rfl,rfl⟩:=h
  constructor
  ·simp [isAgg,run_underlying h1]
  ·simp [sizeOf,typeInfo,h2]
def QA (P:Program) (h:Qa) (ρ:Operand→AV) (op:Op) (r:AV):Prop:=
 ∀(S:Bool→Nat→Prop) (w:World) (e:Operand→Value),(∀b,S true b→S false b)→(∀x∈op.operands,VK S w (ρ x) (e x))→(∀g o,(g,o)∈h→Y0 S w g o)→
  ∃v,(∀o:Oper,o.op=op→(execOp e o).run P w=.ok (.value v) w)∧VK S w r v
variable {P : Program} {h : Qa} {ρ : Operand → AV}
theorem QA.move (x:Operand):QA P h ρ (.move x) (ρ x):=fun S w e _ hx _=>
 ⟨e x,fun o ho=>by simp [execOp,ho],hx x Ag⟩
theorem QA.assign (x:Operand):QA P h ρ (.assign x) (ρ x):=fun S w e _ hx _=>
 ⟨e x,fun o ho=>by simp [execOp,ho],hx x Ag⟩
def QaU (t:Bool):AV→AV→AV
 |.c (.bool p),.c (.bool q)=>.c (.bool (bif t then p else q))
 |x,y=>match t with|true=>x|false=>y
theorem Qck (t:Bool) (x y:AV):QaU t x y=bif t then x else y:=by
 unfold QaU
 split<;>cases t<;>rfl
theorem QA.pick {c a b:Operand} {t:Bool} (hc:ρ c=.c (.bool t)):QA P h ρ (.pick c a b) (QaU t (ρ a) (ρ b)):=fun S w e _ hx _=>by
 have h1:e c=.bool t:=by have:=hx c Ag;rw [hc] at this;exact this
 have h2:=hx a Ag
 have h3:=hx b Ag
 refine⟨if t then e a else e b,fun o ho=>by simp [execOp,ho,h1,asBool],?_⟩
 rw [Qck]
 cases t
 ·exact h3
 ·exact h2
theorem Qmb:∃f:IntKind→Int→Int→Int,∀k a b,f k a b=k.wrap (BitVec.ofInt k.bits a&&&BitVec.ofInt k.bits b).toNat:=⟨fun k a b=>k.wrap (BitVec.ofInt k.bits a&&&BitVec.ofInt k.bits b).toNat,fun _ _ _=>rfl⟩
noncomputable def Qqf:IntKind→Int→Int→Int:=Classical.choose Qmb
theorem Qhc (k:IntKind) (a b:Int):Qqf k a b=k.wrap (BitVec.ofInt k.bits a&&&BitVec.ofInt k.bits b).toNat:=Classical.choose_spec Qmb k a b
theorem Qqg:∃f:IntKind→Int→Int→Int,∀k a b,f k a b=k.wrap (BitVec.ofInt k.bits a|||BitVec.ofInt k.bits b).toNat:=⟨fun k a b=>k.wrap (BitVec.ofInt k.bits a|||BitVec.ofInt k.bits b).toNat,fun _ _ _=>rfl⟩
noncomputable def orZ:IntKind→Int→Int→Int:=Classical.choose Qqg
theorem QkL (k:IntKind) (a b:Int):orZ k a b=k.wrap (BitVec.ofInt k.bits a|||BitVec.ofInt k.bits b).toNat:=Classical.choose_spec Qqg k a b
theorem Qmc:∃f:IntKind→Int→Int→Int,∀k a b,f k a b=k.wrap (BitVec.ofInt k.bits a^^^BitVec.ofInt k.bits b).toNat:=⟨fun k a b=>k.wrap (BitVec.ofInt k.bits a^^^BitVec.ofInt k.bits b).toNat,fun _ _ _=>rfl⟩
noncomputable def Qwa:IntKind→Int→Int→Int:=Classical.choose Qmc
theorem Qmd (k:IntKind) (a b:Int):Qwa k a b=k.wrap (BitVec.ofInt k.bits a^^^BitVec.ofInt k.bits b).toNat:=Classical.choose_spec Qmc k a b
theorem Qea:∃f:IntKind→Int→Int→Int,∀k a b,f k a b=k.wrap (BitVec.ofInt k.bits a&&& ~~~BitVec.ofInt k.bits b).toNat:=⟨fun k a b=>k.wrap (BitVec.ofInt k.bits a&&& ~~~BitVec.ofInt k.bits b).toNat,fun _ _ _=>rfl⟩
noncomputable def Qme:IntKind→Int→Int→Int:=Classical.choose Qea
theorem QkM (k:IntKind) (a b:Int):Qme k a b=k.wrap (BitVec.ofInt k.bits a&&& ~~~BitVec.ofInt k.bits b).toNat:=Classical.choose_spec Qea k a b
theorem Qmf:∃f:IntKind→Int→Int→Int,∀k a b,f k a b=k.wrap (a.tdiv b):=⟨fun k a b=>k.wrap (a.tdiv b),fun _ _ _=>rfl⟩
noncomputable def QkN:IntKind→Int→Int→Int:=Classical.choose Qmf
theorem QdJ (k:IntKind) (a b:Int):QkN k a b=k.wrap (a.tdiv b):=Classical.choose_spec Qmf k a b
theorem Qmg:∃f:Int→Int→Int,∀a b,f a b=a.tmod b:=⟨fun a b=>a.tmod b,fun _ _=>rfl⟩
noncomputable def Qth:Int→Int→Int:=Classical.choose Qmg
theorem Qmh (a b:Int):Qth a b=a.tmod b:=Classical.choose_spec Qmg a b
theorem Qmi:∃f:IntKind→Int→Int→Int,∀k a b,f k a b=k.wrap (a*2^(min b.toNat k.bits)):=⟨fun k a b=>k.wrap (a*2^(min b.toNat k.bits)),fun _ _ _=>rfl⟩
noncomputable def Qod:IntKind→Int→Int→Int:=Classical.choose Qmi
theorem QdK (k:IntKind) (a b:Int):Qod k a b=k.wrap (a*2^(min b.toNat k.bits)):=Classical.choose_spec Qmi k a b
theorem Qmj:∃f:IntKind→Int→Int→Int,∀k a b,f k a b=a.fdiv (2^(min b.toNat k.bits)):=⟨fun k a b=>a.fdiv (2^(min b.toNat k.bits)),fun _ _ _=>rfl⟩
noncomputable def Qcl:IntKind→Int→Int→Int:=Classical.choose Qmj
theorem UB (k:IntKind) (a b:Int):Qcl k a b=a.fdiv (2^(min b.toNat k.bits)):=Classical.choose_spec Qmj k a b
theorem Qih:∃f:IntKind→Int→Int,∀k a,f k a=k.wrap a:=⟨fun k a=>k.wrap a,fun _ _=>rfl⟩
noncomputable def XE:IntKind→Int→Int:=Classical.choose Qih
theorem QN (k:IntKind) (a:Int):XE k a=k.wrap a:=Classical.choose_spec Qih k a
noncomputable def binInt (op:BinOp) (k:IntKind) (a b:Int):Option (Prop×CV):=
 match op with
 |.add=>some (True,.int k (XE k (a+b)))
 |.sub=>some (True,.int k (XE k (a-b)))
 |.mul=>some (True,.int k (XE k (a*b)))
 |.eql=>some (True,.bool (a==b))
 |.neq=>some (True,.bool (a !=b))
 |.lss=>some (True,.bool (decide (a<b)))
 |.leq=>some (True,.bool (decide (a≤b)))
 |.gtr=>some (True,.bool (decide (a>b)))
 |.geq=>some (True,.bool (decide (a≥b)))
 |.and=>some (True,.int k (Qqf k a b))
 |.or=>some (True,.int k (orZ k a b))
 |.xor=>some (True,.int k (Qwa k a b))
 |.andNot=>some (True,.int k (Qme k a b))
 |.quo=>some (b≠0,.int k (QkN k a b))
 |.rem=>some (b≠0,.int k (Qth a b))
 |_=>none
noncomputable def binSh (op:BinOp) (k:IntKind) (a b:Int):Option (Prop×CV):=
 match op with
 |.shl=>some (0≤b,.int k (Qod k a b))
 |.shr=>some (0≤b,.int k (Qcl k a b))
 |_=>none
theorem Ok (op:BinOp) (t:TypeId) (x y:Operand) (k k':IntKind) (a b:Int) (w:World):(eqGuard op t x y (.int k a) (.int k' b)).run P w=.ok () w:=by
 unfold eqGuard
 cases op<;>simp
theorem U9 (op:BinOp) (t:TypeId) (x y:Operand) (a b:Bool) (w:World):(eqGuard op t x y (.bool a) (.bool b)).run P w=.ok () w:=by
 unfold eqGuard
 cases op<;>simp
theorem QA.binInt {op:BinOp} {t t':TypeId} {x y:Operand} {k:IntKind} {a b:Int} {req:Prop} {r:CV} (hx:ρ x=.c (.int k a)) (hy:ρ y=.c (.int k b))
  (hr:AI.binInt op k a b=some (req,r)) (hreq:req):QA P h ρ (.binOp op t x y t') (.c r):=fun S w e _ ho _=>by
 have h1:e x=.int k a:=by have:=ho x Ag;rw [hx] at this;exact this
 have h2:e y=.int k b:=by have:=ho y Ag;rw [hy] at this;exact this
 have h3:∃v,(binOp op t (.int k a) (.int k b)).run P w=.ok v w∧XX S w r v:=by
  cases op<;>simp only [AI.binInt,Aa,Ab,reduceCtorEq] at hr
  all_goals
   obtain⟨rfl,rfl⟩:=hr
   simp [binOp,Op.intArith,Op.intCmp,Op.intBits,Op.intDiv,XX,Qhc,QkL,Qmd,QkM,QdJ,Qmh,QN] at hreq⊢
  all_goals (intro hb;exact absurd hb hreq)
 obtain⟨v,hv,hrep⟩:=h3
 exact⟨v,fun o hop=>by simp [execOp,hop,h1,h2,Ok,hv],hrep⟩
theorem QA.binSh {op:BinOp} {t t':TypeId} {x y:Operand} {k k':IntKind} {a b:Int} {req:Prop} {r:CV} (hx:ρ x=.c (.int k a)) (hy:ρ y=.c (.int k' b))
  (hr:AI.binSh op k a b=some (req,r)) (hreq:req):QA P h ρ (.binOp op t x y t') (.c r):=fun S w e _ ho _=>by
 have h1:e x=.int k a:=by have:=ho x Ag;rw [hx] at this;exact this
 have h2:e y=.int k' b:=by have:=ho y Ag;rw [hy] at this;exact this
 have h3:∃v,(binOp op t (.int k a) (.int k' b)).run P w=.ok v w∧XX S w r v:=by
  cases op<;>simp only [AI.binSh,Aa,Ab,reduceCtorEq] at hr
  all_goals
   obtain⟨rfl,rfl⟩:=hr
   have hn:¬b<0:=by omega
   simp [binOp,Op.shift,XX,hn,QdK,UB]
 obtain⟨v,hv,hrep⟩:=h3
 exact⟨v,fun o hop=>by simp [execOp,hop,h1,h2,Ok,hv],hrep⟩
theorem Ze {o:Oper} {op:BinOp} {t t':TypeId} {x y:Operand} {e:Operand→Value} {w:World} {v:Value} (ho:o.op=.binOp op t x y t')
  (hg:(eqGuard op t x y (e x) (e y)).run P w=.ok () w) (hb:(Go.binOp op t (e x) (e y)).run P w=.ok v w):(execOp e o).run P w=.ok (.value v) w:=by
 simp [execOp,ho,hg,hb]
theorem Wa (d:Nat) {t:TypeId} (ht:P.underlying t=some .bool) (a b:Bool) (w:World):(Op.equalIn (d+1) t (.bool a) (.bool b)).run P w=.ok (a==b) w:=by
 simp [Op.equalIn,run_underlying ht]
theorem Qhd {t:TypeId} (ht:P.underlying t=some .bool) (a b:Bool) (w:World):(Go.binOp .eql t (.bool a) (.bool b)).run P w=.ok (.bool (a==b)) w:=by
 simp only [Go.binOp]
 simp [Op.equal,Op.maxDepth,Wa 9999 ht]
theorem Qhe {t:TypeId} (ht:P.underlying t=some .bool) (a b:Bool) (w:World):(Go.binOp .neq t (.bool a) (.bool b)).run P w=.ok (.bool (a !=b)) w:=by
 simp only [Go.binOp]
 simp [Op.equal,Op.maxDepth,Wa 9999 ht,bne]
theorem QA.eqBool {t t':TypeId} {x y:Operand} {a b:Bool} (ht:Qdf P t=true) (hx:ρ x=.c (.bool a)) (hy:ρ y=.c (.bool b)):QA P h ρ (.binOp .eql t x y t') (.c (.bool (a==b))):=fun S w e _ ho _=>by
 have h1:e x=.bool a:=by have:=ho x Ag;rw [hx] at this;exact this
 have h2:e y=.bool b:=by have:=ho y Ag;rw [hy] at this;exact this
 exact⟨.bool (a==b),fun o hop=>Ze hop (by rw [h1,h2];exact U9 ..) (by rw [h1,h2];exact Qhd (Qd9 ht) a b w),rfl⟩
theorem QA.neqBool {t t':TypeId} {x y:Operand} {a b:Bool} (ht:Qdf P t=true) (hx:ρ x=.c (.bool a)) (hy:ρ y=.c (.bool b)):QA P h ρ (.binOp .neq t x y t') (.c (.bool (a !=b))):=fun S w e _ ho _=>by
 have h1:e x=.bool a:=by have:=ho x Ag;rw [hx] at this;exact this
 have h2:e y=.bool b:=by have:=ho y Ag;rw [hy] at this;exact this
 exact⟨.bool (a !=b),fun o hop=>Ze hop (by rw [h1,h2];exact U9 ..) (by rw [h1,h2];exact Qhe (Qd9 ht) a b w),rfl⟩
def nilAV:CV→Option Bool
 |.nilI=>some true
 |.ifc _ _=>some false
 |_=>none
theorem Ol (d:Nat) {t:TypeId} {ms:Array (String×TypeId)} (ht:P.underlying t=some (.interface ms)) (w:World):(Op.equalIn (d+1) t .nilIface .nilIface).run P w=.ok true w:=by
 simp [Op.equalIn,run_underlying ht]
theorem Om (d:Nat) {t:TypeId} {ms:Array (String×TypeId)} (ht:P.underlying t=some (.interface ms)) (u:TypeId) (x:Value) (w:World):(Op.equalIn (d+1) t (.iface u x) .nilIface).run P w=.ok false w:=by
 simp [Op.equalIn,run_underlying ht]
theorem Qgb {t:TypeId} (ht:QaT P t=true) {S:Bool→Nat→Prop} {w:World} {c:CV} {b:Bool} {v:Value} (hn:nilAV c=some b) (hr:XX S w c v):
  (Go.binOp .eql t v .nilIface).run P w=.ok (.bool b) w∧(Go.binOp .neq t v .nilIface).run P w=.ok (.bool !b) w∧
  ∀(op:BinOp) (x:Operand),(eqGuard op t x (.const .nilIface) v .nilIface).run P w=.ok () w:=by
 obtain⟨ms,hm⟩:=Qoc ht
 cases c<;>simp only [nilAV,Aa,reduceCtorEq] at hn
 ·subst hn
  subst hr
  refine⟨?_,?_,fun op x=> ?_⟩
  ·simp only [Go.binOp];simp [Op.equal,Op.maxDepth,Ol 9999 hm]
  ·simp only [Go.binOp];simp [Op.equal,Op.maxDepth,Ol 9999 hm]
  ·unfold eqGuard;cases op<;>simp
 ·subst hn
  obtain⟨u,rfl,_⟩:=hr
  refine⟨?_,?_,fun op x=> ?_⟩
  ·simp only [Go.binOp];simp [Op.equal,Op.maxDepth,Om 9999 hm]
  ·simp only [Go.binOp];simp [Op.equal,Op.maxDepth,Om 9999 hm]
  ·unfold eqGuard;cases op<;>simp
theorem QA.eqNil {t t':TypeId} {x:Operand} {c:CV} {b:Bool} (ht:QaT P t=true) (hx:ρ x=.c c) (hn:nilAV c=some b) (hk:ρ (.const .nilIface)=.c .nilI):QA P h ρ (.binOp .eql t x (.const .nilIface) t') (.c (.bool b)):=fun S w e _ ho _=>by
 have h1:=ho x Ag
 have h2:=ho (.const .nilIface) Ag
 rw [hx] at h1
 rw [hk] at h2
 obtain⟨e1,_,e3⟩:=Qgb ht hn h1
 have h3:e (.const .nilIface)=.nilIface:=h2
 exact⟨.bool b,fun o hop=>Ze hop (by rw [h3];exact e3 _ _) (by rw [h3];exact e1),rfl⟩
theorem QA.neqNil {t t':TypeId} {x:Operand} {c:CV} {b:Bool} (ht:QaT P t=true) (hx:ρ x=.c c) (hn:nilAV c=some b) (hk:ρ (.const .nilIface)=.c .nilI):QA P h ρ (.binOp .neq t x (.const .nilIface) t') (.c (.bool !b)):=fun S w e _ ho _=>by
 have h1:=ho x Ag
 have h2:=ho (.const .nilIface) Ag
 rw [hx] at h1
 rw [hk] at h2
 obtain⟨_,e2,e3⟩:=Qgb ht hn h1
 have h3:e (.const .nilIface)=.nilIface:=h2
 exact⟨.bool !b,fun o hop=>Ze hop (by rw [h3];exact e3 _ _) (by rw [h3];exact e2),rfl⟩
theorem QA.not {t:TypeId} {x:Operand} {b:Bool} (hx:ρ x=.c (.bool b)):QA P h ρ (.unOp .not t x) (.c (.bool !b)):=fun S w e _ ho _=>by
 have h1:e x=.bool b:=by have:=ho x Ag;rw [hx] at this;exact this
 exact⟨.bool !b,fun o hop=>by simp [execOp,hop,h1,Op.unary],rfl⟩
theorem QA.neg {t:TypeId} {x:Operand} {k:IntKind} {n:Int} (hx:ρ x=.c (.int k n)):QA P h ρ (.unOp .neg t x) (.c (.int k (XE k (0-n)))):=fun S w e _ ho _=>by
 have h1:e x=.int k n:=by have:=ho x Ag;rw [hx] at this;exact this
 exact⟨.int k (XE k (0-n)),fun o hop=>by simp [execOp,hop,h1,Op.unary,Op.intArith,QN],rfl⟩
theorem QA.convert {s d:TypeId} {x:Operand} {k k' k0:IntKind} {n:Int} (hs:Z4 P s=some k0) (hd:Z4 P d=some k') (hx:ρ x=.c (.int k n)):QA P h ρ (.convert s d x) (.c (.int k' (XE k' n))):=fun S w e _ ho _=>by
 have h1:e x=.int k n:=by have:=ho x Ag;rw [hx] at this;exact this
 refine⟨.int k' (XE k' n),fun o hop=> ?_,rfl⟩
 simp [execOp,hop,h1,QN,Go.convert,run_underlying (Kx hs),run_underlying (Kx hd),Conv.intToInt]
theorem QA.extract {x:Operand} {xs:List AV} {i:Nat} {y:AV} (hx:ρ x=.tup xs) (hi:xs[i]?=some y):QA P h ρ (.extract x i) y:=fun S w e _ ho _=>by
 have h1:=ho x Ag
 rw [hx] at h1
 obtain⟨us,hu,hr⟩:=h1
 have key:∀(xs:List AV) (us:List Value) (i:Nat),Vc S w xs us→xs[i]?=some y→∃v,us[i]?=some v∧OH S w y v:=by
  intro xs
  induction xs with
  |nil=>intro us i _ hi;simp at hi
  |cons x xs ih=>
   intro us i hr hi
   cases us with
   |nil=>exact hr.elim
   |cons u us=>
    cases i with
    |zero=>simp at hi;subst hi;exact⟨u,rfl,hr.1⟩
    |succ i=>simp at hi⊢;exact ih us i hr.2 hi
 obtain⟨v,hv,hrep⟩:=key xs us i hr hi
 refine⟨v,fun o hop=> ?_,?_⟩
 ·simp [execOp,hop,hu,Instr.extract,hv]
 ·cases y with
  |c y=>exact hrep
  |agg cs=>exact hrep
  |tup xs=>exact hrep.elim
theorem QA.makeInterface {t:TypeId} {k:IntKind} {x:Operand} {c:CV} (ht:Z4 P t=some k) (hx:ρ x=.c c):QA P h ρ (.makeInterface t x) (.c (.ifc t c)):=fun S w e _ ho _=>by
 have h1:=ho x Ag
 rw [hx] at h1
 exact⟨.iface t (e x),fun o hop=>by simp [execOp,hop,Instr.makeInterface,run_underlying (Kx ht)],e x,rfl,h1⟩
end
section
variable {P : Program} {h : Qa} {ρ : Operand → AV}
def YN (f:Nat→CV) (off k:Nat):Nat→List CV
 |0=>[]
 |n+1=>f (off+k)::YN f off (k+1) n
theorem Qii (f:Nat→CV) (off n:Nat):∀k,(YN f off k n).length=n:=by
 induction n with
 |zero=>intro k;rfl
 |succ n ih=>intro k;simp [YN,ih]
theorem UC {S:Bool→Nat→Prop} {w:World} {ad:Addr} {f:Nat→CV} {off:Nat}:∀(n i:Nat) (acc:Array Value),(∀j,i≤j→j<i+n→∃u,w.cell? (ad.add j)=some u∧XX S w (f (off+j)) u)→
  ∃us,(loadCellsFrom ad i n acc).run P w=.ok (acc++us.toArray) w∧X4 S w (YN f off i n) us:=by
 intro n
 induction n with
 |zero=>intro i acc _;exact⟨[],by simp [loadCellsFrom],trivial⟩
 |succ n ih=>
  intro i acc hc
  obtain⟨u,hu,hr⟩:=hc i (Ac _) om
  obtain⟨us,hus,hrs⟩:=ih (i+1) (acc.push u) (fun j h1 h2=>hc j om om)
  refine⟨u::us,?_,hr,hrs⟩
  simp only [loadCellsFrom,Sem.run_bind,run_load,hu,Result.andThen_ok,hus]
  simp
theorem OL {S:Bool→Nat→Prop} {w:World} {ad:Addr} {f:Nat→CV} {off t n:Nat} {ag:Bool} (ht:XN P t=some (ag,n)) (h1:ag=false→n=1)
  (hc:∀j,j<n→∃u,w.cell? (ad.add j)=some u∧XX S w (f (off+j)) u):
  ∃v,(loadVar t ad).run P w=.ok v w∧VK S w (if ag then .agg (YN f off 0 n) else .c (f off)) v:=by
 obtain⟨ha,hs⟩:=Qma ht w
 cases ag with
 |false=>
  have hn:=h1 rfl
  subst hn
  obtain⟨u,hu,hr⟩:=hc 0 om
  have e0:ad.add 0=ad:=rfl
  rw [e0] at hu
  refine⟨u,?_,hr⟩
  simp [loadVar,ha,run_load,hu]
 |true=>
  obtain⟨us,hus,hrs⟩:=UC (P:=P) (off:=off) n 0 #[] (fun j _ hj=>hc j om)
  refine⟨.agg us.toArray,?_,us,rfl,hrs⟩
  simp [loadVar,ha,hs,loadCells,hus]
theorem QA.loadR {t:TypeId} {a:Operand} {n m:Nat} {ag:Bool} {f:Nat→CV} (ht:XN P t=some (ag,n)) (h1:ag=false→n=1) (ha:ρ a=.c (.rptr m f)) (hm:n≤m):
  QA P h ρ (.load t a) (if ag then .agg (YN f 0 0 n) else .c (f 0)):=fun S w e _ ho _=>by
 have h2:=ho a Ag
 rw [ha] at h2
 obtain⟨ad,hv,_,hj⟩:=h2
 obtain⟨v,hrun,hr⟩:=OL (P:=P) (off:=0) ht h1 (fun j hjn=>by simpa using hj j om)
 exact⟨v,fun o hop=>by simp [execOp,hop,hv,Instr.loadAt,Instr.sureAddr,hrun],hr⟩
theorem Zf {w:World} {g off:Nat} {cs:Array Value} {ty:TypeId} {fz:Nat×Nat} (hb:w.heap[g]?=some (.cells cs ty fz)):w.cell? ⟨g,off,none⟩=cs[off]?:=by
 simp [World.cell?,hb]
theorem QA.loadO {t:TypeId} {a:Operand} {n m g off:Nat} {ag:Bool} {ty:TypeId} {f:Nat→CV} (ht:XN P t=some (ag,n)) (h1:ag=false→n=1) (ha:ρ a=.c (.optr g off))
  (hg:h.get g=some (.cells ty m f)) (hm:off+n≤m):QA P h ρ (.load t a) (if ag then .agg (YN f off 0 n) else .c (f off)):=fun S w e _ ho hh=>by
 have h2:=ho a Ag
 rw [ha] at h2
 have hv:e a=.pointer (some ⟨g,off,none⟩):=h2
 obtain⟨cs,hb,hn,hj⟩:=hh g _ (Qa.get_mem hg)
 obtain⟨v,hrun,hr⟩:=OL (P:=P) (ad:=⟨g,off,none⟩) (off:=off) ht h1 (fun j hjn=>by
  obtain⟨u,hu,hr⟩:=hj (off+j) om
  exact⟨u,by rw [ZP,Zf hb];exact hu,hr⟩)
 exact⟨v,fun o hop=>by simp [execOp,hop,hv,Instr.loadAt,Instr.sureAddr,hrun],hr⟩
theorem Qgc {t i off:Nat} (ht:Qq P t i=some off) (ad:Addr) (w:World):(Instr.fieldAt t (.pointer (some ad)) i).run P w=.ok (.pointer (some (ad.add off))) w:=by
 unfold Qq at ht
 split at ht
 ·rename_i fs hu
  split at ht
  ·rename_i f hf
   split at ht
   ·rename_i j hj
    split at ht
    ·cases ht
    ·rename_i hz
     injection ht with ht
     subst ht
     simp [Instr.fieldAt,run_underlying hu,hf,Instr.sureAddr,fieldPlace,sizeOf,typeInfo,hj,hz]
   ·cases ht
  ·cases ht
 ·cases ht
theorem QA.fieldO {t i off g o:Nat} {x:Operand} (ht:Qq P t i=some off) (hx:ρ x=.c (.optr g o)):QA P h ρ (.fieldAddr t x i) (.c (.optr g (o+off))):=fun S w e _ ho _=>by
 have h2:=ho x Ag
 rw [hx] at h2
 have hv:e x=.pointer (some ⟨g,o,none⟩):=h2
 exact⟨_,fun o hop=>by simp only [execOp,hop,hv,Sem.run_bind,Qgc ht,Result.andThen_ok,ZP];rfl,rfl⟩
theorem QA.fieldR {t i off n:Nat} {x:Operand} {f:Nat→CV} (ht:Qq P t i=some off) (hx:ρ x=.c (.rptr n f)) (hn:off≤n):QA P h ρ (.fieldAddr t x i) (.c (.rptr (n-off) fun j=>f (off+j))):=fun S w e _ ho _=>by
 have h2:=ho x Ag
 rw [hx] at h2
 obtain⟨ad,hv,hS,hj⟩:=h2
 refine⟨_,fun o hop=>by simp only [execOp,hop,hv,Sem.run_bind,Qgc ht,Result.andThen_ok];rfl,ad.add off,rfl,by rw [block_add];exact hS,fun j hjn=> ?_⟩
 rw [QdH]
 exact hj (off+j) om
theorem Qdg {t el size bytes:Nat} (ht:QR P t=some (el,size,bytes)) (ad:Addr) (len cap:Nat) (k:IntKind) (i:Int) (h0:0≤i) (hl:i<len) (w:World):
  (Instr.indexAt t (.slice (some ad) len cap) (.int k i)).run P w=.ok (.pointer (some (ad.add (i.toNat*size)))) w:=by
 obtain⟨hu,inf,hi,hsz,_⟩:=Xg ht
 simp [Instr.indexAt,asIntOf,run_underlying hu,h0,hl,sizeOf,typeInfo,hi,hsz]
theorem QA.indexO {t el size bytes g off n:Nat} {x ix:Operand} {k:IntKind} {i:Int} (ht:QR P t=some (el,size,bytes)) (hx:ρ x=.c (.osl g size off n)) (hix:ρ ix=.c (.int k i)) (h0:0≤i) (hl:i<n):
  QA P h ρ (.indexAddr t x ix) (.c (.optr g (off+i.toNat*size))):=fun S w e _ ho _=>by
 have h2:=ho x Ag
 have h3:=ho ix Ag
 rw [hx] at h2
 rw [hix] at h3
 obtain⟨c,hv,_,_,_⟩:=h2
 have hi:e ix=.int k i:=h3
 exact⟨_,fun o hop=>by simp only [execOp,hop,hv,hi,Sem.run_bind,Qdg ht _ n c k i h0 hl,Result.andThen_ok,ZP];rfl,rfl⟩
theorem QA.indexR {t el size bytes n:Nat} {tg:Bool} {f:Nat→CV} {x ix:Operand} {k:IntKind} {i:Int} (ht:QR P t=some (el,size,bytes)) (hx:ρ x=.c (.row tg size n f)) (hix:ρ ix=.c (.int k i)) (h0:0≤i) (hl:i<n) (hz:0<size):
  QA P h ρ (.indexAddr t x ix) (.c (.rptr size fun j=>f (i.toNat*size+j))):=fun S w e hS ho _=>by
 have h2:=ho x Ag
 have h3:=ho ix Ag
 rw [hx] at h2
 rw [hix] at h3
 obtain⟨A,c,hv,_,hn⟩:=h2
 have hi:e ix=.int k i:=h3
 have hlt:i.toNat<n:=by omega
 have hmul:(i.toNat+1)*size≤n*size:=Nm _ hlt
 have hmul':(i.toNat+1)*size=i.toNat*size+size:=Nat.succ_mul _ _
 obtain⟨ad,hA,hb,hj⟩:=hn om
 subst hA
 refine⟨_,fun o hop=>by simp only [execOp,hop,hv,hi,Sem.run_bind,Qdg ht _ n c k i h0 hl,Result.andThen_ok];rfl,ad.add (i.toNat*size),rfl,?_,fun j hjn=> ?_⟩
 ·rw [block_add];cases tg
  ·exact hb
  ·exact hS _ hb
 ·rw [QdH];exact hj _ om
def Qbl:CV→Option Nat
 |.row _ _ n _=>some n
 |.osl _ _ _ n=>some n
 |.nils=>some 0
 |_=>none
theorem QA.lenS {t el size bytes n:Nat} {x:Operand} {c:CV} (ht:QR P t=some (el,size,bytes)) (hx:ρ x=.c c) (hn:Qbl c=some n):
  QA P h ρ (.call {callee:=.builtin .len,args:= #[x],argTypes:= #[t]}) (.c (.int .i64 n)):=fun S w e _ ho _=>by
 have h2:=ho x (by simp [Op.operands,Call.operands])
 rw [hx] at h2
 obtain⟨hu,_⟩:=Xg ht
 have hv:∃A c',e x=.slice A n c':=by
  cases c<;>simp only [Qbl,Aa,reduceCtorEq] at hn<;>subst hn
  ·obtain⟨A,hv⟩:=h2;exact⟨A,0,hv⟩
  ·obtain⟨A,c,hv,_⟩:=h2;exact⟨A,c,hv⟩
  ·obtain⟨c,hv,_⟩:=h2;exact⟨_,c,hv⟩
 obtain⟨A,c',hv⟩:=hv
 exact⟨.int .i64 n,fun o hop=>by simp [execOp,hop,resolve,invoke,Go.builtin,Builtin.len_,hv,run_underlying hu,goInt],rfl⟩
theorem QA.max2 {t1 t2:TypeId} {x y:Operand} {k:IntKind} {a b:Int} (hx:ρ x=.c (.int k a)) (hy:ρ y=.c (.int k b)):
  QA P h ρ (.call {callee:=.builtin .max,args:= #[x,y],argTypes:= #[t1,t2]}) (.c (.int k (if b>a then b else a))):=fun S w e _ ho _=>by
 have h1:e x=.int k a:=by have:=ho x (by simp [Op.operands,Call.operands]);rw [hx] at this;exact this
 have h2:e y=.int k b:=by have:=ho y (by simp [Op.operands,Call.operands]);rw [hy] at this;exact this
 exact⟨.int k (if b>a then b else a),fun o hop=>by simp [execOp,hop,resolve,invoke,Go.builtin,Builtin.max_,Builtin.max2,h1,h2],rfl⟩
theorem QA.min2 {t1 t2:TypeId} {x y:Operand} {k:IntKind} {a b:Int} (hx:ρ x=.c (.int k a)) (hy:ρ y=.c (.int k b)):
  QA P h ρ (.call {callee:=.builtin .min,args:= #[x,y],argTypes:= #[t1,t2]}) (.c (.int k (if b<a then b else a))):=fun S w e _ ho _=>by
 have h1:e x=.int k a:=by have:=ho x (by simp [Op.operands,Call.operands]);rw [hx] at this;exact this
 have h2:e y=.int k b:=by have:=ho y (by simp [Op.operands,Call.operands]);rw [hy] at this;exact this
 exact⟨.int k (if b<a then b else a),fun o hop=>by simp [execOp,hop,resolve,invoke,Go.builtin,Builtin.min_,Builtin.min2,h1,h2],rfl⟩
end
section
section
variable {P : Program} {h : Qa} {ρ : Operand → AV}
def Yk (ρ:Operand→AV) (dflt:Nat):Option Operand→Option Int
 |none=>some dflt
 |some x=>match ρ x with
  |.c (.int _ i)=>some i
  |_=>none
theorem ZA {len cap:Nat} {l hi:Nat} {lo hi':Option Value} {w:World} (hlo:lo=none∧l=0∨∃k,lo=some (.int k l)) (hhi:hi'=none∧hi=len∨∃k,hi'=some (.int k hi)) (h1:l≤hi) (h2:hi≤cap) (hlc:len≤cap):
  (Instr.sliceBounds true len cap lo hi' none).run P w=.ok (l,hi,cap) w:=by
 unfold Instr.sliceBounds
 rcases hlo with ⟨rfl,rfl⟩|⟨k,rfl⟩<;>rcases hhi with ⟨rfl,rfl⟩|⟨k',rfl⟩<;>
  simp [Instr.sliceBound,asIntOf,h1,h2]
theorem QA.sliceR {t e size bytes n l hi:Nat} {tg:Bool} {f:Nat→CV} {x:Operand} {lo hi':Option Operand} (ht:QR P t=some (e,size,bytes)) (hx:ρ x=.c (.row tg size n f)) (hlo:Yk ρ 0 lo=some (l:Int)) (hhi:Yk ρ n hi'=some (hi:Int)) (h1:l≤hi) (h2:hi≤n):
  QA P h ρ (.slice t x lo hi' none) (.c (.row tg size (hi-l) fun j=>f (l*size+j))):=fun S w ev' hS ho _=>by
 have r:=ho x Ag
 rw [hx] at r
 obtain⟨A,c,hv,hc,hn⟩:=r
 obtain⟨hu,inf,hi0,hsz,_⟩:=Xg ht
 have hlo':lo.map ev'=none∧l=0∨∃k,lo.map ev'=some (.int k l):=by
  cases lo with
  |none=>simp only [Yk,Aa] at hlo;exact .inl ⟨rfl,by omega⟩
  |some y=>
   have ry:=ho y Ag
   simp only [Yk] at hlo
   split at hlo
   ·rename_i k i hy;rw [hy] at ry;injection hlo with hlo;subst hlo;exact .inr ⟨k,by simp;exact ry⟩
   ·cases hlo
 have hhi':hi'.map ev'=none∧hi=n∨∃k,hi'.map ev'=some (.int k hi):=by
  cases hi' with
  |none=>simp only [Yk,Aa] at hhi;exact .inl ⟨rfl,by omega⟩
  |some y=>
   have ry:=ho y Ag
   simp only [Yk] at hhi
   split at hhi
   ·rename_i k i hy;rw [hy] at ry;injection hhi with hhi;subst hhi;exact .inr ⟨k,by simp;exact ry⟩
   ·cases hhi
 refine⟨.slice (if c=l then A else A.map (·.add (l*size))) (hi-l) (c-l),fun o hop=> ?_,?_⟩
 ·simp only [execOp,hop,Instr.sliceAt,run_underlying hu,Sem.run_bind,Result.andThen_ok,Instr.slice,hv]
  simp [ZA hlo' hhi' h1 om hc,sizeOf,typeInfo,hi0,hsz]
 ·refine⟨_,_,rfl,by omega,fun h0=> ?_⟩
  have hlt:l<hi:=by
   rcases Nat.lt_or_ge l hi with hl|hl
   ·exact hl
   ·rw [show hi-l=0 from by omega] at h0;simp at h0
  have hm1:(hi-l)*size+l*size=hi*size:=by rw [←Nat.add_mul];congr 1;omega
  have hm2:hi*size≤n*size:=Nm _ h2
  obtain⟨ad,hA,hb,hj⟩:=hn om
  subst hA
  rw [iN om]
  refine⟨ad.add (l*size),rfl,by rw [block_add];exact hb,fun j hjl=> ?_⟩
  rw [QdH]
  exact hj _ om
theorem QA.sliceO {t e size bytes g off n l hi:Nat} {x:Operand} {lo hi':Option Operand} (ht:QR P t=some (e,size,bytes)) (hx:ρ x=.c (.osl g size off n)) (hlo:Yk ρ 0 lo=some (l:Int)) (hhi:Yk ρ n hi'=some (hi:Int)) (h1:l≤hi) (h2:hi≤n) (h3:l=0∨l<hi):
  QA P h ρ (.slice t x lo hi' none) (.c (.osl g size (off+l*size) (hi-l))):=fun S w ev' hS ho _=>by
 have r:=ho x Ag
 rw [hx] at r
 obtain⟨c,hv,hc,hcm,cs,ty,hb,hcs⟩:=r
 obtain⟨hu,inf,hi0,hsz,_⟩:=Xg ht
 have hlo':lo.map ev'=none∧l=0∨∃k,lo.map ev'=some (.int k l):=by
  cases lo with
  |none=>simp only [Yk,Aa] at hlo;exact .inl ⟨rfl,by omega⟩
  |some y=>
   have ry:=ho y Ag
   simp only [Yk] at hlo
   split at hlo
   ·rename_i k i hy;rw [hy] at ry;injection hlo with hlo;subst hlo;exact .inr ⟨k,by simp;exact ry⟩
   ·cases hlo
 have hhi':hi'.map ev'=none∧hi=n∨∃k,hi'.map ev'=some (.int k hi):=by
  cases hi' with
  |none=>simp only [Yk,Aa] at hhi;exact .inl ⟨rfl,by omega⟩
  |some y=>
   have ry:=ho y Ag
   simp only [Yk] at hhi
   split at hhi
   ·rename_i k i hy;rw [hy] at ry;injection hhi with hhi;subst hhi;exact .inr ⟨k,by simp;exact ry⟩
   ·cases hhi
 refine⟨.slice (some ⟨g,off+l*size,none⟩) (hi-l) (c-l),fun o hop=> ?_,?_⟩
 ·simp only [execOp,hop,Instr.sliceAt,run_underlying hu,Sem.run_bind,Result.andThen_ok,Instr.slice,hv]
  have hsb:=ZA (P:=P) (w:=w) hlo' hhi' h1 (show hi≤c from by omega) hc
  by_cases hcl:c=l
  ·have hl0:l=0:=by omega
   subst hl0
   subst hcl
   simp [hsb,sizeOf,typeInfo,hi0,hsz]
  ·simp [hsb,sizeOf,typeInfo,hi0,hsz,hcl,ZP]
 ·refine⟨c-l,rfl,by omega,by omega,cs,ty,hb,?_⟩
  have hm1:(c-l)*size+l*size=c*size:=by rw [←Nat.add_mul];congr 1;omega
  omega
def Qbm (P:Program) (ρ:Operand→AV) (t:TypeId) (x:Operand) (lo hi:Option Operand):Option (Prop×AV):=
 match ρ x with
 |.c (.row tg s n f)=>match QR P t,Yk ρ 0 lo,Yk ρ n hi with
  |some (_,size,_),some l,some u=>some (s=size∧0≤l∧l≤u∧u≤n,.c (.row tg s (u.toNat-l.toNat) fun j=>f (l.toNat*s+j)))
  |_,_,_=>none
 |.c (.osl g s off n)=>match QR P t,Yk ρ 0 lo,Yk ρ n hi with
  |some (_,size,_),some l,some u=>some (s=size∧0≤l∧l≤u∧u≤n∧(l=0∨l<u),.c (.osl g s (off+l.toNat*s) (u.toNat-l.toNat)))
  |_,_,_=>none
 |_=>none
theorem Qeb {t:TypeId} {x:Operand} {lo hi:Option Operand} {req:Prop} {r:AV} (hb:Qbm P ρ t x lo hi=some (req,r)) (hreq:req):QA P h ρ (.slice t x lo hi none) r:=by
 unfold Qbm at hb
 split at hb
 ·rename_i tg s n f hx
  split at hb
  ·rename_i e size bytes l u ht hl hu
   simp only [Aa,Ab] at hb
   obtain⟨rfl,rfl⟩:=hb
   obtain⟨rfl,h0,h1,h2⟩:=hreq
   exact QA.sliceR ht hx (by rw [hl];congr 1;omega) (by rw [hu];congr 1;omega) om om
  ·cases hb
 ·rename_i g s off n hx
  split at hb
  ·rename_i e size bytes l u ht hl hu
   simp only [Aa,Ab] at hb
   obtain⟨rfl,rfl⟩:=hb
   obtain⟨rfl,h0,h1,h2,h3⟩:=hreq
   exact QA.sliceO ht hx (by rw [hl];congr 1;omega) (by rw [hu];congr 1;omega) om om om
  ·cases hb
 ·cases hb
def Xk (P:Program) (t:TypeId):Option (List (Nat×Nat)):=
 match P.underlying t with
 |some (.struct fs)=>fs.toList.mapM fun f=>(P.info? f.type).map fun j=>(f.offset,j.size)
 |_=>none
theorem Qgd {t:TypeId} {l:List (Nat×Nat)} (ht:Xk P t=some l):∃fs,P.underlying t=some (.struct fs)∧∀w,(fs.mapM fun(f:Field)=>(do pure (f.offset,←sizeOf f.type):Sem (Nat×Nat))).run P w=.ok l.toArray w:=by
 unfold Xk at ht
 split at ht
 ·rename_i fs hu
  refine⟨fs,hu,fun w=> ?_⟩
  have key:∀(fl:List Field) (l:List (Nat×Nat)),fl.mapM (fun f=>(P.info? f.type).map fun j=>(f.offset,j.size))=some l→(fl.mapM fun(f:Field)=>(do pure (f.offset,←sizeOf f.type):Sem (Nat×Nat))).run P w=.ok l w:=by
   intro fl
   induction fl with
   |nil=>intro l hl;simp at hl;subst hl;simp
   |cons f fl ih=>
    intro l hl
    rw [List.mapM_cons] at hl
    cases hi:P.info? f.type with
    |none=>rw [hi] at hl;cases hl
    |some j=>
     rw [hi] at hl
     cases hm:fl.mapM (fun f=>(P.info? f.type).map fun j=>(f.offset,j.size)) with
     |none=>rw [hm] at hl;cases hl
     |some l'=>
      rw [hm] at hl
      have:l=(f.offset,j.size)::l':=by injection hl with hl;exact hl.symm
      subst this
      rw [List.mapM_cons]
      have hs:(sizeOf f.type).run P w=.ok j.size w:=by simp [sizeOf,typeInfo,hi]
      simp only [Sem.run_bind,hs,Result.andThen_ok,Sem.run_pure,ih l' hm]
  have e:fs=fs.toList.toArray:=by simp
  rw [e,List.mapM_toArray]
  simp only [Sem.run_map,key _ _ ht,Result.andThen_ok]
 ·cases ht
def Qoe (zs:List CV) (off:Nat):List CV→List CV
 |[]=>zs
 |c::cs=>Qoe (zs.set off c) (off+1) cs
def Qec (fl:List (Nat×Nat)):List CV→List (Nat×List CV)→Option (List CV)
 |zs,[]=>some zs
 |zs,(i,cs)::rest=>match fl[i]? with
  |some (off,size)=>if cs.length=size∧off+size≤zs.length then Qec fl (Qoe zs off cs) rest else none
  |none=>none
theorem X4.set {S:Bool→Nat→Prop} {w:World} {c:CV} {u:Value} (hc:XX S w c u):∀(zs:List CV) (us:List Value) (k:Nat),X4 S w zs us→X4 S w (zs.set k c) (us.set k u)
 |[],[],_,_=>trivial
 |_::_,_::_,0,hr=>⟨hc,hr.2⟩
 |_::zs,_::us,k+1,hr=>⟨hr.1,X4.set hc zs us k hr.2⟩
 |[],_::_,_,hr=>hr.elim
 |_::_,[],_,hr=>hr.elim
theorem Qij {S:Bool→Nat→Prop} {w:World} (off:Nat):∀(cs:List CV) (vs:List Value) (zs:List CV) (us:Array Value) (k:Nat),X4 S w cs vs→X4 S w zs us.toList→
  X4 S w (Qoe zs (off+k) cs) ((vs.zipIdx k).foldl (fun a (p:Value×Nat)=>a.setIfInBounds (off+p.2) p.1) us).toList
 |[],[],zs,us,k,_,hz=>hz
 |c::cs,v::vs,zs,us,k,hc,hz=>by
  simp only [List.zipIdx_cons,List.foldl_cons,Qoe]
  exact Qij off cs vs _ _ (k+1) hc.2 (by simpa using X4.set hc.1 zs us.toList (off+k) hz)
 |[],_::_,_,_,_,hc,_=>hc.elim
 |_::_,[],_,_,_,hc,_=>hc.elim
theorem Qof {S:Bool→Nat→Prop} {w:World} (off:Nat) {cs:List CV} {v:Value} {zs:List CV} {us:Array Value} (hc:X4 S w cs v.cells.toList) (hz:X4 S w zs us.toList):
  X4 S w (Qoe zs off cs) (v.cells.zipIdx.foldl (fun a (c,j)=>a.setIfInBounds (off+j) c) us).toList:=by
 have:=Qij (S:=S) (w:=w) off cs v.cells.toList zs us 0 hc hz
 rw [Nat.add_zero] at this
 rw [←Array.foldl_toList]
 simpa using this
theorem Qik {S:Bool→Nat→Prop} {w:World} (fl:List (Nat×Nat)):∀(ps:List (Nat×List CV)) (vs:List (Nat×Value)) (zs:List CV) (us:Array Value) (out:List CV),(ps.map (·.1)=vs.map (·.1))→(∀(j:Nat) (p:Nat×List CV) (q:Nat×Value),ps[j]?=some p→vs[j]?=some q→X4 S w p.2 q.2.cells.toList)→X4 S w zs us.toList→Qec fl zs ps=some out→
  ∃us',Instr.fill (fl.toArray[·]?) us vs=some us'∧X4 S w out us'.toList
 |[],[],zs,us,out,_,_,hz,hf=>by simp only [Qec,Aa] at hf;subst hf;exact⟨us,rfl,hz⟩
 |(i,cs)::ps,(i',v)::vs,zs,us,out,hm,hc,hz,hf=>by
  simp only [Ld,List.cons.injEq] at hm
  obtain⟨rfl,hm⟩:=hm
  simp only [Qec] at hf
  split at hf
  ·rename_i off size hfl
   split at hf
   ·rename_i hle
    have h0:X4 S w cs v.cells.toList:=hc 0 _ _ rfl rfl
    have hs:v.cells.size=size:=by have:=h0.length;simp at this;omega
    have hus:us.size=zs.length:=by have:=hz.length;simpa using this
    obtain⟨us',h1,h2⟩:=Qik fl ps vs _ _ out hm (fun j p q hp hq=>hc (j+1) p q (by simpa using hp) (by simpa using hq)) (Qof off h0 hz) hf
    refine⟨us',?_,h2⟩
    simp only [Instr.fill]
    rw [show fl.toArray[i]?=some (off,size) from by simpa using hfl]
    simp only
    rw [iN (by simp [hs,hus];omega)]
    exact h1
   ·cases hf
  ·cases hf
 |[],_::_,_,_,_,hm,_,_,_=>by simp at hm
 |_::_,[],_,_,_,hm,_,_,_=>by simp at hm
def AV.cells:AV→List CV
 |.c x=>[x]
 |.agg cs=>cs
 |.tup _=>[]
def CV.solid:CV→Bool
 |.any=>false
 |.raw v=>v.oneCell'
 |_=>true
theorem Wb {S:Bool→Nat→Prop} {w:World} {x:CV} {v:Value} (hx:x.solid=true) (hr:XX S w x v):v.oneCell'=true:=by
 cases x<;>simp only [CV.solid,reduceCtorEq] at hx
 case raw u=>exact(show v=u from hr)▸hx
 all_goals first
  |(have:v=_:=hr;rw [this];rfl)
  |(obtain⟨u,rfl,_⟩:=hr;rfl)
  |(obtain⟨u,rfl⟩:=hr;rfl)
  |(obtain⟨A,c,rfl,_⟩:=hr;rfl)
theorem Qaj {S:Bool→Nat→Prop} {w:World} {x:AV} {v:Value} (ht:∀xs,x≠.tup xs) (hs:x.cells.all CV.solid=true) (hr:VK S w x v):X4 S w x.cells v.cells.toList∧∀u∈v.cells,u.oneCell'=true:=by
 cases x with
 |tup xs=>exact absurd rfl (ht xs)
 |c x=>
  have h1:v.oneCell'=true:=Wb (by simpa [AV.cells] using hs) hr
  have h2:v.cells= #[v]:=by cases v<;>first|rfl|(simp [Value.oneCell'] at h1)
  rw [h2]
  exact⟨⟨hr,trivial⟩,by simpa using h1⟩
 |agg cs=>
  obtain⟨us,rfl,hu⟩:=hr
  refine⟨by simpa [Value.cells,AV.cells] using hu,?_⟩
  have key:∀(cs:List CV) (us:List Value),cs.all CV.solid=true→X4 S w cs us→∀u∈us,u.oneCell'=true:=by
   intro cs
   induction cs with
   |nil=>intro us _ hr;cases us with
    |nil=>simp
    |cons=>exact hr.elim
   |cons c cs ih=>
    intro us hs hr
    cases us with
    |nil=>exact hr.elim
    |cons u us=>
     simp only [List.all_cons,Ba] at hs
     intro x hx
     simp only [Lb] at hx
     rcases hx with rfl|hx
     ·exact Wb hs.1 hr.1
     ·exact ih us hs.2 hr.2 x hx
  intro u hu'
  exact key cs us (by simpa [AV.cells] using hs) hu u (by simpa [Value.cells] using hu')
def Qbn (P:Program) (ρ:Operand→AV) (t:TypeId) (ps:List (Nat×Operand)):Option (Prop×AV):=
 match Xk P t,Qj P t with
 |some fl,some z=>match Qec fl z (ps.map fun p=>(p.1,(ρ p.2).cells)) with
  |some out=>some (∀p∈ps,(∀xs,ρ p.2≠.tup xs)∧(ρ p.2).cells.all CV.solid=true,.agg out)
  |none=>none
 |_,_=>none
theorem YI {t:TypeId} {z:List CV} (hz:Qj P t=some z):∃i v,P.info? t=some i∧i.zero=some v∧z=v.cells.toList.map U7:=by
 unfold Qj at hz
 cases hi:P.info? t with
 |none=>simp [hi] at hz
 |some i=>
  cases hv:i.zero with
  |none=>simp [hi,hv] at hz
  |some v=>simp [hi,hv] at hz;exact⟨i,v,rfl,hv,hz.symm⟩
theorem Qed {t:TypeId} {ps:List (Nat×Operand)} {req:Prop} {r:AV} (hb:Qbn P ρ t ps=some (req,r)) (hreq:req):QA P h ρ (.build t ps.toArray) r:=by
 unfold Qbn at hb
 split at hb
 ·rename_i fl z hfl hz
  split at hb
  ·rename_i out hout
   simp only [Aa,Ab] at hb
   obtain⟨rfl,rfl⟩:=hb
   intro S w e hS ho _
   obtain⟨fs,hu,hrun⟩:=Qgd hfl
   obtain⟨i,zv,hi,hzv,rfl⟩:=YI hz
   obtain⟨us',h1,h2⟩:=Qik (S:=S) (w:=w) fl (ps.map fun p=>(p.1,(ρ p.2).cells)) (ps.map fun p=>(p.1,e p.2)) (zv.cells.toList.map U7) zv.cells out (by simp)
    (fun j p q hp hq=>by
     rw [List.getElem?_map] at hp hq
     cases hj:ps[j]? with
     |none=>rw [hj] at hp;cases hp
     |some y=>
      rw [hj] at hp hq
      simp only [Option.map_some,Aa] at hp hq
      subst hp
      subst hq
      have hm:y∈ps:=List.mem_of_getElem? hj
      obtain⟨hnt,hsol⟩:=hreq y hm
      exact(Qaj hnt hsol (ho y.2 (by simp only [Op.operands,List.mem_toArray,List.mem_map];exact⟨y,hm,rfl⟩))).1)
    (OK S w _) hout
   refine⟨.agg us',fun o hop=> ?_,us'.toList,by simp,h2⟩
   have hmap:(Array.map (fun x:Nat×Operand=>(x.1,e x.2)) ps.toArray).toList=ps.map fun p=>(p.1,e p.2):=by simp
   simp only [execOp,hop,Instr.build,Sem.run_bind,zeroValue,typeInfo,run_program,hi,hzv,Result.andThen_ok,Sem.run_pure,run_underlying hu,hrun w]
   rw [hmap,h1]
   rfl
  ·cases hb
 ·cases hb
end
end
section
variable {E : Vl} {K : List It} {σ σ' : Sl} {h : Qa} {all rest : List Oper} {o : Oper}
def QvJ:Bool→Bool→Bool
 |true,true=>true
 |false,false=>true
 |true,false=>false
 |false,true=>false
def Qx (all:List Oper) (σ:Sl) (o:Oper):Option Bool:=
 match o.guard with
 |none=>some true
 |some (j,want)=>match (all[j]?).bind (·.dst) with
  |some t=>match σ.get t with
   |.c (.bool b)=>some (QvJ b want)
   |.tup []=>some false
   |_=>none
  |none=>none
theorem St.wanted {N:Nat} {C:Vk} {a:Act} {w:World} (s:St N C σ h a w) {b:Bool} (hw:Qx all σ o=some b):Region.wanted o (yielded all.toArray a.tmps)=b:=by
 unfold Qx at hw
 unfold Region.wanted
 cases hg:o.guard with
 |none=>rw [hg] at hw;injection hw
 |some p=>
  obtain⟨j,want⟩:=p
  rw [hg] at hw
  simp only at hw⊢
  split at hw
  ·rename_i t ht
   split at hw
   ·rename_i b' hb
    injection hw with hw
    have hs:=s.slots t
    rw [hb] at hs
    have hs':a.tmps.getD t undef=.bool b':=hs
    have hlt:t<a.tmps.size:=by
     rcases Nat.lt_or_ge t a.tmps.size with hl|hl
     ·exact hl
     ·simp [Array.getD,Nat.not_lt.2 hl,undef] at hs'
    have hq:a.tmps[t]?=some (.bool b'):=by
     simp [Array.getD,hlt] at hs'
     simp [hlt,hs']
    have:yielded all.toArray a.tmps j=some b':=by
     unfold yielded
     rw [show((all.toArray[j]?).bind (·.dst))=some t from by simpa using ht]
     simp [hq]
    rw [this,←hw]
    cases b'<;>cases want<;>rfl
   ·rename_i hb
    injection hw with hw
    subst hw
    have hs:=s.slots t
    rw [hb] at hs
    obtain⟨us,hs',hu⟩:=hs
    have hy:yielded all.toArray a.tmps j=none:=by
     unfold yielded
     rw [show((all.toArray[j]?).bind (·.dst))=some t from by simpa using ht]
     simp only [Option.bind_some]
     rw [Array.getD_eq_getD_getElem?] at hs'
     cases h4:a.tmps[t]? with
     |none=>rfl
     |some v=>
      rw [h4] at hs'
      have h5:v=.tuple us.toArray:=hs'
      subst h5
      rfl
    rw [hy];rfl
   ·cases hw
  ·cases hw
theorem QK {N:Nat} {C:Vk} {a:Act} {w:World} (s:St N C σ h a w) (x:Operand):VK (QH C h w) w (ev σ x) (a.eval x):=by
 cases x with
 |tmp t=>exact s.slots t
 |const v=>exact Qtg _ _ v
 |global g=>exact rfl
 |func f=>exact rfl
theorem QH.mono' {C:Vk} {h:Qa} {w:World} (b:Nat) (hb:QH C h w true b):QH C h w false b:=⟨hb.1.imp (C.mono b) id,hb.2⟩
def Qw (N:Nat):Option Nat→Bool
 |some d=>decide (d<N)
 |none=>true
theorem St.put {N:Nat} {C:Vk} {a:Act} {w:World} (s:St N C σ h a w) {d:Option Nat} (hd:Qw N d=true) {r:AV} {v:Value} (hr:VK (QH C h w) w r v):St N C (σ.setO d r) h (a.put d v) w:=by
 cases d with
 |none=>exact s
 |some d=>
  have hd':d<N:=by simpa [Qw] using hd
  refine⟨by simp [Act.put,s.size],s.defers,fun t=> ?_,s.heap,s.nodup,s.keys,s.frame⟩
  simp only [Sl.setO,Sl.get_set,Act.put]
  by_cases e:d=t
  ·subst e
   have:d<a.tmps.size:=by rw [s.size];exact hd'
   simp [Array.getD,this,hr]
  ·rw [iN e]
   have h1:=s.slots t
   have:(a.tmps.setIfInBounds d v).getD t undef=a.tmps.getD t undef:=by
    rw [Array.getD_eq_getD_getElem?,Array.getD_eq_getD_getElem?,Array.getElem?_setIfInBounds_ne e]
   rw [this]
   exact h1
theorem V9 {h':Qa} (hw:Qx all σ o=some true)
  (hs:∀a w,St E.N E.C σ h a w→∃v w',((execOp a.eval o).run E.P w=.ok (.value v) w'∨((execOp a.eval o).run E.P w=.ok .skip w'∧v=undef))∧St E.N E.C σ' h' (a.put o.dst v) w')
  (k:aw E (.ops all rest::K) σ' h'):aw E (.ops all (o::rest)::K) σ h:=fun a w s=>by
 show wpList _ _ _ _ _ _
 unfold wpList
 rw [iP (s.wanted hw)]
 refine .inl ?_
 obtain⟨v,w',hrun,s'⟩:=hs a w s
 have hk:=k _ _ s'
 unfold Oper.wp
 rcases hrun with hrun|⟨hrun,rfl⟩
 ·rw [hrun];exact hk
 ·rw [hrun];exact hk
theorem Qee (hw:Qx all σ o=some false) (hd:Qw E.N o.dst=true) (hσ:σ.setO o.dst (.tup [])=σ') (k:aw E (.ops all rest::K) σ' h):aw E (.ops all (o::rest)::K) σ h:=fun a w s=>by
 subst hσ
 show wpList _ _ _ _ _ _
 unfold wpList
 rw [iN (by rw [s.wanted hw];simp)]
 exact k _ _ (s.put hd (r:=.tup []) ⟨[],rfl,trivial⟩)
theorem QdL {r:AV} (hw:Qx all σ o=some true) (ho:QA E.P h (ev σ) o.op r) (hd:Qw E.N o.dst=true) (hσ:σ.setO o.dst r=σ') (k:aw E (.ops all rest::K) σ' h):
  aw E (.ops all (o::rest)::K) σ h:=by
 subst hσ
 refine V9 hw (fun a w s=> ?_) k
 obtain⟨v,hrun,hr⟩:=ho (QH E.C h w) w a.eval QH.mono' (fun x _=>QK s x) s.heap
 exact⟨v,w,.inl (hrun o rfl),s.put hd hr⟩
theorem St.new {N:Nat} {C:Vk} {a:Act} {w w':World} {g:Nat} {ob:XD} (s:St N C σ h a w) (hg:g=w.heap.size) (hfr:Fr (fun _=>False) w w') (hlt:g<w'.heap.size)
  (ho:Y0 (QH C ((g,ob)::h) w') w' g ob):St N C σ ((g,ob)::h) a w':=by
 have hnk:g∉h.keys:=fun hm=>by have:=s.klt hm;omega
 have kp:YA (QH C h w) (QH C ((g,ob)::h) w') w w':=by
  refine⟨fun t b hb=>⟨hb.1,Ae hb.2.1 hfr.size,?_⟩,fun t b hb=>hfr.block b hb.2.1 (fun x=>x),hfr.has⟩
  have:=hb.2.1
  simp only [Qa.keys,Ld,Lb,not_or]
  exact⟨by omega,hb.2.2⟩
 refine⟨s.size,s.defers,fun t=>VK.keep kp (s.slots t),fun g' o' hm=> ?_,?_,fun g' hg'=> ?_,?_⟩
 ·simp only [Lb,Ab] at hm
  rcases hm with ⟨rfl,rfl⟩|hm
  ·exact ho
  ·have h1:=s.heap g' o' hm
   exact Y0.keep kp (hfr.block g' h1.lt (fun x=>x)) h1
 ·simp only [Qa.keys,Ld,List.nodup_cons]
  exact⟨hnk,s.nodup⟩
 ·simp only [Qa.keys,Ld,Lb] at hg'
  rcases hg' with rfl|hg'
  ·right;have:=s.frame.size;omega
  ·exact s.keys g' hg'
 ·exact s.frame.trans hfr (fun x hx _=>hx.elim)
theorem UU {r:Nat→AV} {ob:XD} (hw:Qx all σ o=some true) (hd:Qw E.N o.dst=true)
  (hrun:∀a w,St E.N E.C σ h a w→∃v w',(execOp a.eval o).run E.P w=.ok (.value v) w'∧Fr (fun _=>False) w w'∧w.heap.size<w'.heap.size∧
   Y0 (QH E.C ((w.heap.size,ob)::h) w') w' w.heap.size ob∧VK (QH E.C ((w.heap.size,ob)::h) w') w' (r w.heap.size) v)
  (k:∀g,g∉h.keys→aw E (.ops all rest::K) (σ.setO o.dst (r g)) ((g,ob)::h)):aw E (.ops all (o::rest)::K) σ h:=fun a w s=>by
 obtain⟨v,w',hr,hfr,hlt,ho,hrep⟩:=hrun a w s
 have hnk:w.heap.size∉h.keys:=fun hm=>Nat.lt_irrefl _ (s.klt hm)
 have s':=(s.new rfl hfr hlt ho).put hd hrep
 have hk:=k _ hnk _ _ s'
 show wpList _ _ _ _ _ _
 unfold wpList
 rw [iP (s.wanted hw)]
 refine .inl ?_
 unfold Oper.wp
 rw [hr]
 exact hk
def ofL:List CV→Nat→CV
 |[],_=>.any
 |c::cs,n=>match n with
  |0=>c
  |n+1=>ofL cs n
theorem Qak:∀(cs:List CV) (j:Nat) (c:CV),cs[j]?=some c→ofL cs j=c
 |[],j,c,e=>by simp at e
 |a::cs,0,c,e=>by simpa [ofL] using e
 |a::cs,j+1,c,e=>by simp at e;exact Qak cs j c e
theorem Wc {C:Vk} {w:World} {cs:List CV} {us:List Value} {ty:TypeId} {h':Qa} (hr:X4 (QH C h' (w.alloc (.cells us.toArray ty))) (w.alloc (.cells us.toArray ty)) cs us):
  Y0 (QH C h' (w.alloc (.cells us.toArray ty))) (w.alloc (.cells us.toArray ty)) w.heap.size (.cells ty cs.length (ofL cs)):=by
 refine⟨us.toArray,heap_alloc_new w _,by simp [hr.length],fun j hj=> ?_⟩
 obtain⟨u,hu,hc⟩:=hr.get j cs[j] (Li hj)
 exact⟨u,by simpa using hu,by rw [Qak cs j _ (Li hj)];exact hc⟩
theorem OM {C:Vk} {w:World} {ob:XD} {o:Obj} (hnk:w.heap.size∉h.keys):YA (QH C h w) (QH C ((w.heap.size,ob)::h) (w.alloc o)) w (w.alloc o):=
 ⟨fun t b hb=>⟨hb.1,by have:=hb.2.1;simp;omega,by
  have:=hb.2.1
  simp only [Qa.keys,Ld,Lb,not_or]
  exact⟨by omega,hb.2.2⟩⟩,fun t b hb=>RowKit.Below.heap_alloc w o b hb.2.1,(Fr.alloc (fun _=>False) w o).has⟩
theorem Ka {t:TypeId} {x:Operand} (hop:o.op=.box t x) (hw:Qx all σ o=some true) (hd:Qw E.N o.dst=true) {v:AV} (hx:ev σ x=v) (hnt:∀xs,v≠.tup xs) (hs:v.cells.all CV.solid=true)
  (k:∀g,g∉h.keys→aw E (.ops all rest::K) (σ.setO o.dst (.c (.optr g 0))) ((g,.cells t v.cells.length (ofL v.cells))::h)):aw E (.ops all (o::rest)::K) σ h:=by
 refine UU (r:=fun g=>.c (.optr g 0)) (ob:=.cells t v.cells.length (ofL v.cells)) hw hd (fun a w s=> ?_) k
 have h1:=QK s x
 rw [hx] at h1
 have hnk:w.heap.size∉h.keys:=fun hm=>Nat.lt_irrefl _ (s.klt hm)
 obtain⟨hL,_⟩:=Qaj hnt hs h1
 have e:(a.eval x).cells=(a.eval x).cells.toList.toArray:=by simp
 refine⟨.pointer (some ⟨w.heap.size,0,none⟩),w.alloc (.cells (a.eval x).cells.toList.toArray t),?_,Fr.alloc _ _ _,by simp,Wc (hL.keep (OM hnk)),rfl⟩
 simp only [execOp,hop,Instr.box,newVar,newRow,Sem.run_bind]
 rw [←e]
 rfl
theorem Qef {t:TypeId} {z:List CV} (hop:o.op=.alloc t) (hw:Qx all σ o=some true) (hd:Qw E.N o.dst=true) (hz:Qj E.P t=some z)
  (k:∀g,g∉h.keys→aw E (.ops all rest::K) (σ.setO o.dst (.c (.optr g 0))) ((g,.cells t z.length (ofL z))::h)):aw E (.ops all (o::rest)::K) σ h:=by
 refine UU (r:=fun g=>.c (.optr g 0)) (ob:=.cells t z.length (ofL z)) hw hd (fun a w s=> ?_) k
 obtain⟨i,v,hi,hv,rfl⟩:=YI hz
 refine⟨.pointer (some ⟨w.heap.size,0,none⟩),w.alloc (.cells v.cells.toList.toArray t),?_,Fr.alloc _ _ _,by simp,Wc (OK _ _ _),rfl⟩
 simp only [execOp,hop,Instr.alloc,zeroValue,typeInfo,newVar,newRow,Sem.run_bind]
 simp [hi,hv]
end
section
inductive LeC (h:Qa):CV→CV→Prop
 |refl (x:CV):LeC h x x
 |any (x:CV):LeC h x .any
 |nils {t:Bool} {s:Nat} {f:Nat→CV}:LeC h .nils (.row t s 0 f)
 |row {t t':Bool} {s n:Nat} {f f':Nat→CV}:(t'=true→t=true)→(∀j,j<n*s→LeC h (f j) (f' j))→LeC h (.row t s n f) (.row t' s n f')
 |osl {g s off n m:Nat} {ty:TypeId} {f f':Nat→CV}:h.get g=some (.cells ty m f)→off+n*s≤m→(∀j,j<n*s→LeC h (f (off+j)) (f' j))→LeC h (.osl g s off n) (.row false s n f')
 |ifc {t:TypeId} {x y:CV}:LeC h x y→LeC h (.ifc t x) (.ifc t y)
def LeL (h:Qa):List CV→List CV→Prop
 |[],[]=>True
 |x::xs,y::ys=>LeC h x y∧LeL h xs ys
 |_,_=>False
inductive Le0 (h:Qa):AV→AV→Prop
 |c {x y:CV}:LeC h x y→Le0 h (.c x) (.c y)
 |agg {xs ys:List CV}:LeL h xs ys→Le0 h (.agg xs) (.agg ys)
def Us (h:Qa):List AV→List AV→Prop
 |[],[]=>True
 |x::xs,y::ys=>Le0 h x y∧Us h xs ys
 |_,_=>False
def Vis (S:Bool→Nat→Prop) (h:Qa) (t:Bool) (b:Nat):Prop:=S t b∨(t=false∧b∈h.keys)
theorem LeC.rep {S:Bool→Nat→Prop} {w:World} {h:Qa} (hm:∀b,S true b→S false b) (hh:∀g o,(g,o)∈h→Y0 S w g o) {x y:CV} (le:LeC h x y):∀{v:Value},XX S w x v→XX (Vis S h) w y v:=by
 have kp:YA S (Vis S h) w w:=⟨fun _ _ hb=>.inl hb,fun _ _ _=>rfl,fun _ _ e=>e⟩
 induction le with
 |refl x=>intro v hr;exact hr.keep kp
 |any x=>intro v _;trivial
 |nils=>intro v hr;obtain⟨A,hv⟩:=hr;exact⟨A,0,hv,Ac _,fun h0=>by simp at h0⟩
 | @row t t' s n f f' ht _ ih=>
   intro v hr
   obtain⟨A,c,hv,hc,hn⟩:=hr
   refine⟨A,c,hv,hc,fun h0=> ?_⟩
   obtain⟨ad,hA,hS,hj⟩:=hn h0
   refine⟨ad,hA,.inl ?_,fun j hjl=> ?_⟩
   ·cases t' with
    |true=>rw [ht rfl] at hS;exact hS
    |false=>cases t with
     |true=>exact hm _ hS
     |false=>exact hS
   ·obtain⟨u,hu,hf⟩:=hj j hjl
    exact⟨u,hu,ih j hjl hf⟩
 | @osl g s off n m ty f f' hg hle _ ih=>
   intro v hr
   obtain⟨c,hv,hc,_,_⟩:=hr
   obtain⟨cs,hb,hn,hj⟩:=hh g _ (Qa.get_mem hg)
   refine⟨some ⟨g,off,none⟩,c,hv,hc,fun _=>⟨⟨g,off,none⟩,rfl,.inr ⟨rfl,?_⟩,fun j hjl=> ?_⟩⟩
   ·exact List.mem_map.2 ⟨_,Qa.get_mem hg,rfl⟩
   ·obtain⟨u,hu,hf⟩:=hj (off+j) om
    exact⟨u,by rw [ZP,Zf hb];exact hu,ih j hjl hf⟩
 |ifc _ ih=>intro v hr;obtain⟨u,hu,hx⟩:=hr;exact⟨u,hu,ih hx⟩
theorem LeL.rep {S:Bool→Nat→Prop} {w:World} {h:Qa} (hm:∀b,S true b→S false b) (hh:∀g o,(g,o)∈h→Y0 S w g o):∀{xs ys:List CV} {us:List Value},LeL h xs ys→X4 S w xs us→X4 (Vis S h) w ys us
 |[],[],[],_,_=>trivial
 |_::_,_::_,_::_,le,hr=>⟨le.1.rep hm hh hr.1,LeL.rep hm hh le.2 hr.2⟩
 |[],[],_::_,_,hr=>hr.elim
 |_::_,_::_,[],_,hr=>hr.elim
 |[],_::_,_,le,_=>le.elim
 |_::_,[],_,le,_=>le.elim
theorem Le0.rep {S:Bool→Nat→Prop} {w:World} {h:Qa} (hm:∀b,S true b→S false b) (hh:∀g o,(g,o)∈h→Y0 S w g o) {x y:AV} {v:Value} (le:Le0 h x y) (hr:VK S w x v):OH (Vis S h) w y v:=by
 cases le with
 |c l=>exact l.rep hm hh hr
 |agg l=>obtain⟨us,hv,hu⟩:=hr;exact⟨us,hv,l.rep hm hh hu⟩
theorem Us.rep {N:Nat} {C:Vk} {σ:Sl} {h:Qa} {a:Act} {w:World} (s:St N C σ h a w):∀{xs:List Operand} {ys:List AV},Us h (xs.map (ev σ)) ys→Vc (Vis (QH C h w) h) w ys (xs.map a.eval)
 |[],[],_=>trivial
 |x::xs,y::ys,le=>⟨le.1.rep QH.mono' s.heap (QK s x),Us.rep s le.2⟩
 |[],_::_,le=>le.elim
 |_::_,[],le=>le.elim
def JR (P:Program) (f:FuncId):Prop:=∃fn,P.funcs[f]?=some fn∧fn.body.isNone=false∧(fn.name== "runtime.NumGoroutine")=false
theorem JR.run {P:Program} {f:FuncId} (hc:JR P f) (args:Array Value) (w:World):(callFunc f args).run P w=.ok (.enter f args) w:=by
 obtain⟨fn,hf,hb,hn⟩:=hc
 have hn':¬fn.name= "runtime.NumGoroutine" :=by simpa using hn
 have hb':¬fn.body=none:=fun e=>by rw [e] at hb;cases hb
 unfold callFunc
 simp [hf,hb',hn']
def FaQ (T:(Bool→Nat→Prop)→World→Prop) (P:Program) (f:FuncId) (args:List AV) (r:AV):Prop:=
 JR P f∧∀(S:Bool→Nat→Prop) (w:World) (vs:List Value),(∀b,S true b→S false b)→(∀t b,S t b→b<w.heap.size)→T S w→Vc S w args vs→
  Calls P f vs.toArray w fun e w'=>∃v,e=.returned v∧VK (fun _ b=>(S true b∨w.heap.size≤b)∧b<w'.heap.size) w' r v∧Fr (fun _=>False) w w'
def Fa (P:Program) (f:FuncId) (args:List AV) (r:AV):Prop:=FaQ (fun _ _=>True) P f args r
def ZN (P:Program) (f:FuncId) (args:List AV) (r:AV):Prop:=FaQ OI P f args r
def ZZ (C:Vk) (P:Program) (f:FuncId) (args:List AV) (r:AV):Prop:=
 JR P f∧∀{N:Nat} {σ:Sl} {h:Qa} {a:Act} {w:World} {xs:List Operand},St N C σ h a w→Us h (xs.map (ev σ)) args→
  Calls P f (xs.map a.eval).toArray w fun e w'=>∃v,e=.returned v∧VK (QH C h w') w' r v∧Fr (fun _=>False) w w'
def Qwb (C:Vk):Prop:=OI C.S0 C.w0
section
variable {E : Vl} {K : List It} {σ σ' : Sl} {h : Qa} {all rest : List Oper} {o : Oper}
theorem St.later {N:Nat} {C:Vk} {a:Act} {w w':World} (s:St N C σ h a w) (hfr:Fr (fun _=>False) w w'):St N C σ h a w':=by
 have kp:YA (QH C h w) (QH C h w') w w':=⟨fun t b hb=>⟨hb.1,Ae hb.2.1 hfr.size,hb.2.2⟩,fun t b hb=>hfr.block b hb.2.1 (fun x=>x),hfr.has⟩
 exact⟨s.size,s.defers,fun t=>VK.keep kp (s.slots t),fun g o hm=>by
  have h1:=s.heap g o hm
  exact Y0.keep kp (hfr.block g h1.lt (fun x=>x)) h1,s.nodup,s.keys,s.frame.trans hfr (fun x hx _=>hx.elim)⟩
theorem FaQ.use {T:(Bool→Nat→Prop)→World→Prop} {P:Program} {N:Nat} {C:Vk} {a:Act} {w:World} {f:FuncId} {xs:List Operand} {args:List AV} {r:AV} (hf:FaQ T P f args r) (hT:T (Vis (QH C h w) h) w) (s:St N C σ h a w) (le:Us h (xs.map (ev σ)) args):
  Calls P f (xs.map a.eval).toArray w fun e w'=>∃v,e=.returned v∧VK (QH C h w') w' r v∧Fr (fun _=>False) w w':=by
 have hlt:∀t b,Vis (QH C h w) h t b→b<w.heap.size:=fun t b hb=>hb.elim (fun x=>x.2.1) (fun x=>s.klt x.2)
 refine(hf.2 (Vis (QH C h w) h) w _ (fun b hb=> ?_) hlt hT (le.rep s)).mono ?_
 ·rcases hb with hb|hb
  ·exact .inl (QH.mono' b hb)
  ·exact absurd hb.1 (by simp)
 ·rintro e w' ⟨v,he,hr,hfr⟩
  refine⟨v,he,hr.keep ⟨fun t b hb=> ?_,fun _ _ _=>rfl,fun _ _ x=>x⟩,hfr⟩
  obtain⟨hb1,hb2⟩:=hb
  rcases hb1 with (hb1|hb1)|hb1
  ·have h1:QH C h w' true b:=⟨hb1.1,hb2,hb1.2.2⟩
   cases t
   ·exact QH.mono' b h1
   ·exact h1
  ·exact absurd hb1.1 (by simp)
  ·refine⟨.inr ?_,hb2,fun hm=> ?_⟩
   ·have:=s.frame.size;omega
   ·have:=s.klt hm;omega
theorem Fa.use {P:Program} {N:Nat} {C:Vk} {a:Act} {w:World} {f:FuncId} {xs:List Operand} {args:List AV} {r:AV} (hf:Fa P f args r) (s:St N C σ h a w) (le:Us h (xs.map (ev σ)) args):
 Calls P f (xs.map a.eval).toArray w fun e w'=>∃v,e=.returned v∧VK (QH C h w') w' r v∧Fr (fun _=>False) w w':=FaQ.use (T:=fun _ _=>True) hf trivial s le
theorem Fa.toC {P:Program} {C:Vk} {f:FuncId} {args:List AV} {r:AV} (hf:Fa P f args r):ZZ C P f args r:=⟨hf.1,fun s le=>hf.use s le⟩
theorem St.tab {N:Nat} {C:Vk} {a:Act} {w:World} (s:St N C σ h a w) (hT:Qwb C):OI (QH C h w) w:=fun b hb=>by
 obtain⟨h1,ty,fr,h2⟩:=hT b hb
 have hl:=C.lt _ _ h1
 have hs:=s.frame.size
 have hn:b∉h.keys:=fun hm=>(s.keys b hm).elim (C.apart _ _ h1) (fun h=>by omega)
 exact⟨⟨.inl h1,by omega,hn⟩,ty,fr,(s.frame.block b hl (C.apart _ _ h1)).trans h2⟩
theorem ZN.toC {P:Program} {C:Vk} {f:FuncId} {args:List AV} {r:AV} (hf:ZN P f args r) (hT:Qwb C):ZZ C P f args r:=
 ⟨hf.1,fun s le=>FaQ.use (T:=OI) hf ((s.tab hT).keep ⟨fun _ _ hb=>.inl hb,fun _ _ _=>rfl,fun _ _ e=>e⟩) s le⟩
theorem Qil {f:FuncId} {xs:List Operand} {ts:Array TypeId} {args:List AV} {r:AV} (hf:ZZ E.C E.P f args r) (hop:o.op=.call {callee:=.value (.func f),args:=xs.toArray,argTypes:=ts}) (hw:Qx all σ o=some true) (hd:Qw E.N o.dst=true)
  (le:Us h (xs.map (ev σ)) args) (hσ:σ.setO o.dst r=σ') (k:aw E (.ops all rest::K) σ' h):aw E (.ops all (o::rest)::K) σ h:=fun a w s=>by
 subst hσ
 show wpList _ _ _ _ _ _
 unfold wpList
 rw [iP (s.wanted hw)]
 refine .inl ?_
 unfold Oper.wp
 have hrun:(execOp a.eval o).run E.P w=.ok (.enter f (xs.map a.eval).toArray) w:=by
  simp only [execOp,hop,resolve,Act.eval,Deferred.ofValue,invoke,Sem.run_bind]
  have:=hf.1.run (#[]++(Array.map a.eval xs.toArray)++ #[]) w
  simp only [Sem.run_pure,Result.andThen_ok]
  rw [show((xs.map a.eval).toArray)=(#[]++(Array.map a.eval xs.toArray)++ #[]) from by simp]
  exact this
 rw [hrun]
 show Calls _ _ _ _ _
 refine(hf.2 s le).mono ?_
 rintro e w' ⟨v,rfl,hr,hfr⟩
 exact k _ _ ((s.later hfr).put hd hr)
theorem Qti {f:FuncId} {xs:List Operand} {ts:Array TypeId} {args:List AV} {r:AV} (hf:Fa E.P f args r) (hop:o.op=.call {callee:=.value (.func f),args:=xs.toArray,argTypes:=ts}) (hw:Qx all σ o=some true) (hd:Qw E.N o.dst=true)
 (le:Us h (xs.map (ev σ)) args) (hσ:σ.setO o.dst r=σ') (k:aw E (.ops all rest::K) σ' h):aw E (.ops all (o::rest)::K) σ h:=Qil hf.toC hop hw hd le hσ k
theorem Qu {f:FuncId} {xs:List Operand} {ts:Array TypeId} {args:List AV} {r:AV} (hf:Fa E.P f args r) (hop:o.op=.call {callee:=.value (.func f),args:=xs.toArray,argTypes:=ts}) (hw:Qx all σ o=some true) (hd:Qw E.N o.dst=true)
 (le:Us h (xs.map (ev σ)) args) (k:aw E (.ops all rest::K) (σ.setO o.dst r) h):aw E (.ops all (o::rest)::K) σ h:=Qti hf hop hw hd le rfl k
inductive Ut (h:Qa):CV→CV→Prop
 |int (k:IntKind) (n:Int):Ut h (.int k n) (.int k n)
 |bool (b:Bool):Ut h (.bool b) (.bool b)
 |str (s:ByteArray):Ut h (.str s) (.str s)
 |nilI:Ut h .nilI .nilI
 |nils':Ut h .nils .nils
 |any (x:CV):Ut h x .any
 |nils {t:Bool} {s:Nat} {f:Nat→CV}:Ut h .nils (.row t s 0 f)
 |row {t:Bool} {s n:Nat} {f f':Nat→CV}:(∀j,j<n*s→Ut h (f j) (f' j))→Ut h (.row true s n f) (.row t s n f')
 |osl {t:Bool} {g s off n m:Nat} {ty:TypeId} {f f':Nat→CV}:h.get g=some (.cells ty m f)→off+n*s≤m→(∀j,j<n*s→Ut h (f (off+j)) (f' j))→Ut h (.osl g s off n) (.row t s n f')
 |ifc {t:TypeId} {x y:CV}:Ut h x y→Ut h (.ifc t x) (.ifc t y)
def Qf1 (h:Qa):List CV→List CV→Prop
 |[],[]=>True
 |x::xs,y::ys=>Ut h x y∧Qf1 h xs ys
 |_,_=>False
inductive Qog (h:Qa):AV→AV→Prop
 |c {x y:CV}:Ut h x y→Qog h (.c x) (.c y)
 |agg {xs ys:List CV}:Qf1 h xs ys→Qog h (.agg xs) (.agg ys)
def Qqh (h:Qa):List AV→List AV→Prop
 |[],[]=>True
 |x::xs,y::ys=>Qog h x y∧Qqh h xs ys
 |_,_=>False
inductive Qeg (h:Qa):AV→AV→Prop
 |one {x y:AV}:Qog h x y→Qeg h x y
 |tup {xs ys:List AV}:Qqh h xs ys→Qeg h (.tup xs) (.tup ys)
def Qoh (C:Vk) (w:World) (_:Bool) (b:Nat):Prop:=(C.S0 true b∨C.w0.heap.size≤b)∧b<w.heap.size
theorem Ut.rep {C:Vk} {w:World} {h:Qa} (hk:∀g∈h.keys,C.w0.heap.size≤g) (hh:∀g o,(g,o)∈h→Y0 (QH C h w) w g o) {x y:CV} (le:Ut h x y):∀{v:Value},XX (QH C h w) w x v→XX (Qoh C w) w y v:=by
 induction le with
 |int k n=>intro v hr;exact hr
 |bool b=>intro v hr;exact hr
 |str s=>intro v hr;exact hr
 |nilI=>intro v hr;exact hr
 |nils'=>intro v hr;exact hr
 |any x=>intro v _;trivial
 |nils=>intro v hr;obtain⟨A,hv⟩:=hr;exact⟨A,0,hv,Ac _,fun h0=>by simp at h0⟩
 | @row t s n f f' _ ih=>
   intro v hr
   obtain⟨A,c,hv,hc,hn⟩:=hr
   refine⟨A,c,hv,hc,fun h0=> ?_⟩
   obtain⟨ad,hA,hS,hj⟩:=hn h0
   refine⟨ad,hA,⟨hS.1,hS.2.1⟩,fun j hjl=> ?_⟩
   obtain⟨u,hu,hf⟩:=hj j hjl
   exact⟨u,hu,ih j hjl hf⟩
 | @osl t g s off n m ty f f' hg hle _ ih=>
   intro v hr
   obtain⟨c,hv,hc,_,_⟩:=hr
   have ho:=hh g _ (Qa.get_mem hg)
   have hlt:=ho.lt
   obtain⟨cs,hb,hn,hj⟩:=ho
   refine⟨some ⟨g,off,none⟩,c,hv,hc,fun _=>⟨⟨g,off,none⟩,rfl,⟨.inr (hk g (List.mem_map.2 ⟨_,Qa.get_mem hg,rfl⟩)),hlt⟩,fun j hjl=> ?_⟩⟩
   obtain⟨u,hu,hf⟩:=hj (off+j) om
   exact⟨u,by rw [ZP,Zf hb];exact hu,ih j hjl hf⟩
 |ifc _ ih=>intro v hr;obtain⟨u,hu,hx⟩:=hr;exact⟨u,hu,ih hx⟩
theorem Qf1.rep {C:Vk} {w:World} {h:Qa} (hk:∀g∈h.keys,C.w0.heap.size≤g) (hh:∀g o,(g,o)∈h→Y0 (QH C h w) w g o):∀{xs ys:List CV} {us:List Value},Qf1 h xs ys→X4 (QH C h w) w xs us→X4 (Qoh C w) w ys us
 |[],[],[],_,_=>trivial
 |_::_,_::_,_::_,le,hr=>⟨le.1.rep hk hh hr.1,Qf1.rep hk hh le.2 hr.2⟩
 |[],[],_::_,_,hr=>hr.elim
 |_::_,_::_,[],_,hr=>hr.elim
 |[],_::_,_,le,_=>le.elim
 |_::_,[],_,le,_=>le.elim
theorem Qog.rep {C:Vk} {w:World} {h:Qa} (hk:∀g∈h.keys,C.w0.heap.size≤g) (hh:∀g o,(g,o)∈h→Y0 (QH C h w) w g o) {x y:AV} {v:Value} (le:Qog h x y) (hr:OH (QH C h w) w x v):OH (Qoh C w) w y v:=by
 cases le with
 |c l=>exact l.rep hk hh hr
 |agg l=>obtain⟨us,hv,hu⟩:=hr;exact⟨us,hv,l.rep hk hh hu⟩
theorem Qqh.rep {C:Vk} {w:World} {h:Qa} (hk:∀g∈h.keys,C.w0.heap.size≤g) (hh:∀g o,(g,o)∈h→Y0 (QH C h w) w g o):∀{xs ys:List AV} {us:List Value},Qqh h xs ys→Vc (QH C h w) w xs us→Vc (Qoh C w) w ys us
 |[],[],[],_,_=>trivial
 |_::_,_::_,_::_,le,hr=>⟨le.1.rep hk hh hr.1,Qqh.rep hk hh le.2 hr.2⟩
 |[],[],_::_,_,hr=>hr.elim
 |_::_,_::_,[],_,hr=>hr.elim
 |[],_::_,_,le,_=>le.elim
 |_::_,[],_,le,_=>le.elim
theorem Qim {S:Bool→Nat→Prop} {w:World} {x:AV} {v:Value} (hr:OH S w x v):VK S w x v:=by
 cases x with
 |tup xs=>exact hr.elim
 |c x=>exact hr
 |agg cs=>exact hr
theorem Qeg.rep {C:Vk} {w:World} {h:Qa} (hk:∀g∈h.keys,C.w0.heap.size≤g) (hh:∀g o,(g,o)∈h→Y0 (QH C h w) w g o) {x y:AV} {v:Value} (le:Qeg h x y) (hr:VK (QH C h w) w x v):VK (Qoh C w) w y v:=by
 cases le with
 |one l=>
  cases l with
  |c l=>exact l.rep hk hh hr
  |agg l=>obtain⟨us,hv,hu⟩:=hr;exact⟨us,hv,l.rep hk hh hu⟩
 |tup l=>obtain⟨us,hv,hu⟩:=hr;exact⟨us,hv,l.rep hk hh hu⟩
def Qcm (P:Program) (σ:Sl) (h:Qa):ResultVar→Option AV
 |.tmp t=>some (σ.get t)
 |.cell a t=>match σ.get a,XN P t with
  |.c (.optr g off),some (ag,n)=>match h.get g with
   |some (.cells _ m f)=>if off+n≤m∧(ag=true∨n=1) then some (if ag then .agg (YN f off 0 n) else .c (f off)) else none
   |_=>none
  |_,_=>none
theorem Qin {P:Program} {N:Nat} {C:Vk} {a:Act} {w:World} (s:St N C σ h a w) {rv:ResultVar} {x:AV} (hx:Qcm P σ h rv=some x):
  ∃v,(match rv with
   |.tmp t=>(pure (a.tmps.getD t undef):Sem Value)
   |.cell c t=>do loadVar t (←asAddr (a.tmps.getD c undef))).run P w=.ok v w∧VK (QH C h w) w x v:=by
 cases rv with
 |tmp t=>simp only [Qcm,Aa] at hx;subst hx;exact⟨_,rfl,s.slots t⟩
 |cell c t=>
  simp only [Qcm] at hx
  split at hx
  ·rename_i g off ag n hc ht
   split at hx
   ·rename_i ty m f hg
    split at hx
    ·rename_i hle
     injection hx with hx
     subst hx
     have h1:=s.slots c
     rw [hc] at h1
     have hv:a.tmps.getD c undef=.pointer (some ⟨g,off,none⟩):=h1
     obtain⟨cs,hb,hn,hj⟩:=s.heap g _ (Qa.get_mem hg)
     obtain⟨v,hrun,hr⟩:=OL (P:=P) (ad:=⟨g,off,none⟩) (off:=off) ht (fun e=>hle.2.elim (fun x=>by rw [e] at x;cases x) id) (fun j hjn=>by
      obtain⟨u,hu,hr⟩:=hj (off+j) om
      exact⟨u,by rw [ZP,Zf hb];exact hu,hr⟩)
     exact⟨v,by simp only [hv,asAddr,Sem.run_bind,Sem.run_pure,Result.andThen_ok,hrun],hr⟩
    ·cases hx
   ·cases hx
  ·cases hx
def Vm (P:Program) (σ:Sl) (h:Qa):List ResultVar→Option AV
 |[rv]=>Qcm P σ h rv
 |rvs=>(rvs.mapM (Qcm P σ h)).map .tup
def AV.flat:AV→Bool
 |.tup _=>false
 |_=>true
theorem Qio {S:Bool→Nat→Prop} {w:World} {x:AV} {v:Value} (hf:x.flat=true) (hr:VK S w x v):OH S w x v:=by
 cases x with
 |tup xs=>cases hf
 |c x=>exact hr
 |agg cs=>exact hr
def Qip (tmps:Array Value):ResultVar→Sem Value
 |.tmp t=>pure (tmps.getD t undef)
 |.cell a t=>do loadVar t (←asAddr (tmps.getD a undef))
theorem Qmk {P:Program} {N:Nat} {C:Vk} {a:Act} {w:World} (s:St N C σ h a w):∀(rvs:List ResultVar) (xs:List AV),rvs.mapM (Qcm P σ h)=some xs→xs.all AV.flat=true→
  ∃vs:List Value,(rvs.mapM (Qip a.tmps)).run P w=.ok vs w∧Vc (QH C h w) w xs vs
 |[],xs,hx,_=>by
  simp at hx
  subst hx
  exact⟨[],by simp,trivial⟩
 |rv::rvs,xs,hx,hfl=>by
  rw [List.mapM_cons] at hx
  cases h1:Qcm P σ h rv with
  |none=>rw [h1] at hx;cases hx
  |some x=>
   rw [h1] at hx
   cases h2:rvs.mapM (Qcm P σ h) with
   |none=>rw [h2] at hx;cases hx
   |some ys=>
    rw [h2] at hx
    have hx':xs=x::ys:=by injection hx with hx;exact hx.symm
    subst hx'
    simp only [List.all_cons,Ba] at hfl
    obtain⟨v,hv,hr⟩:=Qin s h1
    obtain⟨vs,hvs,hrs⟩:=Qmk s rvs ys h2 hfl.2
    refine⟨v::vs,?_,Qio hfl.1 hr,hrs⟩
    rw [List.mapM_cons]
    have hv':(Qip a.tmps rv).run P w=.ok v w:=by cases rv<;>exact hv
    simp [hv',hvs]
theorem ON {P:Program} {N:Nat} {C:Vk} {a:Act} {w:World} {fn:Func} (s:St N C σ h a w) {rvs:List ResultVar} (hrs:fn.results=rvs.toArray) {x:AV} (hx:Vm P σ h rvs=some x)
  (hfl:∀xs,x=.tup xs→xs.all AV.flat=true):∃v,(results fn a.tmps).run P w=.ok v w∧VK (QH C h w) w x v:=by
 have he:results fn a.tmps=(do let vs←fn.results.mapM (Qip a.tmps);pure (if h:vs.size=1 then vs[0] else .tuple vs)):=by
  unfold results
  congr 1
 rw [he,hrs]
 match rvs,hx with
 |[rv],hx=>
  obtain⟨v,hv,hr⟩:=Qin s hx
  have hv':(Qip a.tmps rv).run P w=.ok v w:=by cases rv<;>exact hv
  exact⟨v,by simp [hv'],hr⟩
 |[],hx=>
  simp [Vm] at hx
  subst hx
  exact⟨.tuple #[],by simp,[],rfl,trivial⟩
 |r1::r2::rvs,hx=>
  simp only [Vm] at hx
  cases h2:(r1::r2::rvs).mapM (Qcm P σ h) with
  |none=>rw [h2] at hx;cases hx
  |some ys=>
   rw [h2] at hx
   injection hx with hx
   obtain⟨vs,hvs,hrs'⟩:=Qmk s _ ys h2 (hfl ys hx.symm)
   subst hx
   have hl:vs.length=(r1::r2::rvs).length:=by
    have k1:∀(xs:List AV) (us:List Value),Vc (QH C h w) w xs us→us.length=xs.length:=by
     intro xs
     induction xs with
     |nil=>intro us hr;cases us with
      |nil=>rfl
      |cons=>exact hr.elim
     |cons x xs ih=>intro us hr;cases us with
      |nil=>exact hr.elim
      |cons u us=>simp [ih us hr.2]
    have k2:∀(l:List ResultVar) (ys:List AV),l.mapM (Qcm P σ h)=some ys→ys.length=l.length:=by
     intro l
     induction l with
     |nil=>intro ys hy;simp at hy;subst hy;rfl
     |cons a l ih=>
      intro ys hy
      rw [List.mapM_cons] at hy
      cases e1:Qcm P σ h a with
      |none=>rw [e1] at hy;cases hy
      |some x=>
       rw [e1] at hy
       cases e2:l.mapM (Qcm P σ h) with
       |none=>rw [e2] at hy;cases hy
       |some zs=>
        rw [e2] at hy
        have:ys=x::zs:=by injection hy with hy;exact hy.symm
        subst this
        simp [ih zs e2]
    rw [k1 _ _ hrs',k2 _ _ h2]
   refine⟨.tuple vs.toArray,?_,vs,rfl,hrs'⟩
   have hm:(Array.mapM (Qip a.tmps) (r1::r2::rvs).toArray).run P w=.ok vs.toArray w:=by
    rw [List.mapM_toArray]
    simp only [Sem.run_map,hvs,Result.andThen_ok]
   simp only [Sem.run_bind,hm,Result.andThen_ok,Sem.run_pure]
   rw [dif_neg (by simp [hl])]
def Qwc (C:Vk) (r:AV):Ending→World→Prop:=fun e w'=>∃v,e=.returned v∧VK (Qoh C w') w' r v∧Fr (fun _=>False) C.w0 w'
def On (P:Program) (fn:Func) (C:Vk) (r:AV):Vl:={P,N:=fn.ntmps,C,Q:=bodyPost P fn (Qwc C r)}
theorem Qml {P:Program} {fn:Func} {C:Vk} {r x:AV} {a:Act} {w:World} (hC:∀b,¬C.own0 b) (s:St fn.ntmps C σ h a w) {rvs:List ResultVar} (hrs:fn.results=rvs.toArray) (hx:Vm P σ h rvs=some x)
  (hfl:∀xs,x=.tup xs→xs.all AV.flat=true) (le:Qeg h x r):a.defers=[]∧∃v,(results fn a.tmps).run P w=.ok v w∧Qwc C r (.returned v) w:=by
 obtain⟨v,hv,hr⟩:=ON s hrs hx hfl
 refine⟨s.defers,v,hv,v,rfl,le.rep (fun g hg=>(s.keys g hg).resolve_left (hC g)) s.heap hr,?_⟩
 exact⟨s.frame.os,s.frame.tape,s.frame.output,s.frame.size,s.frame.drawn,fun b hb _=>s.frame.block b hb (hC b),s.frame.has⟩
theorem Qwd {P:Program} {fn:Func} {C:Vk} {r x:AV} {K:List It} (hC:∀b,¬C.own0 b) {rvs:List ResultVar} (hrs:fn.results=rvs.toArray) (hx:Vm P σ h rvs=some x) (hfl:∀xs,x=.tup xs→xs.all AV.flat=true)
 (le:Qeg h x r):aw (On P fn C r) (.code .ret::K) σ h:=fun a w s=>wp_ret (WT a w (Qml hC s hrs hx hfl le))
theorem Qwe {P:Program} {fn:Func} {C:Vk} {r x:AV} (hC:∀b,¬C.own0 b) {rvs:List ResultVar} (hrs:fn.results=rvs.toArray) (hx:Vm P σ h rvs=some x) (hfl:∀xs,x=.tup xs→xs.all AV.flat=true)
 (le:Qeg h x r):aw (On P fn C r) [] σ h:=fun a w s=>Qml hC s hrs hx hfl le
def Qeh:AV→Bool
 |.tup xs=>xs.all AV.flat
 |_=>true
theorem JS {x:AV} (hx:Qeh x=true):∀xs,x=.tup xs→xs.all AV.flat=true:=fun xs e=>by subst e;exact hx
theorem Qmm {P:Program} {fn:Func} {C:Vk} {r:AV} {K:List It} (hC:∀b,¬C.own0 b) {rvs:List ResultVar} (hrs:fn.results=rvs.toArray) (k:∀R:Option AV→Prop,(∀x,Qeh x=true→Qeg h x r→R (some x))→R (Vm P σ h rvs)):
  aw (On P fn C r) (.code .ret::K) σ h:=by
 have:=k (fun y=>y=Vm P σ h rvs→aw (On P fn C r) (.code .ret::K) σ h) (fun x hf le e=>Qwd hC hrs e.symm (JS hf) le)
 exact this rfl
theorem Qtj {P:Program} {fn:Func} {C:Vk} {r:AV} (hC:∀b,¬C.own0 b) {rvs:List ResultVar} (hrs:fn.results=rvs.toArray) (k:∀R:Option AV→Prop,(∀x,Qeh x=true→Qeg h x r→R (some x))→R (Vm P σ h rvs)):
  aw (On P fn C r) [] σ h:=by
 have:=k (fun y=>y=Vm P σ h rvs→aw (On P fn C r) [] σ h) (fun x hf le e=>Qwe hC hrs e.symm (JS hf) le)
 exact this rfl
def Y8:Nat→List AV→Sl
 |_,[]=>[]
 |i,x::xs=>(i,x)::Y8 (i+1) xs
theorem Qcn:∀(xs:List AV) (i t:Nat),(Y8 i xs).get t=if i≤t then xs.getD (t-i) (.c .any) else .c .any
 |[],i,t=>by simp [Y8,Sl.get]
 |x::xs,i,t=>by
  simp only [Y8,Sl.get,Qcn xs (i+1) t]
  by_cases h1:i=t
  ·subst h1;simp
  ·rw [iN h1]
   by_cases h2:i≤t
   ·have h3:i+1≤t:=by omega
    rw [iP h3,iP h2]
    have:t-i=(t-(i+1))+1:=by omega
    rw [this];simp
   ·rw [iN h2,iN om]
theorem Vc.getD {S:Bool→Nat→Prop} {w:World}:∀(xs:List AV) (vs:List Value),Vc S w xs vs→∀t,VK S w (xs.getD t (.c .any)) (vs.getD t undef)
 |[],[],_,t=>by simp;trivial
 |x::xs,v::vs,hr,0=>Qim hr.1
 |x::xs,v::vs,hr,t+1=>by simpa using Vc.getD xs vs hr.2 t
 |[],_::_,hr,_=>hr.elim
 |_::_,[],hr,_=>hr.elim
theorem Vc.len {S:Bool→Nat→Prop} {w:World}:∀{xs:List AV} {vs:List Value},Vc S w xs vs→vs.length=xs.length
 |[],[],_=>rfl
 |_::_,_::_,hr=>by simp [Vc.len hr.2]
 |[],_::_,hr=>hr.elim
 |_::_,[],hr=>hr.elim
theorem OO {T:(Bool→Nat→Prop)→World→Prop} {P:Program} {f:FuncId} {fn:Func} {c:Code} {args:List AV} {r:AV} (hf:P.funcs[f]?=some fn) (hb:fn.body=some c) (hn:(fn.name== "runtime.NumGoroutine")=false) (hl:args.length≤fn.ntmps)
  (k:∀C:Vk,(∀b,¬C.own0 b)→T C.S0 C.w0→aw (On P fn C r) [.code c] (Y8 0 args) []):FaQ T P f args r:=by
 refine⟨⟨fn,hf,by rw [hb];rfl,hn⟩,fun S w vs hm hlt hT hr=> ?_⟩
 let C:Vk:={w0:=w,S0:=S,own0:=fun _=>False,mono:=hm,apart:=fun _ _ _ x=>x,lt:=hlt}
 refine(calls_of_wp hf hb (R:=Qwc C r) ?_).mono ?_
 ·have hk:=k C (fun _ x=>x) hT
  have kp:YA S (QH C [] w) w w:=⟨fun t b hb=>⟨.inl hb,hlt t b hb,by simp [Qa.keys]⟩,fun _ _ _=>rfl,fun _ _ x=>x⟩
  have hlen:=hr.len
  refine hk _ _ ⟨?_,rfl,fun t=> ?_,fun g o hm=>by simp at hm,by simp [Qa.keys],fun g hg=>by simp [Qa.keys] at hg,Fr.refl _ _⟩
  ·show(vs.toArray++Array.replicate (fn.ntmps-vs.toArray.size) undef).size=fn.ntmps
   simp;omega
  ·rw [Qcn]
   simp only [Lz,if_true,Nat.sub_zero]
   refine VK.keep kp ?_
   have h1:=Vc.getD args vs hr t
   have h2:(vs.toArray++Array.replicate (fn.ntmps-vs.toArray.size) undef).getD t undef=vs.getD t undef:=by
    rw [Array.getD_eq_getD_getElem?,Lg]
    by_cases ht:t<vs.length
    ·rw [Array.getElem?_append_left (by simpa using ht)];simp
    ·rw [Array.getElem?_append_right (by simpa using ht)]
     rw [List.getElem?_eq_none om]
     simp [Array.getElem?_replicate]
     split<;>rfl
   rw [h2]
   exact h1
 ·rintro e w' ⟨v,he,hr',hfr⟩
  exact⟨v,he,hr',hfr⟩
theorem QaV {P:Program} {f:FuncId} {fn:Func} {c:Code} {args:List AV} {r:AV} (hf:P.funcs[f]?=some fn) (hb:fn.body=some c) (hn:(fn.name== "runtime.NumGoroutine")=false) (hl:args.length≤fn.ntmps)
 (k:∀C:Vk,(∀b,¬C.own0 b)→aw (On P fn C r) [.code c] (Y8 0 args) []):Fa P f args r:=OO hf hb hn hl fun C h _=>k C h
theorem Yo {P:Program} {f:FuncId} {fn:Func} {c:Code} {args:List AV} {r:AV} (hf:P.funcs[f]?=some fn) (hb:fn.body=some c) (hn:(fn.name== "runtime.NumGoroutine")=false) (hl:args.length≤fn.ntmps)
 (k:∀C:Vk,(∀b,¬C.own0 b)→Qwb C→aw (On P fn C r) [.code c] (Y8 0 args) []):ZN P f args r:=OO hf hb hn hl k
end
end
section
variable {P : Program} {h : Qa} {ρ : Operand → AV}
def XH:IntKind→Int→Prop
 |.i64,x=> -9223372036854775808≤x∧x≤9223372036854775807
 |.u64,x=>0≤x∧x≤18446744073709551615
 |.u32,x=>0≤x∧x≤4294967295
 |.u8,x=>0≤x∧x≤255
 |_,_=>False
theorem XV {k:IntKind} {x:Int} (hx:XH k x):k.wrap x=x:=by
 cases k<;>simp only [XH] at hx
 ·rw [IntKind.wrap_i64];omega
 ·simp only [IntKind.wrap,IntKind.bits,IntKind.signed];simp;omega
 ·rw [IntKind.wrap_u32];omega
 ·rw [IntKind.wrap_u64];omega
noncomputable def binI (nw:Bool) (op:BinOp) (k:IntKind) (a b:Int):Option (Prop×CV):=
 match nw,op with
 |true,.add=>some (XH k (a+b),.int k (a+b))
 |true,.sub=>some (XH k (a-b),.int k (a-b))
 |true,.mul=>some (XH k (a*b),.int k (a*b))
 |true,.shl=>none
 |_,_=>binInt op k a b
theorem QA.binI {nw:Bool} {op:BinOp} {t t':TypeId} {x y:Operand} {k:IntKind} {a b:Int} {req:Prop} {r:CV} (hx:ρ x=.c (.int k a)) (hy:ρ y=.c (.int k b))
  (hr:AI.binI nw op k a b=some (req,r)) (hreq:req):QA P h ρ (.binOp op t x y t') (.c r):=by
 cases nw with
 |false=>exact QA.binInt hx hy (by simpa [AI.binI] using hr) hreq
 |true=>
  cases op
  case add=>
   simp only [AI.binI,Aa,Ab] at hr
   obtain⟨rfl,rfl⟩:=hr
   exact QA.binInt (req:=True) hx hy (by simp [AI.binInt,QN,XV hreq]) trivial
  case sub=>
   simp only [AI.binI,Aa,Ab] at hr
   obtain⟨rfl,rfl⟩:=hr
   exact QA.binInt (req:=True) hx hy (by simp [AI.binInt,QN,XV hreq]) trivial
  case mul=>
   simp only [AI.binI,Aa,Ab] at hr
   obtain⟨rfl,rfl⟩:=hr
   exact QA.binInt (req:=True) hx hy (by simp [AI.binInt,QN,XV hreq]) trivial
  case shl=>cases hr
  all_goals exact QA.binInt hx hy hr hreq
def Qge:Operand→Bool
 |.const .nilIface=>true
 |_=>false
theorem Qiq {x:Operand} (hx:Qge x=true):x=.const .nilIface:=by
 unfold Qge at hx
 split at hx
 ·rfl
 ·cases hx
def Jm (a b:ByteArray):Bool:=a.toList==b.toList
theorem VG (op:BinOp) (t:TypeId) (x y:Operand) (a b:ByteArray) (w:World):(eqGuard op t x y (.string a) (.string b)).run P w=.ok () w:=by
 unfold eqGuard
 cases op<;>simp
theorem Qir {t:TypeId} (a b:ByteArray) (w:World):(Go.binOp .eql t (.string a) (.string b)).run P w=.ok (.bool (Jm a b)) w:=by
 unfold Go.binOp
 simp [Op.stringOp,Jm]
theorem Qis {t:TypeId} (a b:ByteArray) (w:World):(Go.binOp .neq t (.string a) (.string b)).run P w=.ok (.bool (!Jm a b)) w:=by
 unfold Go.binOp
 simp [Op.stringOp,Jm]
theorem QA.eqStr {t t':TypeId} {x y:Operand} {a b:ByteArray} (hx:ρ x=.c (.str a)) (hy:ρ y=.c (.str b)):QA P h ρ (.binOp .eql t x y t') (.c (.bool (Jm a b))):=fun S w e _ ho _=>by
 have h1:e x=.string a:=by have:=ho x Ag;rw [hx] at this;exact this
 have h2:e y=.string b:=by have:=ho y Ag;rw [hy] at this;exact this
 exact⟨.bool (Jm a b),fun o hop=>Ze hop (by rw [h1,h2];exact VG ..) (by rw [h1,h2];exact Qir a b w),rfl⟩
theorem QA.neqStr {t t':TypeId} {x y:Operand} {a b:ByteArray} (hx:ρ x=.c (.str a)) (hy:ρ y=.c (.str b)):QA P h ρ (.binOp .neq t x y t') (.c (.bool (!Jm a b))):=fun S w e _ ho _=>by
 have h1:e x=.string a:=by have:=ho x Ag;rw [hx] at this;exact this
 have h2:e y=.string b:=by have:=ho y Ag;rw [hy] at this;exact this
 exact⟨.bool (!Jm a b),fun o hop=>Ze hop (by rw [h1,h2];exact VG ..) (by rw [h1,h2];exact Qis a b w),rfl⟩
theorem QA.addStr {t t':TypeId} {x y:Operand} {a b:ByteArray} (hl:a.size+b.size≤9223372036854775807) (hx:ρ x=.c (.str a)) (hy:ρ y=.c (.str b)):QA P h ρ (.binOp .add t x y t') (.c (.str (a++b))):=fun S w e _ ho _=>by
 have h1:e x=.string a:=by have:=ho x Ag;rw [hx] at this;exact this
 have h2:e y=.string b:=by have:=ho y Ag;rw [hy] at this;exact this
 refine⟨.string (a++b),fun o hop=>Ze hop (by rw [h1,h2];exact VG ..) ?_,rfl⟩
 rw [h1,h2]
 have hn:¬(9223372036854775807:Int)<(a.size:Int)+(b.size:Int):=by omega
 simp [Go.binOp,Op.stringOp,hn]
def Ku (a b:ByteArray):Bool:=Op.bytesLess a.toList b.toList
theorem Qit:∀a b:List UInt8,(!(Op.bytesLess a b||a==b))=Op.bytesLess b a
 |[],[]=>rfl
 |[],_::_=>rfl
 |_::_,[]=>rfl
 |x::a,y::b=>by
  have ih:=Qit a b
  show(!((decide (x<y)||(x==y&&Op.bytesLess a b))||(x::a==y::b)))=(decide (y<x)||(y==x&&Op.bytesLess b a))
  rw [←ih,List.cons_beq_cons]
  by_cases h1:x=y
  ·subst h1
   have h2:¬x<x:=UInt8.lt_irrefl x
   simp [h2]
  ·have h2:(x==y)=false:=beq_eq_false_iff_ne.2 h1
   have h3:(y==x)=false:=beq_eq_false_iff_ne.2 fun e=>h1 e.symm
   rw [h2,h3]
   by_cases h4:x<y
   ·have h5:¬y<x:=fun h=>by have a1:x.toNat<y.toNat:=h4;have a2:y.toNat<x.toNat:=h;omega
    simp [h4,h5]
   ·have h5:y<x:=by
     have a1:¬x.toNat<y.toNat:=h4
     have a3:x.toNat≠y.toNat:=fun e=>h1 (UInt8.toNat_inj.1 e)
     show y.toNat<x.toNat
     omega
    simp [h4,h5]
theorem Qiu {op:BinOp} {r:Bool} {t:TypeId} (a b:ByteArray) (w:World) (h:op=.lss∧r=Ku a b∨op=.leq∧r= !Ku b a∨op=.gtr∧r=Ku b a∨op=.geq∧r= !Ku a b):(Go.binOp op t (.string a) (.string b)).run P w=.ok (.bool r) w:=by
 have h1:=Qit a.toList b.toList
 rcases h with ⟨rfl,rfl⟩|⟨rfl,rfl⟩|⟨rfl,rfl⟩|⟨rfl,rfl⟩
 ·unfold Go.binOp
  simp [Op.stringOp,Ku]
 ·unfold Go.binOp Ku
  rw [←h1]
  simp [Op.stringOp]
 ·unfold Go.binOp Ku
  rw [←h1]
  simp [Op.stringOp]
 ·unfold Go.binOp
  simp [Op.stringOp,Ku]
theorem QA.cmpStr {op:BinOp} {r:Bool} {t t':TypeId} {x y:Operand} {a b:ByteArray} (hc:op=.lss∧r=Ku a b∨op=.leq∧r= !Ku b a∨op=.gtr∧r=Ku b a∨op=.geq∧r= !Ku a b) (hx:ρ x=.c (.str a)) (hy:ρ y=.c (.str b)):QA P h ρ (.binOp op t x y t') (.c (.bool r)):=fun S w e _ ho _=>by
 have h1:e x=.string a:=by have:=ho x Ag;rw [hx] at this;exact this
 have h2:e y=.string b:=by have:=ho y Ag;rw [hy] at this;exact this
 exact⟨.bool r,fun o hop=>Ze hop (by rw [h1,h2];exact VG ..) (by rw [h1,h2];exact Qiu a b w hc),rfl⟩
noncomputable def We (P:Program) (nw:Bool) (op:BinOp) (t:TypeId) (y:Operand):AV→AV→Option (Prop×AV)
 |.c (.int k a),.c (.int k' b)=>
  match op with
  |.shl=>(binSh .shl k a b).map fun p=>(p.1,.c p.2)
  |.shr=>(binSh .shr k a b).map fun p=>(p.1,.c p.2)
  |op=>if k=k' then(binI nw op k a b).map fun p=>(p.1,.c p.2) else none
 |.c (.bool a),.c (.bool b)=>
  match op with
  |.eql=>some (Qdf P t=true,.c (.bool (a==b)))
  |.neq=>some (Qdf P t=true,.c (.bool (a !=b)))
  |_=>none
 |.c (.str a),.c (.str b)=>
  match op with
  |.eql=>some (True,.c (.bool (Jm a b)))
  |.neq=>some (True,.c (.bool (!Jm a b)))
  |.add=>some (a.size+b.size≤9223372036854775807,.c (.str (a++b)))
  |.lss=>some (True,.c (.bool (Ku a b)))
  |.leq=>some (True,.c (.bool (!Ku b a)))
  |.gtr=>some (True,.c (.bool (Ku b a)))
  |.geq=>some (True,.c (.bool (!Ku a b)))
  |_=>none
 |.c x,.c .nilI=>
  match op,Qge y,nilAV x with
  |.eql,true,some b=>some (QaT P t=true,.c (.bool b))
  |.neq,true,some b=>some (QaT P t=true,.c (.bool !b))
  |_,_,_=>none
 |_,_=>none
def Qhf (P:Program) (t:TypeId) (h:Qa):AV→Option (Prop×AV)
 |.c (.rptr m f)=>match XN P t with
  |some (true,n)=>some (n≤m,.agg (YN f 0 0 n))
  |some (false,1)=>some (1≤m,.c (f 0))
  |_=>none
 |.c (.optr g off)=>match h.get g,XN P t with
  |some (.cells _ m f),some (true,n)=>some (off+n≤m,.agg (YN f off 0 n))
  |some (.cells _ m f),some (false,1)=>some (off+1≤m,.c (f off))
  |_,_=>none
 |_=>none
def Qhg (P:Program) (t:TypeId):AV→AV→Option (Prop×AV)
 |.c (.row _ s n f),.c (.int _ i)=>match QR P t with
  |some (_,size,_)=>some (s=size∧0<size∧0≤i∧i<n,.c (.rptr s fun j=>f (i.toNat*s+j)))
  |none=>none
 |.c (.osl g s off n),.c (.int _ i)=>match QR P t with
  |some (_,size,_)=>some (s=size∧0≤i∧i<n,.c (.optr g (off+i.toNat*s)))
  |none=>none
 |_,_=>none
def Qhh (P:Program) (t i:Nat):AV→Option (Prop×AV)
 |.c (.optr g o)=>(Qq P t i).map fun off=>(True,.c (.optr g (o+off)))
 |.c (.rptr n f)=>(Qq P t i).map fun off=>(off≤n,.c (.rptr (n-off) fun j=>f (off+j)))
 |_=>none
theorem QA.nilCheckO {x:Operand} {g off:Nat} (hx:ρ x=.c (.optr g off)):QA P h ρ (.nilCheck x) (.c (.optr g off)):=fun S w e _ ho _=>by
 have h1:=ho x Ag
 rw [hx] at h1
 have h2:e x=.pointer (some ⟨g,off,none⟩):=h1
 exact⟨_,fun o hop=>by simp only [execOp,hop,h2];rfl,rfl⟩
def wide:IntKind→IntKind→Bool
 |.u32,.u64=>true
 |.u32,.i64=>true
 |.u8,.i64=>true
 |.u8,.u64=>true
 |_,_=>false
noncomputable def QaW (P:Program) (nw:Bool) (h:Qa) (ρ:Operand→AV):Op→Option (Prop×AV)
 |.move x=>some (True,ρ x)
 |.assign x=>some (True,ρ x)
 |.pick c a b=>match ρ c with
  |.c (.bool t)=>some (True,QaU t (ρ a) (ρ b))
  |_=>none
 |.binOp op t x y _=>We P nw op t y (ρ x) (ρ y)
 |.unOp .not _ x=>match ρ x with
  |.c (.bool b)=>some (True,.c (.bool !b))
  |_=>none
 |.unOp .neg _ x=>match ρ x with
  |.c (.int k n)=>some (True,.c (.int k (XE k (0-n))))
  |_=>none
 |.convert s d x=>match Z4 P s,Z4 P d,ρ x with
  |some _,some k',.c (.int ks n)=>if wide ks k' then some (XH k' n,.c (.int k' n)) else some (True,.c (.int k' (XE k' n)))
  |_,_,_=>none
 |.extract x i=>match ρ x with
  |.tup xs=>(xs[i]?).map fun y=>(True,y)
  |_=>none
 |.makeInterface t x=>match Z4 P t,ρ x with
  |some _,.c c=>some (True,.c (.ifc t c))
  |_,_=>none
 |.load t a=>Qhf P t h (ρ a)
 |.slice t x lo hi none=>Qbm P ρ t x lo hi
 |.build t ⟨ps⟩=>Qbn P ρ t ps
 |.nilCheck x=>match ρ x with
  |.c (.optr g off)=>some (True,.c (.optr g off))
  |_=>none
 |.fieldAddr t x i=>Qhh P t i (ρ x)
 |.indexAddr t x ix=>Qhg P t (ρ x) (ρ ix)
 |.call {callee:=.builtin .len,args:=⟨[x]⟩,argTypes:=⟨[t]⟩}=>match QR P t,ρ x with
  |some _,.c c=>(Qbl c).map fun(n:Nat)=>(True,.c (.int .i64 (n:Int)))
  |_,_=>none
 |.call {callee:=.builtin .max,args:=⟨[x,y]⟩,argTypes:=⟨[_,_]⟩}=>match ρ x,ρ y with
  |.c (.int k a),.c (.int k' b)=>some (k=k',.c (.int k (if b>a then b else a)))
  |_,_=>none
 |.call {callee:=.builtin .min,args:=⟨[x,y]⟩,argTypes:=⟨[_,_]⟩}=>match ρ x,ρ y with
  |.c (.int k a),.c (.int k' b)=>some (k=k',.c (.int k (if b<a then b else a)))
  |_,_=>none
 |_=>none
theorem Qiv {nw:Bool} {op:BinOp} {t t':TypeId} {x y:Operand} {req:Prop} {r:AV} (hk:∀v,ρ (.const v)=cst v) (hb:We P nw op t y (ρ x) (ρ y)=some (req,r)) (hreq:req):QA P h ρ (.binOp op t x y t') r:=by
 unfold We at hb
 split at hb
 ·rename_i k a k' b hx hy
  split at hb
  ·simp only [binSh,Option.map_some,Aa,Ab] at hb
   obtain⟨rfl,rfl⟩:=hb
   exact QA.binSh hx hy rfl hreq
  ·simp only [binSh,Option.map_some,Aa,Ab] at hb
   obtain⟨rfl,rfl⟩:=hb
   exact QA.binSh hx hy rfl hreq
  ·split at hb
   ·rename_i e
    subst e
    cases hi:binI nw op k a b with
    |none=>rw [hi] at hb;cases hb
    |some p=>
     rw [hi] at hb
     simp only [Option.map_some,Aa,Ab] at hb
     obtain⟨rfl,rfl⟩:=hb
     exact QA.binI hx hy hi hreq
   ·cases hb
 ·rename_i a b hx hy
  split at hb
  ·simp only [Aa,Ab] at hb
   obtain⟨rfl,rfl⟩:=hb
   exact QA.eqBool hreq hx hy
  ·simp only [Aa,Ab] at hb
   obtain⟨rfl,rfl⟩:=hb
   exact QA.neqBool hreq hx hy
  ·cases hb
 ·rename_i a b hx hy
  split at hb
  ·simp only [Aa,Ab] at hb
   obtain⟨rfl,rfl⟩:=hb
   exact QA.eqStr hx hy
  ·simp only [Aa,Ab] at hb
   obtain⟨rfl,rfl⟩:=hb
   exact QA.neqStr hx hy
  ·simp only [Aa,Ab] at hb
   obtain⟨rfl,rfl⟩:=hb
   exact QA.addStr hreq hx hy
  ·simp only [Aa,Ab] at hb
   obtain⟨rfl,rfl⟩:=hb
   exact QA.cmpStr (.inl ⟨rfl,rfl⟩) hx hy
  ·simp only [Aa,Ab] at hb
   obtain⟨rfl,rfl⟩:=hb
   exact QA.cmpStr (.inr (.inl ⟨rfl,rfl⟩)) hx hy
  ·simp only [Aa,Ab] at hb
   obtain⟨rfl,rfl⟩:=hb
   exact QA.cmpStr (.inr (.inr (.inl ⟨rfl,rfl⟩))) hx hy
  ·simp only [Aa,Ab] at hb
   obtain⟨rfl,rfl⟩:=hb
   exact QA.cmpStr (.inr (.inr (.inr ⟨rfl,rfl⟩))) hx hy
  ·cases hb
 ·rename_i c hx hy
  split at hb
  ·rename_i b hn hc
   simp only [Aa,Ab] at hb
   obtain⟨rfl,rfl⟩:=hb
   obtain rfl:=Qiq hn
   exact QA.eqNil hreq hx hc hy
  ·rename_i b hn hc
   simp only [Aa,Ab] at hb
   obtain⟨rfl,rfl⟩:=hb
   obtain rfl:=Qiq hn
   exact QA.neqNil hreq hx hc hy
  ·cases hb
 ·cases hb
theorem Qoi {t:TypeId} {a:Operand} {req:Prop} {r:AV} (hb:Qhf P t h (ρ a)=some (req,r)) (hreq:req):QA P h ρ (.load t a) r:=by
 unfold Qhf at hb
 split at hb
 ·rename_i m f ha
  split at hb
  ·rename_i n ht
   simp only [Aa,Ab] at hb
   obtain⟨rfl,rfl⟩:=hb
   exact QA.loadR ht (fun e=>by cases e) ha hreq
  ·rename_i ht
   simp only [Aa,Ab] at hb
   obtain⟨rfl,rfl⟩:=hb
   exact QA.loadR ht (fun _=>rfl) ha hreq
  ·cases hb
 ·rename_i g off ha
  split at hb
  ·rename_i ty m f n hg ht
   simp only [Aa,Ab] at hb
   obtain⟨rfl,rfl⟩:=hb
   exact QA.loadO ht (fun e=>by cases e) ha hg hreq
  ·rename_i ty m f hg ht
   simp only [Aa,Ab] at hb
   obtain⟨rfl,rfl⟩:=hb
   exact QA.loadO ht (fun _=>rfl) ha hg hreq
  ·cases hb
 ·cases hb
theorem Qco {nw:Bool} {op:Op} {req:Prop} {r:AV} (hk:∀v,ρ (.const v)=cst v) (hb:QaW P nw h ρ op=some (req,r)) (hreq:req):QA P h ρ op r:=by
 unfold QaW at hb
 split at hb
 ·simp only [Aa,Ab] at hb;obtain⟨rfl,rfl⟩:=hb;exact QA.move _
 ·simp only [Aa,Ab] at hb;obtain⟨rfl,rfl⟩:=hb;exact QA.assign _
 ·split at hb
  ·rename_i hc
   simp only [Aa,Ab] at hb;obtain⟨rfl,rfl⟩:=hb;exact QA.pick hc
  ·cases hb
 ·exact Qiv hk hb hreq
 ·split at hb
  ·rename_i hx
   simp only [Aa,Ab] at hb;obtain⟨rfl,rfl⟩:=hb;exact QA.not hx
  ·cases hb
 ·split at hb
  ·rename_i hx
   simp only [Aa,Ab] at hb;obtain⟨rfl,rfl⟩:=hb;exact QA.neg hx
  ·cases hb
 ·split at hb
  ·rename_i hs hd hx
   split at hb
   ·simp only [Aa,Ab] at hb;obtain⟨rfl,rfl⟩:=hb
    have:=QA.convert (h:=h) hs hd hx
    rwa [QN,XV hreq] at this
   ·simp only [Aa,Ab] at hb;obtain⟨rfl,rfl⟩:=hb;exact QA.convert hs hd hx
  ·cases hb
 ·split at hb
  ·rename_i i _ xs hx
   cases hi:xs[i]? with
   |none=>rw [hi] at hb;cases hb
   |some y=>
    rw [hi] at hb
    simp only [Option.map_some,Aa,Ab] at hb;obtain⟨rfl,rfl⟩:=hb;exact QA.extract hx hi
  ·cases hb
 ·split at hb
  ·rename_i ht hx
   simp only [Aa,Ab] at hb;obtain⟨rfl,rfl⟩:=hb;exact QA.makeInterface ht hx
  ·cases hb
 ·exact Qoi hb hreq
 ·exact Qeb hb hreq
 ·exact Qed hb hreq
 ·split at hb
  ·rename_i hx
   simp only [Aa,Ab] at hb;obtain⟨rfl,rfl⟩:=hb;exact QA.nilCheckO hx
  ·cases hb
 ·rename_i t x i
  unfold Qhh at hb
  split at hb
  ·rename_i g o hx
   cases hf:Qq P t i with
   |none=>rw [hf] at hb;cases hb
   |some off=>
    rw [hf] at hb
    simp only [Option.map_some,Aa,Ab] at hb;obtain⟨rfl,rfl⟩:=hb;exact QA.fieldO hf hx
  ·rename_i n f hx
   cases hf:Qq P t i with
   |none=>rw [hf] at hb;cases hb
   |some off=>
    rw [hf] at hb
    simp only [Option.map_some,Aa,Ab] at hb;obtain⟨rfl,rfl⟩:=hb;exact QA.fieldR hf hx hreq
  ·cases hb
 ·unfold Qhg at hb
  split at hb
  ·rename_i hx hix
   split at hb
   ·rename_i ht
    simp only [Aa,Ab] at hb;obtain⟨rfl,rfl⟩:=hb
    obtain⟨rfl,hz,h0,hl⟩:=hreq
    exact QA.indexR ht hx hix h0 hl hz
   ·cases hb
  ·rename_i hx hix
   split at hb
   ·rename_i ht
    simp only [Aa,Ab] at hb;obtain⟨rfl,rfl⟩:=hb
    obtain⟨rfl,h0,hl⟩:=hreq
    exact QA.indexO ht hx hix h0 hl
   ·cases hb
  ·cases hb
 ·split at hb
  ·rename_i x t _ _ _ c ht hx
   cases hn:Qbl c with
   |none=>rw [hn] at hb;cases hb
   |some n=>
    rw [hn] at hb
    simp only [Option.map_some,Aa,Ab] at hb;obtain⟨rfl,rfl⟩:=hb
    exact QA.lenS ht hx hn
  ·cases hb
 ·split at hb
  ·rename_i hx hy
   simp only [Aa,Ab] at hb;obtain⟨rfl,rfl⟩:=hb
   subst hreq
   exact QA.max2 hx hy
  ·cases hb
 ·split at hb
  ·rename_i hx hy
   simp only [Aa,Ab] at hb;obtain⟨rfl,rfl⟩:=hb
   subst hreq
   exact QA.min2 hx hy
  ·cases hb
 ·cases hb
theorem Qzd {E:Vl} {K:List It} {σ σ':Sl} {h:Qa} {all rest:List Oper} {o:Oper} (nw:Bool) {req:Prop} {r:AV} (hb:QaW E.P nw h (ev σ) o.op=some (req,r)) (hreq:req) (hσ:σ.setO o.dst r=σ')
  (hw:Qx all σ o=some true) (hd:Qw E.N o.dst=true) (k:aw E (.ops all rest::K) σ' h):aw E (.ops all (o::rest)::K) σ h:=
 QdL hw (Qco (fun _=>rfl) hb hreq) hd hσ k
end
section
noncomputable def UV (P:Program) (nw:Bool) (h:Qa) (all:List Oper):List Oper→Prop→Sl→Option (Prop×Sl)
 |[],q,σ=>some (q,σ)
 |o::rest,q,σ=>match Qx all σ o with
  |some true=>match QaW P nw h (ev σ) o.op with
   |some (q1,r)=>UV P nw h all rest (q∧q1) (σ.setO o.dst r)
   |none=>none
  |some false=>UV P nw h all rest q (σ.setO o.dst (.tup []))
  |none=>none
def QkO (N:Nat) (l:List Oper):Bool:=l.all fun o=>Qw N o.dst
section
variable {E : Vl} {K : List It} {σ σ' : Sl} {h : Qa} {all rest : List Oper} {o : Oper}
theorem Qei {P:Program} {nw:Bool}:∀(l:List Oper) (q:Prop) (σ σ':Sl) (q':Prop),UV P nw h all l q σ=some (q',σ')→q'→q
 |[],q,σ,σ',q',hr,hq=>by
  simp only [UV,Aa,Ab] at hr
  rw [hr.1];exact hq
 |o::l,q,σ,σ',q',hr,hq=>by
  unfold UV at hr
  split at hr
  ·split at hr
   ·exact(Qei l _ _ _ _ hr hq).1
   ·cases hr
  ·exact Qei l _ _ _ _ hr hq
  ·cases hr
theorem Qcp (nw:Bool):∀(l:List Oper) (q:Prop) (σ σ':Sl) (q':Prop),UV E.P nw h all l q σ=some (q',σ')→q'→QkO E.N l=true→aw E (.ops all rest::K) σ' h→aw E (.ops all (l++rest)::K) σ h
 |[],q,σ,σ',q',hr,_,_,k=>by
  simp only [UV,Aa,Ab] at hr
  rw [hr.2]
  exact k
 |o::l,q,σ,σ',q',hr,hq,hd,k=>by
  simp only [QkO,List.all_cons,Ba] at hd
  unfold UV at hr
  split at hr
  ·rename_i hw
   split at hr
   ·rename_i q1 r hp
    exact Qzd nw hp (Qei l _ _ _ _ hr hq).2 rfl hw hd.1 (Qcp nw l _ _ _ q' hr hq hd.2 k)
   ·cases hr
  ·rename_i hw
   exact Qee hw hd.1 rfl (Qcp nw l _ _ _ q' hr hq hd.2 k)
  ·cases hr
theorem QvK {id:Nat} {l:List Oper} (nw:Bool) {q:Prop} (hr:UV E.P nw h l l True σ=some (q,σ')) (hq:q) (hd:QkO E.N l=true) (k:aw E K σ' h):aw E (.code (.region id l.toArray false)::K) σ h:=
 Zd (by have:=Qcp (E:=E) (K:=K) (h:=h) (all:=l) (rest:=[]) nw l True σ σ' q hr hq hd (XA k);simpa using this)
def VL (f:Nat→CV) (off:Nat):List CV→Nat→CV
 |[]=>f
 |c::cs=>VL (fun j=>if j=off then c else f j) (off+1) cs
def putL (cs:Array Value) (k:Nat):List Value→Array Value
 |[]=>cs
 |u::us=>putL (cs.setIfInBounds k u) (k+1) us
theorem Qcq (us:List Value):∀(cs:Array Value) (k:Nat),(putL cs k us).size=cs.size:=by
 induction us with
 |nil=>intro cs k;rfl
 |cons u us ih=>intro cs k;simp [putL,ih]
theorem Qej {S:Bool→Nat→Prop} {w:World} {n:Nat}:∀(vs:List CV) (us:List Value) (cs:Array Value) (f:Nat→CV) (k:Nat),X4 S w vs us→n≤cs.size→(∀j,j<n→∃u,cs[j]?=some u∧XX S w (f j) u)→
  ∀j,j<n→∃u,(putL cs k us)[j]?=some u∧XX S w (VL f k vs j) u
 |[],[],cs,f,k,_,_,hc=>hc
 |c::vs,u::us,cs,f,k,hr,hn,hc=>by
  refine Qej vs us _ _ (k+1) hr.2 (by simpa using hn) (fun j hj=> ?_)
  by_cases e:j=k
  ·subst e
   exact⟨u,by simp [show j<cs.size from by omega],by simpa using hr.1⟩
  ·obtain⟨x,hx,hxr⟩:=hc j hj
   exact⟨x,by rw [Array.getElem?_setIfInBounds_ne (fun e'=>e e'.symm)];exact hx,by simpa [e] using hxr⟩
 |[],_::_,_,_,_,hr,_,_=>hr.elim
 |_::_,[],_,_,_,hr,_,_=>hr.elim
theorem JT {P:Program} {g:Nat} {ty:TypeId}:∀(us:List Value) (w:World) (cs:Array Value) (off i:Nat),w.heap[g]?=some (.cells cs ty (0,0))→off+i+us.length≤cs.size→(∀u∈us,u.oneCell'=true)→
  ∃w',(storeCells ⟨g,off,none⟩ us i).run P w=.ok () w'∧w'.heap[g]?=some (.cells (putL cs (off+i) us) ty (0,0))∧Fr (fun b=>b=g) w w'
 |[],w,cs,off,i,hb,_,_=>⟨w,by simp [storeCells],hb,Fr.refl _ _⟩
 |u::us,w,cs,off,i,hb,hl,h1=>by
  simp only [Lc] at hl
  have hc:w.cell? ⟨g,off+i,none⟩=some (cs[off+i]'om):=by rw [Zf hb];exact Array.getElem?_eq_getElem _
  have hz:w.frozen? ⟨g,off+i,none⟩=false:=by simp [World.frozen?,hb]
  have hb':(w.setCell ⟨g,off+i,none⟩ u).heap[g]?=some (.cells (cs.setIfInBounds (off+i) u) ty (0,0)):=by
   simp [World.setCell,Array.getElem?_modify,hb]
  obtain⟨w',hrun,hbl,hfr⟩:=JT us (w.setCell ⟨g,off+i,none⟩ u) _ off (i+1) hb' (by simp;omega) (fun x hx=>h1 x (Lm _ hx))
  refine⟨w',?_,by simpa [putL,Nat.add_assoc] using hbl,(Fr.setCell w _ u (own:=fun b=>b=g) rfl).trans hfr (fun x hx _=>hx)⟩
  simp only [storeCells,Sem.run_bind,ZP,run_store P w _ u _ (h1 u (by simp)),hc,hz]
  simpa using hrun
theorem St.setObj {N:Nat} {C:Vk} {a:Act} {w w':World} {g:Nat} {ob ob':XD} (s:St N C σ h a w) (hg:h.get g=some ob) (hfr:Fr (fun b=>b=g) w w') (ho:Y0 (QH C (h.set g ob') w') w' g ob'):
  St N C σ (h.set g ob') a w':=by
 have hgm:g∈h.keys:=List.mem_map.2 ⟨_,Qa.get_mem hg,rfl⟩
 have hk:(h.set g ob').keys=h.keys:=Qa.keys_set _ _ _
 have kp:YA (QH C h w) (QH C (h.set g ob') w') w w':=
  ⟨fun t b hb=>⟨hb.1,Ae hb.2.1 hfr.size,by rw [hk];exact hb.2.2⟩,fun t b hb=>hfr.block b hb.2.1 (fun e=>hb.2.2 (e▸hgm)),hfr.has⟩
 refine⟨s.size,s.defers,fun t=>VK.keep kp (s.slots t),fun g' o' hm=> ?_,by rw [hk];exact s.nodup,by rw [hk];exact s.keys,?_⟩
 ·rcases Qa.mem_set s.nodup hm with e|⟨hm',hne⟩
  ·cases e;exact ho
  ·have h1:=s.heap g' o' hm'
   exact Y0.keep kp (hfr.block g' h1.lt hne) h1
 ·refine s.frame.trans hfr (fun x hx hlt=> ?_)
  subst hx
  exact(s.keys _ hgm).resolve_right om
theorem KV {t g off m n:Nat} {ty:TypeId} {ag:Bool} {f:Nat→CV} {a x:Operand} {v:AV} {h':Qa} (hop:o.op=.store t a x) (hw:Qx all σ o=some true) (hd:Qw E.N o.dst=true) (hdn:o.dst=none) (ha:ev σ a=.c (.optr g off)) (hx:ev σ x=v)
  (hg:h.get g=some (.cells ty m f)) (ht:XN E.P t=some (ag,n)) (hnt:∀xs,v≠.tup xs) (hs:v.cells.all CV.solid=true) (hlen:v.cells.length=n) (hle:off+n≤m)
  (hh:h.set g (.cells ty m (VL f off v.cells))=h') (k:aw E (.ops all rest::K) σ h'):aw E (.ops all (o::rest)::K) σ h:=by
 subst hh
 refine V9 hw (fun ac w s=> ?_) k
 have h1:=QK s a
 have h2:=QK s x
 rw [ha] at h1
 rw [hx] at h2
 have h1':ac.eval a=.pointer (some ⟨g,off,none⟩):=h1
 obtain⟨hL,hone⟩:=Qaj hnt hs h2
 obtain⟨cs,hb,hn,hj⟩:=s.heap g _ (Qa.get_mem hg)
 have hus:(ac.eval x).cells.toList.length=n:=by rw [hL.length,hlen]
 obtain⟨w',hrun,hbl,hfr⟩:=JT (P:=E.P) (ac.eval x).cells.toList w cs off 0 hb om (fun u hu=>hone u (by simpa using hu))
 refine⟨undef,w',.inr ⟨?_,rfl⟩,?_⟩
 ·have hsz:(ac.eval x).cells.size=n:=by rw [←hus];simp
  simp only [execOp,hop,Instr.storeAt,Instr.sureAddr,h1',storeVar,Sem.run_bind,Sem.run_pure,Result.andThen_ok,(Qma ht w).2,hsz,ne_eq,not_true_eq_false,if_false,hrun]
 ·have e:ac.put o.dst undef=ac:=by rw [hdn];rfl
  rw [e]
  have hgm:g∈h.keys:=List.mem_map.2 ⟨_,Qa.get_mem hg,rfl⟩
  have hkk:(h.set g (.cells ty m (VL f off v.cells))).keys=h.keys:=Qa.keys_set _ _ _
  have kp:YA (QH E.C h w) (QH E.C (h.set g (.cells ty m (VL f off v.cells))) w') w w':=
   ⟨fun t b hb=>⟨hb.1,Ae hb.2.1 hfr.size,by rw [hkk];exact hb.2.2⟩,fun t b hb=>hfr.block b hb.2.1 (fun e=>hb.2.2 (e▸hgm)),hfr.has⟩
  refine s.setObj hg hfr ⟨_,hbl,by rw [Qcq];exact hn,?_⟩
  have:=Qej v.cells (ac.eval x).cells.toList cs f (off+0) (hL.keep kp) hn (fun j hjn=>by obtain⟨u,hu,hr⟩:=hj j hjn;exact⟨u,hu,hr.keep kp⟩)
  simpa using this
end
end
section
section
variable {E : Vl} {K : List It} {σ σ' : Sl} {h : Qa} {all rest : List Oper} {o : Oper}
theorem Qqi (us:List Value):∀(cs:Array Value) (k j:Nat),k+us.length≤cs.size→(putL cs k us)[j]?=if k≤j∧j<k+us.length then us[j-k]? else cs[j]?:=by
 induction us with
 |nil=>intro cs k j _;simp [putL];omega
 |cons u us ih=>
  intro cs k j hl
  simp only [Lc] at hl
  rw [putL,ih _ _ _ (by simp;omega)]
  by_cases h1:k+1≤j∧j<k+1+us.length
  ·rw [iP h1,iP (by simp;omega)]
   have:j-k=(j-(k+1))+1:=by omega
   rw [this];simp
  ·rw [iN h1]
   by_cases h2:j=k
   ·subst h2
    rw [iP (by simp)]
    simp [show j<cs.size from by omega]
   ·rw [iN (by simp;omega),Array.getElem?_setIfInBounds_ne (fun e=>h2 e.symm)]
theorem Qgf (us:List Value) (cs:Array Value) (hs:cs.size=us.length):putL cs 0 us=us.toArray:=by
 apply Array.ext_getElem?
 intro j
 rw [Qqi us cs 0 j om]
 by_cases hj:j<us.length
 ·rw [iP om];simp
 ·rw [iN om,Array.getElem?_eq_none om];simp;omega
theorem Qoj (us:List Value) (off:Nat):∀(cs:Array Value) (k:Nat),(us.zipIdx k).foldl (fun cs (p:Value×Nat)=>cs.setIfInBounds (off+p.2) p.1) cs=putL cs (off+k) us:=by
 induction us with
 |nil=>intro cs k;rfl
 |cons u us ih=>intro cs k;simp only [List.zipIdx_cons,List.foldl_cons,ih,putL,Nat.add_assoc]
theorem QkP (v:Value) (off:Nat) (cs:Array Value):v.cells.zipIdx.foldl (fun cs (c,j)=>cs.setIfInBounds (off+j) c) cs=putL cs off v.cells.toList:=by
 have:=Qoj v.cells.toList off cs 0
 rw [Nat.add_zero] at this
 rw [←this,←Array.foldl_toList]
 simp
def enumL:Nat→List Value→List (Nat×Value)
 |_,[]=>[]
 |k,v::vs=>(k,v)::enumL (k+1) vs
theorem Qiw (us vs:List Value):∀(cs:Array Value) (k:Nat),putL cs k (us++vs)=putL (putL cs k us) (k+us.length) vs:=by
 induction us with
 |nil=>intro cs k;simp [putL]
 |cons u us ih=>intro cs k;simp only [Lq,putL,ih,Lc];congr 1;omega
theorem Qek (size:Nat):∀(vs:List Value) (k:Nat) (cs:Array Value),(∀v∈vs,v.cells.size=size)→(k+vs.length)*size≤cs.size→
  Instr.fill (fun i=>some (i*size,size)) cs (enumL k vs)=some (putL cs (k*size) (vs.flatMap fun v=>v.cells.toList))
 |[],k,cs,_,_=>rfl
 |v::vs,k,cs,hv,hl=>by
  have h1:v.cells.size=size:=hv v (by simp)
  have h2:(k+(vs.length+1))*size=k*size+size+vs.length*size:=by rw [Nat.add_mul,Nat.add_mul];omega
  simp only [Lc] at hl
  simp only [enumL,Instr.fill]
  rw [iN (by simp only [h1,ne_eq,not_true_eq_false,decide_false,Bool.false_or,Dq];omega),QkP]
  rw [Qek size vs (k+1) _ (fun x hx=>hv x (Lm _ hx)) (by rw [Qcq];rw [show k+1+vs.length=k+(vs.length+1) from by omega];exact hl)]
  simp only [List.flatMap_cons,Qiw]
  congr 2
  rw [Nat.add_mul]
  simp [h1]
theorem X4.append {S:Bool→Nat→Prop} {w:World}:∀{xs ys:List CV} {us vs:List Value},X4 S w xs us→X4 S w ys vs→X4 S w (xs++ys) (us++vs)
 |[],_,[],_,_,h2=>h2
 |_::_,_,_::_,_,h1,h2=>⟨h1.1,X4.append h1.2 h2⟩
 |[],_,_::_,_,h1,_=>h1.elim
 |_::_,_,[],_,h1,_=>h1.elim
theorem Qcr {N:Nat} {C:Vk} {a:Act} {w:World} (s:St N C σ h a w) (size:Nat):∀(xs:List Operand),(∀x∈xs,(ev σ x).flat=true∧(ev σ x).cells.all CV.solid=true∧(ev σ x).cells.length=size)→
  X4 (QH C h w) w ((xs.map (ev σ)).flatMap AV.cells) ((xs.map a.eval).flatMap fun v=>v.cells.toList)∧∀v∈xs.map a.eval,v.cells.size=size
 |[],_=>⟨trivial,by simp⟩
 |x::xs,hx=>by
  obtain⟨h1,h2,h3⟩:=hx x (by simp)
  obtain⟨hL,_⟩:=Qaj (fun ys e=>by rw [e] at h1;cases h1) h2 (QK s x)
  obtain⟨r1,r2⟩:=Qcr s size xs (fun y hy=>hx y (Lm _ hy))
  refine⟨by simpa using hL.append r1,?_⟩
  intro v hv
  simp only [Ld,Lb] at hv
  rcases hv with rfl|hv
  ·have:=hL.length;rw [h3] at this;simpa using this
  ·exact r2 v hv
def Qdh:Nat→List Operand→List (Nat×Operand)
 |_,[]=>[]
 |k,v::vs=>(k,v)::Qdh (k+1) vs
theorem Qel (e:Operand→Value):∀(xs:List Operand) (k:Nat),(Qdh k xs).map (fun p=>(p.1,e p.2))=enumL k (xs.map e)
 |[],_=>rfl
 |_::xs,k=>by simp [Qdh,enumL,Qel e xs (k+1)]
theorem Qn {t e size bytes len:Nat} {xs:List Operand} {cells:List CV} (hop:o.op=.buildSlice t len (Qdh 0 xs).toArray) (hw:Qx all σ o=some true) (hd:Qw E.N o.dst=true) (ht:QR E.P t=some (e,size,bytes))
  (hz:(Qj E.P e).isSome=true) (hl:xs.length=len) (hsm:len*size≤16777216) (hlm:len≤16777216) (hx:∀x∈xs,(ev σ x).flat=true∧(ev σ x).cells.all CV.solid=true∧(ev σ x).cells.length=size) (hc:(xs.map (ev σ)).flatMap AV.cells=cells)
  (k:∀g,g∉h.keys→aw E (.ops all rest::K) (σ.setO o.dst (.c (.osl g size 0 len))) ((g,.cells e (len*size) (ofL cells))::h)):aw E (.ops all (o::rest)::K) σ h:=by
 subst hc
 refine UU (r:=fun g=>.c (.osl g size 0 len)) (ob:=.cells e (len*size) (ofL ((xs.map (ev σ)).flatMap AV.cells))) hw hd (fun a w s=> ?_) k
 obtain⟨hu,inf,hi,hsz,_⟩:=Xg ht
 obtain⟨z,hz'⟩:=Option.isSome_iff_exists.1 hz
 obtain⟨i',zv,hi',hzv,_⟩:=YI hz'
 rw [hi] at hi'
 injection hi' with hi'
 subst hi'
 obtain⟨hL,hcs⟩:=Qcr s size xs hx
 have hnk:w.heap.size∉h.keys:=fun hm=>Nat.lt_irrefl _ (s.klt hm)
 generalize hvs:xs.map a.eval=vs at hL hcs
 have hlv:vs.length=len:=by rw [←hvs];simpa using hl
 have hfl:(vs.flatMap fun v=>v.cells.toList).length=len*size:=by
  rw [←hlv]
  clear hL hvs hlv
  induction vs with
  |nil=>simp
  |cons v vs ih=>simp only [List.flatMap_cons,La,Lc,ih (fun x hx=>hcs x (Lm _ hx)),Nat.add_mul];have:=hcs v (by simp);simp [this];omega
 refine⟨.slice (some ⟨w.heap.size,0,none⟩) len len,w.alloc (.cells (vs.flatMap fun v=>v.cells.toList).toArray e),?_,Fr.alloc _ _ _,by simp,?_,?_⟩
 ·have hm:(Array.map (fun x:Nat×Operand=>(x.1,a.eval x.2)) (Qdh 0 xs).toArray).toList=enumL 0 vs:=by
   rw [←hvs,←Qel];simp
  have hfill:∀zc:Array Value,Instr.fill (fun i=>some (i*size,size)) ((Array.range (len*size)).map (fun x=>zc[x%zc.size]!)) (enumL 0 vs)=some (vs.flatMap fun v=>v.cells.toList).toArray:=fun zc=>by
   rw [Qek size vs 0 _ hcs (by simp [hlv])]
   rw [Nat.zero_mul,Qgf _ _ (by simp [hfl])]
  simp only [execOp,hop,Instr.buildSlice,Sem.run_bind,run_underlying hu,Result.andThen_ok,sizeOf,typeInfo,Sem.run_pure]
  simp only [run_program,hi,Result.andThen_ok,Sem.run_pure,hsz]
  rw [iN om]
  rw [hm]
  by_cases h0:len*size=0
  ·rw [iP h0]
   simp only [Sem.run_bind,Sem.run_pure,Result.andThen_ok,hfill]
   rfl
  ·rw [iN h0]
   simp only [Sem.run_bind,Sem.run_pure,Result.andThen_ok,zeroValue,typeInfo,run_program,hi,hzv,hfill]
   rfl
 ·have hr:=Wc (C:=E.C) (w:=w) (ty:=e) (h':=((w.heap.size,XD.cells e (len*size) (ofL ((xs.map (ev σ)).flatMap AV.cells)))::h)) (hL.keep (OM hnk))
  have hcl:((xs.map (ev σ)).flatMap AV.cells).length=len*size:=by rw [←hL.length,hfl]
  rw [hcl] at hr
  exact hr
 ·exact⟨len,rfl,Ac _,by unfold maxLen;omega,(vs.flatMap fun v=>v.cells.toList).toArray,e,⟨_,heap_alloc_new w _⟩,by simp [hfl]⟩
end
end
section
section
variable {E : Vl} {K : List It} {σ σ' : Sl} {h : Qa} {all rest : List Oper} {o : Oper}
theorem Qdi (l:List Value) (j:Nat) (hj:j<l.length) (S:Bool→Nat→Prop) (w:World):XX S w (ofL (l.map U7) j) (l[j]):=by
 rw [Qak (l.map U7) j (U7 l[j]) (by simp [hj])]
 exact U8 S w _
theorem Jt {t e size bytes n c:Nat} {z:List CV} {xl xc:Operand} {kl kc:IntKind} {nl nc:Int} (hop:o.op=.makeSlice t xl xc) (hw:Qx all σ o=some true) (hd:Qw E.N o.dst=true) (ht:QR E.P t=some (e,size,bytes))
  (hz:Qj E.P e=some z) (hzl:z.length=size) (hs0:0<size) (hl:ev σ xl=.c (.int kl nl)) (hc:ev σ xc=.c (.int kc nc)) (hn:nl=n) (hcn:nc=c) (hnc:n≤c) (hby:bytes*c≤281474976710656) (hc63:c≤9223372036854775807)
  (k:∀g,g∉h.keys→aw E (.ops all rest::K) (σ.setO o.dst (.c (.osl g size 0 n))) ((g,.cells e (c*size) (fun j=>ofL z (j%size)))::h)):aw E (.ops all (o::rest)::K) σ h:=by
 refine UU (r:=fun g=>.c (.osl g size 0 n)) (ob:=.cells e (c*size) (fun j=>ofL z (j%size))) hw hd (fun a w s=> ?_) k
 obtain⟨hu,inf,hi,hsz,hbb⟩:=Xg ht
 obtain⟨i',zv,hi',hzv,rfl⟩:=YI hz
 rw [hi] at hi'
 injection hi' with hi'
 subst hi'
 have h1:a.eval xl=.int kl n:=by have:=QK s xl;rw [hl,hn] at this;exact this
 have h2:a.eval xc=.int kc c:=by have:=QK s xc;rw [hc,hcn] at this;exact this
 have hb':(inf.bytes:Int)*(c:Int)≤281474976710656:=by
  have h:((inf.bytes*c:Nat):Int)≤281474976710656:=by rw [hbb];omega
  rwa [Int.natCast_mul] at h
 have hr:=run_make (P:=E.P) w t e inf zv hu hi hzv kl kc n c om om hb' om
 simp only [Int.toNat_natCast] at hr
 refine⟨.slice (some ⟨w.heap.size,0,none⟩) n c,w.alloc (.cells (madeCells zv.cells (c*inf.size)) e),?_,Fr.alloc _ _ _,by simp,?_,?_⟩
 ·simp only [execOp,hop,h1,h2,Sem.run_bind,hr,Result.andThen_ok]
  rfl
 ·refine⟨_,heap_alloc_new w _,by rw [size_madeCells,hsz];exact Ac _,fun j hj=> ?_⟩
  have hzs:zv.cells.size=size:=by simpa using hzl
  have hlt:j%size<zv.cells.size:=by rw [hzs];exact Nat.mod_lt _ hs0
  refine⟨zv.cells[j%size],?_,?_⟩
  ·have hlt':j%size<zv.cells.size:=hlt
   simp only [madeCells,hsz,hzs]
   simp [hj,hlt',getElem!_pos]
  ·exact Qdi zv.cells.toList (j%size) (by simpa using hlt) _ _
 ·exact⟨c,rfl,hnc,by unfold maxLen;omega,_,e,⟨_,heap_alloc_new w _⟩,by rw [size_madeCells,hsz];simp⟩
inductive Src (h:Qa) (size:Nat):CV→Nat→(Nat→CV)→Prop
 |nils {f:Nat→CV}:Src h size .nils 0 f
 |row {t:Bool} {n:Nat} {f:Nat→CV}:Src h size (.row t size n f) n f
 |osl {g off n m:Nat} {ty:TypeId} {f f':Nat→CV}:h.get g=some (.cells ty m f')→off+n*size≤m→(∀j,j<n*size→f j=f' (off+j))→Src h size (.osl g size off n) n f
theorem Src.cells {S:Bool→Nat→Prop} {w:World} {size n:Nat} {x:CV} {f:Nat→CV} {v:Value} (hh:∀g o,(g,o)∈h→Y0 S w g o) (hs:Src h size x n f) (hr:XX S w x v):
  ∃A c,v=.slice A n c∧(0<n*size→∃ad,A=some ad∧∀j,j<n*size→∃u,w.cell? (ad.add j)=some u∧XX S w (f j) u):=by
 cases hs with
 |nils=>obtain⟨A,hv⟩:=hr;exact⟨A,0,hv,fun h0=>by simp at h0⟩
 |row=>obtain⟨A,c,hv,_,hn⟩:=hr;exact⟨A,c,hv,fun h0=>by obtain⟨ad,hA,_,hj⟩:=hn h0;exact⟨ad,hA,hj⟩⟩
 | @osl g off n m ty f f' hg hle hf=>
   obtain⟨c,hv,_,_,_⟩:=hr
   obtain⟨cs,hb,hn,hj⟩:=hh _ _ (Qa.get_mem hg)
   refine⟨_,c,hv,fun _=>⟨_,rfl,fun j hjl=> ?_⟩⟩
   obtain⟨u,hu,hr⟩:=hj (off+j) om
   exact⟨u,by rw [ZP,Zf hb];exact hu,by rw [hf j hjl];exact hr⟩
theorem KP {S:Bool→Nat→Prop} {w:World} {ad:Addr} {f:Nat→CV}:∀(n:Nat),(∀j,j<n→∃u,w.cell? (ad.add j)=some u∧XX S w (f j) u)→
  ∃us:List Value,us.length=n∧(∀j u,us[j]?=some u→w.cell? (ad.add j)=some u∧XX S w (f j) u)
 |0,_=>⟨[],rfl,fun j u e=>by simp at e⟩
 |n+1,hc=>by
  obtain⟨us,hl,hu⟩:=KP n (fun j hj=>hc j om)
  obtain⟨u,h1,h2⟩:=hc n om
  refine⟨us++[u],by simp [hl],fun j x e=> ?_⟩
  rw [List.getElem?_append] at e
  split at e
  ·exact hu j x e
  ·rename_i hj
   have:j-us.length=0:=by
    rcases Nat.eq_zero_or_pos (j-us.length) with h0|h0
    ·exact h0
    ·rw [List.getElem?_eq_none (by simp;omega)] at e;cases e
   rw [this] at e
   simp at e
   subst e
   have hjn:j=n:=by omega
   subst hjn
   exact⟨h1,h2⟩
def Xq (f:Nat→CV) (m:Nat) (f2:Nat→CV) (j:Nat):CV:=if j<m then f j else f2 (j-m)
def Qa.del:Qa→Nat→Qa
 |[],_=>[]
 |(g',x)::h,g=>if g'=g then h else(g',x)::Qa.del h g
theorem Qa.del_sub (h:Qa) (g:Nat):(h.del g).Sublist h:=by
 induction h with
 |nil=>exact .slnil
 |cons p h ih=>
  obtain⟨g',x⟩:=p
  unfold Qa.del
  split
  ·exact Ls _ _
  ·exact ih.cons_cons _
theorem Qa.del_not (h:Qa) (g:Nat) (hn:h.keys.Nodup):g∉(h.del g).keys:=by
 induction h with
 |nil=>simp [Qa.del,Qa.keys]
 |cons p h ih=>
  obtain⟨g',x⟩:=p
  simp only [Qa.keys,Ld,List.nodup_cons] at hn
  unfold Qa.del
  split
  ·rename_i e;subst e;exact hn.1
  ·rename_i e
   simp only [Qa.keys,Ld,Lb,not_or]
   exact⟨fun e'=>e e'.symm,ih hn.2⟩
theorem Fr.setRow {w:World} {g:Nat} {cs cs':Array Value} {e:TypeId} (hg:w.heap[g]?=some (.cells cs e (0,0))) (hs:cs'.size=cs.size):Fr (fun b=>b=g) w (w.setRow g cs'):=by
 refine⟨rfl,rfl,rfl,by simp [World.setRow],Ac _,fun b _ hn=>setRow_other w g b cs' hn,fun g1 m hh=> ?_⟩
 obtain⟨c1,t1,⟨f1,h1⟩,h2⟩:=hh
 by_cases hne:g1=g
 ·subst hne
  rw [hg] at h1
  injection h1 with h1
  injection h1 with h1 h3
  subst h1
  exact⟨cs',e,⟨_,setRow_heap w g1 cs cs' e _ hg⟩,by rw [hs];exact h2⟩
 ·exact⟨c1,t1,⟨f1,(setRow_other w g g1 cs' hne).trans h1⟩,h2⟩
theorem QkQ {P:Program} {w:World} {t ty e size bytes n c k d g:Nat} {z:List CV} {cs:Array Value} {ad:Addr} {news:List Value} (ht:QR P t=some (e,size,bytes)) (hz:Qj P e=some z) (hzl:z.length=size)
  (hb:w.heap[g]?=some (.cells cs e (0,0))) (hcs:c*size≤cs.size) (hnc:n≤c) (hcm:c≤maxLen) (hnl:news.length=k*size) (hnews:∀j u,news[j]?=some u→w.cell? (ad.add j)=some u) (h1:∀u∈news,u.oneCell'=true)
  (h63:n+k≤maxLen) (hby:(n+k)*bytes≤140737488355328):
  ∃g' c' w' cs',(Builtin.append_ #[t,t] ty #[.slice (some ⟨g,0,none⟩) n c,.slice (some ad) k d]).run P w=.ok (.slice (some ⟨g',0,none⟩) (n+k) c') w'∧w'.heap[g']?=some (.cells cs' e (0,0))∧c'*size≤cs'.size∧n+k≤c'∧c'≤maxLen∧
   (∀j,j<n*size→cs'[j]?=cs[j]?)∧(∀j,j<k*size→cs'[n*size+j]?=news[j]?)∧(g'=g∨g'=w.heap.size)∧Fr (fun b=>b=g) w w':=by
 obtain⟨hu,inf,hi,hsz,hbb⟩:=Xg ht
 obtain⟨i',zv,hi',hzv,rfl⟩:=YI hz
 rw [hi] at hi'
 injection hi' with hi'
 subst hi'
 subst hsz
 subst hbb
 have hzs:zv.cells.size=inf.size:=by simpa using hzl
 have hmul:(n+k)*inf.size=n*inf.size+k*inf.size:=Nat.add_mul _ _ _
 have hns:n*inf.size≤cs.size:=Lt (Nm _ hnc) hcs
 have h63':n+k≤9223372036854775807:=by simp only [maxLen] at h63;omega
 by_cases hroom:n+k≤c
 ·have hfit:n*inf.size+news.length≤cs.size:=by rw [hnl,←Nat.add_mul];exact Lt (Nm _ hroom) hcs
  have hr:=run_append_room (P:=P) w t ty e inf hu hi g n c cs hb ad k d news hnl hnews h1 hroom hfit
  refine⟨g,c,_,_,hr,setRow_heap w g cs _ e _ hb,?_,hroom,hcm,fun j hj=> ?_,fun j hj=> ?_,.inl rfl,Fr.setRow hb ?_⟩
  ·refine Lt hcs ?_;simp only [List.size_toArray,La,List.length_take,List.length_drop,Array.length_toList];omega
  ·simp only [List.getElem?_toArray,Lo]
   rw [List.getElem?_append_left (by simp;omega),List.getElem?_take]
   simp [hj]
  ·simp only [List.getElem?_toArray,Lo]
   rw [List.getElem?_append_right (by simp;omega),List.getElem?_append_left (by simp;omega)]
   simp [Nat.min_eq_left hns]
  ·simp only [List.size_toArray,La,List.length_take,List.length_drop,Array.length_toList];omega
 ·have hold:∀j v,(cs.toList.take (n*inf.size))[j]?=some v→w.cell? ((⟨g,0,none⟩:Addr).add j)=some v:=by
   intro j v hv
   rw [ZP,Zf hb,Nz]
   rw [List.getElem?_take] at hv
   split at hv
   ·simpa using hv
   ·cases hv
  have hol:(cs.toList.take (n*inf.size)).length=n*inf.size:=by simp;omega
  have hr:=run_append_grow (P:=P) w t ty e inf zv hu hi hzv ⟨g,0,none⟩ n c _ hol hold ad k d news hnl hnews om om (growslice_fits om hby)
  have hge:=grownCap_ge w (n+k) c e
  refine⟨w.heap.size,_,_,_,hr,heap_alloc_new w.drew _,?_,hge,grownCap_le_maxLen w (n+k) c e h63,fun j hj=> ?_,fun j hj=> ?_,.inr rfl,?_⟩
  ·refine Nat.le_of_eq ?_
   simp only [Array.size_append,List.size_toArray,size_zeroCells,hzs,hol,hnl,←Nat.add_mul]
   congr 1
   omega
  ·rw [Array.append_assoc,Array.getElem?_append_left (by simp;omega)]
   simp [hj]
  ·rw [Array.append_assoc,Array.getElem?_append_right (by simp;omega),Array.getElem?_append_left (by simp;omega)]
   simp [Nat.min_eq_left hns]
  ·exact(Fr.drew (fun b=>b=g) w (w.drawn+1)).trans (Fr.alloc (fun _=>False) w.drew _) (fun x hx _=>hx.elim)
theorem Qem {P:Program} {w:World} {t ty e size bytes k d:Nat} {z:List CV} {A:Option Addr} {ad:Addr} {news:List Value} (ht:QR P t=some (e,size,bytes)) (hz:Qj P e=some z) (hzl:z.length=size)
  (hnl:news.length=k*size) (hnews:∀j u,news[j]?=some u→w.cell? (ad.add j)=some u) (hk:0<k) (h63:k≤maxLen) (hby:k*bytes≤140737488355328):
  ∃c' w' cs',(Builtin.append_ #[t,t] ty #[.slice A 0 0,.slice (some ad) k d]).run P w=.ok (.slice (some ⟨w.heap.size,0,none⟩) k c') w'∧w'.heap[w.heap.size]?=some (.cells cs' e (0,0))∧c'*size≤cs'.size∧k≤c'∧c'≤maxLen∧
   (∀j,j<k*size→cs'[j]?=news[j]?)∧Fr (fun _=>False) w w':=by
 obtain⟨hu,inf,hi,hsz,hbb⟩:=Xg ht
 obtain⟨i',zv,hi',hzv,rfl⟩:=YI hz
 rw [hi] at hi'
 injection hi' with hi'
 subst hi'
 subst hsz
 subst hbb
 have hzs:zv.cells.size=inf.size:=by simpa using hzl
 have h63':k≤9223372036854775807:=by simp only [maxLen] at h63;omega
 cases A with
 |none=>
  have hr:=run_append_nil (P:=P) w t ty e inf zv hu hi hzv ad k d news hnl hnews hk om om
  have hge:=grownCap_ge w k 0 e
  refine⟨_,_,_,hr,heap_alloc_new w.drew _,?_,hge,grownCap_le_maxLen w k 0 e h63,fun j hj=> ?_,?_⟩
  ·refine Nat.le_of_eq ?_
   simp only [Array.size_append,List.size_toArray,size_zeroCells,hzs,hnl,←Nat.add_mul]
   congr 1
   omega
  ·rw [Array.getElem?_append_left (by simp;omega)]
   simp
  ·exact(Fr.drew (fun _=>False) w (w.drawn+1)).trans (Fr.alloc (fun _=>False) w.drew _) (fun x hx _=>hx.elim)
 |some ad0=>
  have hr:=run_append_grow (P:=P) w t ty e inf zv hu hi hzv ad0 0 0 [] (by simp) (by simp) ad k d news hnl hnews om om (growslice_fits om (by simpa using hby))
  rw [Nz] at hr
  have hge:=grownCap_ge w k 0 e
  refine⟨_,_,_,hr,heap_alloc_new w.drew _,?_,hge,grownCap_le_maxLen w k 0 e h63,fun j hj=> ?_,?_⟩
  ·refine Nat.le_of_eq ?_
   simp only [Array.size_append,List.size_toArray,size_zeroCells,hzs,hnl,Lu,Nz,←Nat.add_mul]
   congr 1
   omega
  ·rw [Array.append_assoc,Array.getElem?_append_right (by simp),Array.getElem?_append_left (by simp;omega)]
   simp
  ·exact(Fr.drew (fun _=>False) w (w.drawn+1)).trans (Fr.alloc (fun _=>False) w.drew _) (fun x hx _=>hx.elim)
theorem St.replace {N:Nat} {C:Vk} {a:Act} {w w':World} {g g':Nat} {ob ob':XD} (s:St N C σ h a w) (hg:h.get g=some ob) (hfr:Fr (fun b=>b=g) w w') (hat:g'=g∨g'=w.heap.size)
  (ho:YA (QH C h w) (QH C ((g',ob')::h.del g) w') w w'→Y0 (QH C ((g',ob')::h.del g) w') w' g' ob'):St N C σ ((g',ob')::h.del g) a w'∧g'∉(h.del g).keys:=by
 have hgm:g∈h.keys:=List.mem_map.2 ⟨_,Qa.get_mem hg,rfl⟩
 have hsub:∀b,b∈(h.del g).keys→b∈h.keys:=fun b hb=>by
  obtain⟨p,hp,e⟩:=List.mem_map.1 hb
  exact List.mem_map.2 ⟨p,(Qa.del_sub h g).subset hp,e⟩
 have hglt:=s.klt hgm
 have hnot:g'∉(h.del g).keys:=by
  rcases hat with rfl|rfl
  ·exact Qa.del_not h _ s.nodup
  ·exact fun hm=>Nat.lt_irrefl _ (s.klt (hsub _ hm))
 have kp:YA (QH C h w) (QH C ((g',ob')::h.del g) w') w w':=by
  refine⟨fun t b hb=>⟨hb.1,Ae hb.2.1 hfr.size,?_⟩,fun t b hb=>hfr.block b hb.2.1 (fun e=>hb.2.2 (e▸hgm)),hfr.has⟩
  simp only [Qa.keys,Ld,Lb,not_or]
  refine⟨?_,fun hm=>hb.2.2 (hsub b hm)⟩
  rcases hat with rfl|rfl
  ·exact fun e=>hb.2.2 (e▸hgm)
  ·have:=hb.2.1;omega
 refine⟨⟨s.size,s.defers,fun t=>VK.keep kp (s.slots t),fun g1 o1 hm=> ?_,?_,fun g1 hg1=> ?_,?_⟩,hnot⟩
 ·simp only [Lb,Ab] at hm
  rcases hm with ⟨rfl,rfl⟩|hm
  ·exact ho kp
  ·have h1:=s.heap g1 o1 ((Qa.del_sub h g).subset hm)
   have hmk:g1∈(h.del g).keys:=List.mem_map.2 ⟨(g1,o1),hm,rfl⟩
   have hne:g1≠g:=fun e=>Qa.del_not h g s.nodup (e▸hmk)
   exact Y0.keep kp (hfr.block g1 h1.lt hne) h1
 ·simp only [Qa.keys,Ld,List.nodup_cons]
  exact⟨hnot,((Qa.del_sub h g).map _).nodup s.nodup⟩
 ·simp only [Qa.keys,Ld,Lb] at hg1
  rcases hg1 with rfl|hg1
  ·rcases hat with rfl|rfl
   ·exact s.keys _ hgm
   ·right;exact s.frame.size
  ·exact s.keys g1 (hsub _ hg1)
 ·refine s.frame.trans hfr (fun x hx hlt=> ?_)
  subst hx
  exact(s.keys _ hgm).resolve_right om
end
end
section
section
variable {E : Vl} {K : List It} {σ σ' : Sl} {h : Qa} {all rest : List Oper} {o : Oper}
theorem KW {P:Program} {o:Oper} {s x:Operand} {t:TypeId} {e:Operand→Value} {w w':World} {v:Value} (hop:o.op=.call {callee:=.builtin .append,args:= #[s,x],argTypes:= #[t,t]})
  (hr:(Builtin.append_ #[t,t] o.type #[e s,e x]).run P w=.ok v w'):(execOp e o).run P w=.ok (.value v) w':=by
 simp only [execOp,hop,resolve,invoke,Go.builtin,Sem.run_bind,Sem.run_pure,Result.andThen_ok,List.map_toArray,Ld,List.map_nil,hr]
theorem YC {t e size bytes n k m g:Nat} {z:List CV} {f f2:Nat→CV} {s x:Operand} {cx:CV} {h2:Qa} (hop:o.op=.call {callee:=.builtin .append,args:= #[s,x],argTypes:= #[t,t]}) (hw:Qx all σ o=some true) (hd:Qw E.N o.dst=true)
  (ht:QR E.P t=some (e,size,bytes)) (hz:Qj E.P e=some z) (hzl:z.length=size) (hs0:0<size) (hs:ev σ s=.c (.osl g size 0 n)) (hg:h.get g=some (.cells e m f)) (hm:n*size≤m) (hx:ev σ x=.c cx) (hsrc:Src h size cx k f2) (hsol:∀j,j<k*size→(f2 j).solid=true) (hk:0<k)
  (h63:n+k≤maxLen) (hby:(n+k)*bytes≤140737488355328) (hh2:h.del g=h2)
  (kk:∀g',g'∉h2.keys→aw E (.ops all rest::K) (σ.setO o.dst (.c (.osl g' size 0 (n+k)))) ((g',.cells e ((n+k)*size) (Xq f (n*size) f2))::h2)):aw E (.ops all (o::rest)::K) σ h:=fun a w st=>by
 subst hh2
 have r1:=QK st s
 have r2:=QK st x
 rw [hs] at r1
 rw [hx] at r2
 obtain⟨c,hv1,hnc,hcm,cs0,ty0,⟨_,hb0⟩,hcs0⟩:=r1
 obtain⟨cs,hb,hn,hj⟩:=st.heap g _ (Qa.get_mem hg)
 rw [hb] at hb0
 injection hb0 with hb0
 injection hb0 with hb0 _
 subst hb0
 obtain⟨A,d,hv2,hA⟩:=hsrc.cells st.heap r2
 obtain⟨ad,rfl,hc⟩:=hA (Nat.mul_pos hk hs0)
 obtain⟨news,hnl,hnews⟩:=KP (k*size) hc
 obtain⟨g',c',w',cs',hrun,hb',hcs',hle',hcm',hold,hnew,hat,hfr⟩:=QkQ (P:=E.P) (ty:=o.type) (d:=d) ht hz hzl hb (by simpa using hcs0) hnc hcm hnl (fun j u e=>(hnews j u e).1)
  (fun u hu'=>by
   obtain⟨j,hj',rfl⟩:=List.getElem_of_mem hu'
   exact Wb (hsol j om) (hnews j _ (Li hj')).2) h63 hby
 have hmul:(n+k)*size=n*size+k*size:=Nat.add_mul _ _ _
 have hsz':(n+k)*size≤cs'.size:=Lt (Nm _ hle') hcs'
 obtain⟨st',hnot⟩:=st.replace (ob':=.cells e ((n+k)*size) (Xq f (n*size) f2)) hg hfr hat (fun kp=>⟨cs',hb',hsz',fun j hjl=>by
  unfold Xq
  by_cases hjn:j<n*size
  ·rw [iP hjn,hold j hjn]
   obtain⟨u,hu,hr⟩:=hj j om
   exact⟨u,hu,hr.keep kp⟩
  ·rw [iN hjn]
   have hjk:j-n*size<k*size:=by omega
   have:=hnew (j-n*size) hjk
   rw [show n*size+(j-n*size)=j from by omega] at this
   rw [this]
   have hlt:j-n*size<news.length:=by omega
   exact⟨news[j-n*size],Li hlt,(hnews _ _ (Li hlt)).2.keep kp⟩⟩)
 have st2:=st'.put hd (r:=.c (.osl g' size 0 (n+k))) (v:=.slice (some ⟨g',0,none⟩) (n+k) c') ⟨c',rfl,hle',hcm',cs',e,⟨_,hb'⟩,by simp [hcs']⟩
 have hk':=kk g' hnot _ _ st2
 show wpList _ _ _ _ _ _
 unfold wpList
 rw [iP (st.wanted hw)]
 refine .inl ?_
 unfold Oper.wp
 rw [KW hop (by rw [hv1,hv2];exact hrun)]
 exact hk'
theorem WU {t e size bytes k:Nat} {z:List CV} {f2:Nat→CV} {s x:Operand} {cx:CV} (hop:o.op=.call {callee:=.builtin .append,args:= #[s,x],argTypes:= #[t,t]}) (hw:Qx all σ o=some true) (hd:Qw E.N o.dst=true)
  (ht:QR E.P t=some (e,size,bytes)) (hz:Qj E.P e=some z) (hzl:z.length=size) (hs0:0<size) (hs:ev σ s=.c .nils) (hx:ev σ x=.c cx) (hsrc:Src h size cx k f2) (hk:0<k)
  (h63:k≤maxLen) (hby:k*bytes≤140737488355328)
  (kk:∀g',g'∉h.keys→aw E (.ops all rest::K) (σ.setO o.dst (.c (.osl g' size 0 k))) ((g',.cells e (k*size) f2)::h)):aw E (.ops all (o::rest)::K) σ h:=by
 refine UU (r:=fun g=>.c (.osl g size 0 k)) (ob:=.cells e (k*size) f2) hw hd (fun a w st=> ?_) kk
 have r1:=QK st s
 have r2:=QK st x
 rw [hs] at r1
 rw [hx] at r2
 obtain⟨A0,hv1⟩:=r1
 obtain⟨A,d,hv2,hA⟩:=hsrc.cells st.heap r2
 obtain⟨ad,rfl,hc⟩:=hA (Nat.mul_pos hk hs0)
 obtain⟨news,hnl,hnews⟩:=KP (k*size) hc
 obtain⟨c',w',cs',hrun,hb',hcs',hle',hcm',hnew,hfr⟩:=Qem (P:=E.P) (ty:=o.type) (d:=d) ht hz hzl hnl (fun j u e=>(hnews j u e).1) hk h63 hby
 have hlt:w.heap.size<w'.heap.size:=(Array.getElem?_eq_some_iff.1 hb').1
 have hnk:w.heap.size∉h.keys:=fun hm=>Nat.lt_irrefl _ (st.klt hm)
 have kp:YA (QH E.C h w) (QH E.C ((w.heap.size,.cells e (k*size) f2)::h) w') w w':=
  ⟨fun t b hb=>⟨hb.1,Ae hb.2.1 hfr.size,by
   have:=hb.2.1
   simp only [Qa.keys,Ld,Lb,not_or]
   exact⟨by omega,hb.2.2⟩⟩,fun t b hb=>hfr.block b hb.2.1 (fun x=>x),hfr.has⟩
 refine⟨_,w',KW hop (by rw [hv1,hv2];exact hrun),hfr,hlt,⟨cs',hb',Lt (Nm _ hle') hcs',fun j hjl=> ?_⟩,c',rfl,hle',hcm',cs',e,⟨_,hb'⟩,by simp [hcs']⟩
 rw [hnew j hjl]
 have hl:j<news.length:=by omega
 exact⟨news[j],Li hl,(hnews _ _ (Li hl)).2.keep kp⟩
theorem Oo {P:Program} {t ty e size bytes n c d:Nat} {A B:Option Addr} {w:World} (ht:QR P t=some (e,size,bytes)) (hnc:n≤c):(Builtin.append_ #[t,t] ty #[.slice A n c,.slice B 0 d]).run P w=.ok (.slice A n c) w:=by
 obtain⟨hu,inf,hi,hsz,hbb⟩:=Xg ht
 cases A<;>cases B<;>simp [Builtin.append_,run_underlying hu,sizeOf,typeInfo,hi,Builtin.lenOf,Builtin.firstCells,loadCells,loadCellsFrom,hnc,storeCells]
def Qmn:CV→Bool
 |.nils=>true
 |.osl _ _ _ _=>true
 |_=>false
theorem VM {t e size bytes:Nat} {f2:Nat→CV} {s x:Operand} {cs cx:CV} (hop:o.op=.call {callee:=.builtin .append,args:= #[s,x],argTypes:= #[t,t]}) (hw:Qx all σ o=some true) (hd:Qw E.N o.dst=true)
  (ht:QR E.P t=some (e,size,bytes)) (hs:ev σ s=.c cs) (hsl:Qmn cs=true) (hx:ev σ x=.c cx) (hsrc:Src h size cx 0 f2) (hσ:σ.setO o.dst (.c cs)=σ')
  (kk:aw E (.ops all rest::K) σ' h):aw E (.ops all (o::rest)::K) σ h:=by
 subst hσ
 refine V9 hw (fun a w st=> ?_) kk
 have r1:=QK st s
 have r2:=QK st x
 rw [hs] at r1
 rw [hx] at r2
 obtain⟨B,d,hv2,_⟩:=hsrc.cells st.heap r2
 have hv1:∃A n c,a.eval s=.slice A n c∧n≤c:=by
  cases cs<;>simp only [Qmn,reduceCtorEq] at hsl
  ·obtain⟨A,hv⟩:=r1;exact⟨A,0,0,hv,Ac _⟩
  ·obtain⟨c,hv,hle,_⟩:=r1;exact⟨_,_,c,hv,hle⟩
 obtain⟨A,n,c,hv1,hnc⟩:=hv1
 refine⟨a.eval s,w,.inl (KW hop ?_),st.put hd r1⟩
 rw [hv1,hv2]
 exact Oo ht hnc
end
end
section
def looks (all:List Oper) (o:Oper):List Nat:=
 (o.op.operands.toList.filterMap fun|.tmp t=>some t|_=>none)++
 (match o.guard with
  |some (g,_)=>((all[g]?).bind (·.dst)).toList
  |none=>[])
def Qbo (o:Oper) (j:Nat):Bool:=o.after.any fun e=>e.on==j&&Region.binds .any e
def Qix (l:List Oper) (i:Nat) (o:Oper):Bool:=
 (o.after.all fun e=> !Region.binds .any e||decide (e.on<i))&&
 (l.zipIdx.all fun(p,j)=>match p.dst with
  |none=>true
  |some d=>(!(looks l o).contains d||(if j<i then Qbo o j else if i<j then Qbo p i else true))&&(j==i||o.dst !=some d))
def JU (l:List Oper):Bool:=l.zipIdx.all fun(o,i)=>Qix l i o
def Qcs (l:List Oper) (n:Nat):Bool:=l.zipIdx.all fun(o,i)=>decide (i<n)||(List.range i).all fun j=>Qbo o j
section
variable {E : Vl} {K : List It} {σ σ' : Sl} {h : Qa} {l : List Oper} {o : Oper}
def Ko (E:Vl) (h:Qa) (l:List Oper) (σ:Sl) (o:Oper) (r:AV):Prop:=
 Qw E.N o.dst=true∧∀(σ':Sl) (a:Act) (w:World) (Q:Exit→Act→World→Prop),(∀t∈looks l o,σ'.get t=σ.get t)→St E.N E.C σ' h a w→
  if Region.wanted o (yielded l.toArray a.tmps) then o.wp E.P a w (fun a' w'=>St E.N E.C (σ'.setO o.dst r) h a' w') Q else r=.tup []
theorem XI {σ':Sl} {x:Operand} (hx:x∈o.op.operands) (hs:∀t∈looks l o,σ'.get t=σ.get t):ev σ' x=ev σ x:=by
 cases x with
 |tmp t=>exact hs t (by
  unfold looks
  refine List.mem_append_left _ (List.mem_filterMap.2 ⟨.tmp t,by simpa using hx,rfl⟩))
 |const v=>rfl
 |global g=>rfl
 |func f=>rfl
theorem Xh {σ':Sl} (hs:∀t∈looks l o,σ'.get t=σ.get t):Qx l σ' o=Qx l σ o:=by
 unfold Qx
 cases hg:o.guard with
 |none=>rfl
 |some p=>
  obtain⟨j,want⟩:=p
  simp only
  cases hj:(l[j]?).bind (·.dst) with
  |none=>rfl
  |some t=>
   have:σ'.get t=σ.get t:=hs t (by unfold looks;rw [hg];simp [hj])
   simp only [this]
theorem Ko.pure {nw:Bool} {q:Prop} {r:AV} (hw:Qx l σ o=some true) (hb:QaW E.P nw h (ev σ) o.op=some (q,r)) (hq:q) (hd:Qw E.N o.dst=true):Ko E h l σ o r:=by
 refine⟨hd,fun σ' a w Q hs s=> ?_⟩
 rw [iP (s.wanted ((Xh hs).trans hw))]
 obtain⟨v,hrun,hr⟩:=Qco (fun _=>rfl) hb hq (QH E.C h w) w a.eval QH.mono' (fun x hx=>by rw [←XI hx hs];exact QK s x) s.heap
 unfold Oper.wp
 rw [hrun o rfl]
 exact s.put hd hr
theorem Ko.skip (hw:Qx l σ o=some false) (hd:Qw E.N o.dst=true):Ko E h l σ o (.tup []):=by
 refine⟨hd,fun σ' a w Q hs s=> ?_⟩
 rw [iN (by rw [s.wanted ((Xh hs).trans hw)];simp)]
theorem Ko.callC {f:FuncId} {xs:List Operand} {ts:Array TypeId} {args:List AV} {r:AV} (hf:ZZ E.C E.P f args r) (hop:o.op=.call {callee:=.value (.func f),args:=xs.toArray,argTypes:=ts}) (hw:Qx l σ o=some true) (hd:Qw E.N o.dst=true)
  (le:Us h (xs.map (ev σ)) args):Ko E h l σ o r:=by
 refine⟨hd,fun σ' a w Q hs s=> ?_⟩
 rw [iP (s.wanted ((Xh hs).trans hw))]
 have he:xs.map (ev σ')=xs.map (ev σ):=List.map_congr_left fun x hx=>XI (by rw [hop];simp [Op.operands,Call.operands,hx]) hs
 unfold Oper.wp
 have hrun:(execOp a.eval o).run E.P w=.ok (.enter f (xs.map a.eval).toArray) w:=by
  simp only [execOp,hop,resolve,Act.eval,Deferred.ofValue,invoke,Sem.run_bind]
  have:=hf.1.run (#[]++(Array.map a.eval xs.toArray)++ #[]) w
  simp only [Sem.run_pure,Result.andThen_ok]
  rw [show((xs.map a.eval).toArray)=(#[]++(Array.map a.eval xs.toArray)++ #[]) from by simp]
  exact this
 rw [hrun]
 show Calls _ _ _ _ _
 refine(hf.2 s (by rw [he];exact le)).mono ?_
 rintro e w' ⟨v,rfl,hr,hfr⟩
 exact(s.later hfr).put hd hr
theorem Ko.call {f:FuncId} {xs:List Operand} {ts:Array TypeId} {args:List AV} {r:AV} (hf:Fa E.P f args r) (hop:o.op=.call {callee:=.value (.func f),args:=xs.toArray,argTypes:=ts}) (hw:Qx l σ o=some true) (hd:Qw E.N o.dst=true)
 (le:Us h (xs.map (ev σ)) args):Ko E h l σ o r:=Ko.callC hf.toC hop hw hd le
def sigL:List (Oper×AV)→List Bool→Sl→Sl
 |(o,r)::ps,b::bs,σ=>sigL ps bs (if b then σ.setO o.dst r else σ)
 |_,_,σ=>σ
theorem YR (σ:Sl) (d:Option Nat) (r:AV) (t:Nat):(σ.setO d r).get t=if d=some t then r else σ.get t:=by
 cases d with
 |none=>simp [Sl.setO]
 |some d=>simp [Sl.setO,Sl.get_set]
theorem XC:∀(ps:List (Oper×AV)) (bs:List Bool) (σ:Sl) (t:Nat),(∀(j:Nat) (p:Oper×AV),ps[j]?=some p→bs[j]?=some true→p.1.dst≠some t)→(sigL ps bs σ).get t=σ.get t
 |[],_,_,_,_=>by simp [sigL]
 |_::_,[],_,_,_=>by simp [sigL]
 |(o,r)::ps,b::bs,σ,t,hn=>by
  simp only [sigL]
  rw [XC ps bs _ t (fun j p hp hb=>hn (j+1) p (by simpa using hp) (by simpa using hb))]
  cases b with
  |false=>rfl
  |true=>
   rw [iP rfl,YR,iN]
   exact hn 0 (o,r) rfl rfl
theorem XQ:∀(ps:List (Oper×AV)) (bs:List Bool) (σ:Sl) (t i:Nat) (o:Oper) (r:AV),ps[i]?=some (o,r)→bs[i]?=some true→o.dst=some t→(∀(j:Nat) (p:Oper×AV),j≠i→ps[j]?=some p→p.1.dst≠some t)→(sigL ps bs σ).get t=r
 |[],_,_,_,_,_,_,hp,_,_,_=>by simp at hp
 |_::_,[],_,_,_,_,_,_,hb,_,_=>by simp at hb
 |(o',r')::ps,b::bs,σ,t,0,o,r,hp,hb,ho,hn=>by
  simp only [List.getElem?_cons_zero,Aa,Ab] at hp hb
  obtain⟨rfl,rfl⟩:=hp
  subst hb
  simp only [sigL]
  rw [XC ps bs _ t (fun j p hp _=>hn (j+1) p om (by simpa using hp)),iP trivial,YR,iP ho]
 |(o',r')::ps,b::bs,σ,t,i+1,o,r,hp,hb,ho,hn=>by
  simp only [sigL]
  exact XQ ps bs _ t i o r (by simpa using hp) (by simpa using hb) ho (fun j p hj hp=>hn (j+1) p om (by simpa using hp))
inductive Dr (E:Vl) (h:Qa) (l:List Oper):List (Oper×AV)→Sl→Sl→Prop
 |nil {σ:Sl}:Dr E h l [] σ σ
 |cons {o:Oper} {r:AV} {ps:List (Oper×AV)} {σ σ':Sl}:Ko E h l σ o r→Dr E h l ps (σ.setO o.dst r) σ'→Dr E h l ((o,r)::ps) σ σ'
theorem Dr.at_ {ps:List (Oper×AV)} (d:Dr E h l ps σ σ'):∀(i:Nat) (o:Oper) (r:AV),ps[i]?=some (o,r)→Ko E h l (sigL ps ((List.range ps.length).map fun j=>decide (j<i)) σ) o r:=by
 induction d with
 |nil=>intro i o r hp;simp at hp
 | @cons o' r' ps σ σ' hc _ ih=>
   intro i o r hp
   simp only [Lc,List.range_succ_eq_map,Ld,List.map_map,sigL]
   cases i with
   |zero=>
    simp only [List.getElem?_cons_zero,Aa,Ab] at hp
    obtain⟨rfl,rfl⟩:=hp
    have:∀(ps:List (Oper×AV)) (n:Nat) (σ:Sl),sigL ps ((List.range n).map ((fun j=>decide (j<0))∘Nat.succ)) σ=σ:=by
     intro ps
     induction ps with
     |nil=>intro n σ;simp [sigL]
     |cons p ps ih2=>
      intro n σ
      cases n with
      |zero=>simp [sigL]
      |succ n=>
       obtain⟨q,r⟩:=p
       simp only [List.range_succ_eq_map,Ld,List.map_map,sigL]
       simp only [Function.comp,Nat.not_lt_zero,decide_false] at ih2⊢
       exact ih2 n σ
    simp only [Nat.lt_irrefl,decide_false]
    rw [this]
    exact hc
   |succ i=>
    have:=ih i o r (by simpa using hp)
    have e:((fun j=>decide (j<i+1))∘Nat.succ)=fun j=>decide (j<i):=by funext j;simp [Function.comp]
    rw [e]
    simpa using this
theorem Dr.end_ {ps:List (Oper×AV)} (d:Dr E h l ps σ σ'):σ'=sigL ps ((List.range ps.length).map fun _=>true) σ:=by
 induction d with
 |nil=>rfl
 | @cons o' r' ps σ σ' _ _ ih=>
   simp only [Lc,List.range_succ_eq_map,Ld,List.map_map,sigL,if_true]
   exact ih
theorem YD {listed:Array Bool} {i:Nat} (hs:listed.size=l.length):i∈Region.ready .any l.toArray listed↔i<l.length∧listed.getD i false=false∧∀o,l[i]?=some o→∀e∈o.after,Region.binds .any e=true→listed.getD e.on false=true:=by
 unfold Region.ready
 simp only [List.mem_filter,List.mem_range,List.size_toArray,Ba,Bool.not_eq_true']
 constructor
 ·rintro ⟨hi,h1,h2⟩
  refine⟨hi,?_,fun o ho e he hb=> ?_⟩
  ·simp only [Array.getD,hs,hi,dif_pos] at h1⊢;exact h1
  ·rw [show l.toArray[i]?=some o from by simpa using ho] at h2
   simp only [Option.map_some,Option.getD_some,Array.all_eq_true] at h2
   obtain⟨j,hj,rfl⟩:=Array.getElem_of_mem he
   have:=h2 j hj
   rw [hb] at this
   simpa using this
 ·rintro ⟨hi,h1,h2⟩
  refine⟨hi,?_,?_⟩
  ·simp only [Array.getD,hs,hi,dif_pos] at h1⊢;exact h1
  ·have ho:l[i]?=some l[i]:=Li hi
   rw [show l.toArray[i]?=some l[i] from by simp [hi]]
   simp only [Option.map_some,Option.getD_some,Array.all_eq_true]
   intro j hj
   have:=h2 _ ho l[i].after[j] (Array.getElem_mem hj)
   cases hb:Region.binds .any l[i].after[j] with
   |false=>simp
   |true=>simp [this hb]
theorem Qiy (hok:JU l=true) {i:Nat} {o:Oper} (ho:l[i]?=some o):Qix l i o=true:=by
 unfold JU at hok
 rw [List.all_eq_true] at hok
 have:=hok (o,i) (by rw [List.mem_zipIdx_iff_getElem?];exact ho)
 exact this
theorem Wf (hok:JU l=true) {i:Nat} {o:Oper} (ho:l[i]?=some o) {e:Edge} (he:e∈o.after) (hb:Region.binds .any e=true):e.on<i:=by
 have:=Qiy hok ho
 unfold Qix at this
 simp only [Ba,Array.all_eq_true] at this
 obtain⟨j,hj,rfl⟩:=Array.getElem_of_mem he
 have:=this.1 j hj
 rw [hb] at this
 simpa using this
theorem Z5 (hok:JU l=true) {i j d:Nat} {o p:Oper} (ho:l[i]?=some o) (hp:l[j]?=some p) (hd:p.dst=some d):
  (d∈looks l o→(j<i→Qbo o j=true)∧(i<j→Qbo p i=true))∧(j≠i→o.dst≠some d):=by
 have:=Qiy hok ho
 unfold Qix at this
 simp only [Ba,List.all_eq_true] at this
 have h2:=this.2 (p,j) (by rw [List.mem_zipIdx_iff_getElem?];exact hp)
 simp only [hd,Ba,Bool.or_eq_true,Bool.not_eq_true',List.contains_eq_mem,decide_eq_false_iff_not,beq_iff_eq,bne_iff_ne] at h2
 refine⟨fun hm=> ?_,fun hne=>h2.2.resolve_left hne⟩
 have h3:=h2.1.resolve_left (fun hn=>hn hm)
 exact⟨fun hlt=>by rw [iP hlt] at h3;exact h3,fun hlt=>by rw [iN om,iP hlt] at h3;exact h3⟩
theorem ZB {o:Oper} {j:Nat} (he:Qbo o j=true):∃e∈o.after,e.on=j∧Region.binds .any e=true:=by
 unfold Qbo at he
 rw [Array.any_eq_true] at he
 obtain⟨i,hi,h1⟩:=he
 simp only [Ba,beq_iff_eq] at h1
 exact⟨_,Array.getElem_mem hi,h1.1,h1.2⟩
theorem Qgg {n:Nat} (ht:Qcs l n=true) {i:Nat} {o:Oper} (ho:l[i]?=some o) (hn:n≤i) {j:Nat} (hj:j<i):Qbo o j=true:=by
 unfold Qcs at ht
 rw [List.all_eq_true] at ht
 have:=ht (o,i) (by rw [List.mem_zipIdx_iff_getElem?];exact ho)
 simp only [Bool.or_eq_true,Dq,List.all_eq_true,List.mem_range] at this
 exact this.resolve_left om j hj
theorem getD_set {listed:Array Bool} {i j:Nat} (hi:i<listed.size):(listed.setIfInBounds i true).getD j false=if j=i then true else listed.getD j false:=by
 by_cases h:j=i
 ·subst h;simp [Array.getD,hi]
 ·rw [iN h,Array.getD_eq_getD_getElem?,Array.getD_eq_getD_getElem?,Array.getElem?_setIfInBounds_ne (fun e=>h e.symm)]
theorem Qiz {n:Nat} (hok:JU l=true) (ht:Qcs l n=true) {Q:Exit→Act→World→Prop}:∀(fuel i:Nat) (listed:Array Bool) (a:Act) (w:World),n≤i→i+fuel=l.length→listed.size=l.length→(∀j,j<l.length→listed.getD j false=decide (j<i))→
  wpList E.P l.toArray Q (l.drop i) a w→wpAny E.P .any l.toArray Q fuel listed a w
 |0,i,listed,a,w,_,hf,hs,hl,k=>by
  have:l.drop i=[]:=List.drop_eq_nil_of_le om
  rw [this] at k
  refine⟨?_,k⟩
  rw [List.eq_nil_iff_forall_not_mem]
  intro j hj
  obtain⟨h1,h2,_⟩:=(YD hs).1 hj
  rw [hl j h1] at h2
  simp at h2
  omega
 |fuel+1,i,listed,a,w,hn,hf,hs,hl,k=>by
  have hi:i<l.length:=by omega
  have ho:l[i]?=some l[i]:=Li hi
  have hready:i∈Region.ready .any l.toArray listed:=(YD hs).2 ⟨hi,by rw [hl i hi];simp,fun o ho' e he hb=>by
   have:=Wf hok ho' he hb
   rw [hl e.on om];simpa using this⟩
  refine⟨fun e=>by rw [e] at hready;simp at hready,fun j hj=> ?_⟩
  obtain⟨h1,h2,h3⟩:=(YD hs).1 hj
  have hji:j=i:=by
   rw [hl j h1] at h2
   simp only [decide_eq_false_iff_not,Nat.not_lt] at h2
   rcases Nat.lt_or_ge i j with hlt|hge
   ·obtain⟨e,he,hon,hb⟩:=ZB (Qgg ht (Li h1) om hlt)
    have:=h3 _ (Li h1) e he hb
    rw [hon,hl i hi] at this
    simp at this
   ·omega
  subst hji
  rw [List.drop_eq_getElem_cons hi] at k
  unfold wpOp
  rw [show l.toArray[j]?=some l[j] from by simp [hi]]
  have hstep:∀a w,wpList E.P l.toArray Q (l.drop (j+1)) a w→wpAny E.P .any l.toArray Q fuel (listed.setIfInBounds j true) a w:=fun a w k'=>
   Qiz hok ht fuel (j+1) _ a w om om (by simpa using hs) (fun q hq=>by
    rw [getD_set om,hl q hq]
    by_cases h:q=j
    ·subst h;simp
    ·rw [iN h];congr 1;simp;omega) k'
  simp only [wpList] at k
  simp only
  split
  ·rename_i hw
   rw [iP hw] at k
   exact k.imp (Oper.wp_mono hstep) id
  ·rename_i hw
   rw [iN hw] at k
   exact hstep _ _ k
def KX (n:Nat) (listed:Array Bool):List Bool:=(List.range n).map fun j=>listed.getD j false
theorem X8 {n:Nat} {listed:Array Bool} {j:Nat} (hj:j<n):(KX n listed)[j]?=some (listed.getD j false):=by simp [KX,hj]
def unl (L:Nat→Bool):Nat→Nat
 |0=>0
 |n+1=>unl L n+cond (L n) 0 1
theorem Qgh {L L':Nat→Bool}:∀n,(∀j,j<n→L j=L' j)→unl L n=unl L' n
 |0,_=>rfl
 |n+1,hc=>by simp only [unl,Qgh n (fun j hj=>hc j om),hc n om]
theorem QdM {L:Nat→Bool}:∀n,0<unl L n→∃j,j<n∧L j=false∧∀q,q<j→L q=true
 |0,hp=>by simp [unl] at hp
 |n+1,hp=>by
  rcases Nat.eq_zero_or_pos (unl L n) with h0|h0
  ·refine⟨n,by omega,?_,?_⟩
   ·simp only [unl,h0] at hp
    cases hL:L n with
    |false=>rfl
    |true=>rw [hL] at hp;simp at hp
   ·intro q hq
    cases hL:L q with
    |true=>rfl
    |false=>
     have:∀m,q<m→0<unl L m:=by
      intro m
      induction m with
      |zero=>intro h;omega
      |succ m ih=>
       intro h
       simp only [unl]
       rcases Nat.lt_or_ge q m with h1|h1
       ·have:=ih h1;omega
       ·have:q=m:=by omega
        subst this;rw [hL];simp
     have:=this n hq
     omega
  ·obtain⟨j,h1,h2,h3⟩:=QdM n h0
   exact⟨j,by omega,h2,h3⟩
theorem Qbp {L:Nat→Bool}:∀n,unl L n=0→∀j,j<n→L j=true
 |0,_,j,hj=>by omega
 |n+1,hz,j,hj=>by
  simp only [unl] at hz
  rcases Nat.lt_or_ge j n with h1|h1
  ·exact Qbp n om j h1
  ·have:j=n:=by omega
   subst this
   cases hL:L j with
   |true=>rfl
   |false=>rw [hL] at hz;simp at hz
theorem QdN {L:Nat→Bool} {i:Nat}:∀n,i<n→L i=false→unl (fun j=>if j=i then true else L j) n+1=unl L n
 |0,hi,_=>by omega
 |n+1,hi,hL=>by
  simp only [unl]
  rcases Nat.lt_or_ge i n with h1|h1
  ·have:=QdN n h1 hL
   have hx:(if n=i then true else L n)=L n:=iN om
   simp only [hx]
   omega
  ·have:i=n:=by omega
   subst this
   rw [Qgh (L':=L) i (fun j hj=>by rw [iN om])]
   simp [hL]
theorem Qqj {n:Nat} {ps:List (Oper×AV)} (hok:JU l=true) (ht:Qcs l n=true) (hn:n≤l.length) (hps:ps.map (·.1)=l.take n) (d:Dr E h l ps σ σ') {Q:Exit→Act→World→Prop}
  (k:∀a w,St E.N E.C σ' h a w→wpList E.P l.toArray Q (l.drop n) a w):∀(u:Nat) (listed:Array Bool) (a:Act) (w:World),unl (fun j=>listed.getD j false) n=u→listed.size=l.length→
  (∀i o,l[i]?=some o→listed.getD i false=true→∀e∈o.after,Region.binds .any e=true→listed.getD e.on false=true)→(∀j,n≤j→j<l.length→listed.getD j false=false)→
  St E.N E.C (sigL ps (KX n listed) σ) h a w→wpAny E.P .any l.toArray Q (u+(l.length-n)) listed a w:=by
 have hpl:ps.length=n:=by have:=congrArg List.length hps;simp at this;omega
 have hpi:∀(j:Nat) (p:Oper×AV),ps[j]?=some p→l[j]?=some p.1∧j<n:=by
  intro j p hp
  have hj:j<ps.length:=(List.getElem?_eq_some_iff.1 hp).1
  have h1:(ps.map (·.1))[j]?=some p.1:=by simp [hp]
  rw [hps,List.getElem?_take] at h1
  split at h1
  ·exact⟨h1,by omega⟩
  ·cases h1
 intro u
 induction u with
 |zero=>
  intro listed a w hu hs _ htl st
  have hall:=Qbp n hu
  rw [Nz]
  refine Qiz hok ht (l.length-n) n listed a w (Ac _) om hs (fun j hj=> ?_) (k a w ?_)
  ·rcases Nat.lt_or_ge j n with h1|h1
   ·rw [hall j h1];simp [h1]
   ·rw [htl j h1 hj];simp;omega
  ·have e:KX n listed=(List.range ps.length).map fun _=>true:=by
    unfold KX
    rw [hpl]
    exact List.map_congr_left fun j hj=>hall j (by simpa using hj)
   rw [d.end_,←e]
   exact st
 |succ u ih=>
  intro listed a w hu hs hcl htl st
  rw [show u+1+(l.length-n)=(u+(l.length-n))+1 from by omega]
  obtain⟨j0,hj0,hj1,hj2⟩:=QdM (L:=fun j=>listed.getD j false) n om
  have hready:j0∈Region.ready .any l.toArray listed:=(YD hs).2 ⟨by omega,hj1,fun o ho e he hb=>hj2 _ (Wf hok ho he hb)⟩
  refine⟨fun e=>by rw [e] at hready;simp at hready,fun i hi=> ?_⟩
  obtain⟨h1,h2,h3⟩:=(YD hs).1 hi
  have ho:l[i]?=some l[i]:=Li h1
  have hin:i<n:=by
   rcases Nat.lt_or_ge i n with hlt|hge
   ·exact hlt
   ·obtain⟨e,he,hon,hb⟩:=ZB (Qgg ht ho hge (show j0<i from by omega))
    have:=h3 _ ho e he hb
    rw [hon] at this
    rw [hj1] at this
    cases this
  have hpi':ps[i]?=some ps[i]:=Li om
  obtain⟨hp1,_⟩:=hpi i _ hpi'
  rw [ho] at hp1
  injection hp1 with hp1
  obtain⟨hd,hc⟩:=d.at_ i ps[i].1 ps[i].2 hpi'
  have hsame:∀t∈looks l ps[i].1,(sigL ps (KX n listed) σ).get t=(sigL ps ((List.range ps.length).map fun j=>decide (j<i)) σ).get t:=by
   intro t htl'
   by_cases hex:∃(j:Nat) (p:Oper×AV),ps[j]?=some p∧j<i∧p.1.dst=some t
   ·obtain⟨j,p,hp,hji,hdt⟩:=hex
    obtain⟨hlp,hjn⟩:=hpi j p hp
    have huniq:∀(j':Nat) (p':Oper×AV),j'≠j→ps[j']?=some p'→p'.1.dst≠some t:=fun j' p' hne hp'=>
     (Z5 hok (hpi j' p' hp').1 hlp hdt).2 (fun e=>hne e.symm)
    obtain⟨e,he,hon,hb⟩:=ZB (((Z5 hok (by rw [←hp1];exact ho) hlp hdt).1 htl').1 hji)
    have hlj:listed.getD j false=true:=by rw [←hon];exact h3 _ ho e (by rw [hp1];exact he) hb
    rw [XQ ps _ σ t j p.1 p.2 hp (by rw [X8 hjn,hlj]) hdt huniq,
     XQ ps _ σ t j p.1 p.2 hp (by simp [show j<ps.length from by omega,hji]) hdt huniq]
   ·rw [XC ps _ σ t (fun j p hp hb hdt=> ?_),XC ps _ σ t (fun j p hp hb hdt=> ?_)]
    ·have hjl:j<ps.length:=(List.getElem?_eq_some_iff.1 hp).1
     simp [hjl] at hb
     exact hex ⟨j,p,hp,hb,hdt⟩
    ·obtain⟨hlp,hjn⟩:=hpi j p hp
     rw [X8 hjn] at hb
     injection hb with hb
     rcases Nat.lt_trichotomy j i with hlt|heq|hgt
     ·exact hex ⟨j,p,hp,hlt,hdt⟩
     ·subst heq;rw [h2] at hb;cases hb
     ·obtain⟨e,he,hon,hb'⟩:=ZB (((Z5 hok (by rw [←hp1];exact ho) hlp hdt).1 htl').2 hgt)
      have:=hcl j _ hlp hb e he hb'
      rw [hon,h2] at this
      cases this
  have hnext:∀a' w',St E.N E.C ((sigL ps (KX n listed) σ).setO ps[i].1.dst ps[i].2) h a' w'→wpAny E.P .any l.toArray Q (u+(l.length-n)) (listed.setIfInBounds i true) a' w':=by
   intro a' w' st'
   have his:i<listed.size:=by omega
   refine ih _ a' w' ?_ (by simpa using hs) (fun q o hq hlq e he hb=> ?_) (fun j hj hjl=> ?_) ?_
   ·have hfun:(fun j=>(listed.setIfInBounds i true).getD j false)=fun j=>if j=i then true else listed.getD j false:=funext fun j=>getD_set his
    rw [hfun]
    have:=QdN (L:=fun j=>listed.getD j false) n hin h2
    omega
   ·rw [getD_set his] at hlq⊢
    by_cases hqi:q=i
    ·subst hqi
     by_cases hei:e.on=q
     ·rw [iP hei]
     ·rw [iN hei];exact h3 o hq e he hb
    ·rw [iN hqi] at hlq
     have:=hcl q o hq hlq e he hb
     by_cases hei:e.on=i
     ·rw [iP hei]
     ·rw [iN hei];exact this
   ·rw [getD_set his,iN om];exact htl j hj hjl
   ·refine St.weak st' (fun t=>.inr ?_) (Lr _)
    rw [YR]
    by_cases hdt:ps[i].1.dst=some t
    ·rw [iP hdt]
     have huniq:∀(j':Nat) (p':Oper×AV),j'≠i→ps[j']?=some p'→p'.1.dst≠some t:=fun j' p' hne hp'=>
      (Z5 hok (hpi j' p' hp').1 (hpi i _ hpi').1 hdt).2 (fun e=>hne e.symm)
     exact XQ ps _ σ t i ps[i].1 ps[i].2 hpi' (by rw [X8 hin,getD_set his,iP rfl]) hdt huniq
    ·rw [iN hdt]
     by_cases hex:∃(j:Nat) (p:Oper×AV),ps[j]?=some p∧listed.getD j false=true∧p.1.dst=some t
     ·obtain⟨j,p,hp,hlj,hdt'⟩:=hex
      obtain⟨hlp,hjn⟩:=hpi j p hp
      have huniq:∀(j':Nat) (p':Oper×AV),j'≠j→ps[j']?=some p'→p'.1.dst≠some t:=fun j' p' hne hp'=>
       (Z5 hok (hpi j' p' hp').1 hlp hdt').2 (fun e=>hne e.symm)
      rw [XQ ps _ σ t j p.1 p.2 hp (by rw [X8 hjn,getD_set his];split<;>first|rfl|rw [hlj]) hdt' huniq,
       XQ ps _ σ t j p.1 p.2 hp (by rw [X8 hjn,hlj]) hdt' huniq]
     ·rw [XC ps _ σ t (fun j p hp hb hdt'=> ?_),XC ps _ σ t (fun j p hp hb hdt'=> ?_)]
      ·obtain⟨_,hjn⟩:=hpi j p hp
       rw [X8 hjn] at hb
       injection hb with hb
       exact hex ⟨j,p,hp,hb,hdt'⟩
      ·obtain⟨_,hjn⟩:=hpi j p hp
       rw [X8 hjn,getD_set his] at hb
       injection hb with hb
       split at hb
       ·rename_i hji;subst hji;rw [hpi'] at hp;injection hp with hp;subst hp;exact hdt hdt'
       ·exact hex ⟨j,p,hp,hb,hdt'⟩
  have hcalm:=hc _ a w Q hsame st
  unfold wpOp
  rw [show l.toArray[i]?=some l[i] from by simp [h1]]
  simp only
  rw [hp1]
  split
  ·rename_i hw
   rw [iP hw] at hcalm
   exact .inl (Oper.wp_mono hnext hcalm)
  ·rename_i hw
   rw [iN hw] at hcalm
   have st2:=st.put hd (r:=.tup []) (v:=undef) ⟨[],rfl,trivial⟩
   rw [←hcalm] at st2
   exact hnext _ _ st2
theorem Qtk {id:Nat} (n:Nat) {ps:List (Oper×AV)} (hm:E.P.follows .mixedOrders=true) (hok:(JU l&&Qcs l n&&decide (n≤l.length))=true) (hps:ps.map (·.1)=l.take n) (d:Dr E h l ps σ σ') (k:aw E (.ops l (l.drop n)::K) σ' h):
  aw E (.code (.region id l.toArray true)::K) σ h:=fun a w s=>by
 simp only [Ba,Dq] at hok
 refine wp_region_any hm ?_
 have s':=s.later (Fr.drew (fun _=>False) w (w.drawn+1))
 have e0:∀j,(Array.replicate l.length false).getD j false=false:=fun j=>by
  rw [Array.getD_eq_getD_getElem?]
  simp only [Array.getElem?_replicate]
  split<;>rfl
 have hun:∀m,unl (fun j=>(Array.replicate l.length false).getD j false) m=m:=by
  intro m
  induction m with
  |zero=>rfl
  |succ m ih=>rw [unl,ih,e0];rfl
 have:=Qqj (Q:=exW E K) hok.1.1 hok.1.2 hok.2 hps d (fun a w st=>k a w st) n (Array.replicate l.length false) a {w with drawn:=w.drawn+1} (hun n) (by simp) (fun i o _ hl=>by rw [e0] at hl;cases hl) (fun j _ _=>e0 j) (by
  refine s'.weak (fun t=>.inr ?_) (Lr _)
  rw [XC ps _ σ t (fun j p hp hb=> ?_)]
  exfalso
  have hjl:j<ps.length:=(List.getElem?_eq_some_iff.1 hp).1
  have hpl:ps.length=n:=by have:=congrArg List.length hps;simp at this;omega
  rw [X8 om,e0] at hb
  cases hb)
 rw [show n+(l.length-n)=l.length from by omega] at this
 simpa using this
def YE (E:Vl) (h:Qa) (l:List Oper) (K:List It) (k:Nat) (rest:List Oper) (σ:Sl):Prop:=
 ∃ps σ',ps.map (·.1)=rest.take k∧Dr E h l ps σ σ'∧aw E (.ops l (rest.drop k)::K) σ' h
theorem Xv {id:Nat} (n:Nat) (hm:E.P.follows .mixedOrders=true) (hok:(JU l&&Qcs l n&&decide (n≤l.length))=true) (k:YE E h l K n l σ):aw E (.code (.region id l.toArray true)::K) σ h:=by
 obtain⟨ps,σ',h1,h2,h3⟩:=k
 exact Qtk n hm hok h1 h2 h3
theorem Qtl {rest:List Oper} (k:aw E (.ops l rest::K) σ h):YE E h l K 0 rest σ:=⟨[],σ,by simp,.nil,by simpa using k⟩
theorem Wg {rest:List Oper} {n:Nat} {r:AV} (hc:Ko E h l σ o r) (k:YE E h l K n rest (σ.setO o.dst r)):YE E h l K (n+1) (o::rest) σ:=by
 obtain⟨ps,σ',h1,h2,h3⟩:=k
 exact⟨(o,r)::ps,σ',by simp [h1],.cons hc h2,by simpa using h3⟩
theorem Qbq {rest:List Oper} {n:Nat} {f:FuncId} {xs:List Operand} {ts:Array TypeId} {args:List AV} {r:AV} (hf:Fa E.P f args r) (hop:o.op=.call {callee:=.value (.func f),args:=xs.toArray,argTypes:=ts}) (hw:Qx l σ o=some true) (hd:Qw E.N o.dst=true)
 (le:Us h (xs.map (ev σ)) args) (k:YE E h l K n rest (σ.setO o.dst r)):YE E h l K (n+1) (o::rest) σ:=Wg (Ko.call hf hop hw hd le) k
theorem Qok {rest:List Oper} {n:Nat} {f:FuncId} {xs:List Operand} {ts:Array TypeId} {args:List AV} {r:AV} (hf:ZZ E.C E.P f args r) (hop:o.op=.call {callee:=.value (.func f),args:=xs.toArray,argTypes:=ts}) (hw:Qx l σ o=some true) (hd:Qw E.N o.dst=true)
 (le:Us h (xs.map (ev σ)) args) (k:YE E h l K n rest (σ.setO o.dst r)):YE E h l K (n+1) (o::rest) σ:=Wg (Ko.callC hf hop hw hd le) k
end
end
end Go.AI
