/- Parts of one proof, laid by a program. -/
import Derived.Test.YtpcpaekpnfkhhaaGreatDoorM00
import Derived.WalkKit
import Derived.Deep.LoopGhost
import Derived.Maps.AppendAt
import Derived.WideLaws
set_option linter.unusedSimpArgs false
set_option linter.unusedVariables false
set_option maxRecDepth 100000
set_option maxHeartbeats 12800000
namespace Go.AI
inductive CV where
 |any
 |int (k:IntKind) (n:Int)
 |bool (b:Bool)
 |str (s:ByteArray)
 |nilI
 |nils
 |ifc (t:TypeId) (x:CV)
 |row (t:Bool) (size n:Nat) (f:Nat→CV)
 |osl (g size off n:Nat)
 |optr (g off:Nat)
 |rptr (n:Nat) (f:Nat→CV)
 |raw (v:Value)
inductive AV where
 |c (x:CV)
 |agg (cs:List CV)
 |tup (xs:List AV)
def Has (w:World) (g m:Nat):Prop:=∃cs ty,(∃fr,w.heap[g]?=some (.cells cs ty fr))∧m≤cs.size
def RepC (S:Bool→Nat→Prop) (w:World):CV→Value→Prop
 |.any,_=>True
 |.int k n,v=>v=.int k n
 |.bool b,v=>v=.bool b
 |.str s,v=>v=.string s
 |.nilI,v=>v=.nilIface
 |.nils,v=>∃A,v=.slice A 0 0
 |.ifc t x,v=>∃u,v=.iface t u∧RepC S w x u
 |.row t size n f,v=>∃A c,v=.slice A n c∧n≤c∧(0<n*size→∃ad,A=some ad∧S t ad.block∧∀j,j<n*size→∃u,w.cell? (ad.add j)=some u∧RepC S w (f j) u)
 |.osl g size off n,v=>∃c,v=.slice (some ⟨g,off,none⟩) n c∧n≤c∧c≤maxLen∧Has w g (off+c*size)
 |.optr g off,v=>v=.pointer (some ⟨g,off,none⟩)
 |.rptr n f,v=>∃ad,v=.pointer (some ad)∧S false ad.block∧∀j,j<n→∃u,w.cell? (ad.add j)=some u∧RepC S w (f j) u
 |.raw u,v=>v=u
def RepL (S:Bool→Nat→Prop) (w:World):List CV→List Value→Prop
 |[],[]=>True
 |c::cs,u::us=>RepC S w c u∧RepL S w cs us
 |_,_=>False
def Rep0 (S:Bool→Nat→Prop) (w:World):AV→Value→Prop
 |.c x,v=>RepC S w x v
 |.agg cs,v=>∃us:List Value,v=.agg us.toArray∧RepL S w cs us
 |.tup _,_=>False
def RepT (S:Bool→Nat→Prop) (w:World):List AV→List Value→Prop
 |[],[]=>True
 |c::cs,u::us=>Rep0 S w c u∧RepT S w cs us
 |_,_=>False
def Rep (S:Bool→Nat→Prop) (w:World):AV→Value→Prop
 |.tup xs,v=>∃us:List Value,v=.tuple us.toArray∧RepT S w xs us
 |x,v=>Rep0 S w x v
structure Keeps (S:Bool→Nat→Prop) (S':Bool→Nat→Prop) (w w':World):Prop where
 set:∀t b,S t b→S' t b
 block:∀t b,S t b→w'.heap[b]?=w.heap[b]?
 has:∀g m,Has w g m→Has w' g m
theorem Keeps.cell {S S':Bool→Nat→Prop} {w w':World} (h:Keeps S S' w w') {t:Bool} {p:Addr} (hp:S t p.block):w'.cell? p=w.cell? p:=
 World.cell?_of_block (w:=w) (h.block t p.block hp)
theorem block_add (a:Addr) (n:Nat):(a.add n).block=a.block:=by unfold Addr.add;split<;>rfl
theorem add_add (a:Addr) (i j:Nat):(a.add i).add j=a.add (i+j):=by
 unfold Addr.add
 by_cases hi:i=0<;>by_cases hj:j=0<;>simp [hi,hj,Nat.add_assoc]
theorem add_mk (g o n:Nat):(⟨g,o,none⟩:Addr).add n=⟨g,o+n,none⟩:=by unfold Addr.add;split<;>simp_all
theorem RepC.keep {S S':Bool→Nat→Prop} {w w':World} (h:Keeps S S' w w'):∀{x:CV} {v:Value},RepC S w x v→RepC S' w' x v:=by
 intro x
 induction x with
 |any=>intro v _;trivial
 |int k n=>intro v hr;exact hr
 |bool b=>intro v hr;exact hr
 |str s=>intro v hr;exact hr
 |nilI=>intro v hr;exact hr
 |nils=>intro v hr;exact hr
 |ifc t x ih=>intro v hr;obtain⟨u,hu,hx⟩:=hr;exact⟨u,hu,ih hx⟩
 |row t size n f ih=>
  intro v hr
  obtain⟨A,c,hv,hc,hn⟩:=hr
  refine⟨A,c,hv,hc,fun h0=> ?_⟩
  obtain⟨ad,hA,hS,hj⟩:=hn h0
  refine⟨ad,hA,h.set _ _ hS,fun j hjl=> ?_⟩
  obtain⟨u,hu,hf⟩:=hj j hjl
  exact⟨u,(h.cell (t:=t) (by rw [block_add];exact hS)).trans hu,ih j hf⟩
 |osl g size off n=>intro v hr;obtain⟨c,hv,hc,hm,hh⟩:=hr;exact⟨c,hv,hc,hm,h.has _ _ hh⟩
 |optr g off=>intro v hr;exact hr
 |rptr n f ih=>
  intro v hr
  obtain⟨ad,hv,hS,hj⟩:=hr
  refine⟨ad,hv,h.set _ _ hS,fun j hjl=> ?_⟩
  obtain⟨u,hu,hf⟩:=hj j hjl
  exact⟨u,(h.cell (t:=false) (by rw [block_add];exact hS)).trans hu,ih j hf⟩
 |raw u=>intro v hr;exact hr
theorem RepL.keep {S S':Bool→Nat→Prop} {w w':World} (h:Keeps S S' w w'):∀{cs:List CV} {us:List Value},RepL S w cs us→RepL S' w' cs us
 |[],[],_=>trivial
 |_::_,_::_,hr=>⟨RepC.keep h hr.1,RepL.keep h hr.2⟩
 |[],_::_,hr=>hr.elim
 |_::_,[],hr=>hr.elim
theorem Rep0.keep {S S':Bool→Nat→Prop} {w w':World} (h:Keeps S S' w w') {x:AV} {v:Value} (hr:Rep0 S w x v):Rep0 S' w' x v:=by
 cases x with
 |c x=>exact RepC.keep h hr
 |agg cs=>obtain⟨us,hv,hu⟩:=hr;exact⟨us,hv,RepL.keep h hu⟩
 |tup xs=>exact hr.elim
theorem RepT.keep {S S':Bool→Nat→Prop} {w w':World} (h:Keeps S S' w w'):∀{cs:List AV} {us:List Value},RepT S w cs us→RepT S' w' cs us
 |[],[],_=>trivial
 |_::_,_::_,hr=>⟨Rep0.keep h hr.1,RepT.keep h hr.2⟩
 |[],_::_,hr=>hr.elim
 |_::_,[],hr=>hr.elim
theorem Rep.keep {S S':Bool→Nat→Prop} {w w':World} (h:Keeps S S' w w') {x:AV} {v:Value} (hr:Rep S w x v):Rep S' w' x v:=by
 cases x with
 |c x=>exact Rep0.keep h (x:=.c x) hr
 |agg cs=>exact Rep0.keep h (x:=.agg cs) hr
 |tup xs=>obtain⟨us,hv,hu⟩:=hr;exact⟨us,hv,RepT.keep h hu⟩
theorem RepL.length {S:Bool→Nat→Prop} {w:World}:∀{cs:List CV} {us:List Value},RepL S w cs us→us.length=cs.length
 |[],[],_=>rfl
 |_::_,_::_,hr=>by simp [RepL.length hr.2]
 |[],_::_,hr=>hr.elim
 |_::_,[],hr=>hr.elim
theorem RepL.get {S:Bool→Nat→Prop} {w:World}:∀{cs:List CV} {us:List Value},RepL S w cs us→∀(j:Nat) (c:CV),cs[j]?=some c→∃u,us[j]?=some u∧RepC S w c u
 |[],[],_,j,c,hc=>by simp at hc
 |a::_,b::_,hr,0,c,hc=>by simp at hc;subst hc;exact⟨b,rfl,hr.1⟩
 |_::_,_::_,hr,j+1,c,hc=>by simp at hc⊢;exact RepL.get hr.2 j c hc
 |[],_::_,hr,_,_,_=>hr.elim
 |_::_,[],hr,_,_,_=>hr.elim
inductive AObj where
 |cells (ty:TypeId) (n:Nat) (f:Nat→CV)
 |gen (R:Obj→Prop)
 |vals (R:List Value→Obj→Prop) (xs:List AV)
abbrev Heap:=List (Nat×AObj)
def ORep (S:Bool→Nat→Prop) (w:World) (g:Nat):AObj→Prop
 |.cells ty n f=>∃cs,w.heap[g]?=some (.cells cs ty (0,0))∧n≤cs.size∧∀j,j<n→∃u,cs[j]?=some u∧RepC S w (f j) u
 |.gen R=>∃o,w.heap[g]?=some o∧R o
 |.vals R xs=>∃o us,w.heap[g]?=some o∧RepT S w xs us∧R us o
theorem ORep.lt {S:Bool→Nat→Prop} {w:World} {g:Nat} {o:AObj} (h:ORep S w g o):g<w.heap.size:=by
 cases o with
 |cells ty n f=>obtain⟨cs,hc,_⟩:=h;exact(Array.getElem?_eq_some_iff.1 hc).1
 |gen R=>obtain⟨o,hc,_⟩:=h;exact(Array.getElem?_eq_some_iff.1 hc).1
 |vals R xs=>obtain⟨o,us,hc,_⟩:=h;exact(Array.getElem?_eq_some_iff.1 hc).1
theorem ORep.keep {S S':Bool→Nat→Prop} {w w':World} (h:Keeps S S' w w') {g:Nat} {o:AObj} (hb:w'.heap[g]?=w.heap[g]?) (hr:ORep S w g o):ORep S' w' g o:=by
 cases o with
 |cells ty n f=>
  obtain⟨cs,hc,hn,hj⟩:=hr
  exact⟨cs,hb.trans hc,hn,fun j hjl=>by obtain⟨u,hu,hf⟩:=hj j hjl;exact⟨u,hu,RepC.keep h hf⟩⟩
 |gen R=>obtain⟨o,hc,hR⟩:=hr;exact⟨o,hb.trans hc,hR⟩
 |vals R xs=>obtain⟨o,us,hc,hu,hR⟩:=hr;exact⟨o,us,hb.trans hc,RepT.keep h hu,hR⟩
structure Fr (own:Nat→Prop) (w w':World):Prop where
 os:w'.os=w.os
 tape:w'.tape=w.tape
 output:w'.output=w.output
 size:w.heap.size≤w'.heap.size
 drawn:w.drawn≤w'.drawn
 block:∀b,b<w.heap.size→¬own b→w'.heap[b]?=w.heap[b]?
 has:∀g m,Has w g m→Has w' g m
theorem Fr.refl (own:Nat→Prop) (w:World):Fr own w w:=⟨rfl,rfl,rfl,Nat.le_refl _,Nat.le_refl _,fun _ _ _=>rfl,fun _ _ h=>h⟩
theorem Fr.trans {own own':Nat→Prop} {a b c:World} (h:Fr own a b) (k:Fr own' b c) (hk:∀x,own' x→x<a.heap.size→own x):Fr own a c:=
 ⟨k.os.trans h.os,k.tape.trans h.tape,k.output.trans h.output,Nat.le_trans h.size k.size,Nat.le_trans h.drawn k.drawn,
  fun x hx hn=>(k.block x (Nat.lt_of_lt_of_le hx h.size) (fun ho=>hn (hk x ho hx))).trans (h.block x hx hn),fun g m hh=>k.has g m (h.has g m hh)⟩
theorem Has.lt {w:World} {g m:Nat} (h:Has w g m):g<w.heap.size:=by
 obtain⟨cs,ty,⟨_,hc⟩,_⟩:=h
 exact(Array.getElem?_eq_some_iff.1 hc).1
theorem Fr.alloc (own:Nat→Prop) (w:World) (o:Obj):Fr own w (w.alloc o):=by
 have hb:∀b,b<w.heap.size→(w.alloc o).heap[b]?=w.heap[b]?:=fun b hb=>RowKit.Below.heap_alloc w o b hb
 exact⟨rfl,rfl,rfl,by simp,Nat.le_refl _,fun b hb' _=>hb b hb',fun g m hh=>by
  have hl:=hh.lt
  obtain⟨cs,ty,⟨fr,hc⟩,hs⟩:=hh
  exact⟨cs,ty,⟨fr,(hb g hl).trans hc⟩,hs⟩⟩
theorem Fr.drew (own:Nat→Prop) (w:World) (n:Nat) (hd:w.drawn≤n:=by omega):Fr own w {w with drawn:=n}:=⟨rfl,rfl,rfl,Nat.le_refl _,hd,fun _ _ _=>rfl,fun _ _ h=>h⟩
theorem Fr.setCell {own:Nat→Prop} (w:World) (p:Addr) (u:Value) (hp:own p.block):Fr own w (w.setCell p u):=by
 refine⟨rfl,rfl,rfl,by simp [World.setCell],Nat.le_refl _,fun b _ hn=>RowKit.Below.heap_setCell w p u b (fun e=>hn (e▸hp)),fun g m hh=> ?_⟩
 obtain⟨cs,ty,⟨fr,hc⟩,hs⟩:=hh
 by_cases hg:g=p.block
 ·subst hg
  refine⟨if p.spot.isSome then cs else cs.setIfInBounds p.off u,ty,⟨fr,?_⟩,?_⟩
  ·simp [World.setCell,Array.getElem?_modify,hc]
  ·split<;>simp [hs]
 ·exact⟨cs,ty,⟨fr,(RowKit.Below.heap_setCell w p u g hg).trans hc⟩,hs⟩
end Go.AI
namespace Go.AI
abbrev Sl:=List (Nat×AV)
def Sl.get:Sl→Nat→AV
 |[],_=>.c .any
 |(t',x)::σ,t=>if t'=t then x else Sl.get σ t
def Sl.set:Sl→Nat→AV→Sl
 |[],t,v=>[(t,v)]
 |(t',x)::σ,t,v=>if t'=t then(t,v)::σ else(t',x)::Sl.set σ t v
def Sl.setO (σ:Sl):Option Nat→AV→Sl
 |some d,v=>σ.set d v
 |none,_=>σ
theorem Sl.get_set (σ:Sl) (t:Nat) (v:AV) (t':Nat):(σ.set t v).get t'=if t=t' then v else σ.get t':=by
 induction σ with
 |nil=>simp [Sl.set,Sl.get]
 |cons p σ ih=>
  obtain⟨s,x⟩:=p
  by_cases h:s=t
  ·subst h;simp only [Sl.set,if_true,Sl.get];split<;>rfl
  ·simp only [Sl.set,h,if_false,Sl.get,ih]
   by_cases h1:s=t'
   ·subst h1;simp [h,Ne.symm h]
   ·simp [h1]
def Heap.keys (h:Heap):List Nat:=h.map (·.1)
def Heap.get:Heap→Nat→Option AObj
 |[],_=>none
 |(g',x)::h,g=>if g'=g then some x else Heap.get h g
theorem Heap.get_mem {h:Heap} {g:Nat} {o:AObj} (e:h.get g=some o):(g,o)∈h:=by
 induction h with
 |nil=>simp [Heap.get] at e
 |cons p h ih=>
  obtain⟨g',x⟩:=p
  unfold Heap.get at e
  split at e
  ·rename_i hg;subst hg;injection e with e;subst e;simp
  ·exact List.mem_cons_of_mem _ (ih e)
def Heap.set:Heap→Nat→AObj→Heap
 |[],_,_=>[]
 |(g',x)::h,g,o=>if g'=g then(g',o)::h else(g',x)::Heap.set h g o
theorem Heap.keys_set (h:Heap) (g:Nat) (o:AObj):(h.set g o).keys=h.keys:=by
 induction h with
 |nil=>rfl
 |cons p h ih=>
  obtain⟨g',x⟩:=p
  unfold Heap.set
  split<;>simp_all [Heap.keys]
theorem Heap.mem_set {h:Heap} {g:Nat} {o:AObj} {q:Nat×AObj} (hn:h.keys.Nodup) (hq:q∈h.set g o):(q=(g,o)∨(q∈h∧q.1≠g)):=by
 induction h with
 |nil=>simp [Heap.set] at hq
 |cons p h ih=>
  obtain⟨g',x⟩:=p
  simp only [Heap.keys,List.map_cons,List.nodup_cons] at hn
  unfold Heap.set at hq
  split at hq
  ·rename_i e
   subst e
   simp only [List.mem_cons] at hq
   rcases hq with rfl|hq
   ·exact .inl rfl
   ·refine .inr ⟨List.mem_cons_of_mem _ hq,fun e=>hn.1 ?_⟩
    rw [←e];exact List.mem_map.2 ⟨q,hq,rfl⟩
  ·rename_i e
   simp only [List.mem_cons] at hq
   rcases hq with rfl|hq
   ·exact .inr ⟨by simp,e⟩
   ·rcases ih hn.2 hq with h1|⟨h1,h2⟩
    ·exact .inl h1
    ·exact .inr ⟨List.mem_cons_of_mem _ h1,h2⟩
structure Ctx where
 w0:World
 S0:Bool→Nat→Prop
 own0:Nat→Prop
 mono:∀b,S0 true b→S0 false b
 apart:∀t b,S0 t b→¬own0 b
 lt:∀t b,S0 t b→b<w0.heap.size
def Stab (C:Ctx) (h:Heap) (w:World) (t:Bool) (b:Nat):Prop:=(C.S0 t b∨C.w0.heap.size≤b)∧b<w.heap.size∧b∉h.keys
structure St (N:Nat) (C:Ctx) (σ:Sl) (h:Heap) (a:Act) (w:World):Prop where
 size:a.tmps.size=N
 defers:a.defers=[]
 slots:∀t,Rep (Stab C h w) w (σ.get t) (a.tmps.getD t undef)
 heap:∀g o,(g,o)∈h→ORep (Stab C h w) w g o
 nodup:h.keys.Nodup
 keys:∀g∈h.keys,C.own0 g∨C.w0.heap.size≤g
 frame:Fr C.own0 C.w0 w
theorem St.klt {N:Nat} {C:Ctx} {σ:Sl} {h:Heap} {a:Act} {w:World} (s:St N C σ h a w) {g:Nat} (hg:g∈h.keys):g<w.heap.size:=by
 obtain⟨p,hp,rfl⟩:=List.mem_map.1 hg
 exact(s.heap p.1 p.2 hp).lt
inductive It where
 |code (c:Code)
 |ops (all rest:List Oper)
 |blk (id:Nat)
 |stop (R:Sl→Heap→Prop)
structure Env where
 P:Program
 N:Nat
 C:Ctx
 Q:Exit→Act→World→Prop
def exW (E:Env):List It→Exit→Act→World→Prop
 |[],e,a,w=>E.Q e a w
 |.code c::K,.normal,a,w=>c.wp E.P (exW E K) a w
 |.ops all rest::K,.normal,a,w=>wpList E.P all.toArray (exW E K) rest a w
 |.blk _::K,.normal,a,w=>exW E K .normal a w
 |.blk id::K,.exit id',a,w=>if id'=id then exW E K .normal a w else exW E K (.exit id') a w
 |.stop R::_,.normal,a,w=>∃σ h,R σ h∧St E.N E.C σ h a w
 |_::K,e,a,w=>exW E K e a w
def aw (E:Env) (K:List It) (σ:Sl) (h:Heap):Prop:=∀a w,St E.N E.C σ h a w→exW E K .normal a w
section
variable {E : Env} {K : List It} {σ : Sl} {h : Heap}
theorem exW_code_then (c:Code):exW E (.code c::K)=Exit.then (c.wp E.P (exW E K)) (exW E K):=by
 funext e a w;cases e<;>rfl
theorem aw_seq {x y:Code} (k:aw E (.code x::.code y::K) σ h):aw E (.code (.seq x y)::K) σ h:=fun a w s=>by
 have:=k a w s
 show Code.wp _ _ _ _ _
 refine wp_seq ?_
 rw [←exW_code_then]
 exact this
theorem aw_skip (k:aw E K σ h):aw E (.code .skip::K) σ h:=fun a w s=>wp_skip (k a w s)
theorem exW_blk (id:Nat):exW E (.blk id::K)=Exit.inBlock id (exW E K):=by
 funext e a w;cases e<;>rfl
theorem aw_block {id:Nat} {c:Code} (k:aw E (.code c::.blk id::K) σ h):aw E (.code (.block id c)::K) σ h:=fun a w s=>by
 refine wp_block ?_
 rw [←exW_blk]
 exact k a w s
theorem aw_blk {id:Nat} (k:aw E K σ h):aw E (.blk id::K) σ h:=fun a w s=>k a w s
def exitK (id:Nat):List It→Option (List It)
 |.blk id'::K=>if id=id' then some K else exitK id K
 |_::K=>exitK id K
 |[]=>none
theorem exW_exit {id:Nat}:∀{K K':List It},exitK id K=some K'→∀a w,exW E K' .normal a w→exW E K (.exit id) a w
 |[],_,h,_,_,_=>by simp [exitK] at h
 |.code _::K,_,h,a,w,k=>exW_exit (K:=K) h a w k
 |.ops _ _::K,_,h,a,w,k=>exW_exit (K:=K) h a w k
 |.stop _::K,_,h,a,w,k=>exW_exit (K:=K) h a w k
 |.blk id'::K,K',h,a,w,k=>by
  simp only [exitK] at h
  simp only [exW]
  split at h
  ·rename_i e;subst e;injection h with h;subst h;rw [if_pos rfl];exact k
  ·rename_i e;rw [if_neg e];exact exW_exit (K:=K) h a w k
theorem aw_exit {id:Nat} {K':List It} (hk:exitK id K=some K') (k:aw E K' σ h):aw E (.code (.exit id)::K) σ h:=
 fun a w s=>wp_exit (exW_exit hk a w (k a w s))
theorem exW_ret:∀{K:List It} (a:Act) (w:World),E.Q .ret a w→exW E K .ret a w
 |[],_,_,k=>k
 |.code _::K,a,w,k=>exW_ret (K:=K) a w k
 |.ops _ _::K,a,w,k=>exW_ret (K:=K) a w k
 |.stop _::K,a,w,k=>exW_ret (K:=K) a w k
 |.blk _::K,a,w,k=>exW_ret (K:=K) a w k
theorem St.eval {N:Nat} {C:Ctx} {a:Act} {w:World} (s:St N C σ h a w) (t:Nat):Rep (Stab C h w) w (σ.get t) (a.eval (.tmp t)):=s.slots t
theorem aw_cond {t:Nat} {x y:Code} {b:Bool} (hb:σ.get t=.c (.bool b)) (k1:b=true→aw E (.code x::K) σ h) (k2:b=false→aw E (.code y::K) σ h):
  aw E (.code (.cond (.tmp t) x y)::K) σ h:=fun a w s=>by
 have he:=s.eval t
 rw [hb] at he
 exact wp_cond_split (t:=b) he (fun e=>k1 e a w s) (fun e=>k2 e a w s)
def Sl.le (σ' σ:Sl):Prop:=∀t,σ'.get t=.c .any∨σ'.get t=σ.get t
theorem St.weak {N:Nat} {C:Ctx} {σ':Sl} {h':Heap} {a:Act} {w:World} (s:St N C σ h a w) (h1:σ'.le σ) (h2:h'.Sublist h):St N C σ' h' a w:=by
 have hk:∀b,b∈h'.keys→b∈h.keys:=fun b hb=>by
  obtain⟨p,hp,e⟩:=List.mem_map.1 hb
  exact List.mem_map.2 ⟨p,h2.subset hp,e⟩
 have kp:Keeps (Stab C h w) (Stab C h' w) w w:=⟨fun t b hb=>⟨hb.1,hb.2.1,fun hm=>hb.2.2 (hk b hm)⟩,fun _ _ _=>rfl,fun _ _ e=>e⟩
 refine⟨s.size,s.defers,fun t=> ?_,fun g o hm=>ORep.keep kp rfl (s.heap g o (h2.subset hm)),?_,fun g hg=>s.keys g (hk g hg),s.frame⟩
 ·rcases h1 t with e|e
  ·rw [e];trivial
  ·rw [e];exact Rep.keep kp (s.slots t)
 ·exact(h2.map _).nodup s.nodup
theorem aw_weak {σ':Sl} {h':Heap} (h1:σ'.le σ) (h2:h'.Sublist h) (k:aw E K σ' h'):aw E K σ h:=fun a w s=>k a w (s.weak h1 h2)
theorem Sl.le_refl (σ:Sl):σ.le σ:=fun _=>.inr rfl
theorem aw_stop {R:Sl→Heap→Prop} (k:R σ h):aw E (.stop R::K) σ h:=fun _ _ s=>⟨σ,h,k,s⟩
theorem aw_loop {c:Code} (I:Nat→Sl→Heap→Prop) (n:Nat) (h0:I n σ h)
  (round:∀m σ' h',I m σ' h'→aw E (.code c::.stop (fun σ'' h''=>∃m',m'<m∧I m' σ'' h'')::K) σ' h'):aw E (.code (.loop c)::K) σ h:=fun a w s=>by
 refine wp_loop_ghost (fun m a w=>∃σ' h',I m σ' h'∧St E.N E.C σ' h' a w) n ⟨σ,h,h0,s⟩ ?_
 rintro m a' w' ⟨σ',h',hI,s'⟩
 refine wp_mono (round m σ' h' hI a' w' s') ?_
 intro e a2 w2 hq
 cases e with
 |normal=>
  obtain⟨σ2,h2,⟨m',hm,hI'⟩,s2⟩:=hq
  exact⟨m',hm,σ2,h2,hI',s2⟩
 |exit id=>exact hq
 |goto l=>exact hq
 |ret=>exact hq
 |panic c=>exact hq
 |outgrown=>exact hq
def Sl.sub:Sl→Sl→Prop
 |[],_=>True
 |(t,x)::σ0,σ=>σ.get t=x∧Sl.sub σ0 σ
theorem Sl.sub_le:∀{σ0 σ:Sl},Sl.sub σ0 σ→σ0.le σ
 |[],_,_=>fun _=>.inl rfl
 |(t,x)::σ0,σ,hs=>fun t'=>by
  simp only [Sl.get]
  by_cases e:t=t'
  ·subst e;rw [if_pos rfl];exact .inr hs.1.symm
  ·rw [if_neg e];exact Sl.sub_le hs.2 t'
theorem aw_lp {α:Type} {c:Code} (S:α→Sl) (H:α→Heap) (F:α→Prop) (m:α→Nat) (x0:α) (hs:Sl.sub (S x0) σ) (hh:(H x0).Sublist h) (hf:F x0)
  (round:∀x,F x→aw E (.code c::.stop (fun σ' h'=>∃x',m x'<m x∧Sl.sub (S x') σ'∧(H x').Sublist h'∧F x')::K) (S x) (H x)):aw E (.code (.loop c)::K) σ h:=by
 refine aw_loop (fun n σ' h'=>∃x,m x=n∧Sl.sub (S x) σ'∧(H x).Sublist h'∧F x) (m x0) ⟨x0,rfl,hs,hh,hf⟩ ?_
 rintro n σ' h' ⟨x,rfl,h1,h2,h3⟩
 refine aw_weak (Sl.sub_le h1) h2 ?_
 intro a w s
 have:=round x h3 a w s
 refine wp_mono this ?_
 intro e a' w' hq
 cases e with
 |normal=>
  obtain⟨σ2,hp2,⟨x',hlt,r1,r2,r3⟩,s2⟩:=hq
  exact⟨σ2,hp2,⟨m x',hlt,x',rfl,r1,r2,r3⟩,s2⟩
 |exit id=>exact hq
 |goto l=>exact hq
 |ret=>exact hq
 |panic c=>exact hq
 |outgrown=>exact hq
theorem aw_region {id:Nat} {l:List Oper} (k:aw E (.ops l l::K) σ h):aw E (.code (.region id l.toArray false)::K) σ h:=
 fun a w s=>wp_region_lit (k a w s)
theorem aw_ops_nil {l:List Oper} (k:aw E K σ h):aw E (.ops l []::K) σ h:=fun a w s=>wpList_nil (k a w s)
end
end Go.AI
namespace Go.AI
def cstC:Value→CV
 |.int k n=>.int k n
 |.bool b=>.bool b
 |.string s=>.str s
 |.nilIface=>.nilI
 |.slice none 0 0=>.nils
 |v=>.raw v
def cst:Value→AV
 |.agg cs=>.agg (cs.toList.map cstC)
 |v=>.c (cstC v)
theorem cstC_rep (S:Bool→Nat→Prop) (w:World) (v:Value):RepC S w (cstC v) v:=by
 unfold cstC
 split<;>simp [RepC]
theorem cstL_rep (S:Bool→Nat→Prop) (w:World):∀l:List Value,RepL S w (l.map cstC) l
 |[]=>trivial
 |v::l=>⟨cstC_rep S w v,cstL_rep S w l⟩
theorem cst_rep (S:Bool→Nat→Prop) (w:World) (v:Value):Rep S w (cst v) v:=by
 unfold cst
 split
 ·rename_i cs;exact⟨cs.toList,by simp,cstL_rep S w _⟩
 ·exact cstC_rep S w v
def ev (σ:Sl):Operand→AV
 |.tmp t=>σ.get t
 |.const v=>cst v
 |.global g=>.c (.raw (.pointer (some ⟨g,0,none⟩)))
 |.func f=>.c (.raw (.func (.func f) #[] #[]))
def tElem (P:Program) (t:TypeId):Option (TypeId×Nat×Nat):=
 match P.underlying t with
 |some (.slice e)=>(P.info? e).map fun i=>(e,i.size,i.bytes)
 |_=>none
def tSz (P:Program) (t:TypeId):Option (Bool×Nat):=
 match P.underlying t,P.info? t with
 |some (.struct _),some i=>some (true,i.size)
 |some (.array _ _),some i=>some (true,i.size)
 |some _,some i=>some (false,i.size)
 |_,_=>none
def tFld (P:Program) (t i:Nat):Option Nat:=
 match P.underlying t with
 |some (.struct fs)=>match fs[i]? with
  |some f=>match P.info? f.type with
   |some j=>if j.size=0 then none else some f.offset
   |none=>none
  |none=>none
 |_=>none
def tInt (P:Program) (t:TypeId):Option IntKind:=
 match P.underlying t with
 |some (.int k)=>some k
 |_=>none
def tBool (P:Program) (t:TypeId):Bool:=
 match P.underlying t with
 |some .bool=>true
 |_=>false
def tIfc (P:Program) (t:TypeId):Bool:=
 match P.underlying t with
 |some (.interface _)=>true
 |_=>false
def tZero (P:Program) (t:TypeId):Option (List CV):=((P.info? t).bind (·.zero)).map fun z=>z.cells.toList.map cstC
theorem tElem_spec {P:Program} {t e size bytes:Nat} (h:tElem P t=some (e,size,bytes)):P.underlying t=some (.slice e)∧∃i,P.info? e=some i∧i.size=size∧i.bytes=bytes:=by
 unfold tElem at h
 split at h
 ·rename_i e' he
  cases hi:P.info? e' with
  |none=>simp [hi] at h
  |some i=>simp [hi] at h;obtain⟨rfl,rfl,rfl⟩:=h;exact⟨he,i,hi,rfl,rfl⟩
 ·cases h
theorem tInt_spec {P:Program} {t:Nat} {k:IntKind} (h:tInt P t=some k):P.underlying t=some (.int k):=by
 unfold tInt at h
 split at h
 ·rename_i k' hk;injection h with h;subst h;exact hk
 ·cases h
theorem tBool_spec {P:Program} {t:Nat} (h:tBool P t=true):P.underlying t=some .bool:=by
 unfold tBool at h
 split at h
 ·assumption
 ·cases h
theorem tIfc_spec {P:Program} {t:Nat} (h:tIfc P t=true):∃ms,P.underlying t=some (.interface ms):=by
 unfold tIfc at h
 split at h
 ·rename_i ms e;exact⟨ms,e⟩
 ·cases h
theorem tSz_run {P:Program} {t n:Nat} {ag:Bool} (h:tSz P t=some (ag,n)) (w:World):(isAgg t).run P w=.ok ag w∧(sizeOf t).run P w=.ok n w:=by
 unfold tSz at h
 split at h<;>first|(cases h;done)|skip
 all_goals
  rename_i h1 h2
  simp only [Option.some.injEq,Prod.mk.injEq] at h
  obtain⟨rfl,rfl⟩:=h
  constructor
  ·simp [isAgg,run_underlying h1]
  ·simp [sizeOf,typeInfo,h2]
def POk (P:Program) (h:Heap) (ρ:Operand→AV) (op:Op) (r:AV):Prop:=
 ∀(S:Bool→Nat→Prop) (w:World) (e:Operand→Value),(∀b,S true b→S false b)→(∀x∈op.operands,Rep S w (ρ x) (e x))→(∀g o,(g,o)∈h→ORep S w g o)→
  ∃v,(∀o:Oper,o.op=op→(execOp e o).run P w=.ok (.value v) w)∧Rep S w r v
variable {P : Program} {h : Heap} {ρ : Operand → AV}
theorem POk.move (x:Operand):POk P h ρ (.move x) (ρ x):=fun S w e _ hx _=>
 ⟨e x,fun o ho=>by simp [execOp,ho],hx x (by simp [Op.operands])⟩
theorem POk.assign (x:Operand):POk P h ρ (.assign x) (ρ x):=fun S w e _ hx _=>
 ⟨e x,fun o ho=>by simp [execOp,ho],hx x (by simp [Op.operands])⟩
def pickAV (t:Bool):AV→AV→AV
 |.c (.bool p),.c (.bool q)=>.c (.bool (bif t then p else q))
 |x,y=>match t with|true=>x|false=>y
theorem pickAV_eq (t:Bool) (x y:AV):pickAV t x y=bif t then x else y:=by
 unfold pickAV
 split<;>cases t<;>rfl
theorem POk.pick {c a b:Operand} {t:Bool} (hc:ρ c=.c (.bool t)):POk P h ρ (.pick c a b) (pickAV t (ρ a) (ρ b)):=fun S w e _ hx _=>by
 have h1:e c=.bool t:=by have:=hx c (by simp [Op.operands]);rw [hc] at this;exact this
 have h2:=hx a (by simp [Op.operands])
 have h3:=hx b (by simp [Op.operands])
 refine⟨if t then e a else e b,fun o ho=>by simp [execOp,ho,h1,asBool],?_⟩
 rw [pickAV_eq]
 cases t
 ·exact h3
 ·exact h2
theorem ex_andZ:∃f:IntKind→Int→Int→Int,∀k a b,f k a b=k.wrap (BitVec.ofInt k.bits a&&&BitVec.ofInt k.bits b).toNat:=⟨fun k a b=>k.wrap (BitVec.ofInt k.bits a&&&BitVec.ofInt k.bits b).toNat,fun _ _ _=>rfl⟩
noncomputable def andZ:IntKind→Int→Int→Int:=Classical.choose ex_andZ
theorem andZ_eq (k:IntKind) (a b:Int):andZ k a b=k.wrap (BitVec.ofInt k.bits a&&&BitVec.ofInt k.bits b).toNat:=Classical.choose_spec ex_andZ k a b
theorem ex_orZ:∃f:IntKind→Int→Int→Int,∀k a b,f k a b=k.wrap (BitVec.ofInt k.bits a|||BitVec.ofInt k.bits b).toNat:=⟨fun k a b=>k.wrap (BitVec.ofInt k.bits a|||BitVec.ofInt k.bits b).toNat,fun _ _ _=>rfl⟩
noncomputable def orZ:IntKind→Int→Int→Int:=Classical.choose ex_orZ
theorem orZ_eq (k:IntKind) (a b:Int):orZ k a b=k.wrap (BitVec.ofInt k.bits a|||BitVec.ofInt k.bits b).toNat:=Classical.choose_spec ex_orZ k a b
theorem ex_xorZ:∃f:IntKind→Int→Int→Int,∀k a b,f k a b=k.wrap (BitVec.ofInt k.bits a^^^BitVec.ofInt k.bits b).toNat:=⟨fun k a b=>k.wrap (BitVec.ofInt k.bits a^^^BitVec.ofInt k.bits b).toNat,fun _ _ _=>rfl⟩
noncomputable def xorZ:IntKind→Int→Int→Int:=Classical.choose ex_xorZ
theorem xorZ_eq (k:IntKind) (a b:Int):xorZ k a b=k.wrap (BitVec.ofInt k.bits a^^^BitVec.ofInt k.bits b).toNat:=Classical.choose_spec ex_xorZ k a b
theorem ex_andNotZ:∃f:IntKind→Int→Int→Int,∀k a b,f k a b=k.wrap (BitVec.ofInt k.bits a&&& ~~~BitVec.ofInt k.bits b).toNat:=⟨fun k a b=>k.wrap (BitVec.ofInt k.bits a&&& ~~~BitVec.ofInt k.bits b).toNat,fun _ _ _=>rfl⟩
noncomputable def andNotZ:IntKind→Int→Int→Int:=Classical.choose ex_andNotZ
theorem andNotZ_eq (k:IntKind) (a b:Int):andNotZ k a b=k.wrap (BitVec.ofInt k.bits a&&& ~~~BitVec.ofInt k.bits b).toNat:=Classical.choose_spec ex_andNotZ k a b
theorem ex_quoZ:∃f:IntKind→Int→Int→Int,∀k a b,f k a b=k.wrap (a.tdiv b):=⟨fun k a b=>k.wrap (a.tdiv b),fun _ _ _=>rfl⟩
noncomputable def quoZ:IntKind→Int→Int→Int:=Classical.choose ex_quoZ
theorem quoZ_eq (k:IntKind) (a b:Int):quoZ k a b=k.wrap (a.tdiv b):=Classical.choose_spec ex_quoZ k a b
theorem ex_remZ:∃f:Int→Int→Int,∀a b,f a b=a.tmod b:=⟨fun a b=>a.tmod b,fun _ _=>rfl⟩
noncomputable def remZ:Int→Int→Int:=Classical.choose ex_remZ
theorem remZ_eq (a b:Int):remZ a b=a.tmod b:=Classical.choose_spec ex_remZ a b
theorem ex_shlZ:∃f:IntKind→Int→Int→Int,∀k a b,f k a b=k.wrap (a*2^(min b.toNat k.bits)):=⟨fun k a b=>k.wrap (a*2^(min b.toNat k.bits)),fun _ _ _=>rfl⟩
noncomputable def shlZ:IntKind→Int→Int→Int:=Classical.choose ex_shlZ
theorem shlZ_eq (k:IntKind) (a b:Int):shlZ k a b=k.wrap (a*2^(min b.toNat k.bits)):=Classical.choose_spec ex_shlZ k a b
theorem ex_shrZ:∃f:IntKind→Int→Int→Int,∀k a b,f k a b=a.fdiv (2^(min b.toNat k.bits)):=⟨fun k a b=>a.fdiv (2^(min b.toNat k.bits)),fun _ _ _=>rfl⟩
noncomputable def shrZ:IntKind→Int→Int→Int:=Classical.choose ex_shrZ
theorem shrZ_eq (k:IntKind) (a b:Int):shrZ k a b=a.fdiv (2^(min b.toNat k.bits)):=Classical.choose_spec ex_shrZ k a b
theorem ex_wrapZ:∃f:IntKind→Int→Int,∀k a,f k a=k.wrap a:=⟨fun k a=>k.wrap a,fun _ _=>rfl⟩
noncomputable def wrapZ:IntKind→Int→Int:=Classical.choose ex_wrapZ
theorem wrapZ_eq (k:IntKind) (a:Int):wrapZ k a=k.wrap a:=Classical.choose_spec ex_wrapZ k a
noncomputable def binInt (op:BinOp) (k:IntKind) (a b:Int):Option (Prop×CV):=
 match op with
 |.add=>some (True,.int k (wrapZ k (a+b)))
 |.sub=>some (True,.int k (wrapZ k (a-b)))
 |.mul=>some (True,.int k (wrapZ k (a*b)))
 |.eql=>some (True,.bool (a==b))
 |.neq=>some (True,.bool (a !=b))
 |.lss=>some (True,.bool (decide (a<b)))
 |.leq=>some (True,.bool (decide (a≤b)))
 |.gtr=>some (True,.bool (decide (a>b)))
 |.geq=>some (True,.bool (decide (a≥b)))
 |.and=>some (True,.int k (andZ k a b))
 |.or=>some (True,.int k (orZ k a b))
 |.xor=>some (True,.int k (xorZ k a b))
 |.andNot=>some (True,.int k (andNotZ k a b))
 |.quo=>some (b≠0,.int k (quoZ k a b))
 |.rem=>some (b≠0,.int k (remZ a b))
 |_=>none
noncomputable def binSh (op:BinOp) (k:IntKind) (a b:Int):Option (Prop×CV):=
 match op with
 |.shl=>some (0≤b,.int k (shlZ k a b))
 |.shr=>some (0≤b,.int k (shrZ k a b))
 |_=>none
theorem run_eqGuard_int (op:BinOp) (t:TypeId) (x y:Operand) (k k':IntKind) (a b:Int) (w:World):(eqGuard op t x y (.int k a) (.int k' b)).run P w=.ok () w:=by
 unfold eqGuard
 cases op<;>simp
theorem run_eqGuard_bool (op:BinOp) (t:TypeId) (x y:Operand) (a b:Bool) (w:World):(eqGuard op t x y (.bool a) (.bool b)).run P w=.ok () w:=by
 unfold eqGuard
 cases op<;>simp
theorem POk.binInt {op:BinOp} {t t':TypeId} {x y:Operand} {k:IntKind} {a b:Int} {req:Prop} {r:CV} (hx:ρ x=.c (.int k a)) (hy:ρ y=.c (.int k b))
  (hr:AI.binInt op k a b=some (req,r)) (hreq:req):POk P h ρ (.binOp op t x y t') (.c r):=fun S w e _ ho _=>by
 have h1:e x=.int k a:=by have:=ho x (by simp [Op.operands]);rw [hx] at this;exact this
 have h2:e y=.int k b:=by have:=ho y (by simp [Op.operands]);rw [hy] at this;exact this
 have h3:∃v,(binOp op t (.int k a) (.int k b)).run P w=.ok v w∧RepC S w r v:=by
  cases op<;>simp only [AI.binInt,Option.some.injEq,Prod.mk.injEq,reduceCtorEq] at hr
  all_goals
   obtain⟨rfl,rfl⟩:=hr
   simp [binOp,Op.intArith,Op.intCmp,Op.intBits,Op.intDiv,RepC,andZ_eq,orZ_eq,xorZ_eq,andNotZ_eq,quoZ_eq,remZ_eq,wrapZ_eq] at hreq⊢
  all_goals (intro hb;exact absurd hb hreq)
 obtain⟨v,hv,hrep⟩:=h3
 exact⟨v,fun o hop=>by simp [execOp,hop,h1,h2,run_eqGuard_int,hv],hrep⟩
theorem POk.binSh {op:BinOp} {t t':TypeId} {x y:Operand} {k k':IntKind} {a b:Int} {req:Prop} {r:CV} (hx:ρ x=.c (.int k a)) (hy:ρ y=.c (.int k' b))
  (hr:AI.binSh op k a b=some (req,r)) (hreq:req):POk P h ρ (.binOp op t x y t') (.c r):=fun S w e _ ho _=>by
 have h1:e x=.int k a:=by have:=ho x (by simp [Op.operands]);rw [hx] at this;exact this
 have h2:e y=.int k' b:=by have:=ho y (by simp [Op.operands]);rw [hy] at this;exact this
 have h3:∃v,(binOp op t (.int k a) (.int k' b)).run P w=.ok v w∧RepC S w r v:=by
  cases op<;>simp only [AI.binSh,Option.some.injEq,Prod.mk.injEq,reduceCtorEq] at hr
  all_goals
   obtain⟨rfl,rfl⟩:=hr
   have hn:¬b<0:=by omega
   simp [binOp,Op.shift,RepC,hn,shlZ_eq,shrZ_eq]
 obtain⟨v,hv,hrep⟩:=h3
 exact⟨v,fun o hop=>by simp [execOp,hop,h1,h2,run_eqGuard_int,hv],hrep⟩
theorem exec_bin {o:Oper} {op:BinOp} {t t':TypeId} {x y:Operand} {e:Operand→Value} {w:World} {v:Value} (ho:o.op=.binOp op t x y t')
  (hg:(eqGuard op t x y (e x) (e y)).run P w=.ok () w) (hb:(Go.binOp op t (e x) (e y)).run P w=.ok v w):(execOp e o).run P w=.ok (.value v) w:=by
 simp [execOp,ho,hg,hb]
theorem run_equalIn_bool (d:Nat) {t:TypeId} (ht:P.underlying t=some .bool) (a b:Bool) (w:World):(Op.equalIn (d+1) t (.bool a) (.bool b)).run P w=.ok (a==b) w:=by
 simp [Op.equalIn,run_underlying ht]
theorem run_eql_bool {t:TypeId} (ht:P.underlying t=some .bool) (a b:Bool) (w:World):(Go.binOp .eql t (.bool a) (.bool b)).run P w=.ok (.bool (a==b)) w:=by
 simp only [Go.binOp]
 simp [Op.equal,Op.maxDepth,run_equalIn_bool 9999 ht]
theorem run_neq_bool {t:TypeId} (ht:P.underlying t=some .bool) (a b:Bool) (w:World):(Go.binOp .neq t (.bool a) (.bool b)).run P w=.ok (.bool (a !=b)) w:=by
 simp only [Go.binOp]
 simp [Op.equal,Op.maxDepth,run_equalIn_bool 9999 ht,bne]
theorem POk.eqBool {t t':TypeId} {x y:Operand} {a b:Bool} (ht:tBool P t=true) (hx:ρ x=.c (.bool a)) (hy:ρ y=.c (.bool b)):POk P h ρ (.binOp .eql t x y t') (.c (.bool (a==b))):=fun S w e _ ho _=>by
 have h1:e x=.bool a:=by have:=ho x (by simp [Op.operands]);rw [hx] at this;exact this
 have h2:e y=.bool b:=by have:=ho y (by simp [Op.operands]);rw [hy] at this;exact this
 exact⟨.bool (a==b),fun o hop=>exec_bin hop (by rw [h1,h2];exact run_eqGuard_bool ..) (by rw [h1,h2];exact run_eql_bool (tBool_spec ht) a b w),rfl⟩
theorem POk.neqBool {t t':TypeId} {x y:Operand} {a b:Bool} (ht:tBool P t=true) (hx:ρ x=.c (.bool a)) (hy:ρ y=.c (.bool b)):POk P h ρ (.binOp .neq t x y t') (.c (.bool (a !=b))):=fun S w e _ ho _=>by
 have h1:e x=.bool a:=by have:=ho x (by simp [Op.operands]);rw [hx] at this;exact this
 have h2:e y=.bool b:=by have:=ho y (by simp [Op.operands]);rw [hy] at this;exact this
 exact⟨.bool (a !=b),fun o hop=>exec_bin hop (by rw [h1,h2];exact run_eqGuard_bool ..) (by rw [h1,h2];exact run_neq_bool (tBool_spec ht) a b w),rfl⟩
def nilAV:CV→Option Bool
 |.nilI=>some true
 |.ifc _ _=>some false
 |_=>none
theorem run_equalIn_nil (d:Nat) {t:TypeId} {ms:Array (String×TypeId)} (ht:P.underlying t=some (.interface ms)) (w:World):(Op.equalIn (d+1) t .nilIface .nilIface).run P w=.ok true w:=by
 simp [Op.equalIn,run_underlying ht]
theorem run_equalIn_ifc (d:Nat) {t:TypeId} {ms:Array (String×TypeId)} (ht:P.underlying t=some (.interface ms)) (u:TypeId) (x:Value) (w:World):(Op.equalIn (d+1) t (.iface u x) .nilIface).run P w=.ok false w:=by
 simp [Op.equalIn,run_underlying ht]
theorem run_eqNil {t:TypeId} (ht:tIfc P t=true) {S:Bool→Nat→Prop} {w:World} {c:CV} {b:Bool} {v:Value} (hn:nilAV c=some b) (hr:RepC S w c v):
  (Go.binOp .eql t v .nilIface).run P w=.ok (.bool b) w∧(Go.binOp .neq t v .nilIface).run P w=.ok (.bool !b) w∧
  ∀(op:BinOp) (x:Operand),(eqGuard op t x (.const .nilIface) v .nilIface).run P w=.ok () w:=by
 obtain⟨ms,hm⟩:=tIfc_spec ht
 cases c<;>simp only [nilAV,Option.some.injEq,reduceCtorEq] at hn
 ·subst hn
  subst hr
  refine⟨?_,?_,fun op x=> ?_⟩
  ·simp only [Go.binOp];simp [Op.equal,Op.maxDepth,run_equalIn_nil 9999 hm]
  ·simp only [Go.binOp];simp [Op.equal,Op.maxDepth,run_equalIn_nil 9999 hm]
  ·unfold eqGuard;cases op<;>simp
 ·subst hn
  obtain⟨u,rfl,_⟩:=hr
  refine⟨?_,?_,fun op x=> ?_⟩
  ·simp only [Go.binOp];simp [Op.equal,Op.maxDepth,run_equalIn_ifc 9999 hm]
  ·simp only [Go.binOp];simp [Op.equal,Op.maxDepth,run_equalIn_ifc 9999 hm]
  ·unfold eqGuard;cases op<;>simp
theorem POk.eqNil {t t':TypeId} {x:Operand} {c:CV} {b:Bool} (ht:tIfc P t=true) (hx:ρ x=.c c) (hn:nilAV c=some b) (hk:ρ (.const .nilIface)=.c .nilI):POk P h ρ (.binOp .eql t x (.const .nilIface) t') (.c (.bool b)):=fun S w e _ ho _=>by
 have h1:=ho x (by simp [Op.operands])
 have h2:=ho (.const .nilIface) (by simp [Op.operands])
 rw [hx] at h1
 rw [hk] at h2
 obtain⟨e1,_,e3⟩:=run_eqNil ht hn h1
 have h3:e (.const .nilIface)=.nilIface:=h2
 exact⟨.bool b,fun o hop=>exec_bin hop (by rw [h3];exact e3 _ _) (by rw [h3];exact e1),rfl⟩
theorem POk.neqNil {t t':TypeId} {x:Operand} {c:CV} {b:Bool} (ht:tIfc P t=true) (hx:ρ x=.c c) (hn:nilAV c=some b) (hk:ρ (.const .nilIface)=.c .nilI):POk P h ρ (.binOp .neq t x (.const .nilIface) t') (.c (.bool !b)):=fun S w e _ ho _=>by
 have h1:=ho x (by simp [Op.operands])
 have h2:=ho (.const .nilIface) (by simp [Op.operands])
 rw [hx] at h1
 rw [hk] at h2
 obtain⟨_,e2,e3⟩:=run_eqNil ht hn h1
 have h3:e (.const .nilIface)=.nilIface:=h2
 exact⟨.bool !b,fun o hop=>exec_bin hop (by rw [h3];exact e3 _ _) (by rw [h3];exact e2),rfl⟩
theorem POk.not {t:TypeId} {x:Operand} {b:Bool} (hx:ρ x=.c (.bool b)):POk P h ρ (.unOp .not t x) (.c (.bool !b)):=fun S w e _ ho _=>by
 have h1:e x=.bool b:=by have:=ho x (by simp [Op.operands]);rw [hx] at this;exact this
 exact⟨.bool !b,fun o hop=>by simp [execOp,hop,h1,Op.unary],rfl⟩
theorem POk.neg {t:TypeId} {x:Operand} {k:IntKind} {n:Int} (hx:ρ x=.c (.int k n)):POk P h ρ (.unOp .neg t x) (.c (.int k (wrapZ k (0-n)))):=fun S w e _ ho _=>by
 have h1:e x=.int k n:=by have:=ho x (by simp [Op.operands]);rw [hx] at this;exact this
 exact⟨.int k (wrapZ k (0-n)),fun o hop=>by simp [execOp,hop,h1,Op.unary,Op.intArith,wrapZ_eq],rfl⟩
theorem POk.convert {s d:TypeId} {x:Operand} {k k' k0:IntKind} {n:Int} (hs:tInt P s=some k0) (hd:tInt P d=some k') (hx:ρ x=.c (.int k n)):POk P h ρ (.convert s d x) (.c (.int k' (wrapZ k' n))):=fun S w e _ ho _=>by
 have h1:e x=.int k n:=by have:=ho x (by simp [Op.operands]);rw [hx] at this;exact this
 refine⟨.int k' (wrapZ k' n),fun o hop=> ?_,rfl⟩
 simp [execOp,hop,h1,wrapZ_eq,Go.convert,run_underlying (tInt_spec hs),run_underlying (tInt_spec hd),Conv.intToInt]
theorem POk.extract {x:Operand} {xs:List AV} {i:Nat} {y:AV} (hx:ρ x=.tup xs) (hi:xs[i]?=some y):POk P h ρ (.extract x i) y:=fun S w e _ ho _=>by
 have h1:=ho x (by simp [Op.operands])
 rw [hx] at h1
 obtain⟨us,hu,hr⟩:=h1
 have key:∀(xs:List AV) (us:List Value) (i:Nat),RepT S w xs us→xs[i]?=some y→∃v,us[i]?=some v∧Rep0 S w y v:=by
  intro xs
  induction xs with
  |nil=>intro us i _ hi;simp at hi
  |cons x xs ih=>
   intro us i hr hi
   cases us with
   |nil=>exact hr.elim
   |cons u us=>
    cases i with
    |zero=>simp at hi;subst hi;exact⟨u,rfl,hr.1⟩
    |succ i=>simp at hi⊢;exact ih us i hr.2 hi
 obtain⟨v,hv,hrep⟩:=key xs us i hr hi
 refine⟨v,fun o hop=> ?_,?_⟩
 ·simp [execOp,hop,hu,Instr.extract,hv]
 ·cases y with
  |c y=>exact hrep
  |agg cs=>exact hrep
  |tup xs=>exact hrep.elim
theorem POk.makeInterface {t:TypeId} {k:IntKind} {x:Operand} {c:CV} (ht:tInt P t=some k) (hx:ρ x=.c c):POk P h ρ (.makeInterface t x) (.c (.ifc t c)):=fun S w e _ ho _=>by
 have h1:=ho x (by simp [Op.operands])
 rw [hx] at h1
 exact⟨.iface t (e x),fun o hop=>by simp [execOp,hop,Instr.makeInterface,run_underlying (tInt_spec ht)],e x,rfl,h1⟩
end Go.AI
namespace Go.AI
variable {P : Program} {h : Heap} {ρ : Operand → AV}
def cellsAt (f:Nat→CV) (off k:Nat):Nat→List CV
 |0=>[]
 |n+1=>f (off+k)::cellsAt f off (k+1) n
theorem cellsAt_len (f:Nat→CV) (off n:Nat):∀k,(cellsAt f off k n).length=n:=by
 induction n with
 |zero=>intro k;rfl
 |succ n ih=>intro k;simp [cellsAt,ih]
theorem run_loadCellsFrom {S:Bool→Nat→Prop} {w:World} {ad:Addr} {f:Nat→CV} {off:Nat}:∀(n i:Nat) (acc:Array Value),(∀j,i≤j→j<i+n→∃u,w.cell? (ad.add j)=some u∧RepC S w (f (off+j)) u)→
  ∃us,(loadCellsFrom ad i n acc).run P w=.ok (acc++us.toArray) w∧RepL S w (cellsAt f off i n) us:=by
 intro n
 induction n with
 |zero=>intro i acc _;exact⟨[],by simp [loadCellsFrom],trivial⟩
 |succ n ih=>
  intro i acc hc
  obtain⟨u,hu,hr⟩:=hc i (Nat.le_refl _) om
  obtain⟨us,hus,hrs⟩:=ih (i+1) (acc.push u) (fun j h1 h2=>hc j om om)
  refine⟨u::us,?_,hr,hrs⟩
  simp only [loadCellsFrom,Sem.run_bind,run_load,hu,Result.andThen_ok,hus]
  simp
theorem run_loadVar {S:Bool→Nat→Prop} {w:World} {ad:Addr} {f:Nat→CV} {off t n:Nat} {ag:Bool} (ht:tSz P t=some (ag,n)) (h1:ag=false→n=1)
  (hc:∀j,j<n→∃u,w.cell? (ad.add j)=some u∧RepC S w (f (off+j)) u):
  ∃v,(loadVar t ad).run P w=.ok v w∧Rep S w (if ag then .agg (cellsAt f off 0 n) else .c (f off)) v:=by
 obtain⟨ha,hs⟩:=tSz_run ht w
 cases ag with
 |false=>
  have hn:=h1 rfl
  subst hn
  obtain⟨u,hu,hr⟩:=hc 0 om
  have e0:ad.add 0=ad:=rfl
  rw [e0] at hu
  refine⟨u,?_,hr⟩
  simp [loadVar,ha,run_load,hu]
 |true=>
  obtain⟨us,hus,hrs⟩:=run_loadCellsFrom (P:=P) (off:=off) n 0 #[] (fun j _ hj=>hc j om)
  refine⟨.agg us.toArray,?_,us,rfl,hrs⟩
  simp [loadVar,ha,hs,loadCells,hus]
theorem POk.loadR {t:TypeId} {a:Operand} {n m:Nat} {ag:Bool} {f:Nat→CV} (ht:tSz P t=some (ag,n)) (h1:ag=false→n=1) (ha:ρ a=.c (.rptr m f)) (hm:n≤m):
  POk P h ρ (.load t a) (if ag then .agg (cellsAt f 0 0 n) else .c (f 0)):=fun S w e _ ho _=>by
 have h2:=ho a (by simp [Op.operands])
 rw [ha] at h2
 obtain⟨ad,hv,_,hj⟩:=h2
 obtain⟨v,hrun,hr⟩:=run_loadVar (P:=P) (off:=0) ht h1 (fun j hjn=>by simpa using hj j om)
 exact⟨v,fun o hop=>by simp [execOp,hop,hv,Instr.loadAt,Instr.sureAddr,hrun],hr⟩
theorem cell_own {w:World} {g off:Nat} {cs:Array Value} {ty:TypeId} {fz:Nat×Nat} (hb:w.heap[g]?=some (.cells cs ty fz)):w.cell? ⟨g,off,none⟩=cs[off]?:=by
 simp [World.cell?,hb]
theorem POk.loadO {t:TypeId} {a:Operand} {n m g off:Nat} {ag:Bool} {ty:TypeId} {f:Nat→CV} (ht:tSz P t=some (ag,n)) (h1:ag=false→n=1) (ha:ρ a=.c (.optr g off))
  (hg:h.get g=some (.cells ty m f)) (hm:off+n≤m):POk P h ρ (.load t a) (if ag then .agg (cellsAt f off 0 n) else .c (f off)):=fun S w e _ ho hh=>by
 have h2:=ho a (by simp [Op.operands])
 rw [ha] at h2
 have hv:e a=.pointer (some ⟨g,off,none⟩):=h2
 obtain⟨cs,hb,hn,hj⟩:=hh g _ (Heap.get_mem hg)
 obtain⟨v,hrun,hr⟩:=run_loadVar (P:=P) (ad:=⟨g,off,none⟩) (off:=off) ht h1 (fun j hjn=>by
  obtain⟨u,hu,hr⟩:=hj (off+j) om
  exact⟨u,by rw [add_mk,cell_own hb];exact hu,hr⟩)
 exact⟨v,fun o hop=>by simp [execOp,hop,hv,Instr.loadAt,Instr.sureAddr,hrun],hr⟩
theorem tFld_spec {t i off:Nat} (ht:tFld P t i=some off) (ad:Addr) (w:World):(Instr.fieldAt t (.pointer (some ad)) i).run P w=.ok (.pointer (some (ad.add off))) w:=by
 unfold tFld at ht
 split at ht
 ·rename_i fs hu
  split at ht
  ·rename_i f hf
   split at ht
   ·rename_i j hj
    split at ht
    ·cases ht
    ·rename_i hz
     injection ht with ht
     subst ht
     simp [Instr.fieldAt,run_underlying hu,hf,Instr.sureAddr,fieldPlace,sizeOf,typeInfo,hj,hz]
   ·cases ht
  ·cases ht
 ·cases ht
theorem POk.fieldO {t i off g o:Nat} {x:Operand} (ht:tFld P t i=some off) (hx:ρ x=.c (.optr g o)):POk P h ρ (.fieldAddr t x i) (.c (.optr g (o+off))):=fun S w e _ ho _=>by
 have h2:=ho x (by simp [Op.operands])
 rw [hx] at h2
 have hv:e x=.pointer (some ⟨g,o,none⟩):=h2
 exact⟨_,fun o hop=>by simp only [execOp,hop,hv,Sem.run_bind,tFld_spec ht,Result.andThen_ok,add_mk];rfl,rfl⟩
theorem POk.fieldR {t i off n:Nat} {x:Operand} {f:Nat→CV} (ht:tFld P t i=some off) (hx:ρ x=.c (.rptr n f)) (hn:off≤n):POk P h ρ (.fieldAddr t x i) (.c (.rptr (n-off) fun j=>f (off+j))):=fun S w e _ ho _=>by
 have h2:=ho x (by simp [Op.operands])
 rw [hx] at h2
 obtain⟨ad,hv,hS,hj⟩:=h2
 refine⟨_,fun o hop=>by simp only [execOp,hop,hv,Sem.run_bind,tFld_spec ht,Result.andThen_ok];rfl,ad.add off,rfl,by rw [block_add];exact hS,fun j hjn=> ?_⟩
 rw [add_add]
 exact hj (off+j) om
theorem run_indexAt {t el size bytes:Nat} (ht:tElem P t=some (el,size,bytes)) (ad:Addr) (len cap:Nat) (k:IntKind) (i:Int) (h0:0≤i) (hl:i<len) (w:World):
  (Instr.indexAt t (.slice (some ad) len cap) (.int k i)).run P w=.ok (.pointer (some (ad.add (i.toNat*size)))) w:=by
 obtain⟨hu,inf,hi,hsz,_⟩:=tElem_spec ht
 simp [Instr.indexAt,asIntOf,run_underlying hu,h0,hl,sizeOf,typeInfo,hi,hsz]
theorem POk.indexO {t el size bytes g off n:Nat} {x ix:Operand} {k:IntKind} {i:Int} (ht:tElem P t=some (el,size,bytes)) (hx:ρ x=.c (.osl g size off n)) (hix:ρ ix=.c (.int k i)) (h0:0≤i) (hl:i<n):
  POk P h ρ (.indexAddr t x ix) (.c (.optr g (off+i.toNat*size))):=fun S w e _ ho _=>by
 have h2:=ho x (by simp [Op.operands])
 have h3:=ho ix (by simp [Op.operands])
 rw [hx] at h2
 rw [hix] at h3
 obtain⟨c,hv,_,_,_⟩:=h2
 have hi:e ix=.int k i:=h3
 exact⟨_,fun o hop=>by simp only [execOp,hop,hv,hi,Sem.run_bind,run_indexAt ht _ n c k i h0 hl,Result.andThen_ok,add_mk];rfl,rfl⟩
theorem POk.indexR {t el size bytes n:Nat} {tg:Bool} {f:Nat→CV} {x ix:Operand} {k:IntKind} {i:Int} (ht:tElem P t=some (el,size,bytes)) (hx:ρ x=.c (.row tg size n f)) (hix:ρ ix=.c (.int k i)) (h0:0≤i) (hl:i<n) (hz:0<size):
  POk P h ρ (.indexAddr t x ix) (.c (.rptr size fun j=>f (i.toNat*size+j))):=fun S w e hS ho _=>by
 have h2:=ho x (by simp [Op.operands])
 have h3:=ho ix (by simp [Op.operands])
 rw [hx] at h2
 rw [hix] at h3
 obtain⟨A,c,hv,_,hn⟩:=h2
 have hi:e ix=.int k i:=h3
 have hlt:i.toNat<n:=by omega
 have hmul:(i.toNat+1)*size≤n*size:=Nat.mul_le_mul_right _ hlt
 have hmul':(i.toNat+1)*size=i.toNat*size+size:=Nat.succ_mul _ _
 obtain⟨ad,hA,hb,hj⟩:=hn om
 subst hA
 refine⟨_,fun o hop=>by simp only [execOp,hop,hv,hi,Sem.run_bind,run_indexAt ht _ n c k i h0 hl,Result.andThen_ok];rfl,ad.add (i.toNat*size),rfl,?_,fun j hjn=> ?_⟩
 ·rw [block_add];cases tg
  ·exact hb
  ·exact hS _ hb
 ·rw [add_add];exact hj _ om
def lenCV:CV→Option Nat
 |.row _ _ n _=>some n
 |.osl _ _ _ n=>some n
 |.nils=>some 0
 |_=>none
theorem POk.lenS {t el size bytes n:Nat} {x:Operand} {c:CV} (ht:tElem P t=some (el,size,bytes)) (hx:ρ x=.c c) (hn:lenCV c=some n):
  POk P h ρ (.call {callee:=.builtin .len,args:= #[x],argTypes:= #[t]}) (.c (.int .i64 n)):=fun S w e _ ho _=>by
 have h2:=ho x (by simp [Op.operands,Call.operands])
 rw [hx] at h2
 obtain⟨hu,_⟩:=tElem_spec ht
 have hv:∃A c',e x=.slice A n c':=by
  cases c<;>simp only [lenCV,Option.some.injEq,reduceCtorEq] at hn<;>subst hn
  ·obtain⟨A,hv⟩:=h2;exact⟨A,0,hv⟩
  ·obtain⟨A,c,hv,_⟩:=h2;exact⟨A,c,hv⟩
  ·obtain⟨c,hv,_⟩:=h2;exact⟨_,c,hv⟩
 obtain⟨A,c',hv⟩:=hv
 exact⟨.int .i64 n,fun o hop=>by simp [execOp,hop,resolve,invoke,Go.builtin,Builtin.len_,hv,run_underlying hu,goInt],rfl⟩
theorem POk.max2 {t1 t2:TypeId} {x y:Operand} {k:IntKind} {a b:Int} (hx:ρ x=.c (.int k a)) (hy:ρ y=.c (.int k b)):
  POk P h ρ (.call {callee:=.builtin .max,args:= #[x,y],argTypes:= #[t1,t2]}) (.c (.int k (if b>a then b else a))):=fun S w e _ ho _=>by
 have h1:e x=.int k a:=by have:=ho x (by simp [Op.operands,Call.operands]);rw [hx] at this;exact this
 have h2:e y=.int k b:=by have:=ho y (by simp [Op.operands,Call.operands]);rw [hy] at this;exact this
 exact⟨.int k (if b>a then b else a),fun o hop=>by simp [execOp,hop,resolve,invoke,Go.builtin,Builtin.max_,Builtin.max2,h1,h2],rfl⟩
theorem POk.min2 {t1 t2:TypeId} {x y:Operand} {k:IntKind} {a b:Int} (hx:ρ x=.c (.int k a)) (hy:ρ y=.c (.int k b)):
  POk P h ρ (.call {callee:=.builtin .min,args:= #[x,y],argTypes:= #[t1,t2]}) (.c (.int k (if b<a then b else a))):=fun S w e _ ho _=>by
 have h1:e x=.int k a:=by have:=ho x (by simp [Op.operands,Call.operands]);rw [hx] at this;exact this
 have h2:e y=.int k b:=by have:=ho y (by simp [Op.operands,Call.operands]);rw [hy] at this;exact this
 exact⟨.int k (if b<a then b else a),fun o hop=>by simp [execOp,hop,resolve,invoke,Go.builtin,Builtin.min_,Builtin.min2,h1,h2],rfl⟩
end Go.AI
namespace Go.AI
section
variable {P : Program} {h : Heap} {ρ : Operand → AV}
def boundAV (ρ:Operand→AV) (dflt:Nat):Option Operand→Option Int
 |none=>some dflt
 |some x=>match ρ x with
  |.c (.int _ i)=>some i
  |_=>none
theorem run_sliceBounds {len cap:Nat} {l hi:Nat} {lo hi':Option Value} {w:World} (hlo:lo=none∧l=0∨∃k,lo=some (.int k l)) (hhi:hi'=none∧hi=len∨∃k,hi'=some (.int k hi)) (h1:l≤hi) (h2:hi≤cap) (hlc:len≤cap):
  (Instr.sliceBounds true len cap lo hi' none).run P w=.ok (l,hi,cap) w:=by
 unfold Instr.sliceBounds
 rcases hlo with ⟨rfl,rfl⟩|⟨k,rfl⟩<;>rcases hhi with ⟨rfl,rfl⟩|⟨k',rfl⟩<;>
  simp [Instr.sliceBound,asIntOf,h1,h2]
theorem POk.sliceR {t e size bytes n l hi:Nat} {tg:Bool} {f:Nat→CV} {x:Operand} {lo hi':Option Operand} (ht:tElem P t=some (e,size,bytes)) (hx:ρ x=.c (.row tg size n f)) (hlo:boundAV ρ 0 lo=some (l:Int)) (hhi:boundAV ρ n hi'=some (hi:Int)) (h1:l≤hi) (h2:hi≤n):
  POk P h ρ (.slice t x lo hi' none) (.c (.row tg size (hi-l) fun j=>f (l*size+j))):=fun S w ev' hS ho _=>by
 have r:=ho x (by simp [Op.operands])
 rw [hx] at r
 obtain⟨A,c,hv,hc,hn⟩:=r
 obtain⟨hu,inf,hi0,hsz,_⟩:=tElem_spec ht
 have hlo':lo.map ev'=none∧l=0∨∃k,lo.map ev'=some (.int k l):=by
  cases lo with
  |none=>simp only [boundAV,Option.some.injEq] at hlo;exact .inl ⟨rfl,by omega⟩
  |some y=>
   have ry:=ho y (by simp [Op.operands])
   simp only [boundAV] at hlo
   split at hlo
   ·rename_i k i hy;rw [hy] at ry;injection hlo with hlo;subst hlo;exact .inr ⟨k,by simp;exact ry⟩
   ·cases hlo
 have hhi':hi'.map ev'=none∧hi=n∨∃k,hi'.map ev'=some (.int k hi):=by
  cases hi' with
  |none=>simp only [boundAV,Option.some.injEq] at hhi;exact .inl ⟨rfl,by omega⟩
  |some y=>
   have ry:=ho y (by simp [Op.operands])
   simp only [boundAV] at hhi
   split at hhi
   ·rename_i k i hy;rw [hy] at ry;injection hhi with hhi;subst hhi;exact .inr ⟨k,by simp;exact ry⟩
   ·cases hhi
 refine⟨.slice (if c=l then A else A.map (·.add (l*size))) (hi-l) (c-l),fun o hop=> ?_,?_⟩
 ·simp only [execOp,hop,Instr.sliceAt,run_underlying hu,Sem.run_bind,Result.andThen_ok,Instr.slice,hv]
  simp [run_sliceBounds hlo' hhi' h1 om hc,sizeOf,typeInfo,hi0,hsz]
 ·refine⟨_,_,rfl,by omega,fun h0=> ?_⟩
  have hlt:l<hi:=by
   rcases Nat.lt_or_ge l hi with hl|hl
   ·exact hl
   ·rw [show hi-l=0 from by omega] at h0;simp at h0
  have hm1:(hi-l)*size+l*size=hi*size:=by rw [←Nat.add_mul];congr 1;omega
  have hm2:hi*size≤n*size:=Nat.mul_le_mul_right _ h2
  obtain⟨ad,hA,hb,hj⟩:=hn om
  subst hA
  rw [if_neg om]
  refine⟨ad.add (l*size),rfl,by rw [block_add];exact hb,fun j hjl=> ?_⟩
  rw [add_add]
  exact hj _ om
theorem POk.sliceO {t e size bytes g off n l hi:Nat} {x:Operand} {lo hi':Option Operand} (ht:tElem P t=some (e,size,bytes)) (hx:ρ x=.c (.osl g size off n)) (hlo:boundAV ρ 0 lo=some (l:Int)) (hhi:boundAV ρ n hi'=some (hi:Int)) (h1:l≤hi) (h2:hi≤n) (h3:l=0∨l<hi):
  POk P h ρ (.slice t x lo hi' none) (.c (.osl g size (off+l*size) (hi-l))):=fun S w ev' hS ho _=>by
 have r:=ho x (by simp [Op.operands])
 rw [hx] at r
 obtain⟨c,hv,hc,hcm,cs,ty,hb,hcs⟩:=r
 obtain⟨hu,inf,hi0,hsz,_⟩:=tElem_spec ht
 have hlo':lo.map ev'=none∧l=0∨∃k,lo.map ev'=some (.int k l):=by
  cases lo with
  |none=>simp only [boundAV,Option.some.injEq] at hlo;exact .inl ⟨rfl,by omega⟩
  |some y=>
   have ry:=ho y (by simp [Op.operands])
   simp only [boundAV] at hlo
   split at hlo
   ·rename_i k i hy;rw [hy] at ry;injection hlo with hlo;subst hlo;exact .inr ⟨k,by simp;exact ry⟩
   ·cases hlo
 have hhi':hi'.map ev'=none∧hi=n∨∃k,hi'.map ev'=some (.int k hi):=by
  cases hi' with
  |none=>simp only [boundAV,Option.some.injEq] at hhi;exact .inl ⟨rfl,by omega⟩
  |some y=>
   have ry:=ho y (by simp [Op.operands])
   simp only [boundAV] at hhi
   split at hhi
   ·rename_i k i hy;rw [hy] at ry;injection hhi with hhi;subst hhi;exact .inr ⟨k,by simp;exact ry⟩
   ·cases hhi
 refine⟨.slice (some ⟨g,off+l*size,none⟩) (hi-l) (c-l),fun o hop=> ?_,?_⟩
 ·simp only [execOp,hop,Instr.sliceAt,run_underlying hu,Sem.run_bind,Result.andThen_ok,Instr.slice,hv]
  have hsb:=run_sliceBounds (P:=P) (w:=w) hlo' hhi' h1 (show hi≤c from by omega) hc
  by_cases hcl:c=l
  ·have hl0:l=0:=by omega
   subst hl0
   subst hcl
   simp [hsb,sizeOf,typeInfo,hi0,hsz]
  ·simp [hsb,sizeOf,typeInfo,hi0,hsz,hcl,add_mk]
 ·refine⟨c-l,rfl,by omega,by omega,cs,ty,hb,?_⟩
  have hm1:(c-l)*size+l*size=c*size:=by rw [←Nat.add_mul];congr 1;omega
  omega
def sliceAV (P:Program) (ρ:Operand→AV) (t:TypeId) (x:Operand) (lo hi:Option Operand):Option (Prop×AV):=
 match ρ x with
 |.c (.row tg s n f)=>match tElem P t,boundAV ρ 0 lo,boundAV ρ n hi with
  |some (_,size,_),some l,some u=>some (s=size∧0≤l∧l≤u∧u≤n,.c (.row tg s (u.toNat-l.toNat) fun j=>f (l.toNat*s+j)))
  |_,_,_=>none
 |.c (.osl g s off n)=>match tElem P t,boundAV ρ 0 lo,boundAV ρ n hi with
  |some (_,size,_),some l,some u=>some (s=size∧0≤l∧l≤u∧u≤n∧(l=0∨l<u),.c (.osl g s (off+l.toNat*s) (u.toNat-l.toNat)))
  |_,_,_=>none
 |_=>none
theorem sliceAV_ok {t:TypeId} {x:Operand} {lo hi:Option Operand} {req:Prop} {r:AV} (hb:sliceAV P ρ t x lo hi=some (req,r)) (hreq:req):POk P h ρ (.slice t x lo hi none) r:=by
 unfold sliceAV at hb
 split at hb
 ·rename_i tg s n f hx
  split at hb
  ·rename_i e size bytes l u ht hl hu
   simp only [Option.some.injEq,Prod.mk.injEq] at hb
   obtain⟨rfl,rfl⟩:=hb
   obtain⟨rfl,h0,h1,h2⟩:=hreq
   exact POk.sliceR ht hx (by rw [hl];congr 1;omega) (by rw [hu];congr 1;omega) om om
  ·cases hb
 ·rename_i g s off n hx
  split at hb
  ·rename_i e size bytes l u ht hl hu
   simp only [Option.some.injEq,Prod.mk.injEq] at hb
   obtain⟨rfl,rfl⟩:=hb
   obtain⟨rfl,h0,h1,h2,h3⟩:=hreq
   exact POk.sliceO ht hx (by rw [hl];congr 1;omega) (by rw [hu];congr 1;omega) om om om
  ·cases hb
 ·cases hb
def tFlds (P:Program) (t:TypeId):Option (List (Nat×Nat)):=
 match P.underlying t with
 |some (.struct fs)=>fs.toList.mapM fun f=>(P.info? f.type).map fun j=>(f.offset,j.size)
 |_=>none
theorem tFlds_run {t:TypeId} {l:List (Nat×Nat)} (ht:tFlds P t=some l):∃fs,P.underlying t=some (.struct fs)∧∀w,(fs.mapM fun(f:Field)=>(do pure (f.offset,←sizeOf f.type):Sem (Nat×Nat))).run P w=.ok l.toArray w:=by
 unfold tFlds at ht
 split at ht
 ·rename_i fs hu
  refine⟨fs,hu,fun w=> ?_⟩
  have key:∀(fl:List Field) (l:List (Nat×Nat)),fl.mapM (fun f=>(P.info? f.type).map fun j=>(f.offset,j.size))=some l→(fl.mapM fun(f:Field)=>(do pure (f.offset,←sizeOf f.type):Sem (Nat×Nat))).run P w=.ok l w:=by
   intro fl
   induction fl with
   |nil=>intro l hl;simp at hl;subst hl;simp
   |cons f fl ih=>
    intro l hl
    rw [List.mapM_cons] at hl
    cases hi:P.info? f.type with
    |none=>rw [hi] at hl;cases hl
    |some j=>
     rw [hi] at hl
     cases hm:fl.mapM (fun f=>(P.info? f.type).map fun j=>(f.offset,j.size)) with
     |none=>rw [hm] at hl;cases hl
     |some l'=>
      rw [hm] at hl
      have:l=(f.offset,j.size)::l':=by injection hl with hl;exact hl.symm
      subst this
      rw [List.mapM_cons]
      have hs:(sizeOf f.type).run P w=.ok j.size w:=by simp [sizeOf,typeInfo,hi]
      simp only [Sem.run_bind,hs,Result.andThen_ok,Sem.run_pure,ih l' hm]
  have e:fs=fs.toList.toArray:=by simp
  rw [e,List.mapM_toArray]
  simp only [Sem.run_map,key _ _ ht,Result.andThen_ok]
 ·cases ht
def putC (zs:List CV) (off:Nat):List CV→List CV
 |[]=>zs
 |c::cs=>putC (zs.set off c) (off+1) cs
def fillC (fl:List (Nat×Nat)):List CV→List (Nat×List CV)→Option (List CV)
 |zs,[]=>some zs
 |zs,(i,cs)::rest=>match fl[i]? with
  |some (off,size)=>if cs.length=size∧off+size≤zs.length then fillC fl (putC zs off cs) rest else none
  |none=>none
theorem RepL.set {S:Bool→Nat→Prop} {w:World} {c:CV} {u:Value} (hc:RepC S w c u):∀(zs:List CV) (us:List Value) (k:Nat),RepL S w zs us→RepL S w (zs.set k c) (us.set k u)
 |[],[],_,_=>trivial
 |_::_,_::_,0,hr=>⟨hc,hr.2⟩
 |_::zs,_::us,k+1,hr=>⟨hr.1,RepL.set hc zs us k hr.2⟩
 |[],_::_,_,hr=>hr.elim
 |_::_,[],_,hr=>hr.elim
theorem fold_set {S:Bool→Nat→Prop} {w:World} (off:Nat):∀(cs:List CV) (vs:List Value) (zs:List CV) (us:Array Value) (k:Nat),RepL S w cs vs→RepL S w zs us.toList→
  RepL S w (putC zs (off+k) cs) ((vs.zipIdx k).foldl (fun a (p:Value×Nat)=>a.setIfInBounds (off+p.2) p.1) us).toList
 |[],[],zs,us,k,_,hz=>hz
 |c::cs,v::vs,zs,us,k,hc,hz=>by
  simp only [List.zipIdx_cons,List.foldl_cons,putC]
  exact fold_set off cs vs _ _ (k+1) hc.2 (by simpa using RepL.set hc.1 zs us.toList (off+k) hz)
 |[],_::_,_,_,_,hc,_=>hc.elim
 |_::_,[],_,_,_,hc,_=>hc.elim
theorem fold_set' {S:Bool→Nat→Prop} {w:World} (off:Nat) {cs:List CV} {v:Value} {zs:List CV} {us:Array Value} (hc:RepL S w cs v.cells.toList) (hz:RepL S w zs us.toList):
  RepL S w (putC zs off cs) (v.cells.zipIdx.foldl (fun a (c,j)=>a.setIfInBounds (off+j) c) us).toList:=by
 have:=fold_set (S:=S) (w:=w) off cs v.cells.toList zs us 0 hc hz
 rw [Nat.add_zero] at this
 rw [←Array.foldl_toList]
 simpa using this
theorem fillC_ok {S:Bool→Nat→Prop} {w:World} (fl:List (Nat×Nat)):∀(ps:List (Nat×List CV)) (vs:List (Nat×Value)) (zs:List CV) (us:Array Value) (out:List CV),(ps.map (·.1)=vs.map (·.1))→(∀(j:Nat) (p:Nat×List CV) (q:Nat×Value),ps[j]?=some p→vs[j]?=some q→RepL S w p.2 q.2.cells.toList)→RepL S w zs us.toList→fillC fl zs ps=some out→
  ∃us',Instr.fill (fl.toArray[·]?) us vs=some us'∧RepL S w out us'.toList
 |[],[],zs,us,out,_,_,hz,hf=>by simp only [fillC,Option.some.injEq] at hf;subst hf;exact⟨us,rfl,hz⟩
 |(i,cs)::ps,(i',v)::vs,zs,us,out,hm,hc,hz,hf=>by
  simp only [List.map_cons,List.cons.injEq] at hm
  obtain⟨rfl,hm⟩:=hm
  simp only [fillC] at hf
  split at hf
  ·rename_i off size hfl
   split at hf
   ·rename_i hle
    have h0:RepL S w cs v.cells.toList:=hc 0 _ _ rfl rfl
    have hs:v.cells.size=size:=by have:=h0.length;simp at this;omega
    have hus:us.size=zs.length:=by have:=hz.length;simpa using this
    obtain⟨us',h1,h2⟩:=fillC_ok fl ps vs _ _ out hm (fun j p q hp hq=>hc (j+1) p q (by simpa using hp) (by simpa using hq)) (fold_set' off h0 hz) hf
    refine⟨us',?_,h2⟩
    simp only [Instr.fill]
    rw [show fl.toArray[i]?=some (off,size) from by simpa using hfl]
    simp only
    rw [if_neg (by simp [hs,hus];omega)]
    exact h1
   ·cases hf
  ·cases hf
 |[],_::_,_,_,_,hm,_,_,_=>by simp at hm
 |_::_,[],_,_,_,hm,_,_,_=>by simp at hm
def AV.cells:AV→List CV
 |.c x=>[x]
 |.agg cs=>cs
 |.tup _=>[]
def CV.solid:CV→Bool
 |.any=>false
 |.raw v=>v.oneCell'
 |_=>true
theorem solid_one {S:Bool→Nat→Prop} {w:World} {x:CV} {v:Value} (hx:x.solid=true) (hr:RepC S w x v):v.oneCell'=true:=by
 cases x<;>simp only [CV.solid,reduceCtorEq] at hx
 case raw u=>exact(show v=u from hr)▸hx
 all_goals first
  |(have:v=_:=hr;rw [this];rfl)
  |(obtain⟨u,rfl,_⟩:=hr;rfl)
  |(obtain⟨u,rfl⟩:=hr;rfl)
  |(obtain⟨A,c,rfl,_⟩:=hr;rfl)
theorem rep_cells {S:Bool→Nat→Prop} {w:World} {x:AV} {v:Value} (ht:∀xs,x≠.tup xs) (hs:x.cells.all CV.solid=true) (hr:Rep S w x v):RepL S w x.cells v.cells.toList∧∀u∈v.cells,u.oneCell'=true:=by
 cases x with
 |tup xs=>exact absurd rfl (ht xs)
 |c x=>
  have h1:v.oneCell'=true:=solid_one (by simpa [AV.cells] using hs) hr
  have h2:v.cells= #[v]:=by cases v<;>first|rfl|(simp [Value.oneCell'] at h1)
  rw [h2]
  exact⟨⟨hr,trivial⟩,by simpa using h1⟩
 |agg cs=>
  obtain⟨us,rfl,hu⟩:=hr
  refine⟨by simpa [Value.cells,AV.cells] using hu,?_⟩
  have key:∀(cs:List CV) (us:List Value),cs.all CV.solid=true→RepL S w cs us→∀u∈us,u.oneCell'=true:=by
   intro cs
   induction cs with
   |nil=>intro us _ hr;cases us with
    |nil=>simp
    |cons=>exact hr.elim
   |cons c cs ih=>
    intro us hs hr
    cases us with
    |nil=>exact hr.elim
    |cons u us=>
     simp only [List.all_cons,Bool.and_eq_true] at hs
     intro x hx
     simp only [List.mem_cons] at hx
     rcases hx with rfl|hx
     ·exact solid_one hs.1 hr.1
     ·exact ih us hs.2 hr.2 x hx
  intro u hu'
  exact key cs us (by simpa [AV.cells] using hs) hu u (by simpa [Value.cells] using hu')
def buildAV (P:Program) (ρ:Operand→AV) (t:TypeId) (ps:List (Nat×Operand)):Option (Prop×AV):=
 match tFlds P t,tZero P t with
 |some fl,some z=>match fillC fl z (ps.map fun p=>(p.1,(ρ p.2).cells)) with
  |some out=>some (∀p∈ps,(∀xs,ρ p.2≠.tup xs)∧(ρ p.2).cells.all CV.solid=true,.agg out)
  |none=>none
 |_,_=>none
theorem tZero_spec {t:TypeId} {z:List CV} (hz:tZero P t=some z):∃i v,P.info? t=some i∧i.zero=some v∧z=v.cells.toList.map cstC:=by
 unfold tZero at hz
 cases hi:P.info? t with
 |none=>simp [hi] at hz
 |some i=>
  cases hv:i.zero with
  |none=>simp [hi,hv] at hz
  |some v=>simp [hi,hv] at hz;exact⟨i,v,rfl,hv,hz.symm⟩
theorem buildAV_ok {t:TypeId} {ps:List (Nat×Operand)} {req:Prop} {r:AV} (hb:buildAV P ρ t ps=some (req,r)) (hreq:req):POk P h ρ (.build t ps.toArray) r:=by
 unfold buildAV at hb
 split at hb
 ·rename_i fl z hfl hz
  split at hb
  ·rename_i out hout
   simp only [Option.some.injEq,Prod.mk.injEq] at hb
   obtain⟨rfl,rfl⟩:=hb
   intro S w e hS ho _
   obtain⟨fs,hu,hrun⟩:=tFlds_run hfl
   obtain⟨i,zv,hi,hzv,rfl⟩:=tZero_spec hz
   obtain⟨us',h1,h2⟩:=fillC_ok (S:=S) (w:=w) fl (ps.map fun p=>(p.1,(ρ p.2).cells)) (ps.map fun p=>(p.1,e p.2)) (zv.cells.toList.map cstC) zv.cells out (by simp)
    (fun j p q hp hq=>by
     rw [List.getElem?_map] at hp hq
     cases hj:ps[j]? with
     |none=>rw [hj] at hp;cases hp
     |some y=>
      rw [hj] at hp hq
      simp only [Option.map_some,Option.some.injEq] at hp hq
      subst hp
      subst hq
      have hm:y∈ps:=List.mem_of_getElem? hj
      obtain⟨hnt,hsol⟩:=hreq y hm
      exact(rep_cells hnt hsol (ho y.2 (by simp only [Op.operands,List.mem_toArray,List.mem_map];exact⟨y,hm,rfl⟩))).1)
    (cstL_rep S w _) hout
   refine⟨.agg us',fun o hop=> ?_,us'.toList,by simp,h2⟩
   have hmap:(Array.map (fun x:Nat×Operand=>(x.1,e x.2)) ps.toArray).toList=ps.map fun p=>(p.1,e p.2):=by simp
   simp only [execOp,hop,Instr.build,Sem.run_bind,zeroValue,typeInfo,run_program,hi,hzv,Result.andThen_ok,Sem.run_pure,run_underlying hu,hrun w]
   rw [hmap,h1]
   rfl
  ·cases hb
 ·cases hb
end
end Go.AI
namespace Go.AI
variable {E : Env} {K : List It} {σ σ' : Sl} {h : Heap} {all rest : List Oper} {o : Oper}
def sameB:Bool→Bool→Bool
 |true,true=>true
 |false,false=>true
 |true,false=>false
 |false,true=>false
def wantA (all:List Oper) (σ:Sl) (o:Oper):Option Bool:=
 match o.guard with
 |none=>some true
 |some (j,want)=>match (all[j]?).bind (·.dst) with
  |some t=>match σ.get t with
   |.c (.bool b)=>some (sameB b want)
   |.tup []=>some false
   |_=>none
  |none=>none
theorem St.wanted {N:Nat} {C:Ctx} {a:Act} {w:World} (s:St N C σ h a w) {b:Bool} (hw:wantA all σ o=some b):Region.wanted o (yielded all.toArray a.tmps)=b:=by
 unfold wantA at hw
 unfold Region.wanted
 cases hg:o.guard with
 |none=>rw [hg] at hw;injection hw
 |some p=>
  obtain⟨j,want⟩:=p
  rw [hg] at hw
  simp only at hw⊢
  split at hw
  ·rename_i t ht
   split at hw
   ·rename_i b' hb
    injection hw with hw
    have hs:=s.slots t
    rw [hb] at hs
    have hs':a.tmps.getD t undef=.bool b':=hs
    have hlt:t<a.tmps.size:=by
     rcases Nat.lt_or_ge t a.tmps.size with hl|hl
     ·exact hl
     ·simp [Array.getD,Nat.not_lt.2 hl,undef] at hs'
    have hq:a.tmps[t]?=some (.bool b'):=by
     simp [Array.getD,hlt] at hs'
     simp [hlt,hs']
    have:yielded all.toArray a.tmps j=some b':=by
     unfold yielded
     rw [show((all.toArray[j]?).bind (·.dst))=some t from by simpa using ht]
     simp [hq]
    rw [this,←hw]
    cases b'<;>cases want<;>rfl
   ·rename_i hb
    injection hw with hw
    subst hw
    have hs:=s.slots t
    rw [hb] at hs
    obtain⟨us,hs',hu⟩:=hs
    have hy:yielded all.toArray a.tmps j=none:=by
     unfold yielded
     rw [show((all.toArray[j]?).bind (·.dst))=some t from by simpa using ht]
     simp only [Option.bind_some]
     rw [Array.getD_eq_getD_getElem?] at hs'
     cases h4:a.tmps[t]? with
     |none=>rfl
     |some v=>
      rw [h4] at hs'
      have h5:v=.tuple us.toArray:=hs'
      subst h5
      rfl
    rw [hy];rfl
   ·cases hw
  ·cases hw
theorem ev_rep {N:Nat} {C:Ctx} {a:Act} {w:World} (s:St N C σ h a w) (x:Operand):Rep (Stab C h w) w (ev σ x) (a.eval x):=by
 cases x with
 |tmp t=>exact s.slots t
 |const v=>exact cst_rep _ _ v
 |global g=>exact rfl
 |func f=>exact rfl
theorem Stab.mono' {C:Ctx} {h:Heap} {w:World} (b:Nat) (hb:Stab C h w true b):Stab C h w false b:=⟨hb.1.imp (C.mono b) id,hb.2⟩
def dstOk (N:Nat):Option Nat→Bool
 |some d=>decide (d<N)
 |none=>true
theorem St.put {N:Nat} {C:Ctx} {a:Act} {w:World} (s:St N C σ h a w) {d:Option Nat} (hd:dstOk N d=true) {r:AV} {v:Value} (hr:Rep (Stab C h w) w r v):St N C (σ.setO d r) h (a.put d v) w:=by
 cases d with
 |none=>exact s
 |some d=>
  have hd':d<N:=by simpa [dstOk] using hd
  refine⟨by simp [Act.put,s.size],s.defers,fun t=> ?_,s.heap,s.nodup,s.keys,s.frame⟩
  simp only [Sl.setO,Sl.get_set,Act.put]
  by_cases e:d=t
  ·subst e
   have:d<a.tmps.size:=by rw [s.size];exact hd'
   simp [Array.getD,this,hr]
  ·rw [if_neg e]
   have h1:=s.slots t
   have:(a.tmps.setIfInBounds d v).getD t undef=a.tmps.getD t undef:=by
    rw [Array.getD_eq_getD_getElem?,Array.getD_eq_getD_getElem?,Array.getElem?_setIfInBounds_ne e]
   rw [this]
   exact h1
theorem aw_step {h':Heap} (hw:wantA all σ o=some true)
  (hs:∀a w,St E.N E.C σ h a w→∃v w',((execOp a.eval o).run E.P w=.ok (.value v) w'∨((execOp a.eval o).run E.P w=.ok .skip w'∧v=undef))∧St E.N E.C σ' h' (a.put o.dst v) w')
  (k:aw E (.ops all rest::K) σ' h'):aw E (.ops all (o::rest)::K) σ h:=fun a w s=>by
 show wpList _ _ _ _ _ _
 unfold wpList
 rw [if_pos (s.wanted hw)]
 refine .inl ?_
 obtain⟨v,w',hrun,s'⟩:=hs a w s
 have hk:=k _ _ s'
 unfold Oper.wp
 rcases hrun with hrun|⟨hrun,rfl⟩
 ·rw [hrun];exact hk
 ·rw [hrun];exact hk
theorem aw_skipped (hw:wantA all σ o=some false) (hd:dstOk E.N o.dst=true) (hσ:σ.setO o.dst (.tup [])=σ') (k:aw E (.ops all rest::K) σ' h):aw E (.ops all (o::rest)::K) σ h:=fun a w s=>by
 subst hσ
 show wpList _ _ _ _ _ _
 unfold wpList
 rw [if_neg (by rw [s.wanted hw];simp)]
 exact k _ _ (s.put hd (r:=.tup []) ⟨[],rfl,trivial⟩)
theorem aw_pure {r:AV} (hw:wantA all σ o=some true) (ho:POk E.P h (ev σ) o.op r) (hd:dstOk E.N o.dst=true) (hσ:σ.setO o.dst r=σ') (k:aw E (.ops all rest::K) σ' h):
  aw E (.ops all (o::rest)::K) σ h:=by
 subst hσ
 refine aw_step hw (fun a w s=> ?_) k
 obtain⟨v,hrun,hr⟩:=ho (Stab E.C h w) w a.eval Stab.mono' (fun x _=>ev_rep s x) s.heap
 exact⟨v,w,.inl (hrun o rfl),s.put hd hr⟩
theorem St.new {N:Nat} {C:Ctx} {a:Act} {w w':World} {g:Nat} {ob:AObj} (s:St N C σ h a w) (hg:g=w.heap.size) (hfr:Fr (fun _=>False) w w') (hlt:g<w'.heap.size)
  (ho:ORep (Stab C ((g,ob)::h) w') w' g ob):St N C σ ((g,ob)::h) a w':=by
 have hnk:g∉h.keys:=fun hm=>by have:=s.klt hm;omega
 have kp:Keeps (Stab C h w) (Stab C ((g,ob)::h) w') w w':=by
  refine⟨fun t b hb=>⟨hb.1,Nat.lt_of_lt_of_le hb.2.1 hfr.size,?_⟩,fun t b hb=>hfr.block b hb.2.1 (fun x=>x),hfr.has⟩
  have:=hb.2.1
  simp only [Heap.keys,List.map_cons,List.mem_cons,not_or]
  exact⟨by omega,hb.2.2⟩
 refine⟨s.size,s.defers,fun t=>Rep.keep kp (s.slots t),fun g' o' hm=> ?_,?_,fun g' hg'=> ?_,?_⟩
 ·simp only [List.mem_cons,Prod.mk.injEq] at hm
  rcases hm with ⟨rfl,rfl⟩|hm
  ·exact ho
  ·have h1:=s.heap g' o' hm
   exact ORep.keep kp (hfr.block g' h1.lt (fun x=>x)) h1
 ·simp only [Heap.keys,List.map_cons,List.nodup_cons]
  exact⟨hnk,s.nodup⟩
 ·simp only [Heap.keys,List.map_cons,List.mem_cons] at hg'
  rcases hg' with rfl|hg'
  ·right;have:=s.frame.size;omega
  ·exact s.keys g' hg'
 ·exact s.frame.trans hfr (fun x hx _=>hx.elim)
theorem aw_new {r:Nat→AV} {ob:AObj} (hw:wantA all σ o=some true) (hd:dstOk E.N o.dst=true)
  (hrun:∀a w,St E.N E.C σ h a w→∃v w',(execOp a.eval o).run E.P w=.ok (.value v) w'∧Fr (fun _=>False) w w'∧w.heap.size<w'.heap.size∧
   ORep (Stab E.C ((w.heap.size,ob)::h) w') w' w.heap.size ob∧Rep (Stab E.C ((w.heap.size,ob)::h) w') w' (r w.heap.size) v)
  (k:∀g,g∉h.keys→aw E (.ops all rest::K) (σ.setO o.dst (r g)) ((g,ob)::h)):aw E (.ops all (o::rest)::K) σ h:=fun a w s=>by
 obtain⟨v,w',hr,hfr,hlt,ho,hrep⟩:=hrun a w s
 have hnk:w.heap.size∉h.keys:=fun hm=>Nat.lt_irrefl _ (s.klt hm)
 have s':=(s.new rfl hfr hlt ho).put hd hrep
 have hk:=k _ hnk _ _ s'
 show wpList _ _ _ _ _ _
 unfold wpList
 rw [if_pos (s.wanted hw)]
 refine .inl ?_
 unfold Oper.wp
 rw [hr]
 exact hk
def ofL:List CV→Nat→CV
 |[],_=>.any
 |c::cs,n=>match n with
  |0=>c
  |n+1=>ofL cs n
theorem ofL_get:∀(cs:List CV) (j:Nat) (c:CV),cs[j]?=some c→ofL cs j=c
 |[],j,c,e=>by simp at e
 |a::cs,0,c,e=>by simpa [ofL] using e
 |a::cs,j+1,c,e=>by simp at e;exact ofL_get cs j c e
theorem orep_new {C:Ctx} {w:World} {cs:List CV} {us:List Value} {ty:TypeId} {h':Heap} (hr:RepL (Stab C h' (w.alloc (.cells us.toArray ty))) (w.alloc (.cells us.toArray ty)) cs us):
  ORep (Stab C h' (w.alloc (.cells us.toArray ty))) (w.alloc (.cells us.toArray ty)) w.heap.size (.cells ty cs.length (ofL cs)):=by
 refine⟨us.toArray,heap_alloc_new w _,by simp [hr.length],fun j hj=> ?_⟩
 obtain⟨u,hu,hc⟩:=hr.get j cs[j] (List.getElem?_eq_getElem hj)
 exact⟨u,by simpa using hu,by rw [ofL_get cs j _ (List.getElem?_eq_getElem hj)];exact hc⟩
theorem keeps_alloc {C:Ctx} {w:World} {ob:AObj} {o:Obj} (hnk:w.heap.size∉h.keys):Keeps (Stab C h w) (Stab C ((w.heap.size,ob)::h) (w.alloc o)) w (w.alloc o):=
 ⟨fun t b hb=>⟨hb.1,by have:=hb.2.1;simp;omega,by
  have:=hb.2.1
  simp only [Heap.keys,List.map_cons,List.mem_cons,not_or]
  exact⟨by omega,hb.2.2⟩⟩,fun t b hb=>RowKit.Below.heap_alloc w o b hb.2.1,(Fr.alloc (fun _=>False) w o).has⟩
theorem aw_box {t:TypeId} {x:Operand} (hop:o.op=.box t x) (hw:wantA all σ o=some true) (hd:dstOk E.N o.dst=true) {v:AV} (hx:ev σ x=v) (hnt:∀xs,v≠.tup xs) (hs:v.cells.all CV.solid=true)
  (k:∀g,g∉h.keys→aw E (.ops all rest::K) (σ.setO o.dst (.c (.optr g 0))) ((g,.cells t v.cells.length (ofL v.cells))::h)):aw E (.ops all (o::rest)::K) σ h:=by
 refine aw_new (r:=fun g=>.c (.optr g 0)) (ob:=.cells t v.cells.length (ofL v.cells)) hw hd (fun a w s=> ?_) k
 have h1:=ev_rep s x
 rw [hx] at h1
 have hnk:w.heap.size∉h.keys:=fun hm=>Nat.lt_irrefl _ (s.klt hm)
 obtain⟨hL,_⟩:=rep_cells hnt hs h1
 have e:(a.eval x).cells=(a.eval x).cells.toList.toArray:=by simp
 refine⟨.pointer (some ⟨w.heap.size,0,none⟩),w.alloc (.cells (a.eval x).cells.toList.toArray t),?_,Fr.alloc _ _ _,by simp,orep_new (hL.keep (keeps_alloc hnk)),rfl⟩
 simp only [execOp,hop,Instr.box,newVar,newRow,Sem.run_bind]
 rw [←e]
 rfl
theorem aw_alloc {t:TypeId} {z:List CV} (hop:o.op=.alloc t) (hw:wantA all σ o=some true) (hd:dstOk E.N o.dst=true) (hz:tZero E.P t=some z)
  (k:∀g,g∉h.keys→aw E (.ops all rest::K) (σ.setO o.dst (.c (.optr g 0))) ((g,.cells t z.length (ofL z))::h)):aw E (.ops all (o::rest)::K) σ h:=by
 refine aw_new (r:=fun g=>.c (.optr g 0)) (ob:=.cells t z.length (ofL z)) hw hd (fun a w s=> ?_) k
 obtain⟨i,v,hi,hv,rfl⟩:=tZero_spec hz
 refine⟨.pointer (some ⟨w.heap.size,0,none⟩),w.alloc (.cells v.cells.toList.toArray t),?_,Fr.alloc _ _ _,by simp,orep_new (cstL_rep _ _ _),rfl⟩
 simp only [execOp,hop,Instr.alloc,zeroValue,typeInfo,newVar,newRow,Sem.run_bind]
 simp [hi,hv]
end Go.AI
namespace Go.AI
inductive LeC (h:Heap):CV→CV→Prop
 |refl (x:CV):LeC h x x
 |any (x:CV):LeC h x .any
 |nils {t:Bool} {s:Nat} {f:Nat→CV}:LeC h .nils (.row t s 0 f)
 |row {t t':Bool} {s n:Nat} {f f':Nat→CV}:(t'=true→t=true)→(∀j,j<n*s→LeC h (f j) (f' j))→LeC h (.row t s n f) (.row t' s n f')
 |osl {g s off n m:Nat} {ty:TypeId} {f f':Nat→CV}:h.get g=some (.cells ty m f)→off+n*s≤m→(∀j,j<n*s→LeC h (f (off+j)) (f' j))→LeC h (.osl g s off n) (.row false s n f')
 |ifc {t:TypeId} {x y:CV}:LeC h x y→LeC h (.ifc t x) (.ifc t y)
def LeL (h:Heap):List CV→List CV→Prop
 |[],[]=>True
 |x::xs,y::ys=>LeC h x y∧LeL h xs ys
 |_,_=>False
inductive Le0 (h:Heap):AV→AV→Prop
 |c {x y:CV}:LeC h x y→Le0 h (.c x) (.c y)
 |agg {xs ys:List CV}:LeL h xs ys→Le0 h (.agg xs) (.agg ys)
def LeA (h:Heap):List AV→List AV→Prop
 |[],[]=>True
 |x::xs,y::ys=>Le0 h x y∧LeA h xs ys
 |_,_=>False
def Vis (S:Bool→Nat→Prop) (h:Heap) (t:Bool) (b:Nat):Prop:=S t b∨(t=false∧b∈h.keys)
theorem LeC.rep {S:Bool→Nat→Prop} {w:World} {h:Heap} (hm:∀b,S true b→S false b) (hh:∀g o,(g,o)∈h→ORep S w g o) {x y:CV} (le:LeC h x y):∀{v:Value},RepC S w x v→RepC (Vis S h) w y v:=by
 have kp:Keeps S (Vis S h) w w:=⟨fun _ _ hb=>.inl hb,fun _ _ _=>rfl,fun _ _ e=>e⟩
 induction le with
 |refl x=>intro v hr;exact hr.keep kp
 |any x=>intro v _;trivial
 |nils=>intro v hr;obtain⟨A,hv⟩:=hr;exact⟨A,0,hv,Nat.le_refl _,fun h0=>by simp at h0⟩
 | @row t t' s n f f' ht _ ih=>
   intro v hr
   obtain⟨A,c,hv,hc,hn⟩:=hr
   refine⟨A,c,hv,hc,fun h0=> ?_⟩
   obtain⟨ad,hA,hS,hj⟩:=hn h0
   refine⟨ad,hA,.inl ?_,fun j hjl=> ?_⟩
   ·cases t' with
    |true=>rw [ht rfl] at hS;exact hS
    |false=>cases t with
     |true=>exact hm _ hS
     |false=>exact hS
   ·obtain⟨u,hu,hf⟩:=hj j hjl
    exact⟨u,hu,ih j hjl hf⟩
 | @osl g s off n m ty f f' hg hle _ ih=>
   intro v hr
   obtain⟨c,hv,hc,_,_⟩:=hr
   obtain⟨cs,hb,hn,hj⟩:=hh g _ (Heap.get_mem hg)
   refine⟨some ⟨g,off,none⟩,c,hv,hc,fun _=>⟨⟨g,off,none⟩,rfl,.inr ⟨rfl,?_⟩,fun j hjl=> ?_⟩⟩
   ·exact List.mem_map.2 ⟨_,Heap.get_mem hg,rfl⟩
   ·obtain⟨u,hu,hf⟩:=hj (off+j) om
    exact⟨u,by rw [add_mk,cell_own hb];exact hu,ih j hjl hf⟩
 |ifc _ ih=>intro v hr;obtain⟨u,hu,hx⟩:=hr;exact⟨u,hu,ih hx⟩
theorem LeL.rep {S:Bool→Nat→Prop} {w:World} {h:Heap} (hm:∀b,S true b→S false b) (hh:∀g o,(g,o)∈h→ORep S w g o):∀{xs ys:List CV} {us:List Value},LeL h xs ys→RepL S w xs us→RepL (Vis S h) w ys us
 |[],[],[],_,_=>trivial
 |_::_,_::_,_::_,le,hr=>⟨le.1.rep hm hh hr.1,LeL.rep hm hh le.2 hr.2⟩
 |[],[],_::_,_,hr=>hr.elim
 |_::_,_::_,[],_,hr=>hr.elim
 |[],_::_,_,le,_=>le.elim
 |_::_,[],_,le,_=>le.elim
theorem Le0.rep {S:Bool→Nat→Prop} {w:World} {h:Heap} (hm:∀b,S true b→S false b) (hh:∀g o,(g,o)∈h→ORep S w g o) {x y:AV} {v:Value} (le:Le0 h x y) (hr:Rep S w x v):Rep0 (Vis S h) w y v:=by
 cases le with
 |c l=>exact l.rep hm hh hr
 |agg l=>obtain⟨us,hv,hu⟩:=hr;exact⟨us,hv,l.rep hm hh hu⟩
theorem LeA.rep {N:Nat} {C:Ctx} {σ:Sl} {h:Heap} {a:Act} {w:World} (s:St N C σ h a w):∀{xs:List Operand} {ys:List AV},LeA h (xs.map (ev σ)) ys→RepT (Vis (Stab C h w) h) w ys (xs.map a.eval)
 |[],[],_=>trivial
 |x::xs,y::ys,le=>⟨le.1.rep Stab.mono' s.heap (ev_rep s x),LeA.rep s le.2⟩
 |[],_::_,le=>le.elim
 |_::_,[],le=>le.elim
def Callable (P:Program) (f:FuncId):Prop:=∃fn,P.funcs[f]?=some fn∧fn.body.isNone=false∧(fn.name== "runtime.NumGoroutine")=false
theorem Callable.run {P:Program} {f:FuncId} (hc:Callable P f) (args:Array Value) (w:World):(callFunc f args).run P w=.ok (.enter f args) w:=by
 obtain⟨fn,hf,hb,hn⟩:=hc
 have hn':¬fn.name= "runtime.NumGoroutine" :=by simpa using hn
 have hb':¬fn.body=none:=fun e=>by rw [e] at hb;cases hb
 unfold callFunc
 simp [hf,hb',hn']
def Fa (P:Program) (f:FuncId) (args:List AV) (r:AV):Prop:=
 Callable P f∧∀(S:Bool→Nat→Prop) (w:World) (vs:List Value),(∀b,S true b→S false b)→(∀t b,S t b→b<w.heap.size)→RepT S w args vs→
  Calls P f vs.toArray w fun e w'=>∃v,e=.returned v∧Rep (fun _ b=>(S true b∨w.heap.size≤b)∧b<w'.heap.size) w' r v∧Fr (fun _=>False) w w'
section
variable {E : Env} {K : List It} {σ σ' : Sl} {h : Heap} {all rest : List Oper} {o : Oper}
theorem St.later {N:Nat} {C:Ctx} {a:Act} {w w':World} (s:St N C σ h a w) (hfr:Fr (fun _=>False) w w'):St N C σ h a w':=by
 have kp:Keeps (Stab C h w) (Stab C h w') w w':=⟨fun t b hb=>⟨hb.1,Nat.lt_of_lt_of_le hb.2.1 hfr.size,hb.2.2⟩,fun t b hb=>hfr.block b hb.2.1 (fun x=>x),hfr.has⟩
 exact⟨s.size,s.defers,fun t=>Rep.keep kp (s.slots t),fun g o hm=>by
  have h1:=s.heap g o hm
  exact ORep.keep kp (hfr.block g h1.lt (fun x=>x)) h1,s.nodup,s.keys,s.frame.trans hfr (fun x hx _=>hx.elim)⟩
theorem Fa.use {P:Program} {N:Nat} {C:Ctx} {a:Act} {w:World} {f:FuncId} {xs:List Operand} {args:List AV} {r:AV} (hf:Fa P f args r) (s:St N C σ h a w) (le:LeA h (xs.map (ev σ)) args):
  Calls P f (xs.map a.eval).toArray w fun e w'=>∃v,e=.returned v∧Rep (Stab C h w') w' r v∧Fr (fun _=>False) w w':=by
 have hlt:∀t b,Vis (Stab C h w) h t b→b<w.heap.size:=fun t b hb=>hb.elim (fun x=>x.2.1) (fun x=>s.klt x.2)
 refine(hf.2 (Vis (Stab C h w) h) w _ (fun b hb=> ?_) hlt (le.rep s)).mono ?_
 ·rcases hb with hb|hb
  ·exact .inl (Stab.mono' b hb)
  ·exact absurd hb.1 (by simp)
 ·rintro e w' ⟨v,he,hr,hfr⟩
  refine⟨v,he,hr.keep ⟨fun t b hb=> ?_,fun _ _ _=>rfl,fun _ _ x=>x⟩,hfr⟩
  obtain⟨hb1,hb2⟩:=hb
  rcases hb1 with (hb1|hb1)|hb1
  ·have h1:Stab C h w' true b:=⟨hb1.1,hb2,hb1.2.2⟩
   cases t
   ·exact Stab.mono' b h1
   ·exact h1
  ·exact absurd hb1.1 (by simp)
  ·refine⟨.inr ?_,hb2,fun hm=> ?_⟩
   ·have:=s.frame.size;omega
   ·have:=s.klt hm;omega
theorem aw_call {f:FuncId} {xs:List Operand} {ts:Array TypeId} {args:List AV} {r:AV} (hf:Fa E.P f args r) (hop:o.op=.call {callee:=.value (.func f),args:=xs.toArray,argTypes:=ts}) (hw:wantA all σ o=some true) (hd:dstOk E.N o.dst=true)
  (le:LeA h (xs.map (ev σ)) args) (hσ:σ.setO o.dst r=σ') (k:aw E (.ops all rest::K) σ' h):aw E (.ops all (o::rest)::K) σ h:=fun a w s=>by
 subst hσ
 show wpList _ _ _ _ _ _
 unfold wpList
 rw [if_pos (s.wanted hw)]
 refine .inl ?_
 unfold Oper.wp
 have hrun:(execOp a.eval o).run E.P w=.ok (.enter f (xs.map a.eval).toArray) w:=by
  simp only [execOp,hop,resolve,Act.eval,Deferred.ofValue,invoke,Sem.run_bind]
  have:=hf.1.run (#[]++(Array.map a.eval xs.toArray)++ #[]) w
  simp only [Sem.run_pure,Result.andThen_ok]
  rw [show((xs.map a.eval).toArray)=(#[]++(Array.map a.eval xs.toArray)++ #[]) from by simp]
  exact this
 rw [hrun]
 show Calls _ _ _ _ _
 refine(hf.use s le).mono ?_
 rintro e w' ⟨v,rfl,hr,hfr⟩
 exact k _ _ ((s.later hfr).put hd hr)
theorem aw_callq {f:FuncId} {xs:List Operand} {ts:Array TypeId} {args:List AV} {r:AV} (hf:Fa E.P f args r) (hop:o.op=.call {callee:=.value (.func f),args:=xs.toArray,argTypes:=ts}) (hw:wantA all σ o=some true) (hd:dstOk E.N o.dst=true)
 (le:LeA h (xs.map (ev σ)) args) (k:aw E (.ops all rest::K) (σ.setO o.dst r) h):aw E (.ops all (o::rest)::K) σ h:=aw_call hf hop hw hd le rfl k
inductive LeR (h:Heap):CV→CV→Prop
 |int (k:IntKind) (n:Int):LeR h (.int k n) (.int k n)
 |bool (b:Bool):LeR h (.bool b) (.bool b)
 |str (s:ByteArray):LeR h (.str s) (.str s)
 |nilI:LeR h .nilI .nilI
 |nils':LeR h .nils .nils
 |any (x:CV):LeR h x .any
 |nils {t:Bool} {s:Nat} {f:Nat→CV}:LeR h .nils (.row t s 0 f)
 |row {t:Bool} {s n:Nat} {f f':Nat→CV}:(∀j,j<n*s→LeR h (f j) (f' j))→LeR h (.row true s n f) (.row t s n f')
 |osl {t:Bool} {g s off n m:Nat} {ty:TypeId} {f f':Nat→CV}:h.get g=some (.cells ty m f)→off+n*s≤m→(∀j,j<n*s→LeR h (f (off+j)) (f' j))→LeR h (.osl g s off n) (.row t s n f')
 |ifc {t:TypeId} {x y:CV}:LeR h x y→LeR h (.ifc t x) (.ifc t y)
def LeRL (h:Heap):List CV→List CV→Prop
 |[],[]=>True
 |x::xs,y::ys=>LeR h x y∧LeRL h xs ys
 |_,_=>False
inductive LeR0 (h:Heap):AV→AV→Prop
 |c {x y:CV}:LeR h x y→LeR0 h (.c x) (.c y)
 |agg {xs ys:List CV}:LeRL h xs ys→LeR0 h (.agg xs) (.agg ys)
def LeRT (h:Heap):List AV→List AV→Prop
 |[],[]=>True
 |x::xs,y::ys=>LeR0 h x y∧LeRT h xs ys
 |_,_=>False
inductive LeRA (h:Heap):AV→AV→Prop
 |one {x y:AV}:LeR0 h x y→LeRA h x y
 |tup {xs ys:List AV}:LeRT h xs ys→LeRA h (.tup xs) (.tup ys)
def Back (C:Ctx) (w:World) (_:Bool) (b:Nat):Prop:=(C.S0 true b∨C.w0.heap.size≤b)∧b<w.heap.size
theorem LeR.rep {C:Ctx} {w:World} {h:Heap} (hk:∀g∈h.keys,C.w0.heap.size≤g) (hh:∀g o,(g,o)∈h→ORep (Stab C h w) w g o) {x y:CV} (le:LeR h x y):∀{v:Value},RepC (Stab C h w) w x v→RepC (Back C w) w y v:=by
 induction le with
 |int k n=>intro v hr;exact hr
 |bool b=>intro v hr;exact hr
 |str s=>intro v hr;exact hr
 |nilI=>intro v hr;exact hr
 |nils'=>intro v hr;exact hr
 |any x=>intro v _;trivial
 |nils=>intro v hr;obtain⟨A,hv⟩:=hr;exact⟨A,0,hv,Nat.le_refl _,fun h0=>by simp at h0⟩
 | @row t s n f f' _ ih=>
   intro v hr
   obtain⟨A,c,hv,hc,hn⟩:=hr
   refine⟨A,c,hv,hc,fun h0=> ?_⟩
   obtain⟨ad,hA,hS,hj⟩:=hn h0
   refine⟨ad,hA,⟨hS.1,hS.2.1⟩,fun j hjl=> ?_⟩
   obtain⟨u,hu,hf⟩:=hj j hjl
   exact⟨u,hu,ih j hjl hf⟩
 | @osl t g s off n m ty f f' hg hle _ ih=>
   intro v hr
   obtain⟨c,hv,hc,_,_⟩:=hr
   have ho:=hh g _ (Heap.get_mem hg)
   have hlt:=ho.lt
   obtain⟨cs,hb,hn,hj⟩:=ho
   refine⟨some ⟨g,off,none⟩,c,hv,hc,fun _=>⟨⟨g,off,none⟩,rfl,⟨.inr (hk g (List.mem_map.2 ⟨_,Heap.get_mem hg,rfl⟩)),hlt⟩,fun j hjl=> ?_⟩⟩
   obtain⟨u,hu,hf⟩:=hj (off+j) om
   exact⟨u,by rw [add_mk,cell_own hb];exact hu,ih j hjl hf⟩
 |ifc _ ih=>intro v hr;obtain⟨u,hu,hx⟩:=hr;exact⟨u,hu,ih hx⟩
theorem LeRL.rep {C:Ctx} {w:World} {h:Heap} (hk:∀g∈h.keys,C.w0.heap.size≤g) (hh:∀g o,(g,o)∈h→ORep (Stab C h w) w g o):∀{xs ys:List CV} {us:List Value},LeRL h xs ys→RepL (Stab C h w) w xs us→RepL (Back C w) w ys us
 |[],[],[],_,_=>trivial
 |_::_,_::_,_::_,le,hr=>⟨le.1.rep hk hh hr.1,LeRL.rep hk hh le.2 hr.2⟩
 |[],[],_::_,_,hr=>hr.elim
 |_::_,_::_,[],_,hr=>hr.elim
 |[],_::_,_,le,_=>le.elim
 |_::_,[],_,le,_=>le.elim
theorem LeR0.rep {C:Ctx} {w:World} {h:Heap} (hk:∀g∈h.keys,C.w0.heap.size≤g) (hh:∀g o,(g,o)∈h→ORep (Stab C h w) w g o) {x y:AV} {v:Value} (le:LeR0 h x y) (hr:Rep0 (Stab C h w) w x v):Rep0 (Back C w) w y v:=by
 cases le with
 |c l=>exact l.rep hk hh hr
 |agg l=>obtain⟨us,hv,hu⟩:=hr;exact⟨us,hv,l.rep hk hh hu⟩
theorem LeRT.rep {C:Ctx} {w:World} {h:Heap} (hk:∀g∈h.keys,C.w0.heap.size≤g) (hh:∀g o,(g,o)∈h→ORep (Stab C h w) w g o):∀{xs ys:List AV} {us:List Value},LeRT h xs ys→RepT (Stab C h w) w xs us→RepT (Back C w) w ys us
 |[],[],[],_,_=>trivial
 |_::_,_::_,_::_,le,hr=>⟨le.1.rep hk hh hr.1,LeRT.rep hk hh le.2 hr.2⟩
 |[],[],_::_,_,hr=>hr.elim
 |_::_,_::_,[],_,hr=>hr.elim
 |[],_::_,_,le,_=>le.elim
 |_::_,[],_,le,_=>le.elim
theorem rep_of_rep0 {S:Bool→Nat→Prop} {w:World} {x:AV} {v:Value} (hr:Rep0 S w x v):Rep S w x v:=by
 cases x with
 |tup xs=>exact hr.elim
 |c x=>exact hr
 |agg cs=>exact hr
theorem LeRA.rep {C:Ctx} {w:World} {h:Heap} (hk:∀g∈h.keys,C.w0.heap.size≤g) (hh:∀g o,(g,o)∈h→ORep (Stab C h w) w g o) {x y:AV} {v:Value} (le:LeRA h x y) (hr:Rep (Stab C h w) w x v):Rep (Back C w) w y v:=by
 cases le with
 |one l=>
  cases l with
  |c l=>exact l.rep hk hh hr
  |agg l=>obtain⟨us,hv,hu⟩:=hr;exact⟨us,hv,l.rep hk hh hu⟩
 |tup l=>obtain⟨us,hv,hu⟩:=hr;exact⟨us,hv,l.rep hk hh hu⟩
def rvAV (P:Program) (σ:Sl) (h:Heap):ResultVar→Option AV
 |.tmp t=>some (σ.get t)
 |.cell a t=>match σ.get a,tSz P t with
  |.c (.optr g off),some (ag,n)=>match h.get g with
   |some (.cells _ m f)=>if off+n≤m∧(ag=true∨n=1) then some (if ag then .agg (cellsAt f off 0 n) else .c (f off)) else none
   |_=>none
  |_,_=>none
theorem rvAV_run {P:Program} {N:Nat} {C:Ctx} {a:Act} {w:World} (s:St N C σ h a w) {rv:ResultVar} {x:AV} (hx:rvAV P σ h rv=some x):
  ∃v,(match rv with
   |.tmp t=>(pure (a.tmps.getD t undef):Sem Value)
   |.cell c t=>do loadVar t (←asAddr (a.tmps.getD c undef))).run P w=.ok v w∧Rep (Stab C h w) w x v:=by
 cases rv with
 |tmp t=>simp only [rvAV,Option.some.injEq] at hx;subst hx;exact⟨_,rfl,s.slots t⟩
 |cell c t=>
  simp only [rvAV] at hx
  split at hx
  ·rename_i g off ag n hc ht
   split at hx
   ·rename_i ty m f hg
    split at hx
    ·rename_i hle
     injection hx with hx
     subst hx
     have h1:=s.slots c
     rw [hc] at h1
     have hv:a.tmps.getD c undef=.pointer (some ⟨g,off,none⟩):=h1
     obtain⟨cs,hb,hn,hj⟩:=s.heap g _ (Heap.get_mem hg)
     obtain⟨v,hrun,hr⟩:=run_loadVar (P:=P) (ad:=⟨g,off,none⟩) (off:=off) ht (fun e=>hle.2.elim (fun x=>by rw [e] at x;cases x) id) (fun j hjn=>by
      obtain⟨u,hu,hr⟩:=hj (off+j) om
      exact⟨u,by rw [add_mk,cell_own hb];exact hu,hr⟩)
     exact⟨v,by simp only [hv,asAddr,Sem.run_bind,Sem.run_pure,Result.andThen_ok,hrun],hr⟩
    ·cases hx
   ·cases hx
  ·cases hx
def resAV (P:Program) (σ:Sl) (h:Heap):List ResultVar→Option AV
 |[rv]=>rvAV P σ h rv
 |rvs=>(rvs.mapM (rvAV P σ h)).map .tup
def AV.flat:AV→Bool
 |.tup _=>false
 |_=>true
theorem rep0_of_rep {S:Bool→Nat→Prop} {w:World} {x:AV} {v:Value} (hf:x.flat=true) (hr:Rep S w x v):Rep0 S w x v:=by
 cases x with
 |tup xs=>cases hf
 |c x=>exact hr
 |agg cs=>exact hr
def rvSem (tmps:Array Value):ResultVar→Sem Value
 |.tmp t=>pure (tmps.getD t undef)
 |.cell a t=>do loadVar t (←asAddr (tmps.getD a undef))
theorem rvs_run {P:Program} {N:Nat} {C:Ctx} {a:Act} {w:World} (s:St N C σ h a w):∀(rvs:List ResultVar) (xs:List AV),rvs.mapM (rvAV P σ h)=some xs→xs.all AV.flat=true→
  ∃vs:List Value,(rvs.mapM (rvSem a.tmps)).run P w=.ok vs w∧RepT (Stab C h w) w xs vs
 |[],xs,hx,_=>by
  simp at hx
  subst hx
  exact⟨[],by simp,trivial⟩
 |rv::rvs,xs,hx,hfl=>by
  rw [List.mapM_cons] at hx
  cases h1:rvAV P σ h rv with
  |none=>rw [h1] at hx;cases hx
  |some x=>
   rw [h1] at hx
   cases h2:rvs.mapM (rvAV P σ h) with
   |none=>rw [h2] at hx;cases hx
   |some ys=>
    rw [h2] at hx
    have hx':xs=x::ys:=by injection hx with hx;exact hx.symm
    subst hx'
    simp only [List.all_cons,Bool.and_eq_true] at hfl
    obtain⟨v,hv,hr⟩:=rvAV_run s h1
    obtain⟨vs,hvs,hrs⟩:=rvs_run s rvs ys h2 hfl.2
    refine⟨v::vs,?_,rep0_of_rep hfl.1 hr,hrs⟩
    rw [List.mapM_cons]
    have hv':(rvSem a.tmps rv).run P w=.ok v w:=by cases rv<;>exact hv
    simp [hv',hvs]
theorem results_run {P:Program} {N:Nat} {C:Ctx} {a:Act} {w:World} {fn:Func} (s:St N C σ h a w) {rvs:List ResultVar} (hrs:fn.results=rvs.toArray) {x:AV} (hx:resAV P σ h rvs=some x)
  (hfl:∀xs,x=.tup xs→xs.all AV.flat=true):∃v,(results fn a.tmps).run P w=.ok v w∧Rep (Stab C h w) w x v:=by
 have he:results fn a.tmps=(do let vs←fn.results.mapM (rvSem a.tmps);pure (if h:vs.size=1 then vs[0] else .tuple vs)):=by
  unfold results
  congr 1
 rw [he,hrs]
 match rvs,hx with
 |[rv],hx=>
  obtain⟨v,hv,hr⟩:=rvAV_run s hx
  have hv':(rvSem a.tmps rv).run P w=.ok v w:=by cases rv<;>exact hv
  exact⟨v,by simp [hv'],hr⟩
 |[],hx=>
  simp [resAV] at hx
  subst hx
  exact⟨.tuple #[],by simp,[],rfl,trivial⟩
 |r1::r2::rvs,hx=>
  simp only [resAV] at hx
  cases h2:(r1::r2::rvs).mapM (rvAV P σ h) with
  |none=>rw [h2] at hx;cases hx
  |some ys=>
   rw [h2] at hx
   injection hx with hx
   obtain⟨vs,hvs,hrs'⟩:=rvs_run s _ ys h2 (hfl ys hx.symm)
   subst hx
   have hl:vs.length=(r1::r2::rvs).length:=by
    have k1:∀(xs:List AV) (us:List Value),RepT (Stab C h w) w xs us→us.length=xs.length:=by
     intro xs
     induction xs with
     |nil=>intro us hr;cases us with
      |nil=>rfl
      |cons=>exact hr.elim
     |cons x xs ih=>intro us hr;cases us with
      |nil=>exact hr.elim
      |cons u us=>simp [ih us hr.2]
    have k2:∀(l:List ResultVar) (ys:List AV),l.mapM (rvAV P σ h)=some ys→ys.length=l.length:=by
     intro l
     induction l with
     |nil=>intro ys hy;simp at hy;subst hy;rfl
     |cons a l ih=>
      intro ys hy
      rw [List.mapM_cons] at hy
      cases e1:rvAV P σ h a with
      |none=>rw [e1] at hy;cases hy
      |some x=>
       rw [e1] at hy
       cases e2:l.mapM (rvAV P σ h) with
       |none=>rw [e2] at hy;cases hy
       |some zs=>
        rw [e2] at hy
        have:ys=x::zs:=by injection hy with hy;exact hy.symm
        subst this
        simp [ih zs e2]
    rw [k1 _ _ hrs',k2 _ _ h2]
   refine⟨.tuple vs.toArray,?_,vs,rfl,hrs'⟩
   have hm:(Array.mapM (rvSem a.tmps) (r1::r2::rvs).toArray).run P w=.ok vs.toArray w:=by
    rw [List.mapM_toArray]
    simp only [Sem.run_map,hvs,Result.andThen_ok]
   simp only [Sem.run_bind,hm,Result.andThen_ok,Sem.run_pure]
   rw [dif_neg (by simp [hl])]
def Done (C:Ctx) (r:AV):Ending→World→Prop:=fun e w'=>∃v,e=.returned v∧Rep (Back C w') w' r v∧Fr (fun _=>False) C.w0 w'
def envOf (P:Program) (fn:Func) (C:Ctx) (r:AV):Env:={P,N:=fn.ntmps,C,Q:=bodyPost P fn (Done C r)}
theorem done_of {P:Program} {fn:Func} {C:Ctx} {r x:AV} {a:Act} {w:World} (hC:∀b,¬C.own0 b) (s:St fn.ntmps C σ h a w) {rvs:List ResultVar} (hrs:fn.results=rvs.toArray) (hx:resAV P σ h rvs=some x)
  (hfl:∀xs,x=.tup xs→xs.all AV.flat=true) (le:LeRA h x r):a.defers=[]∧∃v,(results fn a.tmps).run P w=.ok v w∧Done C r (.returned v) w:=by
 obtain⟨v,hv,hr⟩:=results_run s hrs hx hfl
 refine⟨s.defers,v,hv,v,rfl,le.rep (fun g hg=>(s.keys g hg).resolve_left (hC g)) s.heap hr,?_⟩
 exact⟨s.frame.os,s.frame.tape,s.frame.output,s.frame.size,s.frame.drawn,fun b hb _=>s.frame.block b hb (hC b),s.frame.has⟩
theorem aw_ret {P:Program} {fn:Func} {C:Ctx} {r x:AV} {K:List It} (hC:∀b,¬C.own0 b) {rvs:List ResultVar} (hrs:fn.results=rvs.toArray) (hx:resAV P σ h rvs=some x) (hfl:∀xs,x=.tup xs→xs.all AV.flat=true)
 (le:LeRA h x r):aw (envOf P fn C r) (.code .ret::K) σ h:=fun a w s=>wp_ret (exW_ret a w (done_of hC s hrs hx hfl le))
theorem aw_end {P:Program} {fn:Func} {C:Ctx} {r x:AV} (hC:∀b,¬C.own0 b) {rvs:List ResultVar} (hrs:fn.results=rvs.toArray) (hx:resAV P σ h rvs=some x) (hfl:∀xs,x=.tup xs→xs.all AV.flat=true)
 (le:LeRA h x r):aw (envOf P fn C r) [] σ h:=fun a w s=>done_of hC s hrs hx hfl le
def flatR:AV→Bool
 |.tup xs=>xs.all AV.flat
 |_=>true
theorem flatR_spec {x:AV} (hx:flatR x=true):∀xs,x=.tup xs→xs.all AV.flat=true:=fun xs e=>by subst e;exact hx
theorem aw_retq {P:Program} {fn:Func} {C:Ctx} {r:AV} {K:List It} (hC:∀b,¬C.own0 b) {rvs:List ResultVar} (hrs:fn.results=rvs.toArray) (k:∀R:Option AV→Prop,(∀x,flatR x=true→LeRA h x r→R (some x))→R (resAV P σ h rvs)):
  aw (envOf P fn C r) (.code .ret::K) σ h:=by
 have:=k (fun y=>y=resAV P σ h rvs→aw (envOf P fn C r) (.code .ret::K) σ h) (fun x hf le e=>aw_ret hC hrs e.symm (flatR_spec hf) le)
 exact this rfl
theorem aw_endq {P:Program} {fn:Func} {C:Ctx} {r:AV} (hC:∀b,¬C.own0 b) {rvs:List ResultVar} (hrs:fn.results=rvs.toArray) (k:∀R:Option AV→Prop,(∀x,flatR x=true→LeRA h x r→R (some x))→R (resAV P σ h rvs)):
  aw (envOf P fn C r) [] σ h:=by
 have:=k (fun y=>y=resAV P σ h rvs→aw (envOf P fn C r) [] σ h) (fun x hf le e=>aw_end hC hrs e.symm (flatR_spec hf) le)
 exact this rfl
def initS:Nat→List AV→Sl
 |_,[]=>[]
 |i,x::xs=>(i,x)::initS (i+1) xs
theorem initS_get:∀(xs:List AV) (i t:Nat),(initS i xs).get t=if i≤t then xs.getD (t-i) (.c .any) else .c .any
 |[],i,t=>by simp [initS,Sl.get]
 |x::xs,i,t=>by
  simp only [initS,Sl.get,initS_get xs (i+1) t]
  by_cases h1:i=t
  ·subst h1;simp
  ·rw [if_neg h1]
   by_cases h2:i≤t
   ·have h3:i+1≤t:=by omega
    rw [if_pos h3,if_pos h2]
    have:t-i=(t-(i+1))+1:=by omega
    rw [this];simp
   ·rw [if_neg h2,if_neg om]
theorem RepT.getD {S:Bool→Nat→Prop} {w:World}:∀(xs:List AV) (vs:List Value),RepT S w xs vs→∀t,Rep S w (xs.getD t (.c .any)) (vs.getD t undef)
 |[],[],_,t=>by simp;trivial
 |x::xs,v::vs,hr,0=>rep_of_rep0 hr.1
 |x::xs,v::vs,hr,t+1=>by simpa using RepT.getD xs vs hr.2 t
 |[],_::_,hr,_=>hr.elim
 |_::_,[],hr,_=>hr.elim
theorem RepT.len {S:Bool→Nat→Prop} {w:World}:∀{xs:List AV} {vs:List Value},RepT S w xs vs→vs.length=xs.length
 |[],[],_=>rfl
 |_::_,_::_,hr=>by simp [RepT.len hr.2]
 |[],_::_,hr=>hr.elim
 |_::_,[],hr=>hr.elim
theorem fa_of_body {P:Program} {f:FuncId} {fn:Func} {c:Code} {args:List AV} {r:AV} (hf:P.funcs[f]?=some fn) (hb:fn.body=some c) (hn:(fn.name== "runtime.NumGoroutine")=false) (hl:args.length≤fn.ntmps)
  (k:∀C:Ctx,(∀b,¬C.own0 b)→aw (envOf P fn C r) [.code c] (initS 0 args) []):Fa P f args r:=by
 refine⟨⟨fn,hf,by rw [hb];rfl,hn⟩,fun S w vs hm hlt hr=> ?_⟩
 let C:Ctx:={w0:=w,S0:=S,own0:=fun _=>False,mono:=hm,apart:=fun _ _ _ x=>x,lt:=hlt}
 refine(calls_of_wp hf hb (R:=Done C r) ?_).mono ?_
 ·have hk:=k C (fun _ x=>x)
  have kp:Keeps S (Stab C [] w) w w:=⟨fun t b hb=>⟨.inl hb,hlt t b hb,by simp [Heap.keys]⟩,fun _ _ _=>rfl,fun _ _ x=>x⟩
  have hlen:=hr.len
  refine hk _ _ ⟨?_,rfl,fun t=> ?_,fun g o hm=>by simp at hm,by simp [Heap.keys],fun g hg=>by simp [Heap.keys] at hg,Fr.refl _ _⟩
  ·show(vs.toArray++Array.replicate (fn.ntmps-vs.toArray.size) undef).size=fn.ntmps
   simp;omega
  ·rw [initS_get]
   simp only [Nat.zero_le,if_true,Nat.sub_zero]
   refine Rep.keep kp ?_
   have h1:=RepT.getD args vs hr t
   have h2:(vs.toArray++Array.replicate (fn.ntmps-vs.toArray.size) undef).getD t undef=vs.getD t undef:=by
    rw [Array.getD_eq_getD_getElem?,List.getD_eq_getElem?_getD]
    by_cases ht:t<vs.length
    ·rw [Array.getElem?_append_left (by simpa using ht)];simp
    ·rw [Array.getElem?_append_right (by simpa using ht)]
     rw [List.getElem?_eq_none om]
     simp [Array.getElem?_replicate]
     split<;>rfl
   rw [h2]
   exact h1
 ·rintro e w' ⟨v,he,hr',hfr⟩
  exact⟨v,he,hr',hfr⟩
end
end Go.AI
namespace Go.AI
variable {P : Program} {h : Heap} {ρ : Operand → AV}
def inRange:IntKind→Int→Prop
 |.i64,x=> -9223372036854775808≤x∧x≤9223372036854775807
 |.u64,x=>0≤x∧x≤18446744073709551615
 |.u32,x=>0≤x∧x≤4294967295
 |.u8,x=>0≤x∧x≤255
 |_,_=>False
theorem wrap_inRange {k:IntKind} {x:Int} (hx:inRange k x):k.wrap x=x:=by
 cases k<;>simp only [inRange] at hx
 ·rw [IntKind.wrap_i64];omega
 ·simp only [IntKind.wrap,IntKind.bits,IntKind.signed];simp;omega
 ·rw [IntKind.wrap_u32];omega
 ·rw [IntKind.wrap_u64];omega
noncomputable def binI (nw:Bool) (op:BinOp) (k:IntKind) (a b:Int):Option (Prop×CV):=
 match nw,op with
 |true,.add=>some (inRange k (a+b),.int k (a+b))
 |true,.sub=>some (inRange k (a-b),.int k (a-b))
 |true,.mul=>some (inRange k (a*b),.int k (a*b))
 |true,.shl=>none
 |_,_=>binInt op k a b
theorem POk.binI {nw:Bool} {op:BinOp} {t t':TypeId} {x y:Operand} {k:IntKind} {a b:Int} {req:Prop} {r:CV} (hx:ρ x=.c (.int k a)) (hy:ρ y=.c (.int k b))
  (hr:AI.binI nw op k a b=some (req,r)) (hreq:req):POk P h ρ (.binOp op t x y t') (.c r):=by
 cases nw with
 |false=>exact POk.binInt hx hy (by simpa [AI.binI] using hr) hreq
 |true=>
  cases op
  case add=>
   simp only [AI.binI,Option.some.injEq,Prod.mk.injEq] at hr
   obtain⟨rfl,rfl⟩:=hr
   exact POk.binInt (req:=True) hx hy (by simp [AI.binInt,wrapZ_eq,wrap_inRange hreq]) trivial
  case sub=>
   simp only [AI.binI,Option.some.injEq,Prod.mk.injEq] at hr
   obtain⟨rfl,rfl⟩:=hr
   exact POk.binInt (req:=True) hx hy (by simp [AI.binInt,wrapZ_eq,wrap_inRange hreq]) trivial
  case mul=>
   simp only [AI.binI,Option.some.injEq,Prod.mk.injEq] at hr
   obtain⟨rfl,rfl⟩:=hr
   exact POk.binInt (req:=True) hx hy (by simp [AI.binInt,wrapZ_eq,wrap_inRange hreq]) trivial
  case shl=>cases hr
  all_goals exact POk.binInt hx hy hr hreq
def isNil:Operand→Bool
 |.const .nilIface=>true
 |_=>false
theorem isNil_eq {x:Operand} (hx:isNil x=true):x=.const .nilIface:=by
 unfold isNil at hx
 split at hx
 ·rfl
 ·cases hx
def strEq (a b:ByteArray):Bool:=a.toList==b.toList
theorem run_eqGuard_str (op:BinOp) (t:TypeId) (x y:Operand) (a b:ByteArray) (w:World):(eqGuard op t x y (.string a) (.string b)).run P w=.ok () w:=by
 unfold eqGuard
 cases op<;>simp
theorem run_eql_str {t:TypeId} (a b:ByteArray) (w:World):(Go.binOp .eql t (.string a) (.string b)).run P w=.ok (.bool (strEq a b)) w:=by
 unfold Go.binOp
 simp [Op.stringOp,strEq]
theorem run_neq_str {t:TypeId} (a b:ByteArray) (w:World):(Go.binOp .neq t (.string a) (.string b)).run P w=.ok (.bool (!strEq a b)) w:=by
 unfold Go.binOp
 simp [Op.stringOp,strEq]
theorem POk.eqStr {t t':TypeId} {x y:Operand} {a b:ByteArray} (hx:ρ x=.c (.str a)) (hy:ρ y=.c (.str b)):POk P h ρ (.binOp .eql t x y t') (.c (.bool (strEq a b))):=fun S w e _ ho _=>by
 have h1:e x=.string a:=by have:=ho x (by simp [Op.operands]);rw [hx] at this;exact this
 have h2:e y=.string b:=by have:=ho y (by simp [Op.operands]);rw [hy] at this;exact this
 exact⟨.bool (strEq a b),fun o hop=>exec_bin hop (by rw [h1,h2];exact run_eqGuard_str ..) (by rw [h1,h2];exact run_eql_str a b w),rfl⟩
theorem POk.neqStr {t t':TypeId} {x y:Operand} {a b:ByteArray} (hx:ρ x=.c (.str a)) (hy:ρ y=.c (.str b)):POk P h ρ (.binOp .neq t x y t') (.c (.bool (!strEq a b))):=fun S w e _ ho _=>by
 have h1:e x=.string a:=by have:=ho x (by simp [Op.operands]);rw [hx] at this;exact this
 have h2:e y=.string b:=by have:=ho y (by simp [Op.operands]);rw [hy] at this;exact this
 exact⟨.bool (!strEq a b),fun o hop=>exec_bin hop (by rw [h1,h2];exact run_eqGuard_str ..) (by rw [h1,h2];exact run_neq_str a b w),rfl⟩
theorem POk.addStr {t t':TypeId} {x y:Operand} {a b:ByteArray} (hl:a.size+b.size≤9223372036854775807) (hx:ρ x=.c (.str a)) (hy:ρ y=.c (.str b)):POk P h ρ (.binOp .add t x y t') (.c (.str (a++b))):=fun S w e _ ho _=>by
 have h1:e x=.string a:=by have:=ho x (by simp [Op.operands]);rw [hx] at this;exact this
 have h2:e y=.string b:=by have:=ho y (by simp [Op.operands]);rw [hy] at this;exact this
 refine⟨.string (a++b),fun o hop=>exec_bin hop (by rw [h1,h2];exact run_eqGuard_str ..) ?_,rfl⟩
 rw [h1,h2]
 have hn:¬(9223372036854775807:Int)<(a.size:Int)+(b.size:Int):=by omega
 simp [Go.binOp,Op.stringOp,hn]
def strLt (a b:ByteArray):Bool:=Op.bytesLess a.toList b.toList
theorem bytes_gt:∀a b:List UInt8,(!(Op.bytesLess a b||a==b))=Op.bytesLess b a
 |[],[]=>rfl
 |[],_::_=>rfl
 |_::_,[]=>rfl
 |x::a,y::b=>by
  have ih:=bytes_gt a b
  show(!((decide (x<y)||(x==y&&Op.bytesLess a b))||(x::a==y::b)))=(decide (y<x)||(y==x&&Op.bytesLess b a))
  rw [←ih,List.cons_beq_cons]
  by_cases h1:x=y
  ·subst h1
   have h2:¬x<x:=UInt8.lt_irrefl x
   simp [h2]
  ·have h2:(x==y)=false:=beq_eq_false_iff_ne.2 h1
   have h3:(y==x)=false:=beq_eq_false_iff_ne.2 fun e=>h1 e.symm
   rw [h2,h3]
   by_cases h4:x<y
   ·have h5:¬y<x:=fun h=>by have a1:x.toNat<y.toNat:=h4;have a2:y.toNat<x.toNat:=h;omega
    simp [h4,h5]
   ·have h5:y<x:=by
     have a1:¬x.toNat<y.toNat:=h4
     have a3:x.toNat≠y.toNat:=fun e=>h1 (UInt8.toNat_inj.1 e)
     show y.toNat<x.toNat
     omega
    simp [h4,h5]
theorem run_cmp_str {op:BinOp} {r:Bool} {t:TypeId} (a b:ByteArray) (w:World) (h:op=.lss∧r=strLt a b∨op=.leq∧r= !strLt b a∨op=.gtr∧r=strLt b a∨op=.geq∧r= !strLt a b):(Go.binOp op t (.string a) (.string b)).run P w=.ok (.bool r) w:=by
 have h1:=bytes_gt a.toList b.toList
 rcases h with ⟨rfl,rfl⟩|⟨rfl,rfl⟩|⟨rfl,rfl⟩|⟨rfl,rfl⟩
 ·unfold Go.binOp
  simp [Op.stringOp,strLt]
 ·unfold Go.binOp strLt
  rw [←h1]
  simp [Op.stringOp]
 ·unfold Go.binOp strLt
  rw [←h1]
  simp [Op.stringOp]
 ·unfold Go.binOp
  simp [Op.stringOp,strLt]
theorem POk.cmpStr {op:BinOp} {r:Bool} {t t':TypeId} {x y:Operand} {a b:ByteArray} (hc:op=.lss∧r=strLt a b∨op=.leq∧r= !strLt b a∨op=.gtr∧r=strLt b a∨op=.geq∧r= !strLt a b) (hx:ρ x=.c (.str a)) (hy:ρ y=.c (.str b)):POk P h ρ (.binOp op t x y t') (.c (.bool r)):=fun S w e _ ho _=>by
 have h1:e x=.string a:=by have:=ho x (by simp [Op.operands]);rw [hx] at this;exact this
 have h2:e y=.string b:=by have:=ho y (by simp [Op.operands]);rw [hy] at this;exact this
 exact⟨.bool r,fun o hop=>exec_bin hop (by rw [h1,h2];exact run_eqGuard_str ..) (by rw [h1,h2];exact run_cmp_str a b w hc),rfl⟩
noncomputable def binAV (P:Program) (nw:Bool) (op:BinOp) (t:TypeId) (y:Operand):AV→AV→Option (Prop×AV)
 |.c (.int k a),.c (.int k' b)=>
  match op with
  |.shl=>(binSh .shl k a b).map fun p=>(p.1,.c p.2)
  |.shr=>(binSh .shr k a b).map fun p=>(p.1,.c p.2)
  |op=>if k=k' then(binI nw op k a b).map fun p=>(p.1,.c p.2) else none
 |.c (.bool a),.c (.bool b)=>
  match op with
  |.eql=>some (tBool P t=true,.c (.bool (a==b)))
  |.neq=>some (tBool P t=true,.c (.bool (a !=b)))
  |_=>none
 |.c (.str a),.c (.str b)=>
  match op with
  |.eql=>some (True,.c (.bool (strEq a b)))
  |.neq=>some (True,.c (.bool (!strEq a b)))
  |.add=>some (a.size+b.size≤9223372036854775807,.c (.str (a++b)))
  |.lss=>some (True,.c (.bool (strLt a b)))
  |.leq=>some (True,.c (.bool (!strLt b a)))
  |.gtr=>some (True,.c (.bool (strLt b a)))
  |.geq=>some (True,.c (.bool (!strLt a b)))
  |_=>none
 |.c x,.c .nilI=>
  match op,isNil y,nilAV x with
  |.eql,true,some b=>some (tIfc P t=true,.c (.bool b))
  |.neq,true,some b=>some (tIfc P t=true,.c (.bool !b))
  |_,_,_=>none
 |_,_=>none
def loadAV (P:Program) (t:TypeId) (h:Heap):AV→Option (Prop×AV)
 |.c (.rptr m f)=>match tSz P t with
  |some (true,n)=>some (n≤m,.agg (cellsAt f 0 0 n))
  |some (false,1)=>some (1≤m,.c (f 0))
  |_=>none
 |.c (.optr g off)=>match h.get g,tSz P t with
  |some (.cells _ m f),some (true,n)=>some (off+n≤m,.agg (cellsAt f off 0 n))
  |some (.cells _ m f),some (false,1)=>some (off+1≤m,.c (f off))
  |_,_=>none
 |_=>none
def indexAV (P:Program) (t:TypeId):AV→AV→Option (Prop×AV)
 |.c (.row _ s n f),.c (.int _ i)=>match tElem P t with
  |some (_,size,_)=>some (s=size∧0<size∧0≤i∧i<n,.c (.rptr s fun j=>f (i.toNat*s+j)))
  |none=>none
 |.c (.osl g s off n),.c (.int _ i)=>match tElem P t with
  |some (_,size,_)=>some (s=size∧0≤i∧i<n,.c (.optr g (off+i.toNat*s)))
  |none=>none
 |_,_=>none
def fieldAV (P:Program) (t i:Nat):AV→Option (Prop×AV)
 |.c (.optr g o)=>(tFld P t i).map fun off=>(True,.c (.optr g (o+off)))
 |.c (.rptr n f)=>(tFld P t i).map fun off=>(off≤n,.c (.rptr (n-off) fun j=>f (off+j)))
 |_=>none
theorem POk.nilCheckO {x:Operand} {g off:Nat} (hx:ρ x=.c (.optr g off)):POk P h ρ (.nilCheck x) (.c (.optr g off)):=fun S w e _ ho _=>by
 have h1:=ho x (by simp [Op.operands])
 rw [hx] at h1
 have h2:e x=.pointer (some ⟨g,off,none⟩):=h1
 exact⟨_,fun o hop=>by simp only [execOp,hop,h2];rfl,rfl⟩
def wide:IntKind→IntKind→Bool
 |.u32,.u64=>true
 |.u32,.i64=>true
 |.u8,.i64=>true
 |.u8,.u64=>true
 |_,_=>false
noncomputable def pureOp (P:Program) (nw:Bool) (h:Heap) (ρ:Operand→AV):Op→Option (Prop×AV)
 |.move x=>some (True,ρ x)
 |.assign x=>some (True,ρ x)
 |.pick c a b=>match ρ c with
  |.c (.bool t)=>some (True,pickAV t (ρ a) (ρ b))
  |_=>none
 |.binOp op t x y _=>binAV P nw op t y (ρ x) (ρ y)
 |.unOp .not _ x=>match ρ x with
  |.c (.bool b)=>some (True,.c (.bool !b))
  |_=>none
 |.unOp .neg _ x=>match ρ x with
  |.c (.int k n)=>some (True,.c (.int k (wrapZ k (0-n))))
  |_=>none
 |.convert s d x=>match tInt P s,tInt P d,ρ x with
  |some _,some k',.c (.int ks n)=>if wide ks k' then some (inRange k' n,.c (.int k' n)) else some (True,.c (.int k' (wrapZ k' n)))
  |_,_,_=>none
 |.extract x i=>match ρ x with
  |.tup xs=>(xs[i]?).map fun y=>(True,y)
  |_=>none
 |.makeInterface t x=>match tInt P t,ρ x with
  |some _,.c c=>some (True,.c (.ifc t c))
  |_,_=>none
 |.load t a=>loadAV P t h (ρ a)
 |.slice t x lo hi none=>sliceAV P ρ t x lo hi
 |.build t ⟨ps⟩=>buildAV P ρ t ps
 |.nilCheck x=>match ρ x with
  |.c (.optr g off)=>some (True,.c (.optr g off))
  |_=>none
 |.fieldAddr t x i=>fieldAV P t i (ρ x)
 |.indexAddr t x ix=>indexAV P t (ρ x) (ρ ix)
 |.call {callee:=.builtin .len,args:=⟨[x]⟩,argTypes:=⟨[t]⟩}=>match tElem P t,ρ x with
  |some _,.c c=>(lenCV c).map fun(n:Nat)=>(True,.c (.int .i64 (n:Int)))
  |_,_=>none
 |.call {callee:=.builtin .max,args:=⟨[x,y]⟩,argTypes:=⟨[_,_]⟩}=>match ρ x,ρ y with
  |.c (.int k a),.c (.int k' b)=>some (k=k',.c (.int k (if b>a then b else a)))
  |_,_=>none
 |.call {callee:=.builtin .min,args:=⟨[x,y]⟩,argTypes:=⟨[_,_]⟩}=>match ρ x,ρ y with
  |.c (.int k a),.c (.int k' b)=>some (k=k',.c (.int k (if b<a then b else a)))
  |_,_=>none
 |_=>none
theorem binAV_ok {nw:Bool} {op:BinOp} {t t':TypeId} {x y:Operand} {req:Prop} {r:AV} (hk:∀v,ρ (.const v)=cst v) (hb:binAV P nw op t y (ρ x) (ρ y)=some (req,r)) (hreq:req):POk P h ρ (.binOp op t x y t') r:=by
 unfold binAV at hb
 split at hb
 ·rename_i k a k' b hx hy
  split at hb
  ·simp only [binSh,Option.map_some,Option.some.injEq,Prod.mk.injEq] at hb
   obtain⟨rfl,rfl⟩:=hb
   exact POk.binSh hx hy rfl hreq
  ·simp only [binSh,Option.map_some,Option.some.injEq,Prod.mk.injEq] at hb
   obtain⟨rfl,rfl⟩:=hb
   exact POk.binSh hx hy rfl hreq
  ·split at hb
   ·rename_i e
    subst e
    cases hi:binI nw op k a b with
    |none=>rw [hi] at hb;cases hb
    |some p=>
     rw [hi] at hb
     simp only [Option.map_some,Option.some.injEq,Prod.mk.injEq] at hb
     obtain⟨rfl,rfl⟩:=hb
     exact POk.binI hx hy hi hreq
   ·cases hb
 ·rename_i a b hx hy
  split at hb
  ·simp only [Option.some.injEq,Prod.mk.injEq] at hb
   obtain⟨rfl,rfl⟩:=hb
   exact POk.eqBool hreq hx hy
  ·simp only [Option.some.injEq,Prod.mk.injEq] at hb
   obtain⟨rfl,rfl⟩:=hb
   exact POk.neqBool hreq hx hy
  ·cases hb
 ·rename_i a b hx hy
  split at hb
  ·simp only [Option.some.injEq,Prod.mk.injEq] at hb
   obtain⟨rfl,rfl⟩:=hb
   exact POk.eqStr hx hy
  ·simp only [Option.some.injEq,Prod.mk.injEq] at hb
   obtain⟨rfl,rfl⟩:=hb
   exact POk.neqStr hx hy
  ·simp only [Option.some.injEq,Prod.mk.injEq] at hb
   obtain⟨rfl,rfl⟩:=hb
   exact POk.addStr hreq hx hy
  ·simp only [Option.some.injEq,Prod.mk.injEq] at hb
   obtain⟨rfl,rfl⟩:=hb
   exact POk.cmpStr (.inl ⟨rfl,rfl⟩) hx hy
  ·simp only [Option.some.injEq,Prod.mk.injEq] at hb
   obtain⟨rfl,rfl⟩:=hb
   exact POk.cmpStr (.inr (.inl ⟨rfl,rfl⟩)) hx hy
  ·simp only [Option.some.injEq,Prod.mk.injEq] at hb
   obtain⟨rfl,rfl⟩:=hb
   exact POk.cmpStr (.inr (.inr (.inl ⟨rfl,rfl⟩))) hx hy
  ·simp only [Option.some.injEq,Prod.mk.injEq] at hb
   obtain⟨rfl,rfl⟩:=hb
   exact POk.cmpStr (.inr (.inr (.inr ⟨rfl,rfl⟩))) hx hy
  ·cases hb
 ·rename_i c hx hy
  split at hb
  ·rename_i b hn hc
   simp only [Option.some.injEq,Prod.mk.injEq] at hb
   obtain⟨rfl,rfl⟩:=hb
   obtain rfl:=isNil_eq hn
   exact POk.eqNil hreq hx hc hy
  ·rename_i b hn hc
   simp only [Option.some.injEq,Prod.mk.injEq] at hb
   obtain⟨rfl,rfl⟩:=hb
   obtain rfl:=isNil_eq hn
   exact POk.neqNil hreq hx hc hy
  ·cases hb
 ·cases hb
theorem loadAV_ok {t:TypeId} {a:Operand} {req:Prop} {r:AV} (hb:loadAV P t h (ρ a)=some (req,r)) (hreq:req):POk P h ρ (.load t a) r:=by
 unfold loadAV at hb
 split at hb
 ·rename_i m f ha
  split at hb
  ·rename_i n ht
   simp only [Option.some.injEq,Prod.mk.injEq] at hb
   obtain⟨rfl,rfl⟩:=hb
   exact POk.loadR ht (fun e=>by cases e) ha hreq
  ·rename_i ht
   simp only [Option.some.injEq,Prod.mk.injEq] at hb
   obtain⟨rfl,rfl⟩:=hb
   exact POk.loadR ht (fun _=>rfl) ha hreq
  ·cases hb
 ·rename_i g off ha
  split at hb
  ·rename_i ty m f n hg ht
   simp only [Option.some.injEq,Prod.mk.injEq] at hb
   obtain⟨rfl,rfl⟩:=hb
   exact POk.loadO ht (fun e=>by cases e) ha hg hreq
  ·rename_i ty m f hg ht
   simp only [Option.some.injEq,Prod.mk.injEq] at hb
   obtain⟨rfl,rfl⟩:=hb
   exact POk.loadO ht (fun _=>rfl) ha hg hreq
  ·cases hb
 ·cases hb
theorem pureOp_ok {nw:Bool} {op:Op} {req:Prop} {r:AV} (hk:∀v,ρ (.const v)=cst v) (hb:pureOp P nw h ρ op=some (req,r)) (hreq:req):POk P h ρ op r:=by
 unfold pureOp at hb
 split at hb
 ·simp only [Option.some.injEq,Prod.mk.injEq] at hb;obtain⟨rfl,rfl⟩:=hb;exact POk.move _
 ·simp only [Option.some.injEq,Prod.mk.injEq] at hb;obtain⟨rfl,rfl⟩:=hb;exact POk.assign _
 ·split at hb
  ·rename_i hc
   simp only [Option.some.injEq,Prod.mk.injEq] at hb;obtain⟨rfl,rfl⟩:=hb;exact POk.pick hc
  ·cases hb
 ·exact binAV_ok hk hb hreq
 ·split at hb
  ·rename_i hx
   simp only [Option.some.injEq,Prod.mk.injEq] at hb;obtain⟨rfl,rfl⟩:=hb;exact POk.not hx
  ·cases hb
 ·split at hb
  ·rename_i hx
   simp only [Option.some.injEq,Prod.mk.injEq] at hb;obtain⟨rfl,rfl⟩:=hb;exact POk.neg hx
  ·cases hb
 ·split at hb
  ·rename_i hs hd hx
   split at hb
   ·simp only [Option.some.injEq,Prod.mk.injEq] at hb;obtain⟨rfl,rfl⟩:=hb
    have:=POk.convert (h:=h) hs hd hx
    rwa [wrapZ_eq,wrap_inRange hreq] at this
   ·simp only [Option.some.injEq,Prod.mk.injEq] at hb;obtain⟨rfl,rfl⟩:=hb;exact POk.convert hs hd hx
  ·cases hb
 ·split at hb
  ·rename_i i _ xs hx
   cases hi:xs[i]? with
   |none=>rw [hi] at hb;cases hb
   |some y=>
    rw [hi] at hb
    simp only [Option.map_some,Option.some.injEq,Prod.mk.injEq] at hb;obtain⟨rfl,rfl⟩:=hb;exact POk.extract hx hi
  ·cases hb
 ·split at hb
  ·rename_i ht hx
   simp only [Option.some.injEq,Prod.mk.injEq] at hb;obtain⟨rfl,rfl⟩:=hb;exact POk.makeInterface ht hx
  ·cases hb
 ·exact loadAV_ok hb hreq
 ·exact sliceAV_ok hb hreq
 ·exact buildAV_ok hb hreq
 ·split at hb
  ·rename_i hx
   simp only [Option.some.injEq,Prod.mk.injEq] at hb;obtain⟨rfl,rfl⟩:=hb;exact POk.nilCheckO hx
  ·cases hb
 ·rename_i t x i
  unfold fieldAV at hb
  split at hb
  ·rename_i g o hx
   cases hf:tFld P t i with
   |none=>rw [hf] at hb;cases hb
   |some off=>
    rw [hf] at hb
    simp only [Option.map_some,Option.some.injEq,Prod.mk.injEq] at hb;obtain⟨rfl,rfl⟩:=hb;exact POk.fieldO hf hx
  ·rename_i n f hx
   cases hf:tFld P t i with
   |none=>rw [hf] at hb;cases hb
   |some off=>
    rw [hf] at hb
    simp only [Option.map_some,Option.some.injEq,Prod.mk.injEq] at hb;obtain⟨rfl,rfl⟩:=hb;exact POk.fieldR hf hx hreq
  ·cases hb
 ·unfold indexAV at hb
  split at hb
  ·rename_i hx hix
   split at hb
   ·rename_i ht
    simp only [Option.some.injEq,Prod.mk.injEq] at hb;obtain⟨rfl,rfl⟩:=hb
    obtain⟨rfl,hz,h0,hl⟩:=hreq
    exact POk.indexR ht hx hix h0 hl hz
   ·cases hb
  ·rename_i hx hix
   split at hb
   ·rename_i ht
    simp only [Option.some.injEq,Prod.mk.injEq] at hb;obtain⟨rfl,rfl⟩:=hb
    obtain⟨rfl,h0,hl⟩:=hreq
    exact POk.indexO ht hx hix h0 hl
   ·cases hb
  ·cases hb
 ·split at hb
  ·rename_i x t _ _ _ c ht hx
   cases hn:lenCV c with
   |none=>rw [hn] at hb;cases hb
   |some n=>
    rw [hn] at hb
    simp only [Option.map_some,Option.some.injEq,Prod.mk.injEq] at hb;obtain⟨rfl,rfl⟩:=hb
    exact POk.lenS ht hx hn
  ·cases hb
 ·split at hb
  ·rename_i hx hy
   simp only [Option.some.injEq,Prod.mk.injEq] at hb;obtain⟨rfl,rfl⟩:=hb
   subst hreq
   exact POk.max2 hx hy
  ·cases hb
 ·split at hb
  ·rename_i hx hy
   simp only [Option.some.injEq,Prod.mk.injEq] at hb;obtain⟨rfl,rfl⟩:=hb
   subst hreq
   exact POk.min2 hx hy
  ·cases hb
 ·cases hb
theorem aw_p {E:Env} {K:List It} {σ σ':Sl} {h:Heap} {all rest:List Oper} {o:Oper} (nw:Bool) {req:Prop} {r:AV} (hb:pureOp E.P nw h (ev σ) o.op=some (req,r)) (hreq:req) (hσ:σ.setO o.dst r=σ')
  (hw:wantA all σ o=some true) (hd:dstOk E.N o.dst=true) (k:aw E (.ops all rest::K) σ' h):aw E (.ops all (o::rest)::K) σ h:=
 aw_pure hw (pureOp_ok (fun _=>rfl) hb hreq) hd hσ k
end Go.AI
