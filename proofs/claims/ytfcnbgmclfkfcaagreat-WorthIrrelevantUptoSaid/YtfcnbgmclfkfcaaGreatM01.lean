/- Parts of one proof, laid by a program. -/
import Derived.Test.YtfcnbgmclfkfcaaGreatM00
import Derived.WalkKit
import Derived.Deep.LoopGhost
import Derived.Maps.AppendAt
import Derived.WideLaws
set_option linter.unusedSimpArgs false
set_option linter.unusedVariables false
namespace Go.AI
inductive CV where
 |any
 |int (k:IntKind) (n:Int)
 |bool (b:Bool)
 |str (s:ByteArray)
 |nilI
 |nils
 |ifc (t:TypeId) (x:CV)
 |row (t:Bool) (size n:Nat) (f:Nat→CV)
 |osl (g size off n:Nat)
 |optr (g off:Nat)
 |rptr (n:Nat) (f:Nat→CV)
 |raw (v:Value)
inductive AV where
 |c (x:CV)
 |agg (cs:List CV)
 |tup (xs:List AV)
def Has (w:World) (g m:Nat):Prop:=∃cs ty,(∃fr,w.heap[g]?=some (.cells cs ty fr))∧m≤cs.size
def RepC (S:Bool→Nat→Prop) (w:World):CV→Value→Prop
 |.any,_=>True
 |.int k n,v=>v=.int k n
 |.bool b,v=>v=.bool b
 |.str s,v=>v=.string s
 |.nilI,v=>v=.nilIface
 |.nils,v=>∃A,v=.slice A 0 0
 |.ifc t x,v=>∃u,v=.iface t u∧RepC S w x u
 |.row t size n f,v=>∃A c,v=.slice A n c∧n≤c∧(0<n*size→∃ad,A=some ad∧S t ad.block∧∀j,j<n*size→∃u,w.cell? (ad.add j)=some u∧RepC S w (f j) u)
 |.osl g size off n,v=>∃c,v=.slice (some ⟨g,off,none⟩) n c∧n≤c∧c≤maxLen∧Has w g (off+c*size)
 |.optr g off,v=>v=.pointer (some ⟨g,off,none⟩)
 |.rptr n f,v=>∃ad,v=.pointer (some ad)∧S false ad.block∧∀j,j<n→∃u,w.cell? (ad.add j)=some u∧RepC S w (f j) u
 |.raw u,v=>v=u
def RepL (S:Bool→Nat→Prop) (w:World):List CV→List Value→Prop
 |[],[]=>True
 |c::cs,u::us=>RepC S w c u∧RepL S w cs us
 |_,_=>False
def Rep0 (S:Bool→Nat→Prop) (w:World):AV→Value→Prop
 |.c x,v=>RepC S w x v
 |.agg cs,v=>∃us:List Value,v=.agg us.toArray∧RepL S w cs us
 |.tup _,_=>False
def RepT (S:Bool→Nat→Prop) (w:World):List AV→List Value→Prop
 |[],[]=>True
 |c::cs,u::us=>Rep0 S w c u∧RepT S w cs us
 |_,_=>False
def Rep (S:Bool→Nat→Prop) (w:World):AV→Value→Prop
 |.tup xs,v=>∃us:List Value,v=.tuple us.toArray∧RepT S w xs us
 |x,v=>Rep0 S w x v
structure Keeps (S:Bool→Nat→Prop) (S':Bool→Nat→Prop) (w w':World):Prop where
 set:∀t b,S t b→S' t b
 block:∀t b,S t b→w'.heap[b]?=w.heap[b]?
 has:∀g m,Has w g m→Has w' g m
theorem Keeps.cell {S S':Bool→Nat→Prop} {w w':World} (h:Keeps S S' w w') {t:Bool} {p:Addr} (hp:S t p.block):w'.cell? p=w.cell? p:=
 World.cell?_of_block (w:=w) (h.block t p.block hp)
theorem block_add (a:Addr) (n:Nat):(a.add n).block=a.block:=by unfold Addr.add;split<;>rfl
theorem add_add (a:Addr) (i j:Nat):(a.add i).add j=a.add (i+j):=by
 unfold Addr.add
 by_cases hi:i=0<;>by_cases hj:j=0<;>simp [hi,hj,Nat.add_assoc]
theorem add_mk (g o n:Nat):(⟨g,o,none⟩:Addr).add n=⟨g,o+n,none⟩:=by unfold Addr.add;split<;>simp_all
theorem RepC.keep {S S':Bool→Nat→Prop} {w w':World} (h:Keeps S S' w w'):∀{x:CV} {v:Value},RepC S w x v→RepC S' w' x v:=by
 intro x
 induction x with
 |any=>intro v _;trivial
 |int k n=>intro v hr;exact hr
 |bool b=>intro v hr;exact hr
 |str s=>intro v hr;exact hr
 |nilI=>intro v hr;exact hr
 |nils=>intro v hr;exact hr
 |ifc t x ih=>intro v hr;obtain⟨u,hu,hx⟩:=hr;exact⟨u,hu,ih hx⟩
 |row t size n f ih=>
  intro v hr
  obtain⟨A,c,hv,hc,hn⟩:=hr
  refine⟨A,c,hv,hc,fun h0=> ?_⟩
  obtain⟨ad,hA,hS,hj⟩:=hn h0
  refine⟨ad,hA,h.set _ _ hS,fun j hjl=> ?_⟩
  obtain⟨u,hu,hf⟩:=hj j hjl
  exact⟨u,(h.cell (t:=t) (by rw [block_add];exact hS)).trans hu,ih j hf⟩
 |osl g size off n=>intro v hr;obtain⟨c,hv,hc,hm,hh⟩:=hr;exact⟨c,hv,hc,hm,h.has _ _ hh⟩
 |optr g off=>intro v hr;exact hr
 |rptr n f ih=>
  intro v hr
  obtain⟨ad,hv,hS,hj⟩:=hr
  refine⟨ad,hv,h.set _ _ hS,fun j hjl=> ?_⟩
  obtain⟨u,hu,hf⟩:=hj j hjl
  exact⟨u,(h.cell (t:=false) (by rw [block_add];exact hS)).trans hu,ih j hf⟩
 |raw u=>intro v hr;exact hr
theorem RepL.keep {S S':Bool→Nat→Prop} {w w':World} (h:Keeps S S' w w'):∀{cs:List CV} {us:List Value},RepL S w cs us→RepL S' w' cs us
 |[],[],_=>trivial
 |_::_,_::_,hr=>⟨RepC.keep h hr.1,RepL.keep h hr.2⟩
 |[],_::_,hr=>hr.elim
 |_::_,[],hr=>hr.elim
theorem Rep0.keep {S S':Bool→Nat→Prop} {w w':World} (h:Keeps S S' w w') {x:AV} {v:Value} (hr:Rep0 S w x v):Rep0 S' w' x v:=by
 cases x with
 |c x=>exact RepC.keep h hr
 |agg cs=>obtain⟨us,hv,hu⟩:=hr;exact⟨us,hv,RepL.keep h hu⟩
 |tup xs=>exact hr.elim
theorem RepT.keep {S S':Bool→Nat→Prop} {w w':World} (h:Keeps S S' w w'):∀{cs:List AV} {us:List Value},RepT S w cs us→RepT S' w' cs us
 |[],[],_=>trivial
 |_::_,_::_,hr=>⟨Rep0.keep h hr.1,RepT.keep h hr.2⟩
 |[],_::_,hr=>hr.elim
 |_::_,[],hr=>hr.elim
theorem Rep.keep {S S':Bool→Nat→Prop} {w w':World} (h:Keeps S S' w w') {x:AV} {v:Value} (hr:Rep S w x v):Rep S' w' x v:=by
 cases x with
 |c x=>exact Rep0.keep h (x:=.c x) hr
 |agg cs=>exact Rep0.keep h (x:=.agg cs) hr
 |tup xs=>obtain⟨us,hv,hu⟩:=hr;exact⟨us,hv,RepT.keep h hu⟩
theorem RepL.length {S:Bool→Nat→Prop} {w:World}:∀{cs:List CV} {us:List Value},RepL S w cs us→us.length=cs.length
 |[],[],_=>rfl
 |_::_,_::_,hr=>by simp [RepL.length hr.2]
 |[],_::_,hr=>hr.elim
 |_::_,[],hr=>hr.elim
theorem RepL.get {S:Bool→Nat→Prop} {w:World}:∀{cs:List CV} {us:List Value},RepL S w cs us→∀(j:Nat) (c:CV),cs[j]?=some c→∃u,us[j]?=some u∧RepC S w c u
 |[],[],_,j,c,hc=>by simp at hc
 |a::_,b::_,hr,0,c,hc=>by simp at hc;subst hc;exact⟨b,rfl,hr.1⟩
 |_::_,_::_,hr,j+1,c,hc=>by simp at hc⊢;exact RepL.get hr.2 j c hc
 |[],_::_,hr,_,_,_=>hr.elim
 |_::_,[],hr,_,_,_=>hr.elim
inductive AObj where
 |cells (ty:TypeId) (n:Nat) (f:Nat→CV)
 |gen (R:Obj→Prop)
 |vals (R:List Value→Obj→Prop) (xs:List AV)
abbrev Heap:=List (Nat×AObj)
def ORep (S:Bool→Nat→Prop) (w:World) (g:Nat):AObj→Prop
 |.cells ty n f=>∃cs,w.heap[g]?=some (.cells cs ty (0,0))∧n≤cs.size∧∀j,j<n→∃u,cs[j]?=some u∧RepC S w (f j) u
 |.gen R=>∃o,w.heap[g]?=some o∧R o
 |.vals R xs=>∃o us,w.heap[g]?=some o∧RepT S w xs us∧R us o
theorem ORep.lt {S:Bool→Nat→Prop} {w:World} {g:Nat} {o:AObj} (h:ORep S w g o):g<w.heap.size:=by
 cases o with
 |cells ty n f=>obtain⟨cs,hc,_⟩:=h;exact(Array.getElem?_eq_some_iff.1 hc).1
 |gen R=>obtain⟨o,hc,_⟩:=h;exact(Array.getElem?_eq_some_iff.1 hc).1
 |vals R xs=>obtain⟨o,us,hc,_⟩:=h;exact(Array.getElem?_eq_some_iff.1 hc).1
theorem ORep.keep {S S':Bool→Nat→Prop} {w w':World} (h:Keeps S S' w w') {g:Nat} {o:AObj} (hb:w'.heap[g]?=w.heap[g]?) (hr:ORep S w g o):ORep S' w' g o:=by
 cases o with
 |cells ty n f=>
  obtain⟨cs,hc,hn,hj⟩:=hr
  exact⟨cs,hb.trans hc,hn,fun j hjl=>by obtain⟨u,hu,hf⟩:=hj j hjl;exact⟨u,hu,RepC.keep h hf⟩⟩
 |gen R=>obtain⟨o,hc,hR⟩:=hr;exact⟨o,hb.trans hc,hR⟩
 |vals R xs=>obtain⟨o,us,hc,hu,hR⟩:=hr;exact⟨o,us,hb.trans hc,RepT.keep h hu,hR⟩
structure Fr (own:Nat→Prop) (w w':World):Prop where
 os:w'.os=w.os
 tape:w'.tape=w.tape
 output:w'.output=w.output
 size:w.heap.size≤w'.heap.size
 drawn:w.drawn≤w'.drawn
 block:∀b,b<w.heap.size→¬own b→w'.heap[b]?=w.heap[b]?
 has:∀g m,Has w g m→Has w' g m
theorem Fr.refl (own:Nat→Prop) (w:World):Fr own w w:=⟨rfl,rfl,rfl,Nat.le_refl _,Nat.le_refl _,fun _ _ _=>rfl,fun _ _ h=>h⟩
theorem Fr.trans {own own':Nat→Prop} {a b c:World} (h:Fr own a b) (k:Fr own' b c) (hk:∀x,own' x→x<a.heap.size→own x):Fr own a c:=
 ⟨k.os.trans h.os,k.tape.trans h.tape,k.output.trans h.output,Nat.le_trans h.size k.size,Nat.le_trans h.drawn k.drawn,
  fun x hx hn=>(k.block x (Nat.lt_of_lt_of_le hx h.size) (fun ho=>hn (hk x ho hx))).trans (h.block x hx hn),fun g m hh=>k.has g m (h.has g m hh)⟩
theorem Has.lt {w:World} {g m:Nat} (h:Has w g m):g<w.heap.size:=by
 obtain⟨cs,ty,⟨_,hc⟩,_⟩:=h
 exact(Array.getElem?_eq_some_iff.1 hc).1
theorem Fr.alloc (own:Nat→Prop) (w:World) (o:Obj):Fr own w (w.alloc o):=by
 have hb:∀b,b<w.heap.size→(w.alloc o).heap[b]?=w.heap[b]?:=fun b hb=>RowKit.Below.heap_alloc w o b hb
 exact⟨rfl,rfl,rfl,by simp,Nat.le_refl _,fun b hb' _=>hb b hb',fun g m hh=>by
  have hl:=hh.lt
  obtain⟨cs,ty,⟨fr,hc⟩,hs⟩:=hh
  exact⟨cs,ty,⟨fr,(hb g hl).trans hc⟩,hs⟩⟩
theorem Fr.drew (own:Nat→Prop) (w:World) (n:Nat) (hd:w.drawn≤n:=by omega):Fr own w {w with drawn:=n}:=⟨rfl,rfl,rfl,Nat.le_refl _,hd,fun _ _ _=>rfl,fun _ _ h=>h⟩
theorem Fr.setCell {own:Nat→Prop} (w:World) (p:Addr) (u:Value) (hp:own p.block):Fr own w (w.setCell p u):=by
 refine⟨rfl,rfl,rfl,by simp [World.setCell],Nat.le_refl _,fun b _ hn=>RowKit.Below.heap_setCell w p u b (fun e=>hn (e▸hp)),fun g m hh=> ?_⟩
 obtain⟨cs,ty,⟨fr,hc⟩,hs⟩:=hh
 by_cases hg:g=p.block
 ·subst hg
  refine⟨if p.spot.isSome then cs else cs.setIfInBounds p.off u,ty,⟨fr,?_⟩,?_⟩
  ·simp [World.setCell,Array.getElem?_modify,hc]
  ·split<;>simp [hs]
 ·exact⟨cs,ty,⟨fr,(RowKit.Below.heap_setCell w p u g hg).trans hc⟩,hs⟩
end Go.AI
namespace Go.AI
abbrev Sl:=List (Nat×AV)
def Sl.get:Sl→Nat→AV
 |[],_=>.c .any
 |(t',x)::σ,t=>if t'=t then x else Sl.get σ t
def Sl.set:Sl→Nat→AV→Sl
 |[],t,v=>[(t,v)]
 |(t',x)::σ,t,v=>if t'=t then(t,v)::σ else(t',x)::Sl.set σ t v
def Sl.setO (σ:Sl):Option Nat→AV→Sl
 |some d,v=>σ.set d v
 |none,_=>σ
theorem Sl.get_set (σ:Sl) (t:Nat) (v:AV) (t':Nat):(σ.set t v).get t'=if t=t' then v else σ.get t':=by
 induction σ with
 |nil=>simp [Sl.set,Sl.get]
 |cons p σ ih=>
  obtain⟨s,x⟩:=p
  by_cases h:s=t
  ·subst h;simp only [Sl.set,if_true,Sl.get];split<;>rfl
  ·simp only [Sl.set,h,if_false,Sl.get,ih]
   by_cases h1:s=t'
   ·subst h1;simp [h,Ne.symm h]
   ·simp [h1]
def Heap.keys (h:Heap):List Nat:=h.map (·.1)
def Heap.get:Heap→Nat→Option AObj
 |[],_=>none
 |(g',x)::h,g=>if g'=g then some x else Heap.get h g
theorem Heap.get_mem {h:Heap} {g:Nat} {o:AObj} (e:h.get g=some o):(g,o)∈h:=by
 induction h with
 |nil=>simp [Heap.get] at e
 |cons p h ih=>
  obtain⟨g',x⟩:=p
  unfold Heap.get at e
  split at e
  ·rename_i hg;subst hg;injection e with e;subst e;simp
  ·exact List.mem_cons_of_mem _ (ih e)
def Heap.set:Heap→Nat→AObj→Heap
 |[],_,_=>[]
 |(g',x)::h,g,o=>if g'=g then(g',o)::h else(g',x)::Heap.set h g o
theorem Heap.keys_set (h:Heap) (g:Nat) (o:AObj):(h.set g o).keys=h.keys:=by
 induction h with
 |nil=>rfl
 |cons p h ih=>
  obtain⟨g',x⟩:=p
  unfold Heap.set
  split<;>simp_all [Heap.keys]
theorem Heap.mem_set {h:Heap} {g:Nat} {o:AObj} {q:Nat×AObj} (hn:h.keys.Nodup) (hq:q∈h.set g o):(q=(g,o)∨(q∈h∧q.1≠g)):=by
 induction h with
 |nil=>simp [Heap.set] at hq
 |cons p h ih=>
  obtain⟨g',x⟩:=p
  simp only [Heap.keys,List.map_cons,List.nodup_cons] at hn
  unfold Heap.set at hq
  split at hq
  ·rename_i e
   subst e
   simp only [List.mem_cons] at hq
   rcases hq with rfl|hq
   ·exact .inl rfl
   ·refine .inr ⟨List.mem_cons_of_mem _ hq,fun e=>hn.1 ?_⟩
    rw [←e];exact List.mem_map.2 ⟨q,hq,rfl⟩
  ·rename_i e
   simp only [List.mem_cons] at hq
   rcases hq with rfl|hq
   ·exact .inr ⟨by simp,e⟩
   ·rcases ih hn.2 hq with h1|⟨h1,h2⟩
    ·exact .inl h1
    ·exact .inr ⟨List.mem_cons_of_mem _ h1,h2⟩
structure Ctx where
 w0:World
 S0:Bool→Nat→Prop
 own0:Nat→Prop
 mono:∀b,S0 true b→S0 false b
 apart:∀t b,S0 t b→¬own0 b
 lt:∀t b,S0 t b→b<w0.heap.size
def Stab (C:Ctx) (h:Heap) (w:World) (t:Bool) (b:Nat):Prop:=(C.S0 t b∨C.w0.heap.size≤b)∧b<w.heap.size∧b∉h.keys
structure St (N:Nat) (C:Ctx) (σ:Sl) (h:Heap) (a:Act) (w:World):Prop where
 size:a.tmps.size=N
 defers:a.defers=[]
 slots:∀t,Rep (Stab C h w) w (σ.get t) (a.tmps.getD t undef)
 heap:∀g o,(g,o)∈h→ORep (Stab C h w) w g o
 nodup:h.keys.Nodup
 keys:∀g∈h.keys,C.own0 g∨C.w0.heap.size≤g
 frame:Fr C.own0 C.w0 w
theorem St.klt {N:Nat} {C:Ctx} {σ:Sl} {h:Heap} {a:Act} {w:World} (s:St N C σ h a w) {g:Nat} (hg:g∈h.keys):g<w.heap.size:=by
 obtain⟨p,hp,rfl⟩:=List.mem_map.1 hg
 exact(s.heap p.1 p.2 hp).lt
inductive It where
 |code (c:Code)
 |ops (all rest:List Oper)
 |blk (id:Nat)
 |stop (R:Sl→Heap→Prop)
structure Env where
 P:Program
 N:Nat
 C:Ctx
 Q:Exit→Act→World→Prop
def exW (E:Env):List It→Exit→Act→World→Prop
 |[],e,a,w=>E.Q e a w
 |.code c::K,.normal,a,w=>c.wp E.P (exW E K) a w
 |.ops all rest::K,.normal,a,w=>wpList E.P all.toArray (exW E K) rest a w
 |.blk _::K,.normal,a,w=>exW E K .normal a w
 |.blk id::K,.exit id',a,w=>if id'=id then exW E K .normal a w else exW E K (.exit id') a w
 |.stop R::_,.normal,a,w=>∃σ h,R σ h∧St E.N E.C σ h a w
 |_::K,e,a,w=>exW E K e a w
def aw (E:Env) (K:List It) (σ:Sl) (h:Heap):Prop:=∀a w,St E.N E.C σ h a w→exW E K .normal a w
section
variable {E : Env} {K : List It} {σ : Sl} {h : Heap}
theorem exW_code_then (c:Code):exW E (.code c::K)=Exit.then (c.wp E.P (exW E K)) (exW E K):=by
 funext e a w;cases e<;>rfl
theorem aw_seq {x y:Code} (k:aw E (.code x::.code y::K) σ h):aw E (.code (.seq x y)::K) σ h:=fun a w s=>by
 have:=k a w s
 show Code.wp _ _ _ _ _
 refine wp_seq ?_
 rw [←exW_code_then]
 exact this
theorem aw_skip (k:aw E K σ h):aw E (.code .skip::K) σ h:=fun a w s=>wp_skip (k a w s)
theorem exW_blk (id:Nat):exW E (.blk id::K)=Exit.inBlock id (exW E K):=by
 funext e a w;cases e<;>rfl
theorem aw_block {id:Nat} {c:Code} (k:aw E (.code c::.blk id::K) σ h):aw E (.code (.block id c)::K) σ h:=fun a w s=>by
 refine wp_block ?_
 rw [←exW_blk]
 exact k a w s
theorem aw_blk {id:Nat} (k:aw E K σ h):aw E (.blk id::K) σ h:=fun a w s=>k a w s
def exitK (id:Nat):List It→Option (List It)
 |.blk id'::K=>if id=id' then some K else exitK id K
 |_::K=>exitK id K
 |[]=>none
theorem exW_exit {id:Nat}:∀{K K':List It},exitK id K=some K'→∀a w,exW E K' .normal a w→exW E K (.exit id) a w
 |[],_,h,_,_,_=>by simp [exitK] at h
 |.code _::K,_,h,a,w,k=>exW_exit (K:=K) h a w k
 |.ops _ _::K,_,h,a,w,k=>exW_exit (K:=K) h a w k
 |.stop _::K,_,h,a,w,k=>exW_exit (K:=K) h a w k
 |.blk id'::K,K',h,a,w,k=>by
  simp only [exitK] at h
  simp only [exW]
  split at h
  ·rename_i e;subst e;injection h with h;subst h;rw [if_pos rfl];exact k
  ·rename_i e;rw [if_neg e];exact exW_exit (K:=K) h a w k
theorem aw_exit {id:Nat} {K':List It} (hk:exitK id K=some K') (k:aw E K' σ h):aw E (.code (.exit id)::K) σ h:=
 fun a w s=>wp_exit (exW_exit hk a w (k a w s))
theorem exW_ret:∀{K:List It} (a:Act) (w:World),E.Q .ret a w→exW E K .ret a w
 |[],_,_,k=>k
 |.code _::K,a,w,k=>exW_ret (K:=K) a w k
 |.ops _ _::K,a,w,k=>exW_ret (K:=K) a w k
 |.stop _::K,a,w,k=>exW_ret (K:=K) a w k
 |.blk _::K,a,w,k=>exW_ret (K:=K) a w k
theorem St.eval {N:Nat} {C:Ctx} {a:Act} {w:World} (s:St N C σ h a w) (t:Nat):Rep (Stab C h w) w (σ.get t) (a.eval (.tmp t)):=s.slots t
theorem aw_cond {t:Nat} {x y:Code} {b:Bool} (hb:σ.get t=.c (.bool b)) (k1:b=true→aw E (.code x::K) σ h) (k2:b=false→aw E (.code y::K) σ h):
 aw E (.code (.cond (.tmp t) x y)::K) σ h:=fun a w s=>by
 have he:=s.eval t
 rw [hb] at he
 exact wp_cond_split (t:=b) he (fun e=>k1 e a w s) (fun e=>k2 e a w s)
def Sl.le (σ' σ:Sl):Prop:=∀t,σ'.get t=.c .any∨σ'.get t=σ.get t
theorem St.weak {N:Nat} {C:Ctx} {σ':Sl} {h':Heap} {a:Act} {w:World} (s:St N C σ h a w) (h1:σ'.le σ) (h2:h'.Sublist h):St N C σ' h' a w:=by
 have hk:∀b,b∈h'.keys→b∈h.keys:=fun b hb=>by
  obtain⟨p,hp,e⟩:=List.mem_map.1 hb
  exact List.mem_map.2 ⟨p,h2.subset hp,e⟩
 have kp:Keeps (Stab C h w) (Stab C h' w) w w:=⟨fun t b hb=>⟨hb.1,hb.2.1,fun hm=>hb.2.2 (hk b hm)⟩,fun _ _ _=>rfl,fun _ _ e=>e⟩
 refine⟨s.size,s.defers,fun t=> ?_,fun g o hm=>ORep.keep kp rfl (s.heap g o (h2.subset hm)),?_,fun g hg=>s.keys g (hk g hg),s.frame⟩
 ·rcases h1 t with e|e
  ·rw [e];trivial
  ·rw [e];exact Rep.keep kp (s.slots t)
 ·exact(h2.map _).nodup s.nodup
theorem aw_weak {σ':Sl} {h':Heap} (h1:σ'.le σ) (h2:h'.Sublist h) (k:aw E K σ' h'):aw E K σ h:=fun a w s=>k a w (s.weak h1 h2)
theorem Sl.le_refl (σ:Sl):σ.le σ:=fun _=>.inr rfl
theorem aw_stop {R:Sl→Heap→Prop} (k:R σ h):aw E (.stop R::K) σ h:=fun _ _ s=>⟨σ,h,k,s⟩
theorem aw_loop {c:Code} (I:Nat→Sl→Heap→Prop) (n:Nat) (h0:I n σ h)
 (round:∀m σ' h',I m σ' h'→aw E (.code c::.stop (fun σ'' h''=>∃m',m'<m∧I m' σ'' h'')::K) σ' h'):aw E (.code (.loop c)::K) σ h:=fun a w s=>by
 refine wp_loop_ghost (fun m a w=>∃σ' h',I m σ' h'∧St E.N E.C σ' h' a w) n ⟨σ,h,h0,s⟩ ?_
 rintro m a' w' ⟨σ',h',hI,s'⟩
 refine wp_mono (round m σ' h' hI a' w' s') ?_
 intro e a2 w2 hq
 cases e with
 |normal=>
  obtain⟨σ2,h2,⟨m',hm,hI'⟩,s2⟩:=hq
  exact⟨m',hm,σ2,h2,hI',s2⟩
 |exit id=>exact hq
 |goto l=>exact hq
 |ret=>exact hq
 |panic c=>exact hq
 |outgrown=>exact hq
def Sl.sub:Sl→Sl→Prop
 |[],_=>True
 |(t,x)::σ0,σ=>σ.get t=x∧Sl.sub σ0 σ
theorem Sl.sub_le:∀{σ0 σ:Sl},Sl.sub σ0 σ→σ0.le σ
 |[],_,_=>fun _=>.inl rfl
 |(t,x)::σ0,σ,hs=>fun t'=>by
  simp only [Sl.get]
  by_cases e:t=t'
  ·subst e;rw [if_pos rfl];exact .inr hs.1.symm
  ·rw [if_neg e];exact Sl.sub_le hs.2 t'
theorem aw_lp {α:Type} {c:Code} (S:α→Sl) (H:α→Heap) (F:α→Prop) (m:α→Nat) (x0:α) (hs:Sl.sub (S x0) σ) (hh:(H x0).Sublist h) (hf:F x0)
 (round:∀x,F x→aw E (.code c::.stop (fun σ' h'=>∃x',m x'<m x∧Sl.sub (S x') σ'∧(H x').Sublist h'∧F x')::K) (S x) (H x)):aw E (.code (.loop c)::K) σ h:=by
 refine aw_loop (fun n σ' h'=>∃x,m x=n∧Sl.sub (S x) σ'∧(H x).Sublist h'∧F x) (m x0) ⟨x0,rfl,hs,hh,hf⟩ ?_
 rintro n σ' h' ⟨x,rfl,h1,h2,h3⟩
 refine aw_weak (Sl.sub_le h1) h2 ?_
 intro a w s
 have:=round x h3 a w s
 refine wp_mono this ?_
 intro e a' w' hq
 cases e with
 |normal=>
  obtain⟨σ2,hp2,⟨x',hlt,r1,r2,r3⟩,s2⟩:=hq
  exact⟨σ2,hp2,⟨m x',hlt,x',rfl,r1,r2,r3⟩,s2⟩
 |exit id=>exact hq
 |goto l=>exact hq
 |ret=>exact hq
 |panic c=>exact hq
 |outgrown=>exact hq
theorem aw_region {id:Nat} {l:List Oper} (k:aw E (.ops l l::K) σ h):aw E (.code (.region id l.toArray false)::K) σ h:=
 fun a w s=>wp_region_lit (k a w s)
theorem aw_ops_nil {l:List Oper} (k:aw E K σ h):aw E (.ops l []::K) σ h:=fun a w s=>wpList_nil (k a w s)
end
end Go.AI
namespace Go.AI
def cstC:Value→CV
 |.int k n=>.int k n
 |.bool b=>.bool b
 |.string s=>.str s
 |.nilIface=>.nilI
 |.slice none 0 0=>.nils
 |v=>.raw v
def cst:Value→AV
 |.agg cs=>.agg (cs.toList.map cstC)
 |v=>.c (cstC v)
theorem cstC_rep (S:Bool→Nat→Prop) (w:World) (v:Value):RepC S w (cstC v) v:=by
 unfold cstC
 split<;>simp [RepC]
theorem cstL_rep (S:Bool→Nat→Prop) (w:World):∀l:List Value,RepL S w (l.map cstC) l
 |[]=>trivial
 |v::l=>⟨cstC_rep S w v,cstL_rep S w l⟩
theorem cst_rep (S:Bool→Nat→Prop) (w:World) (v:Value):Rep S w (cst v) v:=by
 unfold cst
 split
 ·rename_i cs;exact⟨cs.toList,by simp,cstL_rep S w _⟩
 ·exact cstC_rep S w v
def ev (σ:Sl):Operand→AV
 |.tmp t=>σ.get t
 |.const v=>cst v
 |.global g=>.c (.raw (.pointer (some ⟨g,0,none⟩)))
 |.func f=>.c (.raw (.func (.func f) #[] #[]))
def tElem (P:Program) (t:TypeId):Option (TypeId×Nat×Nat):=
 match P.underlying t with
 |some (.slice e)=>(P.info? e).map fun i=>(e,i.size,i.bytes)
 |_=>none
def tSz (P:Program) (t:TypeId):Option (Bool×Nat):=
 match P.underlying t,P.info? t with
 |some (.struct _),some i=>some (true,i.size)
 |some (.array _ _),some i=>some (true,i.size)
 |some _,some i=>some (false,i.size)
 |_,_=>none
def tFld (P:Program) (t i:Nat):Option Nat:=
 match P.underlying t with
 |some (.struct fs)=>match fs[i]? with
  |some f=>match P.info? f.type with
   |some j=>if j.size=0 then none else some f.offset
   |none=>none
  |none=>none
 |_=>none
def tInt (P:Program) (t:TypeId):Option IntKind:=
 match P.underlying t with
 |some (.int k)=>some k
 |_=>none
def tBool (P:Program) (t:TypeId):Bool:=
 match P.underlying t with
 |some .bool=>true
 |_=>false
def tIfc (P:Program) (t:TypeId):Bool:=
 match P.underlying t with
 |some (.interface _)=>true
 |_=>false
def tZero (P:Program) (t:TypeId):Option (List CV):=((P.info? t).bind (·.zero)).map fun z=>z.cells.toList.map cstC
theorem tElem_spec {P:Program} {t e size bytes:Nat} (h:tElem P t=some (e,size,bytes)):P.underlying t=some (.slice e)∧∃i,P.info? e=some i∧i.size=size∧i.bytes=bytes:=by
 unfold tElem at h
 split at h
 ·rename_i e' he
  cases hi:P.info? e' with
  |none=>simp [hi] at h
  |some i=>simp [hi] at h;obtain⟨rfl,rfl,rfl⟩:=h;exact⟨he,i,hi,rfl,rfl⟩
 ·cases h
theorem tInt_spec {P:Program} {t:Nat} {k:IntKind} (h:tInt P t=some k):P.underlying t=some (.int k):=by
 unfold tInt at h
 split at h
 ·rename_i k' hk;injection h with h;subst h;exact hk
 ·cases h
theorem tBool_spec {P:Program} {t:Nat} (h:tBool P t=true):P.underlying t=some .bool:=by
 unfold tBool at h
 split at h
 ·assumption
 ·cases h
theorem tIfc_spec {P:Program} {t:Nat} (h:tIfc P t=true):∃ms,P.underlying t=some (.interface ms):=by
 unfold tIfc at h
 split at h
 ·rename_i ms e;exact⟨ms,e⟩
 ·cases h
theorem tSz_run {P:Program} {t n:Nat} {ag:Bool} (h:tSz P t=some (ag,n)) (w:World):(isAgg t).run P w=.ok ag w∧(sizeOf t).run P w=.ok n w:=by
 unfold tSz at h
 split at h<;>first|(cases h;done)|skip
 all_goals
  rename_i h1 h2
  simp only [Option.some.injEq,Prod.mk.injEq] at h
  obtain⟨rfl,rfl⟩:=h
  constructor
  ·simp [isAgg,run_underlying h1]
  ·simp [sizeOf,typeInfo,h2]
def POk (P:Program) (h:Heap) (ρ:Operand→AV) (op:Op) (r:AV):Prop:=
 ∀(S:Bool→Nat→Prop) (w:World) (e:Operand→Value),(∀b,S true b→S false b)→(∀x∈op.operands,Rep S w (ρ x) (e x))→(∀g o,(g,o)∈h→ORep S w g o)→
  ∃v,(∀o:Oper,o.op=op→(execOp e o).run P w=.ok (.value v) w)∧Rep S w r v
variable {P : Program} {h : Heap} {ρ : Operand → AV}
theorem POk.move (x:Operand):POk P h ρ (.move x) (ρ x):=fun S w e _ hx _=>
 ⟨e x,fun o ho=>by simp [execOp,ho],hx x (by simp [Op.operands])⟩
theorem POk.assign (x:Operand):POk P h ρ (.assign x) (ρ x):=fun S w e _ hx _=>
 ⟨e x,fun o ho=>by simp [execOp,ho],hx x (by simp [Op.operands])⟩
def pickAV (t:Bool):AV→AV→AV
 |.c (.bool p),.c (.bool q)=>.c (.bool (bif t then p else q))
 |x,y=>match t with|true=>x|false=>y
theorem pickAV_eq (t:Bool) (x y:AV):pickAV t x y=bif t then x else y:=by
 unfold pickAV
 split<;>cases t<;>rfl
theorem POk.pick {c a b:Operand} {t:Bool} (hc:ρ c=.c (.bool t)):POk P h ρ (.pick c a b) (pickAV t (ρ a) (ρ b)):=fun S w e _ hx _=>by
 have h1:e c=.bool t:=by have:=hx c (by simp [Op.operands]);rw [hc] at this;exact this
 have h2:=hx a (by simp [Op.operands])
 have h3:=hx b (by simp [Op.operands])
 refine⟨if t then e a else e b,fun o ho=>by simp [execOp,ho,h1,asBool],?_⟩
 rw [pickAV_eq]
 cases t
 ·exact h3
 ·exact h2
theorem ex_andZ:∃f:IntKind→Int→Int→Int,∀k a b,f k a b=k.wrap (BitVec.ofInt k.bits a&&&BitVec.ofInt k.bits b).toNat:=⟨fun k a b=>k.wrap (BitVec.ofInt k.bits a&&&BitVec.ofInt k.bits b).toNat,fun _ _ _=>rfl⟩
noncomputable def andZ:IntKind→Int→Int→Int:=Classical.choose ex_andZ
theorem andZ_eq (k:IntKind) (a b:Int):andZ k a b=k.wrap (BitVec.ofInt k.bits a&&&BitVec.ofInt k.bits b).toNat:=Classical.choose_spec ex_andZ k a b
theorem ex_orZ:∃f:IntKind→Int→Int→Int,∀k a b,f k a b=k.wrap (BitVec.ofInt k.bits a|||BitVec.ofInt k.bits b).toNat:=⟨fun k a b=>k.wrap (BitVec.ofInt k.bits a|||BitVec.ofInt k.bits b).toNat,fun _ _ _=>rfl⟩
noncomputable def orZ:IntKind→Int→Int→Int:=Classical.choose ex_orZ
theorem orZ_eq (k:IntKind) (a b:Int):orZ k a b=k.wrap (BitVec.ofInt k.bits a|||BitVec.ofInt k.bits b).toNat:=Classical.choose_spec ex_orZ k a b
theorem ex_xorZ:∃f:IntKind→Int→Int→Int,∀k a b,f k a b=k.wrap (BitVec.ofInt k.bits a^^^BitVec.ofInt k.bits b).toNat:=⟨fun k a b=>k.wrap (BitVec.ofInt k.bits a^^^BitVec.ofInt k.bits b).toNat,fun _ _ _=>rfl⟩
noncomputable def xorZ:IntKind→Int→Int→Int:=Classical.choose ex_xorZ
theorem xorZ_eq (k:IntKind) (a b:Int):xorZ k a b=k.wrap (BitVec.ofInt k.bits a^^^BitVec.ofInt k.bits b).toNat:=Classical.choose_spec ex_xorZ k a b
theorem ex_andNotZ:∃f:IntKind→Int→Int→Int,∀k a b,f k a b=k.wrap (BitVec.ofInt k.bits a&&& ~~~BitVec.ofInt k.bits b).toNat:=⟨fun k a b=>k.wrap (BitVec.ofInt k.bits a&&& ~~~BitVec.ofInt k.bits b).toNat,fun _ _ _=>rfl⟩
noncomputable def andNotZ:IntKind→Int→Int→Int:=Classical.choose ex_andNotZ
theorem andNotZ_eq (k:IntKind) (a b:Int):andNotZ k a b=k.wrap (BitVec.ofInt k.bits a&&& ~~~BitVec.ofInt k.bits b).toNat:=Classical.choose_spec ex_andNotZ k a b
theorem ex_quoZ:∃f:IntKind→Int→Int→Int,∀k a b,f k a b=k.wrap (a.tdiv b):=⟨fun k a b=>k.wrap (a.tdiv b),fun _ _ _=>rfl⟩
noncomputable def quoZ:IntKind→Int→Int→Int:=Classical.choose ex_quoZ
theorem quoZ_eq (k:IntKind) (a b:Int):quoZ k a b=k.wrap (a.tdiv b):=Classical.choose_spec ex_quoZ k a b
theorem ex_remZ:∃f:Int→Int→Int,∀a b,f a b=a.tmod b:=⟨fun a b=>a.tmod b,fun _ _=>rfl⟩
noncomputable def remZ:Int→Int→Int:=Classical.choose ex_remZ
theorem remZ_eq (a b:Int):remZ a b=a.tmod b:=Classical.choose_spec ex_remZ a b
theorem ex_shlZ:∃f:IntKind→Int→Int→Int,∀k a b,f k a b=k.wrap (a*2^(min b.toNat k.bits)):=⟨fun k a b=>k.wrap (a*2^(min b.toNat k.bits)),fun _ _ _=>rfl⟩
noncomputable def shlZ:IntKind→Int→Int→Int:=Classical.choose ex_shlZ
theorem shlZ_eq (k:IntKind) (a b:Int):shlZ k a b=k.wrap (a*2^(min b.toNat k.bits)):=Classical.choose_spec ex_shlZ k a b
theorem ex_shrZ:∃f:IntKind→Int→Int→Int,∀k a b,f k a b=a.fdiv (2^(min b.toNat k.bits)):=⟨fun k a b=>a.fdiv (2^(min b.toNat k.bits)),fun _ _ _=>rfl⟩
noncomputable def shrZ:IntKind→Int→Int→Int:=Classical.choose ex_shrZ
theorem shrZ_eq (k:IntKind) (a b:Int):shrZ k a b=a.fdiv (2^(min b.toNat k.bits)):=Classical.choose_spec ex_shrZ k a b
theorem ex_wrapZ:∃f:IntKind→Int→Int,∀k a,f k a=k.wrap a:=⟨fun k a=>k.wrap a,fun _ _=>rfl⟩
noncomputable def wrapZ:IntKind→Int→Int:=Classical.choose ex_wrapZ
theorem wrapZ_eq (k:IntKind) (a:Int):wrapZ k a=k.wrap a:=Classical.choose_spec ex_wrapZ k a
noncomputable def binInt (op:BinOp) (k:IntKind) (a b:Int):Option (Prop×CV):=
 match op with
 |.add=>some (True,.int k (wrapZ k (a+b)))
 |.sub=>some (True,.int k (wrapZ k (a-b)))
 |.mul=>some (True,.int k (wrapZ k (a*b)))
 |.eql=>some (True,.bool (a==b))
 |.neq=>some (True,.bool (a !=b))
 |.lss=>some (True,.bool (decide (a<b)))
 |.leq=>some (True,.bool (decide (a≤b)))
 |.gtr=>some (True,.bool (decide (a>b)))
 |.geq=>some (True,.bool (decide (a≥b)))
 |.and=>some (True,.int k (andZ k a b))
 |.or=>some (True,.int k (orZ k a b))
 |.xor=>some (True,.int k (xorZ k a b))
 |.andNot=>some (True,.int k (andNotZ k a b))
 |.quo=>some (b≠0,.int k (quoZ k a b))
 |.rem=>some (b≠0,.int k (remZ a b))
 |_=>none
noncomputable def binSh (op:BinOp) (k:IntKind) (a b:Int):Option (Prop×CV):=
 match op with
 |.shl=>some (0≤b,.int k (shlZ k a b))
 |.shr=>some (0≤b,.int k (shrZ k a b))
 |_=>none
theorem run_eqGuard_int (op:BinOp) (t:TypeId) (x y:Operand) (k k':IntKind) (a b:Int) (w:World):(eqGuard op t x y (.int k a) (.int k' b)).run P w=.ok () w:=by
 unfold eqGuard
 cases op<;>simp
theorem run_eqGuard_bool (op:BinOp) (t:TypeId) (x y:Operand) (a b:Bool) (w:World):(eqGuard op t x y (.bool a) (.bool b)).run P w=.ok () w:=by
 unfold eqGuard
 cases op<;>simp
theorem POk.binInt {op:BinOp} {t t':TypeId} {x y:Operand} {k:IntKind} {a b:Int} {req:Prop} {r:CV} (hx:ρ x=.c (.int k a)) (hy:ρ y=.c (.int k b))
 (hr:AI.binInt op k a b=some (req,r)) (hreq:req):POk P h ρ (.binOp op t x y t') (.c r):=fun S w e _ ho _=>by
 have h1:e x=.int k a:=by have:=ho x (by simp [Op.operands]);rw [hx] at this;exact this
 have h2:e y=.int k b:=by have:=ho y (by simp [Op.operands]);rw [hy] at this;exact this
 have h3:∃v,(binOp op t (.int k a) (.int k b)).run P w=.ok v w∧RepC S w r v:=by
  cases op<;>simp only [AI.binInt,Option.some.injEq,Prod.mk.injEq,reduceCtorEq] at hr
  all_goals
   obtain⟨rfl,rfl⟩:=hr
   simp [binOp,Op.intArith,Op.intCmp,Op.intBits,Op.intDiv,RepC,andZ_eq,orZ_eq,xorZ_eq,andNotZ_eq,quoZ_eq,remZ_eq,wrapZ_eq] at hreq⊢
  all_goals (intro hb;exact absurd hb hreq)
 obtain⟨v,hv,hrep⟩:=h3
 exact⟨v,fun o hop=>by simp [execOp,hop,h1,h2,run_eqGuard_int,hv],hrep⟩
theorem POk.binSh {op:BinOp} {t t':TypeId} {x y:Operand} {k k':IntKind} {a b:Int} {req:Prop} {r:CV} (hx:ρ x=.c (.int k a)) (hy:ρ y=.c (.int k' b))
 (hr:AI.binSh op k a b=some (req,r)) (hreq:req):POk P h ρ (.binOp op t x y t') (.c r):=fun S w e _ ho _=>by
 have h1:e x=.int k a:=by have:=ho x (by simp [Op.operands]);rw [hx] at this;exact this
 have h2:e y=.int k' b:=by have:=ho y (by simp [Op.operands]);rw [hy] at this;exact this
 have h3:∃v,(binOp op t (.int k a) (.int k' b)).run P w=.ok v w∧RepC S w r v:=by
  cases op<;>simp only [AI.binSh,Option.some.injEq,Prod.mk.injEq,reduceCtorEq] at hr
  all_goals
   obtain⟨rfl,rfl⟩:=hr
   have hn:¬b<0:=by omega
   simp [binOp,Op.shift,RepC,hn,shlZ_eq,shrZ_eq]
 obtain⟨v,hv,hrep⟩:=h3
 exact⟨v,fun o hop=>by simp [execOp,hop,h1,h2,run_eqGuard_int,hv],hrep⟩
theorem exec_bin {o:Oper} {op:BinOp} {t t':TypeId} {x y:Operand} {e:Operand→Value} {w:World} {v:Value} (ho:o.op=.binOp op t x y t')
 (hg:(eqGuard op t x y (e x) (e y)).run P w=.ok () w) (hb:(Go.binOp op t (e x) (e y)).run P w=.ok v w):(execOp e o).run P w=.ok (.value v) w:=by
 simp [execOp,ho,hg,hb]
theorem run_equalIn_bool (d:Nat) {t:TypeId} (ht:P.underlying t=some .bool) (a b:Bool) (w:World):(Op.equalIn (d+1) t (.bool a) (.bool b)).run P w=.ok (a==b) w:=by
 simp [Op.equalIn,run_underlying ht]
theorem run_eql_bool {t:TypeId} (ht:P.underlying t=some .bool) (a b:Bool) (w:World):(Go.binOp .eql t (.bool a) (.bool b)).run P w=.ok (.bool (a==b)) w:=by
 simp only [Go.binOp]
 simp [Op.equal,Op.maxDepth,run_equalIn_bool 9999 ht]
theorem run_neq_bool {t:TypeId} (ht:P.underlying t=some .bool) (a b:Bool) (w:World):(Go.binOp .neq t (.bool a) (.bool b)).run P w=.ok (.bool (a !=b)) w:=by
 simp only [Go.binOp]
 simp [Op.equal,Op.maxDepth,run_equalIn_bool 9999 ht,bne]
theorem POk.eqBool {t t':TypeId} {x y:Operand} {a b:Bool} (ht:tBool P t=true) (hx:ρ x=.c (.bool a)) (hy:ρ y=.c (.bool b)):POk P h ρ (.binOp .eql t x y t') (.c (.bool (a==b))):=fun S w e _ ho _=>by
 have h1:e x=.bool a:=by have:=ho x (by simp [Op.operands]);rw [hx] at this;exact this
 have h2:e y=.bool b:=by have:=ho y (by simp [Op.operands]);rw [hy] at this;exact this
 exact⟨.bool (a==b),fun o hop=>exec_bin hop (by rw [h1,h2];exact run_eqGuard_bool ..) (by rw [h1,h2];exact run_eql_bool (tBool_spec ht) a b w),rfl⟩
theorem POk.neqBool {t t':TypeId} {x y:Operand} {a b:Bool} (ht:tBool P t=true) (hx:ρ x=.c (.bool a)) (hy:ρ y=.c (.bool b)):POk P h ρ (.binOp .neq t x y t') (.c (.bool (a !=b))):=fun S w e _ ho _=>by
 have h1:e x=.bool a:=by have:=ho x (by simp [Op.operands]);rw [hx] at this;exact this
 have h2:e y=.bool b:=by have:=ho y (by simp [Op.operands]);rw [hy] at this;exact this
 exact⟨.bool (a !=b),fun o hop=>exec_bin hop (by rw [h1,h2];exact run_eqGuard_bool ..) (by rw [h1,h2];exact run_neq_bool (tBool_spec ht) a b w),rfl⟩
def nilAV:CV→Option Bool
 |.nilI=>some true
 |.ifc _ _=>some false
 |_=>none
theorem run_equalIn_nil (d:Nat) {t:TypeId} {ms:Array (String×TypeId)} (ht:P.underlying t=some (.interface ms)) (w:World):(Op.equalIn (d+1) t .nilIface .nilIface).run P w=.ok true w:=by
 simp [Op.equalIn,run_underlying ht]
theorem run_equalIn_ifc (d:Nat) {t:TypeId} {ms:Array (String×TypeId)} (ht:P.underlying t=some (.interface ms)) (u:TypeId) (x:Value) (w:World):(Op.equalIn (d+1) t (.iface u x) .nilIface).run P w=.ok false w:=by
 simp [Op.equalIn,run_underlying ht]
theorem run_eqNil {t:TypeId} (ht:tIfc P t=true) {S:Bool→Nat→Prop} {w:World} {c:CV} {b:Bool} {v:Value} (hn:nilAV c=some b) (hr:RepC S w c v):
 (Go.binOp .eql t v .nilIface).run P w=.ok (.bool b) w∧(Go.binOp .neq t v .nilIface).run P w=.ok (.bool !b) w∧
 ∀(op:BinOp) (x:Operand),(eqGuard op t x (.const .nilIface) v .nilIface).run P w=.ok () w:=by
 obtain⟨ms,hm⟩:=tIfc_spec ht
 cases c<;>simp only [nilAV,Option.some.injEq,reduceCtorEq] at hn
 ·subst hn
  subst hr
  refine⟨?_,?_,fun op x=> ?_⟩
  ·simp only [Go.binOp];simp [Op.equal,Op.maxDepth,run_equalIn_nil 9999 hm]
  ·simp only [Go.binOp];simp [Op.equal,Op.maxDepth,run_equalIn_nil 9999 hm]
  ·unfold eqGuard;cases op<;>simp
 ·subst hn
  obtain⟨u,rfl,_⟩:=hr
  refine⟨?_,?_,fun op x=> ?_⟩
  ·simp only [Go.binOp];simp [Op.equal,Op.maxDepth,run_equalIn_ifc 9999 hm]
  ·simp only [Go.binOp];simp [Op.equal,Op.maxDepth,run_equalIn_ifc 9999 hm]
  ·unfold eqGuard;cases op<;>simp
theorem POk.eqNil {t t':TypeId} {x:Operand} {c:CV} {b:Bool} (ht:tIfc P t=true) (hx:ρ x=.c c) (hn:nilAV c=some b) (hk:ρ (.const .nilIface)=.c .nilI):POk P h ρ (.binOp .eql t x (.const .nilIface) t') (.c (.bool b)):=fun S w e _ ho _=>by
 have h1:=ho x (by simp [Op.operands])
 have h2:=ho (.const .nilIface) (by simp [Op.operands])
 rw [hx] at h1
 rw [hk] at h2
 obtain⟨e1,_,e3⟩:=run_eqNil ht hn h1
 have h3:e (.const .nilIface)=.nilIface:=h2
 exact⟨.bool b,fun o hop=>exec_bin hop (by rw [h3];exact e3 _ _) (by rw [h3];exact e1),rfl⟩
theorem POk.neqNil {t t':TypeId} {x:Operand} {c:CV} {b:Bool} (ht:tIfc P t=true) (hx:ρ x=.c c) (hn:nilAV c=some b) (hk:ρ (.const .nilIface)=.c .nilI):POk P h ρ (.binOp .neq t x (.const .nilIface) t') (.c (.bool !b)):=fun S w e _ ho _=>by
 have h1:=ho x (by simp [Op.operands])
 have h2:=ho (.const .nilIface) (by simp [Op.operands])
 rw [hx] at h1
 rw [hk] at h2
 obtain⟨_,e2,e3⟩:=run_eqNil ht hn h1
 have h3:e (.const .nilIface)=.nilIface:=h2
 exact⟨.bool !b,fun o hop=>exec_bin hop (by rw [h3];exact e3 _ _) (by rw [h3];exact e2),rfl⟩
theorem POk.not {t:TypeId} {x:Operand} {b:Bool} (hx:ρ x=.c (.bool b)):POk P h ρ (.unOp .not t x) (.c (.bool !b)):=fun S w e _ ho _=>by
 have h1:e x=.bool b:=by have:=ho x (by simp [Op.operands]);rw [hx] at this;exact this
 exact⟨.bool !b,fun o hop=>by simp [execOp,hop,h1,Op.unary],rfl⟩
theorem POk.neg {t:TypeId} {x:Operand} {k:IntKind} {n:Int} (hx:ρ x=.c (.int k n)):POk P h ρ (.unOp .neg t x) (.c (.int k (wrapZ k (0-n)))):=fun S w e _ ho _=>by
 have h1:e x=.int k n:=by have:=ho x (by simp [Op.operands]);rw [hx] at this;exact this
 exact⟨.int k (wrapZ k (0-n)),fun o hop=>by simp [execOp,hop,h1,Op.unary,Op.intArith,wrapZ_eq],rfl⟩
theorem POk.convert {s d:TypeId} {x:Operand} {k k' k0:IntKind} {n:Int} (hs:tInt P s=some k0) (hd:tInt P d=some k') (hx:ρ x=.c (.int k n)):POk P h ρ (.convert s d x) (.c (.int k' (wrapZ k' n))):=fun S w e _ ho _=>by
 have h1:e x=.int k n:=by have:=ho x (by simp [Op.operands]);rw [hx] at this;exact this
 refine⟨.int k' (wrapZ k' n),fun o hop=> ?_,rfl⟩
 simp [execOp,hop,h1,wrapZ_eq,Go.convert,run_underlying (tInt_spec hs),run_underlying (tInt_spec hd),Conv.intToInt]
theorem POk.extract {x:Operand} {xs:List AV} {i:Nat} {y:AV} (hx:ρ x=.tup xs) (hi:xs[i]?=some y):POk P h ρ (.extract x i) y:=fun S w e _ ho _=>by
 have h1:=ho x (by simp [Op.operands])
 rw [hx] at h1
 obtain⟨us,hu,hr⟩:=h1
 have key:∀(xs:List AV) (us:List Value) (i:Nat),RepT S w xs us→xs[i]?=some y→∃v,us[i]?=some v∧Rep0 S w y v:=by
  intro xs
  induction xs with
  |nil=>intro us i _ hi;simp at hi
  |cons x xs ih=>
   intro us i hr hi
   cases us with
   |nil=>exact hr.elim
   |cons u us=>
    cases i with
    |zero=>simp at hi;subst hi;exact⟨u,rfl,hr.1⟩
    |succ i=>simp at hi⊢;exact ih us i hr.2 hi
 obtain⟨v,hv,hrep⟩:=key xs us i hr hi
 refine⟨v,fun o hop=> ?_,?_⟩
 ·simp [execOp,hop,hu,Instr.extract,hv]
 ·cases y with
  |c y=>exact hrep
  |agg cs=>exact hrep
  |tup xs=>exact hrep.elim
theorem POk.makeInterface {t:TypeId} {k:IntKind} {x:Operand} {c:CV} (ht:tInt P t=some k) (hx:ρ x=.c c):POk P h ρ (.makeInterface t x) (.c (.ifc t c)):=fun S w e _ ho _=>by
 have h1:=ho x (by simp [Op.operands])
 rw [hx] at h1
 exact⟨.iface t (e x),fun o hop=>by simp [execOp,hop,Instr.makeInterface,run_underlying (tInt_spec ht)],e x,rfl,h1⟩
end Go.AI
namespace Go.AI
variable {P : Program} {h : Heap} {ρ : Operand → AV}
def cellsAt (f:Nat→CV) (off k:Nat):Nat→List CV
 |0=>[]
 |n+1=>f (off+k)::cellsAt f off (k+1) n
theorem run_loadCellsFrom {S:Bool→Nat→Prop} {w:World} {ad:Addr} {f:Nat→CV} {off:Nat}:∀(n i:Nat) (acc:Array Value),(∀j,i≤j→j<i+n→∃u,w.cell? (ad.add j)=some u∧RepC S w (f (off+j)) u)→
 ∃us,(loadCellsFrom ad i n acc).run P w=.ok (acc++us.toArray) w∧RepL S w (cellsAt f off i n) us:=by
 intro n
 induction n with
 |zero=>intro i acc _;exact⟨[],by simp [loadCellsFrom],trivial⟩
 |succ n ih=>
  intro i acc hc
  obtain⟨u,hu,hr⟩:=hc i (Nat.le_refl _) om
  obtain⟨us,hus,hrs⟩:=ih (i+1) (acc.push u) (fun j h1 h2=>hc j om om)
  refine⟨u::us,?_,hr,hrs⟩
  simp only [loadCellsFrom,Sem.run_bind,run_load,hu,Result.andThen_ok,hus]
  simp
theorem run_loadVar {S:Bool→Nat→Prop} {w:World} {ad:Addr} {f:Nat→CV} {off t n:Nat} {ag:Bool} (ht:tSz P t=some (ag,n)) (h1:ag=false→n=1)
 (hc:∀j,j<n→∃u,w.cell? (ad.add j)=some u∧RepC S w (f (off+j)) u):
 ∃v,(loadVar t ad).run P w=.ok v w∧Rep S w (if ag then .agg (cellsAt f off 0 n) else .c (f off)) v:=by
 obtain⟨ha,hs⟩:=tSz_run ht w
 cases ag with
 |false=>
  have hn:=h1 rfl
  subst hn
  obtain⟨u,hu,hr⟩:=hc 0 om
  have e0:ad.add 0=ad:=rfl
  rw [e0] at hu
  refine⟨u,?_,hr⟩
  simp [loadVar,ha,run_load,hu]
 |true=>
  obtain⟨us,hus,hrs⟩:=run_loadCellsFrom (P:=P) (off:=off) n 0 #[] (fun j _ hj=>hc j om)
  refine⟨.agg us.toArray,?_,us,rfl,hrs⟩
  simp [loadVar,ha,hs,loadCells,hus]
theorem POk.loadR {t:TypeId} {a:Operand} {n m:Nat} {ag:Bool} {f:Nat→CV} (ht:tSz P t=some (ag,n)) (h1:ag=false→n=1) (ha:ρ a=.c (.rptr m f)) (hm:n≤m):
 POk P h ρ (.load t a) (if ag then .agg (cellsAt f 0 0 n) else .c (f 0)):=fun S w e _ ho _=>by
 have h2:=ho a (by simp [Op.operands])
 rw [ha] at h2
 obtain⟨ad,hv,_,hj⟩:=h2
 obtain⟨v,hrun,hr⟩:=run_loadVar (P:=P) (off:=0) ht h1 (fun j hjn=>by simpa using hj j om)
 exact⟨v,fun o hop=>by simp [execOp,hop,hv,Instr.loadAt,Instr.sureAddr,hrun],hr⟩
theorem cell_own {w:World} {g off:Nat} {cs:Array Value} {ty:TypeId} {fz:Nat×Nat} (hb:w.heap[g]?=some (.cells cs ty fz)):w.cell? ⟨g,off,none⟩=cs[off]?:=by
 simp [World.cell?,hb]
theorem POk.loadO {t:TypeId} {a:Operand} {n m g off:Nat} {ag:Bool} {ty:TypeId} {f:Nat→CV} (ht:tSz P t=some (ag,n)) (h1:ag=false→n=1) (ha:ρ a=.c (.optr g off))
 (hg:h.get g=some (.cells ty m f)) (hm:off+n≤m):POk P h ρ (.load t a) (if ag then .agg (cellsAt f off 0 n) else .c (f off)):=fun S w e _ ho hh=>by
 have h2:=ho a (by simp [Op.operands])
 rw [ha] at h2
 have hv:e a=.pointer (some ⟨g,off,none⟩):=h2
 obtain⟨cs,hb,hn,hj⟩:=hh g _ (Heap.get_mem hg)
 obtain⟨v,hrun,hr⟩:=run_loadVar (P:=P) (ad:=⟨g,off,none⟩) (off:=off) ht h1 (fun j hjn=>by
  obtain⟨u,hu,hr⟩:=hj (off+j) om
  exact⟨u,by rw [add_mk,cell_own hb];exact hu,hr⟩)
 exact⟨v,fun o hop=>by simp [execOp,hop,hv,Instr.loadAt,Instr.sureAddr,hrun],hr⟩
theorem tFld_spec {t i off:Nat} (ht:tFld P t i=some off) (ad:Addr) (w:World):(Instr.fieldAt t (.pointer (some ad)) i).run P w=.ok (.pointer (some (ad.add off))) w:=by
 unfold tFld at ht
 split at ht
 ·rename_i fs hu
  split at ht
  ·rename_i f hf
   split at ht
   ·rename_i j hj
    split at ht
    ·cases ht
    ·rename_i hz
     injection ht with ht
     subst ht
     simp [Instr.fieldAt,run_underlying hu,hf,Instr.sureAddr,fieldPlace,sizeOf,typeInfo,hj,hz]
   ·cases ht
  ·cases ht
 ·cases ht
theorem POk.fieldO {t i off g o:Nat} {x:Operand} (ht:tFld P t i=some off) (hx:ρ x=.c (.optr g o)):POk P h ρ (.fieldAddr t x i) (.c (.optr g (o+off))):=fun S w e _ ho _=>by
 have h2:=ho x (by simp [Op.operands])
 rw [hx] at h2
 have hv:e x=.pointer (some ⟨g,o,none⟩):=h2
 exact⟨_,fun o hop=>by simp only [execOp,hop,hv,Sem.run_bind,tFld_spec ht,Result.andThen_ok,add_mk];rfl,rfl⟩
theorem POk.fieldR {t i off n:Nat} {x:Operand} {f:Nat→CV} (ht:tFld P t i=some off) (hx:ρ x=.c (.rptr n f)) (hn:off≤n):POk P h ρ (.fieldAddr t x i) (.c (.rptr (n-off) fun j=>f (off+j))):=fun S w e _ ho _=>by
 have h2:=ho x (by simp [Op.operands])
 rw [hx] at h2
 obtain⟨ad,hv,hS,hj⟩:=h2
 refine⟨_,fun o hop=>by simp only [execOp,hop,hv,Sem.run_bind,tFld_spec ht,Result.andThen_ok];rfl,ad.add off,rfl,by rw [block_add];exact hS,fun j hjn=> ?_⟩
 rw [add_add]
 exact hj (off+j) om
theorem run_indexAt {t el size bytes:Nat} (ht:tElem P t=some (el,size,bytes)) (ad:Addr) (len cap:Nat) (k:IntKind) (i:Int) (h0:0≤i) (hl:i<len) (w:World):
 (Instr.indexAt t (.slice (some ad) len cap) (.int k i)).run P w=.ok (.pointer (some (ad.add (i.toNat*size)))) w:=by
 obtain⟨hu,inf,hi,hsz,_⟩:=tElem_spec ht
 simp [Instr.indexAt,asIntOf,run_underlying hu,h0,hl,sizeOf,typeInfo,hi,hsz]
theorem POk.indexO {t el size bytes g off n:Nat} {x ix:Operand} {k:IntKind} {i:Int} (ht:tElem P t=some (el,size,bytes)) (hx:ρ x=.c (.osl g size off n)) (hix:ρ ix=.c (.int k i)) (h0:0≤i) (hl:i<n):
 POk P h ρ (.indexAddr t x ix) (.c (.optr g (off+i.toNat*size))):=fun S w e _ ho _=>by
 have h2:=ho x (by simp [Op.operands])
 have h3:=ho ix (by simp [Op.operands])
 rw [hx] at h2
 rw [hix] at h3
 obtain⟨c,hv,_,_,_⟩:=h2
 have hi:e ix=.int k i:=h3
 exact⟨_,fun o hop=>by simp only [execOp,hop,hv,hi,Sem.run_bind,run_indexAt ht _ n c k i h0 hl,Result.andThen_ok,add_mk];rfl,rfl⟩
theorem POk.indexR {t el size bytes n:Nat} {tg:Bool} {f:Nat→CV} {x ix:Operand} {k:IntKind} {i:Int} (ht:tElem P t=some (el,size,bytes)) (hx:ρ x=.c (.row tg size n f)) (hix:ρ ix=.c (.int k i)) (h0:0≤i) (hl:i<n) (hz:0<size):
 POk P h ρ (.indexAddr t x ix) (.c (.rptr size fun j=>f (i.toNat*size+j))):=fun S w e hS ho _=>by
 have h2:=ho x (by simp [Op.operands])
 have h3:=ho ix (by simp [Op.operands])
 rw [hx] at h2
 rw [hix] at h3
 obtain⟨A,c,hv,_,hn⟩:=h2
 have hi:e ix=.int k i:=h3
 have hlt:i.toNat<n:=by omega
 have hmul:(i.toNat+1)*size≤n*size:=Nat.mul_le_mul_right _ hlt
 have hmul':(i.toNat+1)*size=i.toNat*size+size:=Nat.succ_mul _ _
 obtain⟨ad,hA,hb,hj⟩:=hn om
 subst hA
 refine⟨_,fun o hop=>by simp only [execOp,hop,hv,hi,Sem.run_bind,run_indexAt ht _ n c k i h0 hl,Result.andThen_ok];rfl,ad.add (i.toNat*size),rfl,?_,fun j hjn=> ?_⟩
 ·rw [block_add];cases tg
  ·exact hb
  ·exact hS _ hb
 ·rw [add_add];exact hj _ om
def lenCV:CV→Option Nat
 |.row _ _ n _=>some n
 |.osl _ _ _ n=>some n
 |.nils=>some 0
 |_=>none
theorem POk.lenS {t el size bytes n:Nat} {x:Operand} {c:CV} (ht:tElem P t=some (el,size,bytes)) (hx:ρ x=.c c) (hn:lenCV c=some n):
 POk P h ρ (.call {callee:=.builtin .len,args:= #[x],argTypes:= #[t]}) (.c (.int .i64 n)):=fun S w e _ ho _=>by
 have h2:=ho x (by simp [Op.operands,Call.operands])
 rw [hx] at h2
 obtain⟨hu,_⟩:=tElem_spec ht
 have hv:∃A c',e x=.slice A n c':=by
  cases c<;>simp only [lenCV,Option.some.injEq,reduceCtorEq] at hn<;>subst hn
  ·obtain⟨A,hv⟩:=h2;exact⟨A,0,hv⟩
  ·obtain⟨A,c,hv,_⟩:=h2;exact⟨A,c,hv⟩
  ·obtain⟨c,hv,_⟩:=h2;exact⟨_,c,hv⟩
 obtain⟨A,c',hv⟩:=hv
 exact⟨.int .i64 n,fun o hop=>by simp [execOp,hop,resolve,invoke,Go.builtin,Builtin.len_,hv,run_underlying hu,goInt],rfl⟩
theorem POk.max2 {t1 t2:TypeId} {x y:Operand} {k:IntKind} {a b:Int} (hx:ρ x=.c (.int k a)) (hy:ρ y=.c (.int k b)):
 POk P h ρ (.call {callee:=.builtin .max,args:= #[x,y],argTypes:= #[t1,t2]}) (.c (.int k (if b>a then b else a))):=fun S w e _ ho _=>by
 have h1:e x=.int k a:=by have:=ho x (by simp [Op.operands,Call.operands]);rw [hx] at this;exact this
 have h2:e y=.int k b:=by have:=ho y (by simp [Op.operands,Call.operands]);rw [hy] at this;exact this
 exact⟨.int k (if b>a then b else a),fun o hop=>by simp [execOp,hop,resolve,invoke,Go.builtin,Builtin.max_,Builtin.max2,h1,h2],rfl⟩
theorem POk.min2 {t1 t2:TypeId} {x y:Operand} {k:IntKind} {a b:Int} (hx:ρ x=.c (.int k a)) (hy:ρ y=.c (.int k b)):
 POk P h ρ (.call {callee:=.builtin .min,args:= #[x,y],argTypes:= #[t1,t2]}) (.c (.int k (if b<a then b else a))):=fun S w e _ ho _=>by
 have h1:e x=.int k a:=by have:=ho x (by simp [Op.operands,Call.operands]);rw [hx] at this;exact this
 have h2:e y=.int k b:=by have:=ho y (by simp [Op.operands,Call.operands]);rw [hy] at this;exact this
 exact⟨.int k (if b<a then b else a),fun o hop=>by simp [execOp,hop,resolve,invoke,Go.builtin,Builtin.min_,Builtin.min2,h1,h2],rfl⟩
end Go.AI
