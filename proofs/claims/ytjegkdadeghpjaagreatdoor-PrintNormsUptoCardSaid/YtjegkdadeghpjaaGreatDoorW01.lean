/- Parts of one proof, laid by a program. -/
import Derived.Test.YtjegkdadeghpjaaGreatDoorW00
import Derived.WalkKit
import Derived.Deep.LoopGhost
import Derived.Maps.AppendAt
import Derived.WideLaws
import Derived.Laws.MakeOwn
import Derived.Orders
set_option linter.unusedSimpArgs false
set_option linter.unusedVariables false
set_option maxRecDepth 100000
set_option maxHeartbeats 12800000
namespace Go.AI
inductive CV where
 |any
 |int (k:IntKind) (n:Int)
 |bool (b:Bool)
 |str (s:ByteArray)
 |aN
 |ab
 |eZ (t:TypeId) (x:CV)
 |row (t:Bool) (size n:Nat) (f:Nat→CV)
 |aO (g size off n:Nat)
 |aj (g off:Nat)
 |eR (n:Nat) (f:Nat→CV)
 |raw (v:Value)
inductive AV where
 |c (x:CV)
 |agg (cs:List CV)
 |aF (xs:List AV)
def Has (w:World) (g m:Nat):Prop:=∃cs ty,(∃fr,w.heap[g]?=some (.cells cs ty fr))∧m≤cs.size
def XQ (S:Bool→Nat→Prop) (w:World):CV→Value→Prop
 |.any,_=>True
 |.int k n,v=>v=.int k n
 |.bool b,v=>v=.bool b
 |.str s,v=>v=.string s
 |.aN,v=>v=.nilIface
 |.ab,v=>∃A,v=.slice A 0 0
 |.eZ t x,v=>∃u,v=.iface t u∧XQ S w x u
 |.row t size n f,v=>∃A c,v=.slice A n c∧n≤c∧(0<n*size→∃ad,A=some ad∧S t ad.block∧∀j,j<n*size→∃u,w.cell? (ad.add j)=some u∧XQ S w (f j) u)
 |.aO g size off n,v=>∃c,v=.slice (some ⟨g,off,none⟩) n c∧n≤c∧c≤maxLen∧Has w g (off+c*size)
 |.aj g off,v=>v=.pointer (some ⟨g,off,none⟩)
 |.eR n f,v=>∃ad,v=.pointer (some ad)∧S false ad.block∧∀j,j<n→∃u,w.cell? (ad.add j)=some u∧XQ S w (f j) u
 |.raw u,v=>v=u
def XV (S:Bool→Nat→Prop) (w:World):List CV→List Value→Prop
 |[],[]=>True
 |c::cs,u::us=>XQ S w c u∧XV S w cs us
 |_,_=>False
def Oy (S:Bool→Nat→Prop) (w:World):AV→Value→Prop
 |.c x,v=>XQ S w x v
 |.agg cs,v=>∃us:List Value,v=.agg us.toArray∧XV S w cs us
 |.aF _,_=>False
def ZN (S:Bool→Nat→Prop) (w:World):List AV→List Value→Prop
 |[],[]=>True
 |c::cs,u::us=>Oy S w c u∧ZN S w cs us
 |_,_=>False
def VY (S:Bool→Nat→Prop) (w:World):AV→Value→Prop
 |.aF xs,v=>∃us:List Value,v=.tuple us.toArray∧ZN S w xs us
 |x,v=>Oy S w x v
structure Yn (S:Bool→Nat→Prop) (S':Bool→Nat→Prop) (w w':World):Prop where
 set:∀t b,S t b→S' t b
 block:∀t b,S t b→w'.heap[b]?=w.heap[b]?
 has:∀g m,Has w g m→Has w' g m
theorem Yn.cell {S S':Bool→Nat→Prop} {w w':World} (h:Yn S S' w w') {t:Bool} {p:Addr} (hp:S t p.block):w'.cell? p=w.cell? p:=
 World.cell?_of_block (w:=w) (h.block t p.block hp)
theorem block_add (a:Addr) (n:Nat):(a.add n).block=a.block:=by unfold Addr.add;split<;>rfl
theorem xy (a:Addr) (i j:Nat):(a.add i).add j=a.add (i+j):=by
 unfold Addr.add
 by_cases hi:i=0<;>by_cases hj:j=0<;>simp [hi,hj,Nat.add_assoc]
theorem Zr (g o n:Nat):(⟨g,o,none⟩:Addr).add n=⟨g,o+n,none⟩:=by unfold Addr.add;split<;>simp_all
theorem XQ.aT {S S':Bool→Nat→Prop} {w w':World} (h:Yn S S' w w'):∀{x:CV} {v:Value},XQ S w x v→XQ S' w' x v:=by
 intro x
 induction x with
 |any=>intro v _;trivial
 |int k n=>intro v hr;exact hr
 |bool b=>intro v hr;exact hr
 |str s=>intro v hr;exact hr
 |aN=>intro v hr;exact hr
 |ab=>intro v hr;exact hr
 |eZ t x ih=>intro v hr;obtain⟨u,hu,hx⟩:=hr;exact⟨u,hu,ih hx⟩
 |row t size n f ih=>
  intro v hr
  obtain⟨A,c,hv,hc,hn⟩:=hr
  refine⟨A,c,hv,hc,fun h0=> ?_⟩
  obtain⟨ad,hA,hS,hj⟩:=hn h0
  refine⟨ad,hA,h.set _ _ hS,fun j bp=> ?_⟩
  obtain⟨u,hu,hf⟩:=hj j bp
  exact⟨u,(h.cell (t:=t) (by rw [block_add];exact hS)).trans hu,ih j hf⟩
 |aO g size off n=>intro v hr;obtain⟨c,hv,hc,hm,hh⟩:=hr;exact⟨c,hv,hc,hm,h.has _ _ hh⟩
 |aj g off=>intro v hr;exact hr
 |eR n f ih=>
  intro v hr
  obtain⟨ad,hv,hS,hj⟩:=hr
  refine⟨ad,hv,h.set _ _ hS,fun j bp=> ?_⟩
  obtain⟨u,hu,hf⟩:=hj j bp
  exact⟨u,(h.cell (t:=false) (by rw [block_add];exact hS)).trans hu,ih j hf⟩
 |raw u=>intro v hr;exact hr
theorem XV.aT {S S':Bool→Nat→Prop} {w w':World} (h:Yn S S' w w'):∀{cs:List CV} {us:List Value},XV S w cs us→XV S' w' cs us
 |[],[],_=>trivial
 |_::_,_::_,hr=>⟨XQ.aT h hr.1,XV.aT h hr.2⟩
 |[],_::_,hr=>hr.elim
 |_::_,[],hr=>hr.elim
theorem Oy.aT {S S':Bool→Nat→Prop} {w w':World} (h:Yn S S' w w') {x:AV} {v:Value} (hr:Oy S w x v):Oy S' w' x v:=by
 cases x with
 |c x=>exact XQ.aT h hr
 |agg cs=>obtain⟨us,hv,hu⟩:=hr;exact⟨us,hv,XV.aT h hu⟩
 |aF xs=>exact hr.elim
theorem ZN.aT {S S':Bool→Nat→Prop} {w w':World} (h:Yn S S' w w'):∀{cs:List AV} {us:List Value},ZN S w cs us→ZN S' w' cs us
 |[],[],_=>trivial
 |_::_,_::_,hr=>⟨Oy.aT h hr.1,ZN.aT h hr.2⟩
 |[],_::_,hr=>hr.elim
 |_::_,[],hr=>hr.elim
theorem VY.aT {S S':Bool→Nat→Prop} {w w':World} (h:Yn S S' w w') {x:AV} {v:Value} (hr:VY S w x v):VY S' w' x v:=by
 cases x with
 |c x=>exact Oy.aT h (x:=.c x) hr
 |agg cs=>exact Oy.aT h (x:=.agg cs) hr
 |aF xs=>obtain⟨us,hv,hu⟩:=hr;exact⟨us,hv,ZN.aT h hu⟩
theorem XV.length {S:Bool→Nat→Prop} {w:World}:∀{cs:List CV} {us:List Value},XV S w cs us→us.length=cs.length
 |[],[],_=>rfl
 |_::_,_::_,hr=>by simp [XV.length hr.2]
 |[],_::_,hr=>hr.elim
 |_::_,[],hr=>hr.elim
theorem XV.get {S:Bool→Nat→Prop} {w:World}:∀{cs:List CV} {us:List Value},XV S w cs us→∀(j:Nat) (c:CV),cs[j]?=some c→∃u,us[j]?=some u∧XQ S w c u
 |[],[],_,j,c,hc=>by simp at hc
 |a::_,b::_,hr,0,c,hc=>by simp at hc;subst hc;exact⟨b,rfl,hr.1⟩
 |_::_,_::_,hr,j+1,c,hc=>by simp at hc⊢;exact XV.get hr.2 j c hc
 |[],_::_,hr,_,_,_=>hr.elim
 |_::_,[],hr,_,_,_=>hr.elim
inductive XS where
 |cells (ty:TypeId) (n:Nat) (f:Nat→CV)
 |gen (R:Obj→Prop)
 |sv (R:List Value→Obj→Prop) (xs:List AV)
abbrev Qa:=List (Nat×XS)
def YN (S:Bool→Nat→Prop) (w:World) (g:Nat):XS→Prop
 |.cells ty n f=>∃cs,w.heap[g]?=some (.cells cs ty (0,0))∧n≤cs.size∧∀j,j<n→∃u,cs[j]?=some u∧XQ S w (f j) u
 |.gen R=>∃o,w.heap[g]?=some o∧R o
 |.sv R xs=>∃o us,w.heap[g]?=some o∧ZN S w xs us∧R us o
theorem YN.lt {S:Bool→Nat→Prop} {w:World} {g:Nat} {o:XS} (h:YN S w g o):g<w.heap.size:=by
 cases o with
 |cells ty n f=>obtain⟨cs,hc,_⟩:=h;exact(Array.getElem?_eq_some_iff.1 hc).1
 |gen R=>obtain⟨o,hc,_⟩:=h;exact(Array.getElem?_eq_some_iff.1 hc).1
 |sv R xs=>obtain⟨o,us,hc,_⟩:=h;exact(Array.getElem?_eq_some_iff.1 hc).1
theorem YN.aT {S S':Bool→Nat→Prop} {w w':World} (h:Yn S S' w w') {g:Nat} {o:XS} (hb:w'.heap[g]?=w.heap[g]?) (hr:YN S w g o):YN S' w' g o:=by
 cases o with
 |cells ty n f=>
  obtain⟨cs,hc,hn,hj⟩:=hr
  exact⟨cs,hb.trans hc,hn,fun j bp=>by obtain⟨u,hu,hf⟩:=hj j bp;exact⟨u,hu,XQ.aT h hf⟩⟩
 |gen R=>obtain⟨o,hc,hR⟩:=hr;exact⟨o,hb.trans hc,hR⟩
 |sv R xs=>obtain⟨o,us,hc,hu,hR⟩:=hr;exact⟨o,us,hb.trans hc,ZN.aT h hu,hR⟩
structure Fr (own:Nat→Prop) (w w':World):Prop where
 os:w'.os=w.os
 tape:w'.tape=w.tape
 output:w'.output=w.output
 size:w.heap.size≤w'.heap.size
 drawn:w.drawn≤w'.drawn
 block:∀b,b<w.heap.size→¬own b→w'.heap[b]?=w.heap[b]?
 has:∀g m,Has w g m→Has w' g m
theorem Fr.refl (own:Nat→Prop) (w:World):Fr own w w:=⟨rfl,rfl,rfl,Ac _,Ac _,fun _ _ _=>rfl,fun _ _ h=>h⟩
theorem Fr.trans {own v8:Nat→Prop} {a b c:World} (h:Fr own a b) (k:Fr v8 b c) (hk:∀x,v8 x→x<a.heap.size→own x):Fr own a c:=
 ⟨k.os.trans h.os,k.tape.trans h.tape,k.output.trans h.output,Lt h.size k.size,Lt h.drawn k.drawn,
  fun x hx hn=>(k.block x (Ae hx h.size) (fun ho=>hn (hk x ho hx))).trans (h.block x hx hn),fun g m hh=>k.has g m (h.has g m hh)⟩
theorem Has.lt {w:World} {g m:Nat} (h:Has w g m):g<w.heap.size:=by
 obtain⟨cs,ty,⟨_,hc⟩,_⟩:=h
 exact(Array.getElem?_eq_some_iff.1 hc).1
theorem Fr.alloc (own:Nat→Prop) (w:World) (o:Obj):Fr own w (w.alloc o):=by
 have hb:∀b,b<w.heap.size→(w.alloc o).heap[b]?=w.heap[b]?:=fun b hb=>RowKit.Below.heap_alloc w o b hb
 exact⟨rfl,rfl,rfl,by simp,Ac _,fun b cm _=>hb b cm,fun g m hh=>by
  have hl:=hh.lt
  obtain⟨cs,ty,⟨fr,hc⟩,hs⟩:=hh
  exact⟨cs,ty,⟨fr,(hb g hl).trans hc⟩,hs⟩⟩
theorem Fr.drew (own:Nat→Prop) (w:World) (n:Nat) (hd:w.drawn≤n:=by omega):Fr own w {w with drawn:=n}:=⟨rfl,rfl,rfl,Ac _,hd,fun _ _ _=>rfl,fun _ _ h=>h⟩
theorem Fr.setCell {own:Nat→Prop} (w:World) (p:Addr) (u:Value) (hp:own p.block):Fr own w (w.setCell p u):=by
 refine⟨rfl,rfl,rfl,by simp [World.setCell],Ac _,fun b _ hn=>RowKit.Below.heap_setCell w p u b (fun e=>hn (e▸hp)),fun g m hh=> ?_⟩
 obtain⟨cs,ty,⟨fr,hc⟩,hs⟩:=hh
 by_cases hg:g=p.block
 ·subst hg
  refine⟨if p.spot.isSome then cs else cs.setIfInBounds p.off u,ty,⟨fr,?_⟩,?_⟩
  ·simp [World.setCell,Array.getElem?_modify,hc]
  ·split<;>simp [hs]
 ·exact⟨cs,ty,⟨fr,(RowKit.Below.heap_setCell w p u g hg).trans hc⟩,hs⟩
def E7:List Nat:=
 [1]
def pwZ:List Int:=(List.range 20).map fun i=>((10^i:Nat):Int)
def WC (S:Bool→Nat→Prop) (w:World):Prop:=∀b∈E7,S true b∧∃ty fr,w.heap[b]?=some (.cells (pwZ.map fun z=>Value.int .u64 z).toArray ty fr)
theorem WC.aT {S S':Bool→Nat→Prop} {w w':World} (h:Yn S S' w w') (t:WC S w):WC S' w':=fun b hb=>⟨h.set _ _ (t b hb).1,by rw [h.block _ _ (t b hb).1];exact(t b hb).2⟩
section
abbrev Sl:=List (Nat×AV)
def Sl.get:Sl→Nat→AV
 |[],_=>.c .any
 |(t',x)::σ,t=>if t'=t then x else Sl.get σ t
def Sl.set:Sl→Nat→AV→Sl
 |[],t,v=>[(t,v)]
 |(t',x)::σ,t,v=>if t'=t then(t,v)::σ else(t',x)::Sl.set σ t v
def Sl.az (σ:Sl):Option Nat→AV→Sl
 |some d,v=>σ.set d v
 |none,_=>σ
theorem Sl.bL (σ:Sl) (t:Nat) (v:AV) (t':Nat):(σ.set t v).get t'=if t=t' then v else σ.get t':=by
 induction σ with
 |nil=>simp [Sl.set,Sl.get]
 |cons p σ ih=>
  obtain⟨s,x⟩:=p
  by_cases h:s=t
  ·subst h;simp only [Sl.set,if_true,Sl.get];split<;>rfl
  ·simp only [Sl.set,h,if_false,Sl.get,ih]
   by_cases h1:s=t'
   ·subst h1;simp [h,Ne.symm h]
   ·simp [h1]
def Qa.keys (h:Qa):List Nat:=h.map (·.1)
def Qa.get:Qa→Nat→Option XS
 |[],_=>none
 |(g',x)::h,g=>if g'=g then some x else Qa.get h g
theorem Qa.get_mem {h:Qa} {g:Nat} {o:XS} (e:h.get g=some o):(g,o)∈h:=by
 induction h with
 |nil=>simp [Qa.get] at e
 |cons p h ih=>
  obtain⟨g',x⟩:=p
  unfold Qa.get at e
  split at e
  ·rename_i hg;subst hg;injection e with e;subst e;simp
  ·exact Lm _ (ih e)
def Qa.set:Qa→Nat→XS→Qa
 |[],_,_=>[]
 |(g',x)::h,g,o=>if g'=g then(g',o)::h else(g',x)::Qa.set h g o
theorem Qa.gE (h:Qa) (g:Nat) (o:XS):(h.set g o).keys=h.keys:=by
 induction h with
 |nil=>rfl
 |cons p h ih=>
  obtain⟨g',x⟩:=p
  unfold Qa.set
  split<;>simp_all [Qa.keys]
theorem Qa.mem_set {h:Qa} {g:Nat} {o:XS} {q:Nat×XS} (hn:h.keys.Nodup) (hq:q∈h.set g o):(q=(g,o)∨(q∈h∧q.1≠g)):=by
 induction h with
 |nil=>simp [Qa.set] at hq
 |cons p h ih=>
  obtain⟨g',x⟩:=p
  simp only [Qa.keys,Ld,List.nodup_cons] at hn
  unfold Qa.set at hq
  split at hq
  ·rename_i e
   subst e
   simp only [Lb] at hq
   rcases hq with rfl|hq
   ·exact .inl rfl
   ·refine .inr ⟨Lm _ hq,fun e=>hn.1 ?_⟩
    rw [←e];exact List.mem_map.2 ⟨q,hq,rfl⟩
  ·rename_i e
   simp only [Lb] at hq
   rcases hq with rfl|hq
   ·exact .inr ⟨by simp,e⟩
   ·rcases ih hn.2 hq with h1|⟨h1,h2⟩
    ·exact .inl h1
    ·exact .inr ⟨Lm _ h1,h2⟩
structure ZX where
 w0:World
 S0:Bool→Nat→Prop
 bO:Nat→Prop
 mono:∀b,S0 true b→S0 false b
 apart:∀t b,S0 t b→¬bO b
 lt:∀t b,S0 t b→b<w0.heap.size
def QH (C:ZX) (h:Qa) (w:World) (t:Bool) (b:Nat):Prop:=(C.S0 t b∨C.w0.heap.size≤b)∧b<w.heap.size∧b∉h.keys
structure St (N:Nat) (C:ZX) (σ:Sl) (h:Qa) (a:Act) (w:World):Prop where
 size:a.tmps.size=N
 defers:a.defers=[]
 bC:∀t,VY (QH C h w) w (σ.get t) (a.tmps.getD t undef)
 heap:∀g o,(g,o)∈h→YN (QH C h w) w g o
 nodup:h.keys.Nodup
 keys:∀g∈h.keys,C.bO g∨C.w0.heap.size≤g
 frame:Fr C.bO C.w0 w
theorem St.jZ {N:Nat} {C:ZX} {σ:Sl} {h:Qa} {a:Act} {w:World} (s:St N C σ h a w) {g:Nat} (hg:g∈h.keys):g<w.heap.size:=by
 obtain⟨p,hp,rfl⟩:=List.mem_map.1 hg
 exact(s.heap p.1 p.2 hp).lt
inductive It where
 |code (c:Code)
 |ops (all rest:List Oper)
 |ml (id:Nat)
 |stop (R:Sl→Qa→Prop)
structure Vj where
 P:Program
 N:Nat
 C:ZX
 Q:Exit→Act→World→Prop
def ep (E:Vj):List It→Exit→Act→World→Prop
 |[],e,a,w=>E.Q e a w
 |.code c::K,.normal,a,w=>c.wp E.P (ep E K) a w
 |.ops all rest::K,.normal,a,w=>wpList E.P all.toArray (ep E K) rest a w
 |.ml _::K,.normal,a,w=>ep E K .normal a w
 |.ml id::K,.exit vV,a,w=>if vV=id then ep E K .normal a w else ep E K (.exit vV) a w
 |.stop R::_,.normal,a,w=>∃σ h,R σ h∧St E.N E.C σ h a w
 |_::K,e,a,w=>ep E K e a w
def aw (E:Vj) (K:List It) (σ:Sl) (h:Qa):Prop:=∀a w,St E.N E.C σ h a w→ep E K .normal a w
section
variable {E : Vj} {K : List It} {σ : Sl} {h : Qa}
theorem Sa (c:Code):ep E (.code c::K)=Exit.then (c.wp E.P (ep E K)) (ep E K):=by
 funext e a w;cases e<;>rfl
theorem X5 {x y:Code} (k:aw E (.code x::.code y::K) σ h):aw E (.code (.seq x y)::K) σ h:=fun a w s=>by
 have:=k a w s
 show Code.wp _ _ _ _ _
 refine wp_seq ?_
 rw [←Sa]
 exact this
theorem xz (k:aw E K σ h):aw E (.code .skip::K) σ h:=fun a w s=>wp_skip (k a w s)
theorem QqY (id:Nat):ep E (.ml id::K)=Exit.inBlock id (ep E K):=by
 funext e a w;cases e<;>rfl
theorem Zc {id:Nat} {c:Code} (k:aw E (.code c::.ml id::K) σ h):aw E (.code (.block id c)::K) σ h:=fun a w s=>by
 refine wp_block ?_
 rw [←QqY]
 exact k a w s
theorem QtG {id:Nat} (k:aw E K σ h):aw E (.ml id::K) σ h:=fun a w s=>k a w s
def qy (id:Nat):List It→Option (List It)
 |.ml vV::K=>if id=vV then some K else qy id K
 |_::K=>qy id K
 |[]=>none
theorem WD {id:Nat}:∀{K K':List It},qy id K=some K'→∀a w,ep E K' .normal a w→ep E K (.exit id) a w
 |[],_,h,_,_,_=>by simp [qy] at h
 |.code _::K,_,h,a,w,k=>WD (K:=K) h a w k
 |.ops _ _::K,_,h,a,w,k=>WD (K:=K) h a w k
 |.stop _::K,_,h,a,w,k=>WD (K:=K) h a w k
 |.ml vV::K,K',h,a,w,k=>by
  simp only [qy] at h
  simp only [ep]
  split at h
  ·rename_i e;subst e;injection h with h;subst h;rw [iP rfl];exact k
  ·rename_i e;rw [iN e];exact WD (K:=K) h a w k
theorem QqZ {id:Nat} {K':List It} (hk:qy id K=some K') (k:aw E K' σ h):aw E (.code (.exit id)::K) σ h:=
 fun a w s=>wp_exit (WD hk a w (k a w s))
theorem UV:∀{K:List It} (a:Act) (w:World),E.Q .ret a w→ep E K .ret a w
 |[],_,_,k=>k
 |.code _::K,a,w,k=>UV (K:=K) a w k
 |.ops _ _::K,a,w,k=>UV (K:=K) a w k
 |.stop _::K,a,w,k=>UV (K:=K) a w k
 |.ml _::K,a,w,k=>UV (K:=K) a w k
theorem St.eval {N:Nat} {C:ZX} {a:Act} {w:World} (s:St N C σ h a w) (t:Nat):VY (QH C h w) w (σ.get t) (a.eval (.tmp t)):=s.bC t
theorem QQ {t:Nat} {x y:Code} {b:Bool} (hb:σ.get t=.c (.bool b)) (k1:b=true→aw E (.code x::K) σ h) (k2:b=false→aw E (.code y::K) σ h):
  aw E (.code (.cond (.tmp t) x y)::K) σ h:=fun a w s=>by
 have he:=s.eval t
 rw [hb] at he
 exact wp_cond_split (t:=b) he (fun e=>k1 e a w s) (fun e=>k2 e a w s)
def Sl.le (σ' σ:Sl):Prop:=∀t,σ'.get t=.c .any∨σ'.get t=σ.get t
theorem St.jQ {N:Nat} {C:ZX} {σ':Sl} {h':Qa} {a:Act} {w:World} (s:St N C σ h a w) (h1:σ'.le σ) (h2:h'.Sublist h):St N C σ' h' a w:=by
 have hk:∀b,b∈h'.keys→b∈h.keys:=fun b hb=>by
  obtain⟨p,hp,e⟩:=List.mem_map.1 hb
  exact List.mem_map.2 ⟨p,h2.subset hp,e⟩
 have kp:Yn (QH C h w) (QH C h' w) w w:=⟨fun t b hb=>⟨hb.1,hb.2.1,fun hm=>hb.2.2 (hk b hm)⟩,fun _ _ _=>rfl,fun _ _ e=>e⟩
 refine⟨s.size,s.defers,fun t=> ?_,fun g o hm=>YN.aT kp rfl (s.heap g o (h2.subset hm)),?_,fun g hg=>s.keys g (hk g hg),s.frame⟩
 ·rcases h1 t with e|e
  ·rw [e];trivial
  ·rw [e];exact VY.aT kp (s.bC t)
 ·exact(h2.map _).nodup s.nodup
theorem Xa {σ':Sl} {h':Qa} (h1:σ'.le σ) (h2:h'.Sublist h) (k:aw E K σ' h'):aw E K σ h:=fun a w s=>k a w (s.jQ h1 h2)
theorem Sl.le_refl (σ:Sl):σ.le σ:=fun _=>.inr rfl
theorem Qb {R:Sl→Qa→Prop} (k:R σ h):aw E (.stop R::K) σ h:=fun _ _ s=>⟨σ,h,k,s⟩
theorem Qq0 {c:Code} (I:Nat→Sl→Qa→Prop) (n:Nat) (h0:I n σ h)
  (round:∀m σ' h',I m σ' h'→aw E (.code c::.stop (fun Fe h''=>∃m',m'<m∧I m' Fe h'')::K) σ' h'):aw E (.code (.loop c)::K) σ h:=fun a w s=>by
 refine wp_loop_ghost (fun m a w=>∃σ' h',I m σ' h'∧St E.N E.C σ' h' a w) n ⟨σ,h,h0,s⟩ ?_
 rintro m a' w' ⟨σ',h',hI,s'⟩
 refine wp_mono (round m σ' h' hI a' w' s') ?_
 intro e a2 w2 hq
 cases e with
 |normal=>
  obtain⟨jR,h2,⟨m',hm,DK⟩,s2⟩:=hq
  exact⟨m',hm,jR,h2,DK,s2⟩
 |exit id=>exact hq
 |goto l=>exact hq
 |ret=>exact hq
 |panic c=>exact hq
 |outgrown=>exact hq
def Sl.sub:Sl→Sl→Prop
 |[],_=>True
 |(t,x)::σ0,σ=>σ.get t=x∧Sl.sub σ0 σ
theorem Sl.sub_le:∀{σ0 σ:Sl},Sl.sub σ0 σ→σ0.le σ
 |[],_,_=>fun _=>.inl rfl
 |(t,x)::σ0,σ,hs=>fun t'=>by
  simp only [Sl.get]
  by_cases e:t=t'
  ·subst e;rw [iP rfl];exact .inr hs.1.symm
  ·rw [iN e];exact Sl.sub_le hs.2 t'
theorem Qh {α:Type} {c:Code} (S:α→Sl) (H:α→Qa) (F:α→Prop) (m:α→Nat) (x0:α) (hs:Sl.sub (S x0) σ) (hh:(H x0).Sublist h) (hf:F x0)
  (round:∀x,F x→aw E (.code c::.stop (fun σ' h'=>∃x',m x'<m x∧Sl.sub (S x') σ'∧(H x').Sublist h'∧F x')::K) (S x) (H x)):aw E (.code (.loop c)::K) σ h:=by
 refine Qq0 (fun n σ' h'=>∃x,m x=n∧Sl.sub (S x) σ'∧(H x).Sublist h'∧F x) (m x0) ⟨x0,rfl,hs,hh,hf⟩ ?_
 rintro n σ' h' ⟨x,rfl,h1,h2,h3⟩
 refine Xa (Sl.sub_le h1) h2 ?_
 intro a w s
 have:=round x h3 a w s
 refine wp_mono this ?_
 intro e a' w' hq
 cases e with
 |normal=>
  obtain⟨jR,rN,⟨x',aD,r1,r2,r3⟩,s2⟩:=hq
  exact⟨jR,rN,⟨m x',aD,x',rfl,r1,r2,r3⟩,s2⟩
 |exit id=>exact hq
 |goto l=>exact hq
 |ret=>exact hq
 |panic c=>exact hq
 |outgrown=>exact hq
theorem YW {id:Nat} {l:List Oper} (k:aw E (.ops l l::K) σ h):aw E (.code (.region id l.toArray false)::K) σ h:=
 fun a w s=>wp_region_lit (k a w s)
theorem XP {l:List Oper} (k:aw E K σ h):aw E (.ops l []::K) σ h:=fun a w s=>wpList_nil (k a w s)
end
end
section
def Oz:Value→CV
 |.int k n=>.int k n
 |.bool b=>.bool b
 |.string s=>.str s
 |.nilIface=>.aN
 |.slice none 0 0=>.ab
 |v=>.raw v
def qU:Value→AV
 |.agg cs=>.agg (cs.toList.map Oz)
 |v=>.c (Oz v)
theorem WE (S:Bool→Nat→Prop) (w:World) (v:Value):XQ S w (Oz v) v:=by
 unfold Oz
 split<;>simp [XQ]
theorem WF (S:Bool→Nat→Prop) (w:World):∀l:List Value,XV S w (l.map Oz) l
 |[]=>trivial
 |v::l=>⟨WE S w v,WF S w l⟩
theorem Qq1 (S:Bool→Nat→Prop) (w:World) (v:Value):VY S w (qU v) v:=by
 unfold qU
 split
 ·rename_i cs;exact⟨cs.toList,by simp,WF S w _⟩
 ·exact WE S w v
def ev (σ:Sl):Operand→AV
 |.tmp t=>σ.get t
 |.const v=>qU v
 |.global g=>.c (.raw (.pointer (some ⟨g,0,none⟩)))
 |.func f=>.c (.raw (.func (.func f) #[] #[]))
def QP (P:Program) (t:TypeId):Option (TypeId×Nat×Nat):=
 match P.underlying t with
 |some (.slice e)=>(P.info? e).map fun i=>(e,i.size,i.bytes)
 |_=>none
def XC (P:Program) (t:TypeId):Option (Bool×Nat):=
 match P.underlying t,P.info? t with
 |some (.struct _),some i=>some (true,i.size)
 |some (.array _ _),some i=>some (true,i.size)
 |some _,some i=>some (false,i.size)
 |_,_=>none
def Qo (P:Program) (t i:Nat):Option Nat:=
 match P.underlying t with
 |some (.struct fs)=>match fs[i]? with
  |some f=>match P.info? f.type with
   |some j=>if j.size=0 then none else some f.offset
   |none=>none
  |none=>none
 |_=>none
def ZC (P:Program) (t:TypeId):Option IntKind:=
 match P.underlying t with
 |some (.int k)=>some k
 |_=>none
def o8 (P:Program) (t:TypeId):Bool:=
 match P.underlying t with
 |some .bool=>true
 |_=>false
def OQ (P:Program) (t:TypeId):Bool:=
 match P.underlying t with
 |some (.interface _)=>true
 |_=>false
def Qk (P:Program) (t:TypeId):Option (List CV):=((P.info? t).bind (·.zero)).map fun z=>z.cells.toList.map Oz
theorem Q6 {P:Program} {t e size bytes:Nat} (h:QP P t=some (e,size,bytes)):P.underlying t=some (.slice e)∧∃i,P.info? e=some i∧i.size=size∧i.bytes=bytes:=by
 unfold QP at h
 split at h
 ·rename_i e' he
  cases hi:P.info? e' with
  |none=>simp [hi] at h
  |some i=>simp [hi] at h;obtain⟨rfl,rfl,rfl⟩:=h;exact⟨he,i,hi,rfl,rfl⟩
 ·cases h
theorem V6 {P:Program} {t:Nat} {k:IntKind} (h:ZC P t=some k):P.underlying t=some (.int k):=by
 unfold ZC at h
 split at h
 ·rename_i k' hk;injection h with h;subst h;exact hk
 ·cases h
theorem Fx {P:Program} {t:Nat} (h:o8 P t=true):P.underlying t=some .bool:=by
 unfold o8 at h
 split at h
 ·assumption
 ·cases h
theorem Qmk {P:Program} {t:Nat} (h:OQ P t=true):∃ms,P.underlying t=some (.interface ms):=by
 unfold OQ at h
 split at h
 ·rename_i ms e;exact⟨ms,e⟩
 ·cases h
theorem LK {P:Program} {t n:Nat} {ag:Bool} (h:XC P t=some (ag,n)) (w:World):(isAgg t).run P w=.ok ag w∧(sizeOf t).run P w=.ok n w:=by
 unfold XC at h
 split at h<;>first|(cases h;done)|skip
 all_goals
  rename_i h1 h2
  simp only [Aa,Ab] at h
  obtain⟨rfl,rfl⟩:=h
  constructor
  ·simp [isAgg,run_underlying h1]
  ·simp [sizeOf,typeInfo,h2]
def QB (P:Program) (h:Qa) (ρ:Operand→AV) (op:Op) (r:AV):Prop:=
 ∀(S:Bool→Nat→Prop) (w:World) (e:Operand→Value),(∀b,S true b→S false b)→(∀x∈op.operands,VY S w (ρ x) (e x))→(∀g o,(g,o)∈h→YN S w g o)→
  ∃v,(∀o:Oper,o.op=op→(execOp e o).run P w=.ok (.value v) w)∧VY S w r v
variable {P : Program} {h : Qa} {ρ : Operand → AV}
theorem QB.move (x:Operand):QB P h ρ (.move x) (ρ x):=fun S w e _ hx _=>
 ⟨e x,fun o ho=>by simp [execOp,ho],hx x Ag⟩
theorem QB.assign (x:Operand):QB P h ρ (.assign x) (ρ x):=fun S w e _ hx _=>
 ⟨e x,fun o ho=>by simp [execOp,ho],hx x Ag⟩
def OR (t:Bool):AV→AV→AV
 |.c (.bool p),.c (.bool q)=>.c (.bool (bif t then p else q))
 |x,y=>match t with|true=>x|false=>y
theorem A2 (t:Bool) (x y:AV):OR t x y=bif t then x else y:=by
 unfold OR
 split<;>cases t<;>rfl
theorem QB.pick {c a b:Operand} {t:Bool} (hc:ρ c=.c (.bool t)):QB P h ρ (.pick c a b) (OR t (ρ a) (ρ b)):=fun S w e _ hx _=>by
 have h1:e c=.bool t:=by have:=hx c Ag;rw [hc] at this;exact this
 have h2:=hx a Ag
 have h3:=hx b Ag
 refine⟨if t then e a else e b,fun o ho=>by simp [execOp,ho,h1,asBool],?_⟩
 rw [A2]
 cases t
 ·exact h3
 ·exact h2
theorem LM:∃f:IntKind→Int→Int→Int,∀k a b,f k a b=k.wrap (BitVec.ofInt k.bits a&&&BitVec.ofInt k.bits b).toNat:=⟨fun k a b=>k.wrap (BitVec.ofInt k.bits a&&&BitVec.ofInt k.bits b).toNat,fun _ _ _=>rfl⟩
noncomputable def uD:IntKind→Int→Int→Int:=Classical.choose LM
theorem B7 (k:IntKind) (a b:Int):uD k a b=k.wrap (BitVec.ofInt k.bits a&&&BitVec.ofInt k.bits b).toNat:=Classical.choose_spec LM k a b
theorem M8:∃f:IntKind→Int→Int→Int,∀k a b,f k a b=k.wrap (BitVec.ofInt k.bits a|||BitVec.ofInt k.bits b).toNat:=⟨fun k a b=>k.wrap (BitVec.ofInt k.bits a|||BitVec.ofInt k.bits b).toNat,fun _ _ _=>rfl⟩
noncomputable def oY:IntKind→Int→Int→Int:=Classical.choose M8
theorem CA (k:IntKind) (a b:Int):oY k a b=k.wrap (BitVec.ofInt k.bits a|||BitVec.ofInt k.bits b).toNat:=Classical.choose_spec M8 k a b
theorem LN:∃f:IntKind→Int→Int→Int,∀k a b,f k a b=k.wrap (BitVec.ofInt k.bits a^^^BitVec.ofInt k.bits b).toNat:=⟨fun k a b=>k.wrap (BitVec.ofInt k.bits a^^^BitVec.ofInt k.bits b).toNat,fun _ _ _=>rfl⟩
noncomputable def NY:IntKind→Int→Int→Int:=Classical.choose LN
theorem Qq2 (k:IntKind) (a b:Int):NY k a b=k.wrap (BitVec.ofInt k.bits a^^^BitVec.ofInt k.bits b).toNat:=Classical.choose_spec LN k a b
theorem Fy:∃f:IntKind→Int→Int→Int,∀k a b,f k a b=k.wrap (BitVec.ofInt k.bits a&&& ~~~BitVec.ofInt k.bits b).toNat:=⟨fun k a b=>k.wrap (BitVec.ofInt k.bits a&&& ~~~BitVec.ofInt k.bits b).toNat,fun _ _ _=>rfl⟩
noncomputable def LO:IntKind→Int→Int→Int:=Classical.choose Fy
theorem Tx (k:IntKind) (a b:Int):LO k a b=k.wrap (BitVec.ofInt k.bits a&&& ~~~BitVec.ofInt k.bits b).toNat:=Classical.choose_spec Fy k a b
theorem LP:∃f:IntKind→Int→Int→Int,∀k a b,f k a b=k.wrap (a.tdiv b):=⟨fun k a b=>k.wrap (a.tdiv b),fun _ _ _=>rfl⟩
noncomputable def qO:IntKind→Int→Int→Int:=Classical.choose LP
theorem xE (k:IntKind) (a b:Int):qO k a b=k.wrap (a.tdiv b):=Classical.choose_spec LP k a b
theorem LQ:∃f:Int→Int→Int,∀a b,f a b=a.tmod b:=⟨fun a b=>a.tmod b,fun _ _=>rfl⟩
noncomputable def yY:Int→Int→Int:=Classical.choose LQ
theorem LR (a b:Int):yY a b=a.tmod b:=Classical.choose_spec LQ a b
theorem LS:∃f:IntKind→Int→Int→Int,∀k a b,f k a b=k.wrap (a*2^(min b.toNat k.bits)):=⟨fun k a b=>k.wrap (a*2^(min b.toNat k.bits)),fun _ _ _=>rfl⟩
noncomputable def sU:IntKind→Int→Int→Int:=Classical.choose LS
theorem xJ (k:IntKind) (a b:Int):sU k a b=k.wrap (a*2^(min b.toNat k.bits)):=Classical.choose_spec LS k a b
theorem IY:∃f:IntKind→Int→Int→Int,∀k a b,f k a b=a.fdiv (2^(min b.toNat k.bits)):=⟨fun k a b=>a.fdiv (2^(min b.toNat k.bits)),fun _ _ _=>rfl⟩
noncomputable def ly:IntKind→Int→Int→Int:=Classical.choose IY
theorem JA (k:IntKind) (a b:Int):ly k a b=a.fdiv (2^(min b.toNat k.bits)):=Classical.choose_spec IY k a b
theorem Hh:∃f:IntKind→Int→Int,∀k a,f k a=k.wrap a:=⟨fun k a=>k.wrap a,fun _ _=>rfl⟩
noncomputable def Xz:IntKind→Int→Int:=Classical.choose Hh
theorem QM (k:IntKind) (a:Int):Xz k a=k.wrap a:=Classical.choose_spec Hh k a
noncomputable def bX (op:BinOp) (k:IntKind) (a b:Int):Option (Prop×CV):=
 match op with
 |.add=>some (True,.int k (Xz k (a+b)))
 |.sub=>some (True,.int k (Xz k (a-b)))
 |.mul=>some (True,.int k (Xz k (a*b)))
 |.eql=>some (True,.bool (a==b))
 |.neq=>some (True,.bool (a !=b))
 |.lss=>some (True,.bool (decide (a<b)))
 |.leq=>some (True,.bool (decide (a≤b)))
 |.gtr=>some (True,.bool (decide (a>b)))
 |.geq=>some (True,.bool (decide (a≥b)))
 |.and=>some (True,.int k (uD k a b))
 |.or=>some (True,.int k (oY k a b))
 |.xor=>some (True,.int k (NY k a b))
 |.andNot=>some (True,.int k (LO k a b))
 |.quo=>some (b≠0,.int k (qO k a b))
 |.rem=>some (b≠0,.int k (yY a b))
 |_=>none
noncomputable def dY (op:BinOp) (k:IntKind) (a b:Int):Option (Prop×CV):=
 match op with
 |.shl=>some (0≤b,.int k (sU k a b))
 |.shr=>some (0≤b,.int k (ly k a b))
 |_=>none
theorem Wk (op:BinOp) (t:TypeId) (x y:Operand) (k k':IntKind) (a b:Int) (w:World):(eqGuard op t x y (.int k a) (.int k' b)).run P w=.ok () w:=by
 unfold eqGuard
 cases op<;>simp
theorem Ue (op:BinOp) (t:TypeId) (x y:Operand) (a b:Bool) (w:World):(eqGuard op t x y (.bool a) (.bool b)).run P w=.ok () w:=by
 unfold eqGuard
 cases op<;>simp
theorem QB.bX {op:BinOp} {t t':TypeId} {x y:Operand} {k:IntKind} {a b:Int} {req:Prop} {r:CV} (hx:ρ x=.c (.int k a)) (hy:ρ y=.c (.int k b))
  (hr:AI.bX op k a b=some (req,r)) (aP:req):QB P h ρ (.binOp op t x y t') (.c r):=fun S w e _ ho _=>by
 have h1:e x=.int k a:=by have:=ho x Ag;rw [hx] at this;exact this
 have h2:e y=.int k b:=by have:=ho y Ag;rw [hy] at this;exact this
 have h3:∃v,(binOp op t (.int k a) (.int k b)).run P w=.ok v w∧XQ S w r v:=by
  cases op<;>simp only [AI.bX,Aa,Ab,reduceCtorEq] at hr
  all_goals
   obtain⟨rfl,rfl⟩:=hr
   simp [binOp,Op.intArith,Op.intCmp,Op.intBits,Op.intDiv,XQ,B7,CA,Qq2,Tx,xE,LR,QM] at aP⊢
  all_goals (intro hb;exact absurd hb aP)
 obtain⟨v,hv,cR⟩:=h3
 exact⟨v,fun o au=>by simp [execOp,au,h1,h2,Wk,hv],cR⟩
theorem QB.dY {op:BinOp} {t t':TypeId} {x y:Operand} {k k':IntKind} {a b:Int} {req:Prop} {r:CV} (hx:ρ x=.c (.int k a)) (hy:ρ y=.c (.int k' b))
  (hr:AI.dY op k a b=some (req,r)) (aP:req):QB P h ρ (.binOp op t x y t') (.c r):=fun S w e _ ho _=>by
 have h1:e x=.int k a:=by have:=ho x Ag;rw [hx] at this;exact this
 have h2:e y=.int k' b:=by have:=ho y Ag;rw [hy] at this;exact this
 have h3:∃v,(binOp op t (.int k a) (.int k' b)).run P w=.ok v w∧XQ S w r v:=by
  cases op<;>simp only [AI.dY,Aa,Ab,reduceCtorEq] at hr
  all_goals
   obtain⟨rfl,rfl⟩:=hr
   have hn:¬b<0:=by omega
   simp [binOp,Op.shift,XQ,hn,xJ,JA]
 obtain⟨v,hv,cR⟩:=h3
 exact⟨v,fun o au=>by simp [execOp,au,h1,h2,Wk,hv],cR⟩
theorem YD {o:Oper} {op:BinOp} {t t':TypeId} {x y:Operand} {e:Operand→Value} {w:World} {v:Value} (ho:o.op=.binOp op t x y t')
  (hg:(eqGuard op t x y (e x) (e y)).run P w=.ok () w) (hb:(Go.binOp op t (e x) (e y)).run P w=.ok v w):(execOp e o).run P w=.ok (.value v) w:=by
 simp [execOp,ho,hg,hb]
theorem Uf (d:Nat) {t:TypeId} (ht:P.underlying t=some .bool) (a b:Bool) (w:World):(Op.equalIn (d+1) t (.bool a) (.bool b)).run P w=.ok (a==b) w:=by
 simp [Op.equalIn,run_underlying ht]
theorem Sp {t:TypeId} (ht:P.underlying t=some .bool) (a b:Bool) (w:World):(Go.binOp .eql t (.bool a) (.bool b)).run P w=.ok (.bool (a==b)) w:=by
 simp only [Go.binOp]
 simp [Op.equal,Op.maxDepth,Uf 9999 ht]
theorem Sq {t:TypeId} (ht:P.underlying t=some .bool) (a b:Bool) (w:World):(Go.binOp .neq t (.bool a) (.bool b)).run P w=.ok (.bool (a !=b)) w:=by
 simp only [Go.binOp]
 simp [Op.equal,Op.maxDepth,Uf 9999 ht,bne]
theorem QB.qW {t t':TypeId} {x y:Operand} {a b:Bool} (ht:o8 P t=true) (hx:ρ x=.c (.bool a)) (hy:ρ y=.c (.bool b)):QB P h ρ (.binOp .eql t x y t') (.c (.bool (a==b))):=fun S w e _ ho _=>by
 have h1:e x=.bool a:=by have:=ho x Ag;rw [hx] at this;exact this
 have h2:e y=.bool b:=by have:=ho y Ag;rw [hy] at this;exact this
 exact⟨.bool (a==b),fun o au=>YD au (by rw [h1,h2];exact Ue ..) (by rw [h1,h2];exact Sp (Fx ht) a b w),rfl⟩
theorem QB.oW {t t':TypeId} {x y:Operand} {a b:Bool} (ht:o8 P t=true) (hx:ρ x=.c (.bool a)) (hy:ρ y=.c (.bool b)):QB P h ρ (.binOp .neq t x y t') (.c (.bool (a !=b))):=fun S w e _ ho _=>by
 have h1:e x=.bool a:=by have:=ho x Ag;rw [hx] at this;exact this
 have h2:e y=.bool b:=by have:=ho y Ag;rw [hy] at this;exact this
 exact⟨.bool (a !=b),fun o au=>YD au (by rw [h1,h2];exact Ue ..) (by rw [h1,h2];exact Sq (Fx ht) a b w),rfl⟩
def eb:CV→Option Bool
 |.aN=>some true
 |.eZ _ _=>some false
 |_=>none
theorem Wl (d:Nat) {t:TypeId} {ms:Array (String×TypeId)} (ht:P.underlying t=some (.interface ms)) (w:World):(Op.equalIn (d+1) t .nilIface .nilIface).run P w=.ok true w:=by
 simp [Op.equalIn,run_underlying ht]
theorem Wm (d:Nat) {t:TypeId} {ms:Array (String×TypeId)} (ht:P.underlying t=some (.interface ms)) (u:TypeId) (x:Value) (w:World):(Op.equalIn (d+1) t (.iface u x) .nilIface).run P w=.ok false w:=by
 simp [Op.equalIn,run_underlying ht]
theorem Ga {t:TypeId} (ht:OQ P t=true) {S:Bool→Nat→Prop} {w:World} {c:CV} {b:Bool} {v:Value} (hn:eb c=some b) (hr:XQ S w c v):
  (Go.binOp .eql t v .nilIface).run P w=.ok (.bool b) w∧(Go.binOp .neq t v .nilIface).run P w=.ok (.bool !b) w∧
  ∀(op:BinOp) (x:Operand),(eqGuard op t x (.const .nilIface) v .nilIface).run P w=.ok () w:=by
 obtain⟨ms,hm⟩:=Qmk ht
 cases c<;>simp only [eb,Aa,reduceCtorEq] at hn
 ·subst hn
  subst hr
  refine⟨?_,?_,fun op x=> ?_⟩
  ·simp only [Go.binOp];simp [Op.equal,Op.maxDepth,Wl 9999 hm]
  ·simp only [Go.binOp];simp [Op.equal,Op.maxDepth,Wl 9999 hm]
  ·unfold eqGuard;cases op<;>simp
 ·subst hn
  obtain⟨u,rfl,_⟩:=hr
  refine⟨?_,?_,fun op x=> ?_⟩
  ·simp only [Go.binOp];simp [Op.equal,Op.maxDepth,Wm 9999 hm]
  ·simp only [Go.binOp];simp [Op.equal,Op.maxDepth,Wm 9999 hm]
  ·unfold eqGuard;cases op<;>simp
theorem QB.uL {t t':TypeId} {x:Operand} {c:CV} {b:Bool} (ht:OQ P t=true) (hx:ρ x=.c c) (hn:eb c=some b) (hk:ρ (.const .nilIface)=.c .aN):QB P h ρ (.binOp .eql t x (.const .nilIface) t') (.c (.bool b)):=fun S w e _ ho _=>by
 have h1:=ho x Ag
 have h2:=ho (.const .nilIface) Ag
 rw [hx] at h1
 rw [hk] at h2
 obtain⟨e1,_,e3⟩:=Ga ht hn h1
 have h3:e (.const .nilIface)=.nilIface:=h2
 exact⟨.bool b,fun o au=>YD au (by rw [h3];exact e3 _ _) (by rw [h3];exact e1),rfl⟩
theorem QB.sj {t t':TypeId} {x:Operand} {c:CV} {b:Bool} (ht:OQ P t=true) (hx:ρ x=.c c) (hn:eb c=some b) (hk:ρ (.const .nilIface)=.c .aN):QB P h ρ (.binOp .neq t x (.const .nilIface) t') (.c (.bool !b)):=fun S w e _ ho _=>by
 have h1:=ho x Ag
 have h2:=ho (.const .nilIface) Ag
 rw [hx] at h1
 rw [hk] at h2
 obtain⟨_,e2,e3⟩:=Ga ht hn h1
 have h3:e (.const .nilIface)=.nilIface:=h2
 exact⟨.bool !b,fun o au=>YD au (by rw [h3];exact e3 _ _) (by rw [h3];exact e2),rfl⟩
theorem QB.not {t:TypeId} {x:Operand} {b:Bool} (hx:ρ x=.c (.bool b)):QB P h ρ (.unOp .not t x) (.c (.bool !b)):=fun S w e _ ho _=>by
 have h1:e x=.bool b:=by have:=ho x Ag;rw [hx] at this;exact this
 exact⟨.bool !b,fun o au=>by simp [execOp,au,h1,Op.unary],rfl⟩
theorem QB.neg {t:TypeId} {x:Operand} {k:IntKind} {n:Int} (hx:ρ x=.c (.int k n)):QB P h ρ (.unOp .neg t x) (.c (.int k (Xz k (0-n)))):=fun S w e _ ho _=>by
 have h1:e x=.int k n:=by have:=ho x Ag;rw [hx] at this;exact this
 exact⟨.int k (Xz k (0-n)),fun o au=>by simp [execOp,au,h1,Op.unary,Op.intArith,QM],rfl⟩
theorem QB.convert {s d:TypeId} {x:Operand} {k k' k0:IntKind} {n:Int} (hs:ZC P s=some k0) (hd:ZC P d=some k') (hx:ρ x=.c (.int k n)):QB P h ρ (.convert s d x) (.c (.int k' (Xz k' n))):=fun S w e _ ho _=>by
 have h1:e x=.int k n:=by have:=ho x Ag;rw [hx] at this;exact this
 refine⟨.int k' (Xz k' n),fun o au=> ?_,rfl⟩
 simp [execOp,au,h1,QM,Go.convert,run_underlying (V6 hs),run_underlying (V6 hd),Conv.intToInt]
theorem QB.extract {x:Operand} {xs:List AV} {i:Nat} {y:AV} (hx:ρ x=.aF xs) (hi:xs[i]?=some y):QB P h ρ (.extract x i) y:=fun S w e _ ho _=>by
 have h1:=ho x Ag
 rw [hx] at h1
 obtain⟨us,hu,hr⟩:=h1
 have key:∀(xs:List AV) (us:List Value) (i:Nat),ZN S w xs us→xs[i]?=some y→∃v,us[i]?=some v∧Oy S w y v:=by
  intro xs
  induction xs with
  |nil=>intro us i _ hi;simp at hi
  |cons x xs ih=>
   intro us i hr hi
   cases us with
   |nil=>exact hr.elim
   |cons u us=>
    cases i with
    |zero=>simp at hi;subst hi;exact⟨u,rfl,hr.1⟩
    |succ i=>simp at hi⊢;exact ih us i hr.2 hi
 obtain⟨v,hv,cR⟩:=key xs us i hr hi
 refine⟨v,fun o au=> ?_,?_⟩
 ·simp [execOp,au,hu,Instr.extract,hv]
 ·cases y with
  |c y=>exact cR
  |agg cs=>exact cR
  |aF xs=>exact cR.elim
theorem QB.makeInterface {t:TypeId} {k:IntKind} {x:Operand} {c:CV} (ht:ZC P t=some k) (hx:ρ x=.c c):QB P h ρ (.makeInterface t x) (.c (.eZ t c)):=fun S w e _ ho _=>by
 have h1:=ho x Ag
 rw [hx] at h1
 exact⟨.iface t (e x),fun o au=>by simp [execOp,au,Instr.makeInterface,run_underlying (V6 ht)],e x,rfl,h1⟩
end
section
variable {P : Program} {h : Qa} {ρ : Operand → AV}
def Yy (f:Nat→CV) (off k:Nat):Nat→List CV
 |0=>[]
 |n+1=>f (off+k)::Yy f off (k+1) n
theorem Su (f:Nat→CV) (off n:Nat):∀k,(Yy f off k n).length=n:=by
 induction n with
 |zero=>intro k;rfl
 |succ n ih=>intro k;simp [Yy,ih]
theorem JB {S:Bool→Nat→Prop} {w:World} {ad:Addr} {f:Nat→CV} {off:Nat}:∀(n i:Nat) (acc:Array Value),(∀j,i≤j→j<i+n→∃u,w.cell? (ad.add j)=some u∧XQ S w (f (off+j)) u)→
  ∃us,(loadCellsFrom ad i n acc).run P w=.ok (acc++us.toArray) w∧XV S w (Yy f off i n) us:=by
 intro n
 induction n with
 |zero=>intro i acc _;exact⟨[],by simp [loadCellsFrom],trivial⟩
 |succ n ih=>
  intro i acc hc
  obtain⟨u,hu,hr⟩:=hc i (Ac _) om
  obtain⟨us,gW,dy⟩:=ih (i+1) (acc.push u) (fun j h1 h2=>hc j om om)
  refine⟨u::us,?_,hr,dy⟩
  simp only [loadCellsFrom,Sem.run_bind,run_load,hu,Result.andThen_ok,gW]
  simp
theorem WG {S:Bool→Nat→Prop} {w:World} {ad:Addr} {f:Nat→CV} {off t n:Nat} {ag:Bool} (ht:XC P t=some (ag,n)) (h1:ag=false→n=1)
  (hc:∀j,j<n→∃u,w.cell? (ad.add j)=some u∧XQ S w (f (off+j)) u):
  ∃v,(loadVar t ad).run P w=.ok v w∧VY S w (if ag then .agg (Yy f off 0 n) else .c (f off)) v:=by
 obtain⟨ha,hs⟩:=LK ht w
 cases ag with
 |false=>
  have hn:=h1 rfl
  subst hn
  obtain⟨u,hu,hr⟩:=hc 0 om
  have e0:ad.add 0=ad:=rfl
  rw [e0] at hu
  refine⟨u,?_,hr⟩
  simp [loadVar,ha,run_load,hu]
 |true=>
  obtain⟨us,gW,dy⟩:=JB (P:=P) (off:=off) n 0 #[] (fun j _ hj=>hc j om)
  refine⟨.agg us.toArray,?_,us,rfl,dy⟩
  simp [loadVar,ha,hs,loadCells,gW]
theorem QB.qj {t:TypeId} {a:Operand} {n m:Nat} {ag:Bool} {f:Nat→CV} (ht:XC P t=some (ag,n)) (h1:ag=false→n=1) (ha:ρ a=.c (.eR m f)) (hm:n≤m):
  QB P h ρ (.load t a) (if ag then .agg (Yy f 0 0 n) else .c (f 0)):=fun S w e _ ho _=>by
 have h2:=ho a Ag
 rw [ha] at h2
 obtain⟨ad,hv,_,hj⟩:=h2
 obtain⟨v,aR,hr⟩:=WG (P:=P) (off:=0) ht h1 (fun j ba=>by simpa using hj j om)
 exact⟨v,fun o au=>by simp [execOp,au,hv,Instr.loadAt,Instr.sureAddr,aR],hr⟩
theorem YX {w:World} {g off:Nat} {cs:Array Value} {ty:TypeId} {fz:Nat×Nat} (hb:w.heap[g]?=some (.cells cs ty fz)):w.cell? ⟨g,off,none⟩=cs[off]?:=by
 simp [World.cell?,hb]
theorem QB.qi {t:TypeId} {a:Operand} {n m g off:Nat} {ag:Bool} {ty:TypeId} {f:Nat→CV} (ht:XC P t=some (ag,n)) (h1:ag=false→n=1) (ha:ρ a=.c (.aj g off))
  (hg:h.get g=some (.cells ty m f)) (hm:off+n≤m):QB P h ρ (.load t a) (if ag then .agg (Yy f off 0 n) else .c (f off)):=fun S w e _ ho hh=>by
 have h2:=ho a Ag
 rw [ha] at h2
 have hv:e a=.pointer (some ⟨g,off,none⟩):=h2
 obtain⟨cs,hb,hn,hj⟩:=hh g _ (Qa.get_mem hg)
 obtain⟨v,aR,hr⟩:=WG (P:=P) (ad:=⟨g,off,none⟩) (off:=off) ht h1 (fun j ba=>by
  obtain⟨u,hu,hr⟩:=hj (off+j) om
  exact⟨u,by rw [Zr,YX hb];exact hu,hr⟩)
 exact⟨v,fun o au=>by simp [execOp,au,hv,Instr.loadAt,Instr.sureAddr,aR],hr⟩
theorem Gb {t i off:Nat} (ht:Qo P t i=some off) (ad:Addr) (w:World):(Instr.fieldAt t (.pointer (some ad)) i).run P w=.ok (.pointer (some (ad.add off))) w:=by
 unfold Qo at ht
 split at ht
 ·rename_i fs hu
  split at ht
  ·rename_i f hf
   split at ht
   ·rename_i j hj
    split at ht
    ·cases ht
    ·rename_i hz
     injection ht with ht
     subst ht
     simp [Instr.fieldAt,run_underlying hu,hf,Instr.sureAddr,fieldPlace,sizeOf,typeInfo,hj,hz]
   ·cases ht
  ·cases ht
 ·cases ht
theorem QB.qX {t i off g o:Nat} {x:Operand} (ht:Qo P t i=some off) (hx:ρ x=.c (.aj g o)):QB P h ρ (.fieldAddr t x i) (.c (.aj g (o+off))):=fun S w e _ ho _=>by
 have h2:=ho x Ag
 rw [hx] at h2
 have hv:e x=.pointer (some ⟨g,o,none⟩):=h2
 exact⟨_,fun o au=>by simp only [execOp,au,hv,Sem.run_bind,Gb ht,Result.andThen_ok,Zr];rfl,rfl⟩
theorem QB.qY {t i off n:Nat} {x:Operand} {f:Nat→CV} (ht:Qo P t i=some off) (hx:ρ x=.c (.eR n f)) (hn:off≤n):QB P h ρ (.fieldAddr t x i) (.c (.eR (n-off) fun j=>f (off+j))):=fun S w e _ ho _=>by
 have h2:=ho x Ag
 rw [hx] at h2
 obtain⟨ad,hv,hS,hj⟩:=h2
 refine⟨_,fun o au=>by simp only [execOp,au,hv,Sem.run_bind,Gb ht,Result.andThen_ok];rfl,ad.add off,rfl,by rw [block_add];exact hS,fun j ba=> ?_⟩
 rw [xy]
 exact hj (off+j) om
theorem Fp {t el size bytes:Nat} (ht:QP P t=some (el,size,bytes)) (ad:Addr) (len cap:Nat) (k:IntKind) (i:Int) (h0:0≤i) (hl:i<len) (w:World):
  (Instr.indexAt t (.slice (some ad) len cap) (.int k i)).run P w=.ok (.pointer (some (ad.add (i.toNat*size)))) w:=by
 obtain⟨hu,inf,hi,bF,_⟩:=Q6 ht
 simp [Instr.indexAt,asIntOf,run_underlying hu,h0,hl,sizeOf,typeInfo,hi,bF]
theorem QB.sg {t el size bytes g off n:Nat} {x ix:Operand} {k:IntKind} {i:Int} (ht:QP P t=some (el,size,bytes)) (hx:ρ x=.c (.aO g size off n)) (ki:ρ ix=.c (.int k i)) (h0:0≤i) (hl:i<n):
  QB P h ρ (.indexAddr t x ix) (.c (.aj g (off+i.toNat*size))):=fun S w e _ ho _=>by
 have h2:=ho x Ag
 have h3:=ho ix Ag
 rw [hx] at h2
 rw [ki] at h3
 obtain⟨c,hv,_,_,_⟩:=h2
 have hi:e ix=.int k i:=h3
 exact⟨_,fun o au=>by simp only [execOp,au,hv,hi,Sem.run_bind,Fp ht _ n c k i h0 hl,Result.andThen_ok,Zr];rfl,rfl⟩
theorem QB.sh {t el size bytes n:Nat} {tg:Bool} {f:Nat→CV} {x ix:Operand} {k:IntKind} {i:Int} (ht:QP P t=some (el,size,bytes)) (hx:ρ x=.c (.row tg size n f)) (ki:ρ ix=.c (.int k i)) (h0:0≤i) (hl:i<n) (hz:0<size):
  QB P h ρ (.indexAddr t x ix) (.c (.eR size fun j=>f (i.toNat*size+j))):=fun S w e hS ho _=>by
 have h2:=ho x Ag
 have h3:=ho ix Ag
 rw [hx] at h2
 rw [ki] at h3
 obtain⟨A,c,hv,_,hn⟩:=h2
 have hi:e ix=.int k i:=h3
 have aD:i.toNat<n:=by omega
 have hmul:(i.toNat+1)*size≤n*size:=Nm _ aD
 have P8:(i.toNat+1)*size=i.toNat*size+size:=Nat.succ_mul _ _
 obtain⟨ad,hA,hb,hj⟩:=hn om
 subst hA
 refine⟨_,fun o au=>by simp only [execOp,au,hv,hi,Sem.run_bind,Fp ht _ n c k i h0 hl,Result.andThen_ok];rfl,ad.add (i.toNat*size),rfl,?_,fun j ba=> ?_⟩
 ·rw [block_add];cases tg
  ·exact hb
  ·exact hS _ hb
 ·rw [xy];exact hj _ om
def oc:CV→Option Nat
 |.row _ _ n _=>some n
 |.aO _ _ _ n=>some n
 |.ab=>some 0
 |_=>none
theorem QB.lV {t el size bytes n:Nat} {x:Operand} {c:CV} (ht:QP P t=some (el,size,bytes)) (hx:ρ x=.c c) (hn:oc c=some n):
  QB P h ρ (.call {callee:=.builtin .len,args:= #[x],argTypes:= #[t]}) (.c (.int .i64 n)):=fun S w e _ ho _=>by
 have h2:=ho x (by simp [Op.operands,Call.operands])
 rw [hx] at h2
 obtain⟨hu,_⟩:=Q6 ht
 have hv:∃A c',e x=.slice A n c':=by
  cases c<;>simp only [oc,Aa,reduceCtorEq] at hn<;>subst hn
  ·obtain⟨A,hv⟩:=h2;exact⟨A,0,hv⟩
  ·obtain⟨A,c,hv,_⟩:=h2;exact⟨A,c,hv⟩
  ·obtain⟨c,hv,_⟩:=h2;exact⟨_,c,hv⟩
 obtain⟨A,c',hv⟩:=hv
 exact⟨.int .i64 n,fun o au=>by simp [execOp,au,resolve,invoke,Go.builtin,Builtin.len_,hv,run_underlying hu,goInt],rfl⟩
theorem QB.max2 {t1 t2:TypeId} {x y:Operand} {k:IntKind} {a b:Int} (hx:ρ x=.c (.int k a)) (hy:ρ y=.c (.int k b)):
  QB P h ρ (.call {callee:=.builtin .max,args:= #[x,y],argTypes:= #[t1,t2]}) (.c (.int k (if b>a then b else a))):=fun S w e _ ho _=>by
 have h1:e x=.int k a:=by have:=ho x (by simp [Op.operands,Call.operands]);rw [hx] at this;exact this
 have h2:e y=.int k b:=by have:=ho y (by simp [Op.operands,Call.operands]);rw [hy] at this;exact this
 exact⟨.int k (if b>a then b else a),fun o au=>by simp [execOp,au,resolve,invoke,Go.builtin,Builtin.max_,Builtin.max2,h1,h2],rfl⟩
theorem QB.min2 {t1 t2:TypeId} {x y:Operand} {k:IntKind} {a b:Int} (hx:ρ x=.c (.int k a)) (hy:ρ y=.c (.int k b)):
  QB P h ρ (.call {callee:=.builtin .min,args:= #[x,y],argTypes:= #[t1,t2]}) (.c (.int k (if b<a then b else a))):=fun S w e _ ho _=>by
 have h1:e x=.int k a:=by have:=ho x (by simp [Op.operands,Call.operands]);rw [hx] at this;exact this
 have h2:e y=.int k b:=by have:=ho y (by simp [Op.operands,Call.operands]);rw [hy] at this;exact this
 exact⟨.int k (if b<a then b else a),fun o au=>by simp [execOp,au,resolve,invoke,Go.builtin,Builtin.min_,Builtin.min2,h1,h2],rfl⟩
end
section
section
variable {P : Program} {h : Qa} {ρ : Operand → AV}
def Yc (ρ:Operand→AV) (Ds:Nat):Option Operand→Option Int
 |none=>some Ds
 |some x=>match ρ x with
  |.c (.int _ i)=>some i
  |_=>none
theorem Zd {len cap:Nat} {l hi:Nat} {lo hi':Option Value} {w:World} (ic:lo=none∧l=0∨∃k,lo=some (.int k l)) (fF:hi'=none∧hi=len∨∃k,hi'=some (.int k hi)) (h1:l≤hi) (h2:hi≤cap) (oH:len≤cap):
  (Instr.sliceBounds true len cap lo hi' none).run P w=.ok (l,hi,cap) w:=by
 unfold Instr.sliceBounds
 rcases ic with ⟨rfl,rfl⟩|⟨k,rfl⟩<;>rcases fF with ⟨rfl,rfl⟩|⟨k',rfl⟩<;>
  simp [Instr.sliceBound,asIntOf,h1,h2]
theorem QB.so {t e size bytes n l hi:Nat} {tg:Bool} {f:Nat→CV} {x:Operand} {lo hi':Option Operand} (ht:QP P t=some (e,size,bytes)) (hx:ρ x=.c (.row tg size n f)) (ic:Yc ρ 0 lo=some (l:Int)) (fF:Yc ρ n hi'=some (hi:Int)) (h1:l≤hi) (h2:hi≤n):
  QB P h ρ (.slice t x lo hi' none) (.c (.row tg size (hi-l) fun j=>f (l*size+j))):=fun S w jk hS ho _=>by
 have r:=ho x Ag
 rw [hx] at r
 obtain⟨A,c,hv,hc,hn⟩:=r
 obtain⟨hu,inf,cA,bF,_⟩:=Q6 ht
 have rG:lo.map jk=none∧l=0∨∃k,lo.map jk=some (.int k l):=by
  cases lo with
  |none=>simp only [Yc,Aa] at ic;exact .inl ⟨rfl,by omega⟩
  |some y=>
   have ry:=ho y Ag
   simp only [Yc] at ic
   split at ic
   ·rename_i k i hy;rw [hy] at ry;injection ic with ic;subst ic;exact .inr ⟨k,by simp;exact ry⟩
   ·cases ic
 have rD:hi'.map jk=none∧hi=n∨∃k,hi'.map jk=some (.int k hi):=by
  cases hi' with
  |none=>simp only [Yc,Aa] at fF;exact .inl ⟨rfl,by omega⟩
  |some y=>
   have ry:=ho y Ag
   simp only [Yc] at fF
   split at fF
   ·rename_i k i hy;rw [hy] at ry;injection fF with fF;subst fF;exact .inr ⟨k,by simp;exact ry⟩
   ·cases fF
 refine⟨.slice (if c=l then A else A.map (·.add (l*size))) (hi-l) (c-l),fun o au=> ?_,?_⟩
 ·simp only [execOp,au,Instr.sliceAt,run_underlying hu,Sem.run_bind,Result.andThen_ok,Instr.slice,hv]
  simp [Zd rG rD h1 om hc,sizeOf,typeInfo,cA,bF]
 ·refine⟨_,_,rfl,by omega,fun h0=> ?_⟩
  have aD:l<hi:=by
   rcases Nat.lt_or_ge l hi with hl|hl
   ·exact hl
   ·rw [show hi-l=0 from by omega] at h0;simp at h0
  have tu:(hi-l)*size+l*size=hi*size:=by rw [←Nat.add_mul];congr 1;omega
  have vA:hi*size≤n*size:=Nm _ h2
  obtain⟨ad,hA,hb,hj⟩:=hn om
  subst hA
  rw [iN om]
  refine⟨ad.add (l*size),rfl,by rw [block_add];exact hb,fun j bp=> ?_⟩
  rw [xy]
  exact hj _ om
theorem QB.jh {t e size bytes g off n l hi:Nat} {x:Operand} {lo hi':Option Operand} (ht:QP P t=some (e,size,bytes)) (hx:ρ x=.c (.aO g size off n)) (ic:Yc ρ 0 lo=some (l:Int)) (fF:Yc ρ n hi'=some (hi:Int)) (h1:l≤hi) (h2:hi≤n) (h3:l=0∨l<hi):
  QB P h ρ (.slice t x lo hi' none) (.c (.aO g size (off+l*size) (hi-l))):=fun S w jk hS ho _=>by
 have r:=ho x Ag
 rw [hx] at r
 obtain⟨c,hv,hc,cE,cs,ty,hb,cn⟩:=r
 obtain⟨hu,inf,cA,bF,_⟩:=Q6 ht
 have rG:lo.map jk=none∧l=0∨∃k,lo.map jk=some (.int k l):=by
  cases lo with
  |none=>simp only [Yc,Aa] at ic;exact .inl ⟨rfl,by omega⟩
  |some y=>
   have ry:=ho y Ag
   simp only [Yc] at ic
   split at ic
   ·rename_i k i hy;rw [hy] at ry;injection ic with ic;subst ic;exact .inr ⟨k,by simp;exact ry⟩
   ·cases ic
 have rD:hi'.map jk=none∧hi=n∨∃k,hi'.map jk=some (.int k hi):=by
  cases hi' with
  |none=>simp only [Yc,Aa] at fF;exact .inl ⟨rfl,by omega⟩
  |some y=>
   have ry:=ho y Ag
   simp only [Yc] at fF
   split at fF
   ·rename_i k i hy;rw [hy] at ry;injection fF with fF;subst fF;exact .inr ⟨k,by simp;exact ry⟩
   ·cases fF
 refine⟨.slice (some ⟨g,off+l*size,none⟩) (hi-l) (c-l),fun o au=> ?_,?_⟩
 ·simp only [execOp,au,Instr.sliceAt,run_underlying hu,Sem.run_bind,Result.andThen_ok,Instr.slice,hv]
  have lR:=Zd (P:=P) (w:=w) rG rD h1 (show hi≤c from by omega) hc
  by_cases bS:c=l
  ·have lJ:l=0:=by omega
   subst lJ
   subst bS
   simp [lR,sizeOf,typeInfo,cA,bF]
  ·simp [lR,sizeOf,typeInfo,cA,bF,bS,Zr]
 ·refine⟨c-l,rfl,by omega,by omega,cs,ty,hb,?_⟩
  have tu:(c-l)*size+l*size=c*size:=by rw [←Nat.add_mul];congr 1;omega
  omega
def ue (P:Program) (ρ:Operand→AV) (t:TypeId) (x:Operand) (lo hi:Option Operand):Option (Prop×AV):=
 match ρ x with
 |.c (.row tg s n f)=>match QP P t,Yc ρ 0 lo,Yc ρ n hi with
  |some (_,size,_),some l,some u=>some (s=size∧0≤l∧l≤u∧u≤n,.c (.row tg s (u.toNat-l.toNat) fun j=>f (l.toNat*s+j)))
  |_,_,_=>none
 |.c (.aO g s off n)=>match QP P t,Yc ρ 0 lo,Yc ρ n hi with
  |some (_,size,_),some l,some u=>some (s=size∧0≤l∧l≤u∧u≤n∧(l=0∨l<u),.c (.aO g s (off+l.toNat*s) (u.toNat-l.toNat)))
  |_,_,_=>none
 |_=>none
theorem Fz {t:TypeId} {x:Operand} {lo hi:Option Operand} {req:Prop} {r:AV} (hb:ue P ρ t x lo hi=some (req,r)) (aP:req):QB P h ρ (.slice t x lo hi none) r:=by
 unfold ue at hb
 split at hb
 ·rename_i tg s n f hx
  split at hb
  ·rename_i e size bytes l u ht hl hu
   simp only [Aa,Ab] at hb
   obtain⟨rfl,rfl⟩:=hb
   obtain⟨rfl,h0,h1,h2⟩:=aP
   exact QB.so ht hx (by rw [hl];congr 1;omega) (by rw [hu];congr 1;omega) om om
  ·cases hb
 ·rename_i g s off n hx
  split at hb
  ·rename_i e size bytes l u ht hl hu
   simp only [Aa,Ab] at hb
   obtain⟨rfl,rfl⟩:=hb
   obtain⟨rfl,h0,h1,h2,h3⟩:=aP
   exact QB.jh ht hx (by rw [hl];congr 1;omega) (by rw [hu];congr 1;omega) om om om
  ·cases hb
 ·cases hb
def Q8 (P:Program) (t:TypeId):Option (List (Nat×Nat)):=
 match P.underlying t with
 |some (.struct fs)=>fs.toList.mapM fun f=>(P.info? f.type).map fun j=>(f.offset,j.size)
 |_=>none
theorem Gc {t:TypeId} {l:List (Nat×Nat)} (ht:Q8 P t=some l):∃fs,P.underlying t=some (.struct fs)∧∀w,(fs.mapM fun(f:Field)=>(do pure (f.offset,←sizeOf f.type):Sem (Nat×Nat))).run P w=.ok l.toArray w:=by
 unfold Q8 at ht
 split at ht
 ·rename_i fs hu
  refine⟨fs,hu,fun w=> ?_⟩
  have key:∀(fl:List Field) (l:List (Nat×Nat)),fl.mapM (fun f=>(P.info? f.type).map fun j=>(f.offset,j.size))=some l→(fl.mapM fun(f:Field)=>(do pure (f.offset,←sizeOf f.type):Sem (Nat×Nat))).run P w=.ok l w:=by
   intro fl
   induction fl with
   |nil=>intro l hl;simp at hl;subst hl;simp
   |cons f fl ih=>
    intro l hl
    rw [List.mapM_cons] at hl
    cases hi:P.info? f.type with
    |none=>rw [hi] at hl;cases hl
    |some j=>
     rw [hi] at hl
     cases hm:fl.mapM (fun f=>(P.info? f.type).map fun j=>(f.offset,j.size)) with
     |none=>rw [hm] at hl;cases hl
     |some l'=>
      rw [hm] at hl
      have:l=(f.offset,j.size)::l':=by injection hl with hl;exact hl.symm
      subst this
      rw [List.mapM_cons]
      have hs:(sizeOf f.type).run P w=.ok j.size w:=by simp [sizeOf,typeInfo,hi]
      simp only [Sem.run_bind,hs,Result.andThen_ok,Sem.run_pure,ih l' hm]
  have e:fs=fs.toList.toArray:=by simp
  rw [e,List.mapM_toArray]
  simp only [Sem.run_map,key _ _ ht,Result.andThen_ok]
 ·cases ht
def sV (zs:List CV) (off:Nat):List CV→List CV
 |[]=>zs
 |c::cs=>sV (zs.set off c) (off+1) cs
def qz (fl:List (Nat×Nat)):List CV→List (Nat×List CV)→Option (List CV)
 |zs,[]=>some zs
 |zs,(i,cs)::rest=>match fl[i]? with
  |some (off,size)=>if cs.length=size∧off+size≤zs.length then qz fl (sV zs off cs) rest else none
  |none=>none
theorem XV.set {S:Bool→Nat→Prop} {w:World} {c:CV} {u:Value} (hc:XQ S w c u):∀(zs:List CV) (us:List Value) (k:Nat),XV S w zs us→XV S w (zs.set k c) (us.set k u)
 |[],[],_,_=>trivial
 |_::_,_::_,0,hr=>⟨hc,hr.2⟩
 |_::zs,_::us,k+1,hr=>⟨hr.1,XV.set hc zs us k hr.2⟩
 |[],_::_,_,hr=>hr.elim
 |_::_,[],_,hr=>hr.elim
theorem Hi {S:Bool→Nat→Prop} {w:World} (off:Nat):∀(cs:List CV) (vs:List Value) (zs:List CV) (us:Array Value) (k:Nat),XV S w cs vs→XV S w zs us.toList→
  XV S w (sV zs (off+k) cs) ((vs.zipIdx k).foldl (fun a (p:Value×Nat)=>a.setIfInBounds (off+p.2) p.1) us).toList
 |[],[],zs,us,k,_,hz=>hz
 |c::cs,v::vs,zs,us,k,hc,hz=>by
  simp only [List.zipIdx_cons,List.foldl_cons,sV]
  exact Hi off cs vs _ _ (k+1) hc.2 (by simpa using XV.set hc.1 zs us.toList (off+k) hz)
 |[],_::_,_,_,_,hc,_=>hc.elim
 |_::_,[],_,_,_,hc,_=>hc.elim
theorem Qmn {S:Bool→Nat→Prop} {w:World} (off:Nat) {cs:List CV} {v:Value} {zs:List CV} {us:Array Value} (hc:XV S w cs v.cells.toList) (hz:XV S w zs us.toList):
  XV S w (sV zs off cs) (v.cells.zipIdx.foldl (fun a (c,j)=>a.setIfInBounds (off+j) c) us).toList:=by
 have:=Hi (S:=S) (w:=w) off cs v.cells.toList zs us 0 hc hz
 rw [Nat.add_zero] at this
 rw [←Array.foldl_toList]
 simpa using this
theorem Hj {S:Bool→Nat→Prop} {w:World} (fl:List (Nat×Nat)):∀(ps:List (Nat×List CV)) (vs:List (Nat×Value)) (zs:List CV) (us:Array Value) (out:List CV),(ps.map (·.1)=vs.map (·.1))→(∀(j:Nat) (p:Nat×List CV) (q:Nat×Value),ps[j]?=some p→vs[j]?=some q→XV S w p.2 q.2.cells.toList)→XV S w zs us.toList→qz fl zs ps=some out→
  ∃su,Instr.fill (fl.toArray[·]?) us vs=some su∧XV S w out su.toList
 |[],[],zs,us,out,_,_,hz,hf=>by simp only [qz,Aa] at hf;subst hf;exact⟨us,rfl,hz⟩
 |(i,cs)::ps,(i',v)::vs,zs,us,out,hm,hc,hz,hf=>by
  simp only [Ld,List.cons.injEq] at hm
  obtain⟨rfl,hm⟩:=hm
  simp only [qz] at hf
  split at hf
  ·rename_i off size cW
   split at hf
   ·rename_i hle
    have h0:XV S w cs v.cells.toList:=hc 0 _ _ rfl rfl
    have hs:v.cells.size=size:=by have:=h0.length;simp at this;omega
    have gW:us.size=zs.length:=by have:=hz.length;simpa using this
    obtain⟨su,h1,h2⟩:=Hj fl ps vs _ _ out hm (fun j p q hp hq=>hc (j+1) p q (by simpa using hp) (by simpa using hq)) (Qmn off h0 hz) hf
    refine⟨su,?_,h2⟩
    simp only [Instr.fill]
    rw [show fl.toArray[i]?=some (off,size) from by simpa using cW]
    simp only
    rw [iN (by simp [hs,gW];omega)]
    exact h1
   ·cases hf
  ·cases hf
 |[],_::_,_,_,_,hm,_,_,_=>by simp at hm
 |_::_,[],_,_,_,hm,_,_,_=>by simp at hm
def AV.cells:AV→List CV
 |.c x=>[x]
 |.agg cs=>cs
 |.aF _=>[]
def CV.aX:CV→Bool
 |.any=>false
 |.raw v=>v.oneCell'
 |_=>true
theorem Ug {S:Bool→Nat→Prop} {w:World} {x:CV} {v:Value} (hx:x.aX=true) (hr:XQ S w x v):v.oneCell'=true:=by
 cases x<;>simp only [CV.aX,reduceCtorEq] at hx
 case raw u=>exact(show v=u from hr)▸hx
 all_goals first
  |(have:v=_:=hr;rw [this];rfl)
  |(obtain⟨u,rfl,_⟩:=hr;rfl)
  |(obtain⟨u,rfl⟩:=hr;rfl)
  |(obtain⟨A,c,rfl,_⟩:=hr;rfl)
theorem Oe {S:Bool→Nat→Prop} {w:World} {x:AV} {v:Value} (ht:∀xs,x≠.aF xs) (hs:x.cells.all CV.aX=true) (hr:VY S w x v):XV S w x.cells v.cells.toList∧∀u∈v.cells,u.oneCell'=true:=by
 cases x with
 |aF xs=>exact absurd rfl (ht xs)
 |c x=>
  have h1:v.oneCell'=true:=Ug (by simpa [AV.cells] using hs) hr
  have h2:v.cells= #[v]:=by cases v<;>first|rfl|(simp [Value.oneCell'] at h1)
  rw [h2]
  exact⟨⟨hr,trivial⟩,by simpa using h1⟩
 |agg cs=>
  obtain⟨us,rfl,hu⟩:=hr
  refine⟨by simpa [Value.cells,AV.cells] using hu,?_⟩
  have key:∀(cs:List CV) (us:List Value),cs.all CV.aX=true→XV S w cs us→∀u∈us,u.oneCell'=true:=by
   intro cs
   induction cs with
   |nil=>intro us _ hr;cases us with
    |nil=>simp
    |cons=>exact hr.elim
   |cons c cs ih=>
    intro us hs hr
    cases us with
    |nil=>exact hr.elim
    |cons u us=>
     simp only [List.all_cons,Ba] at hs
     intro x hx
     simp only [Lb] at hx
     rcases hx with rfl|hx
     ·exact Ug hs.1 hr.1
     ·exact ih us hs.2 hr.2 x hx
  intro u mn
  exact key cs us (by simpa [AV.cells] using hs) hu u (by simpa [Value.cells] using mn)
def uf (P:Program) (ρ:Operand→AV) (t:TypeId) (ps:List (Nat×Operand)):Option (Prop×AV):=
 match Q8 P t,Qk P t with
 |some fl,some z=>match qz fl z (ps.map fun p=>(p.1,(ρ p.2).cells)) with
  |some out=>some (∀p∈ps,(∀xs,ρ p.2≠.aF xs)∧(ρ p.2).cells.all CV.aX=true,.agg out)
  |none=>none
 |_,_=>none
theorem Yt {t:TypeId} {z:List CV} (hz:Qk P t=some z):∃i v,P.info? t=some i∧i.zero=some v∧z=v.cells.toList.map Oz:=by
 unfold Qk at hz
 cases hi:P.info? t with
 |none=>simp [hi] at hz
 |some i=>
  cases hv:i.zero with
  |none=>simp [hi,hv] at hz
  |some v=>simp [hi,hv] at hz;exact⟨i,v,rfl,hv,hz.symm⟩
theorem Fu {t:TypeId} {ps:List (Nat×Operand)} {req:Prop} {r:AV} (hb:uf P ρ t ps=some (req,r)) (aP:req):QB P h ρ (.build t ps.toArray) r:=by
 unfold uf at hb
 split at hb
 ·rename_i fl z cW hz
  split at hb
  ·rename_i out iZ
   simp only [Aa,Ab] at hb
   obtain⟨rfl,rfl⟩:=hb
   intro S w e hS ho _
   obtain⟨fs,hu,aR⟩:=Gc cW
   obtain⟨i,zv,hi,fQ,rfl⟩:=Yt hz
   obtain⟨su,h1,h2⟩:=Hj (S:=S) (w:=w) fl (ps.map fun p=>(p.1,(ρ p.2).cells)) (ps.map fun p=>(p.1,e p.2)) (zv.cells.toList.map Oz) zv.cells out (by simp)
    (fun j p q hp hq=>by
     rw [List.getElem?_map] at hp hq
     cases hj:ps[j]? with
     |none=>rw [hj] at hp;cases hp
     |some y=>
      rw [hj] at hp hq
      simp only [Option.map_some,Aa] at hp hq
      subst hp
      subst hq
      have hm:y∈ps:=List.mem_of_getElem? hj
      obtain⟨gj,df⟩:=aP y hm
      exact(Oe gj df (ho y.2 (by simp only [Op.operands,List.mem_toArray,List.mem_map];exact⟨y,hm,rfl⟩))).1)
    (WF S w _) iZ
   refine⟨.agg su,fun o au=> ?_,su.toList,by simp,h2⟩
   have rJ:(Array.map (fun x:Nat×Operand=>(x.1,e x.2)) ps.toArray).toList=ps.map fun p=>(p.1,e p.2):=by simp
   simp only [execOp,au,Instr.build,Sem.run_bind,zeroValue,typeInfo,run_program,hi,fQ,Result.andThen_ok,Sem.run_pure,run_underlying hu,aR w]
   rw [rJ,h1]
   rfl
  ·cases hb
 ·cases hb
end
end
section
variable {E : Vj} {K : List It} {σ σ' : Sl} {h : Qa} {all rest : List Oper} {o : Oper}
def ND:Bool→Bool→Bool
 |true,true=>true
 |false,false=>true
 |true,false=>false
 |false,true=>false
def Qu (all:List Oper) (σ:Sl) (o:Oper):Option Bool:=
 match o.guard with
 |none=>some true
 |some (j,want)=>match (all[j]?).bind (·.dst) with
  |some t=>match σ.get t with
   |.c (.bool b)=>some (ND b want)
   |.aF []=>some false
   |_=>none
  |none=>none
theorem St.wanted {N:Nat} {C:ZX} {a:Act} {w:World} (s:St N C σ h a w) {b:Bool} (hw:Qu all σ o=some b):Region.wanted o (yielded all.toArray a.tmps)=b:=by
 unfold Qu at hw
 unfold Region.wanted
 cases hg:o.guard with
 |none=>rw [hg] at hw;injection hw
 |some p=>
  obtain⟨j,want⟩:=p
  rw [hg] at hw
  simp only at hw⊢
  split at hw
  ·rename_i t ht
   split at hw
   ·rename_i b' hb
    injection hw with hw
    have hs:=s.bC t
    rw [hb] at hs
    have eM:a.tmps.getD t undef=.bool b':=hs
    have aD:t<a.tmps.size:=by
     rcases Nat.lt_or_ge t a.tmps.size with hl|hl
     ·exact hl
     ·simp [Array.getD,Nat.not_lt.2 hl,undef] at eM
    have hq:a.tmps[t]?=some (.bool b'):=by
     simp [Array.getD,aD] at eM
     simp [aD,eM]
    have:yielded all.toArray a.tmps j=some b':=by
     unfold yielded
     rw [show((all.toArray[j]?).bind (·.dst))=some t from by simpa using ht]
     simp [hq]
    rw [this,←hw]
    cases b'<;>cases want<;>rfl
   ·rename_i hb
    injection hw with hw
    subst hw
    have hs:=s.bC t
    rw [hb] at hs
    obtain⟨us,eM,hu⟩:=hs
    have hy:yielded all.toArray a.tmps j=none:=by
     unfold yielded
     rw [show((all.toArray[j]?).bind (·.dst))=some t from by simpa using ht]
     simp only [Option.bind_some]
     rw [Array.getD_eq_getD_getElem?] at eM
     cases h4:a.tmps[t]? with
     |none=>rfl
     |some v=>
      rw [h4] at eM
      have h5:v=.tuple us.toArray:=eM
      subst h5
      rfl
    rw [hy];rfl
   ·cases hw
  ·cases hw
theorem QN {N:Nat} {C:ZX} {a:Act} {w:World} (s:St N C σ h a w) (x:Operand):VY (QH C h w) w (ev σ x) (a.eval x):=by
 cases x with
 |tmp t=>exact s.bC t
 |const v=>exact Qq1 _ _ v
 |global g=>exact rfl
 |func f=>exact rfl
theorem QH.dM {C:ZX} {h:Qa} {w:World} (b:Nat) (hb:QH C h w true b):QH C h w false b:=⟨hb.1.imp (C.mono b) id,hb.2⟩
def Qs (N:Nat):Option Nat→Bool
 |some d=>decide (d<N)
 |none=>true
theorem St.put {N:Nat} {C:ZX} {a:Act} {w:World} (s:St N C σ h a w) {d:Option Nat} (hd:Qs N d=true) {r:AV} {v:Value} (hr:VY (QH C h w) w r v):St N C (σ.az d r) h (a.put d v) w:=by
 cases d with
 |none=>exact s
 |some d=>
  have iX:d<N:=by simpa [Qs] using hd
  refine⟨by simp [Act.put,s.size],s.defers,fun t=> ?_,s.heap,s.nodup,s.keys,s.frame⟩
  simp only [Sl.az,Sl.bL,Act.put]
  by_cases e:d=t
  ·subst e
   have:d<a.tmps.size:=by rw [s.size];exact iX
   simp [Array.getD,this,hr]
  ·rw [iN e]
   have h1:=s.bC t
   have:(a.tmps.setIfInBounds d v).getD t undef=a.tmps.getD t undef:=by
    rw [Array.getD_eq_getD_getElem?,Array.getD_eq_getD_getElem?,Array.getElem?_setIfInBounds_ne e]
   rw [this]
   exact h1
theorem Kj {h':Qa} (hw:Qu all σ o=some true)
  (hs:∀a w,St E.N E.C σ h a w→∃v w',((execOp a.eval o).run E.P w=.ok (.value v) w'∨((execOp a.eval o).run E.P w=.ok .skip w'∧v=undef))∧St E.N E.C σ' h' (a.put o.dst v) w')
  (k:aw E (.ops all rest::K) σ' h'):aw E (.ops all (o::rest)::K) σ h:=fun a w s=>by
 show wpList _ _ _ _ _ _
 unfold wpList
 rw [iP (s.wanted hw)]
 refine .inl ?_
 obtain⟨v,w',aR,s'⟩:=hs a w s
 have hk:=k _ _ s'
 unfold Oper.wp
 rcases aR with aR|⟨aR,rfl⟩
 ·rw [aR];exact hk
 ·rw [aR];exact hk
theorem Fv (hw:Qu all σ o=some false) (hd:Qs E.N o.dst=true) (gX:σ.az o.dst (.aF [])=σ') (k:aw E (.ops all rest::K) σ' h):aw E (.ops all (o::rest)::K) σ h:=fun a w s=>by
 subst gX
 show wpList _ _ _ _ _ _
 unfold wpList
 rw [iN (by rw [s.wanted hw];simp)]
 exact k _ _ (s.put hd (r:=.aF []) ⟨[],rfl,trivial⟩)
theorem xK {r:AV} (hw:Qu all σ o=some true) (ho:QB E.P h (ev σ) o.op r) (hd:Qs E.N o.dst=true) (gX:σ.az o.dst r=σ') (k:aw E (.ops all rest::K) σ' h):
  aw E (.ops all (o::rest)::K) σ h:=by
 subst gX
 refine Kj hw (fun a w s=> ?_) k
 obtain⟨v,aR,hr⟩:=ho (QH E.C h w) w a.eval QH.dM (fun x _=>QN s x) s.heap
 exact⟨v,w,.inl (aR o rfl),s.put hd hr⟩
theorem St.new {N:Nat} {C:ZX} {a:Act} {w w':World} {g:Nat} {ob:XS} (s:St N C σ h a w) (hg:g=w.heap.size) (bd:Fr (fun _=>False) w w') (aD:g<w'.heap.size)
  (ho:YN (QH C ((g,ob)::h) w') w' g ob):St N C σ ((g,ob)::h) a w':=by
 have lM:g∉h.keys:=fun hm=>by have:=s.jZ hm;omega
 have kp:Yn (QH C h w) (QH C ((g,ob)::h) w') w w':=by
  refine⟨fun t b hb=>⟨hb.1,Ae hb.2.1 bd.size,?_⟩,fun t b hb=>bd.block b hb.2.1 (fun x=>x),bd.has⟩
  have:=hb.2.1
  simp only [Qa.keys,Ld,Lb,not_or]
  exact⟨by omega,hb.2.2⟩
 refine⟨s.size,s.defers,fun t=>VY.aT kp (s.bC t),fun g' o' hm=> ?_,?_,fun g' ch=> ?_,?_⟩
 ·simp only [Lb,Ab] at hm
  rcases hm with ⟨rfl,rfl⟩|hm
  ·exact ho
  ·have h1:=s.heap g' o' hm
   exact YN.aT kp (bd.block g' h1.lt (fun x=>x)) h1
 ·simp only [Qa.keys,Ld,List.nodup_cons]
  exact⟨lM,s.nodup⟩
 ·simp only [Qa.keys,Ld,Lb] at ch
  rcases ch with rfl|ch
  ·right;have:=s.frame.size;omega
  ·exact s.keys g' ch
 ·exact s.frame.trans bd (fun x hx _=>hx.elim)
theorem UW {r:Nat→AV} {ob:XS} (hw:Qu all σ o=some true) (hd:Qs E.N o.dst=true)
  (aR:∀a w,St E.N E.C σ h a w→∃v w',(execOp a.eval o).run E.P w=.ok (.value v) w'∧Fr (fun _=>False) w w'∧w.heap.size<w'.heap.size∧
   YN (QH E.C ((w.heap.size,ob)::h) w') w' w.heap.size ob∧VY (QH E.C ((w.heap.size,ob)::h) w') w' (r w.heap.size) v)
  (k:∀g,g∉h.keys→aw E (.ops all rest::K) (σ.az o.dst (r g)) ((g,ob)::h)):aw E (.ops all (o::rest)::K) σ h:=fun a w s=>by
 obtain⟨v,w',hr,bd,aD,ho,cR⟩:=aR a w s
 have lM:w.heap.size∉h.keys:=fun hm=>Nat.lt_irrefl _ (s.jZ hm)
 have s':=(s.new rfl bd aD ho).put hd cR
 have hk:=k _ lM _ _ s'
 show wpList _ _ _ _ _ _
 unfold wpList
 rw [iP (s.wanted hw)]
 refine .inl ?_
 unfold Oper.wp
 rw [hr]
 exact hk
def ao:List CV→Nat→CV
 |[],_=>.any
 |c::cs,n=>match n with
  |0=>c
  |n+1=>ao cs n
theorem Of:∀(cs:List CV) (j:Nat) (c:CV),cs[j]?=some c→ao cs j=c
 |[],j,c,e=>by simp at e
 |a::cs,0,c,e=>by simpa [ao] using e
 |a::cs,j+1,c,e=>by simp at e;exact Of cs j c e
theorem Uh {C:ZX} {w:World} {cs:List CV} {us:List Value} {ty:TypeId} {h':Qa} (hr:XV (QH C h' (w.alloc (.cells us.toArray ty))) (w.alloc (.cells us.toArray ty)) cs us):
  YN (QH C h' (w.alloc (.cells us.toArray ty))) (w.alloc (.cells us.toArray ty)) w.heap.size (.cells ty cs.length (ao cs)):=by
 refine⟨us.toArray,heap_alloc_new w _,by simp [hr.length],fun j hj=> ?_⟩
 obtain⟨u,hu,hc⟩:=hr.get j cs[j] (Li hj)
 exact⟨u,by simpa using hu,by rw [Of cs j _ (Li hj)];exact hc⟩
theorem WH {C:ZX} {w:World} {ob:XS} {o:Obj} (lM:w.heap.size∉h.keys):Yn (QH C h w) (QH C ((w.heap.size,ob)::h) (w.alloc o)) w (w.alloc o):=
 ⟨fun t b hb=>⟨hb.1,by have:=hb.2.1;simp;omega,by
  have:=hb.2.1
  simp only [Qa.keys,Ld,Lb,not_or]
  exact⟨by omega,hb.2.2⟩⟩,fun t b hb=>RowKit.Below.heap_alloc w o b hb.2.1,(Fr.alloc (fun _=>False) w o).has⟩
theorem VL {t:TypeId} {x:Operand} (au:o.op=.box t x) (hw:Qu all σ o=some true) (hd:Qs E.N o.dst=true) {v:AV} (hx:ev σ x=v) (gj:∀xs,v≠.aF xs) (hs:v.cells.all CV.aX=true)
  (k:∀g,g∉h.keys→aw E (.ops all rest::K) (σ.az o.dst (.c (.aj g 0))) ((g,.cells t v.cells.length (ao v.cells))::h)):aw E (.ops all (o::rest)::K) σ h:=by
 refine UW (r:=fun g=>.c (.aj g 0)) (ob:=.cells t v.cells.length (ao v.cells)) hw hd (fun a w s=> ?_) k
 have h1:=QN s x
 rw [hx] at h1
 have lM:w.heap.size∉h.keys:=fun hm=>Nat.lt_irrefl _ (s.jZ hm)
 obtain⟨hL,_⟩:=Oe gj hs h1
 have e:(a.eval x).cells=(a.eval x).cells.toList.toArray:=by simp
 refine⟨.pointer (some ⟨w.heap.size,0,none⟩),w.alloc (.cells (a.eval x).cells.toList.toArray t),?_,Fr.alloc _ _ _,by simp,Uh (hL.aT (WH lM)),rfl⟩
 simp only [execOp,au,Instr.box,newVar,newRow,Sem.run_bind]
 rw [←e]
 rfl
theorem Bm {t:TypeId} {z:List CV} (au:o.op=.alloc t) (hw:Qu all σ o=some true) (hd:Qs E.N o.dst=true) (hz:Qk E.P t=some z)
  (k:∀g,g∉h.keys→aw E (.ops all rest::K) (σ.az o.dst (.c (.aj g 0))) ((g,.cells t z.length (ao z))::h)):aw E (.ops all (o::rest)::K) σ h:=by
 refine UW (r:=fun g=>.c (.aj g 0)) (ob:=.cells t z.length (ao z)) hw hd (fun a w s=> ?_) k
 obtain⟨i,v,hi,hv,rfl⟩:=Yt hz
 refine⟨.pointer (some ⟨w.heap.size,0,none⟩),w.alloc (.cells v.cells.toList.toArray t),?_,Fr.alloc _ _ _,by simp,Uh (WF _ _ _),rfl⟩
 simp only [execOp,au,Instr.alloc,zeroValue,typeInfo,newVar,newRow,Sem.run_bind]
 simp [hi,hv]
end
section
inductive fe (h:Qa):CV→CV→Prop
 |refl (x:CV):fe h x x
 |any (x:CV):fe h x .any
 |ab {t:Bool} {s:Nat} {f:Nat→CV}:fe h .ab (.row t s 0 f)
 |row {t t':Bool} {s n:Nat} {f f':Nat→CV}:(t'=true→t=true)→(∀j,j<n*s→fe h (f j) (f' j))→fe h (.row t s n f) (.row t' s n f')
 |aO {g s off n m:Nat} {ty:TypeId} {f f':Nat→CV}:h.get g=some (.cells ty m f)→off+n*s≤m→(∀j,j<n*s→fe h (f (off+j)) (f' j))→fe h (.aO g s off n) (.row false s n f')
 |eZ {t:TypeId} {x y:CV}:fe h x y→fe h (.eZ t x) (.eZ t y)
def gQ (h:Qa):List CV→List CV→Prop
 |[],[]=>True
 |x::xs,y::ys=>fe h x y∧gQ h xs ys
 |_,_=>False
inductive qt (h:Qa):AV→AV→Prop
 |c {x y:CV}:fe h x y→qt h (.c x) (.c y)
 |agg {xs ys:List CV}:gQ h xs ys→qt h (.agg xs) (.agg ys)
def JT (h:Qa):List AV→List AV→Prop
 |[],[]=>True
 |x::xs,y::ys=>qt h x y∧JT h xs ys
 |_,_=>False
def pB (S:Bool→Nat→Prop) (h:Qa) (t:Bool) (b:Nat):Prop:=S t b∨(t=false∧b∈h.keys)
theorem fe.rep {S:Bool→Nat→Prop} {w:World} {h:Qa} (hm:∀b,S true b→S false b) (hh:∀g o,(g,o)∈h→YN S w g o) {x y:CV} (le:fe h x y):∀{v:Value},XQ S w x v→XQ (pB S h) w y v:=by
 have kp:Yn S (pB S h) w w:=⟨fun _ _ hb=>.inl hb,fun _ _ _=>rfl,fun _ _ e=>e⟩
 induction le with
 |refl x=>intro v hr;exact hr.aT kp
 |any x=>intro v _;trivial
 |ab=>intro v hr;obtain⟨A,hv⟩:=hr;exact⟨A,0,hv,Ac _,fun h0=>by simp at h0⟩
 | @row t t' s n f f' ht _ ih=>
   intro v hr
   obtain⟨A,c,hv,hc,hn⟩:=hr
   refine⟨A,c,hv,hc,fun h0=> ?_⟩
   obtain⟨ad,hA,hS,hj⟩:=hn h0
   refine⟨ad,hA,.inl ?_,fun j bp=> ?_⟩
   ·cases t' with
    |true=>rw [ht rfl] at hS;exact hS
    |false=>cases t with
     |true=>exact hm _ hS
     |false=>exact hS
   ·obtain⟨u,hu,hf⟩:=hj j bp
    exact⟨u,hu,ih j bp hf⟩
 | @aO g s off n m ty f f' hg hle _ ih=>
   intro v hr
   obtain⟨c,hv,hc,_,_⟩:=hr
   obtain⟨cs,hb,hn,hj⟩:=hh g _ (Qa.get_mem hg)
   refine⟨some ⟨g,off,none⟩,c,hv,hc,fun _=>⟨⟨g,off,none⟩,rfl,.inr ⟨rfl,?_⟩,fun j bp=> ?_⟩⟩
   ·exact List.mem_map.2 ⟨_,Qa.get_mem hg,rfl⟩
   ·obtain⟨u,hu,hf⟩:=hj (off+j) om
    exact⟨u,by rw [Zr,YX hb];exact hu,ih j bp hf⟩
 |eZ _ ih=>intro v hr;obtain⟨u,hu,hx⟩:=hr;exact⟨u,hu,ih hx⟩
theorem gQ.rep {S:Bool→Nat→Prop} {w:World} {h:Qa} (hm:∀b,S true b→S false b) (hh:∀g o,(g,o)∈h→YN S w g o):∀{xs ys:List CV} {us:List Value},gQ h xs ys→XV S w xs us→XV (pB S h) w ys us
 |[],[],[],_,_=>trivial
 |_::_,_::_,_::_,le,hr=>⟨le.1.rep hm hh hr.1,gQ.rep hm hh le.2 hr.2⟩
 |[],[],_::_,_,hr=>hr.elim
 |_::_,_::_,[],_,hr=>hr.elim
 |[],_::_,_,le,_=>le.elim
 |_::_,[],_,le,_=>le.elim
theorem qt.rep {S:Bool→Nat→Prop} {w:World} {h:Qa} (hm:∀b,S true b→S false b) (hh:∀g o,(g,o)∈h→YN S w g o) {x y:AV} {v:Value} (le:qt h x y) (hr:VY S w x v):Oy (pB S h) w y v:=by
 cases le with
 |c l=>exact l.rep hm hh hr
 |agg l=>obtain⟨us,hv,hu⟩:=hr;exact⟨us,hv,l.rep hm hh hu⟩
theorem JT.rep {N:Nat} {C:ZX} {σ:Sl} {h:Qa} {a:Act} {w:World} (s:St N C σ h a w):∀{xs:List Operand} {ys:List AV},JT h (xs.map (ev σ)) ys→ZN (pB (QH C h w) h) w ys (xs.map a.eval)
 |[],[],_=>trivial
 |x::xs,y::ys,le=>⟨le.1.rep QH.dM s.heap (QN s x),JT.rep s le.2⟩
 |[],_::_,le=>le.elim
 |_::_,[],le=>le.elim
def Ja (P:Program) (f:FuncId):Prop:=∃fn,P.funcs[f]?=some fn∧fn.body.isNone=false∧(fn.name== "runtime.NumGoroutine")=false
theorem Ja.run {P:Program} {f:FuncId} (hc:Ja P f) (args:Array Value) (w:World):(callFunc f args).run P w=.ok (.enter f args) w:=by
 obtain⟨fn,hf,hb,hn⟩:=hc
 have cb:¬fn.name= "runtime.NumGoroutine" :=by simpa using hn
 have cm:¬fn.body=none:=fun e=>by rw [e] at hb;cases hb
 unfold callFunc
 simp [hf,cm,cb]
def kC (T:(Bool→Nat→Prop)→World→Prop) (P:Program) (f:FuncId) (args:List AV) (r:AV):Prop:=
 Ja P f∧∀(S:Bool→Nat→Prop) (w:World) (vs:List Value),(∀b,S true b→S false b)→(∀t b,S t b→b<w.heap.size)→T S w→ZN S w args vs→
  Calls P f vs.toArray w fun e w'=>∃v,e=.returned v∧VY (fun _ b=>(S true b∨w.heap.size≤b)∧b<w'.heap.size) w' r v∧Fr (fun _=>False) w w'
def Fa (P:Program) (f:FuncId) (args:List AV) (r:AV):Prop:=kC (fun _ _=>True) P f args r
def VA (P:Program) (f:FuncId) (args:List AV) (r:AV):Prop:=kC WC P f args r
def Vk (C:ZX) (P:Program) (f:FuncId) (args:List AV) (r:AV):Prop:=
 Ja P f∧∀{N:Nat} {σ:Sl} {h:Qa} {a:Act} {w:World} {xs:List Operand},St N C σ h a w→JT h (xs.map (ev σ)) args→
  Calls P f (xs.map a.eval).toArray w fun e w'=>∃v,e=.returned v∧VY (QH C h w') w' r v∧Fr (fun _=>False) w w'
def C8 (C:ZX):Prop:=WC C.S0 C.w0
section
variable {E : Vj} {K : List It} {σ σ' : Sl} {h : Qa} {all rest : List Oper} {o : Oper}
theorem St.later {N:Nat} {C:ZX} {a:Act} {w w':World} (s:St N C σ h a w) (bd:Fr (fun _=>False) w w'):St N C σ h a w':=by
 have kp:Yn (QH C h w) (QH C h w') w w':=⟨fun t b hb=>⟨hb.1,Ae hb.2.1 bd.size,hb.2.2⟩,fun t b hb=>bd.block b hb.2.1 (fun x=>x),bd.has⟩
 exact⟨s.size,s.defers,fun t=>VY.aT kp (s.bC t),fun g o hm=>by
  have h1:=s.heap g o hm
  exact YN.aT kp (bd.block g h1.lt (fun x=>x)) h1,s.nodup,s.keys,s.frame.trans bd (fun x hx _=>hx.elim)⟩
theorem kC.use {T:(Bool→Nat→Prop)→World→Prop} {P:Program} {N:Nat} {C:ZX} {a:Act} {w:World} {f:FuncId} {xs:List Operand} {args:List AV} {r:AV} (hf:kC T P f args r) (hT:T (pB (QH C h w) h) w) (s:St N C σ h a w) (le:JT h (xs.map (ev σ)) args):
  Calls P f (xs.map a.eval).toArray w fun e w'=>∃v,e=.returned v∧VY (QH C h w') w' r v∧Fr (fun _=>False) w w':=by
 have aD:∀t b,pB (QH C h w) h t b→b<w.heap.size:=fun t b hb=>hb.elim (fun x=>x.2.1) (fun x=>s.jZ x.2)
 refine(hf.2 (pB (QH C h w) h) w _ (fun b hb=> ?_) aD hT (le.rep s)).mono ?_
 ·rcases hb with hb|hb
  ·exact .inl (QH.dM b hb)
  ·exact absurd hb.1 (by simp)
 ·rintro e w' ⟨v,he,hr,bd⟩
  refine⟨v,he,hr.aT ⟨fun t b hb=> ?_,fun _ _ _=>rfl,fun _ _ x=>x⟩,bd⟩
  obtain⟨fD,iE⟩:=hb
  rcases fD with (fD|fD)|fD
  ·have h1:QH C h w' true b:=⟨fD.1,iE,fD.2.2⟩
   cases t
   ·exact QH.dM b h1
   ·exact h1
  ·exact absurd fD.1 (by simp)
  ·refine⟨.inr ?_,iE,fun hm=> ?_⟩
   ·have:=s.frame.size;omega
   ·have:=s.jZ hm;omega
theorem Fa.use {P:Program} {N:Nat} {C:ZX} {a:Act} {w:World} {f:FuncId} {xs:List Operand} {args:List AV} {r:AV} (hf:Fa P f args r) (s:St N C σ h a w) (le:JT h (xs.map (ev σ)) args):
 Calls P f (xs.map a.eval).toArray w fun e w'=>∃v,e=.returned v∧VY (QH C h w') w' r v∧Fr (fun _=>False) w w':=kC.use (T:=fun _ _=>True) hf trivial s le
theorem Fa.lk {P:Program} {C:ZX} {f:FuncId} {args:List AV} {r:AV} (hf:Fa P f args r):Vk C P f args r:=⟨hf.1,fun s le=>hf.use s le⟩
theorem St.tab {N:Nat} {C:ZX} {a:Act} {w:World} (s:St N C σ h a w) (hT:C8 C):WC (QH C h w) w:=fun b hb=>by
 obtain⟨h1,ty,fr,h2⟩:=hT b hb
 have hl:=C.lt _ _ h1
 have hs:=s.frame.size
 have hn:b∉h.keys:=fun hm=>(s.keys b hm).elim (C.apart _ _ h1) (fun h=>by omega)
 exact⟨⟨.inl h1,by omega,hn⟩,ty,fr,(s.frame.block b hl (C.apart _ _ h1)).trans h2⟩
theorem VA.lk {P:Program} {C:ZX} {f:FuncId} {args:List AV} {r:AV} (hf:VA P f args r) (hT:C8 C):Vk C P f args r:=
 ⟨hf.1,fun s le=>kC.use (T:=WC) hf ((s.tab hT).aT ⟨fun _ _ hb=>.inl hb,fun _ _ _=>rfl,fun _ _ e=>e⟩) s le⟩
theorem Hk {f:FuncId} {xs:List Operand} {ts:Array TypeId} {args:List AV} {r:AV} (hf:Vk E.C E.P f args r) (au:o.op=.call {callee:=.value (.func f),args:=xs.toArray,argTypes:=ts}) (hw:Qu all σ o=some true) (hd:Qs E.N o.dst=true)
  (le:JT h (xs.map (ev σ)) args) (gX:σ.az o.dst r=σ') (k:aw E (.ops all rest::K) σ' h):aw E (.ops all (o::rest)::K) σ h:=fun a w s=>by
 subst gX
 show wpList _ _ _ _ _ _
 unfold wpList
 rw [iP (s.wanted hw)]
 refine .inl ?_
 unfold Oper.wp
 have aR:(execOp a.eval o).run E.P w=.ok (.enter f (xs.map a.eval).toArray) w:=by
  simp only [execOp,au,resolve,Act.eval,Deferred.ofValue,invoke,Sem.run_bind]
  have:=hf.1.run (#[]++(Array.map a.eval xs.toArray)++ #[]) w
  simp only [Sem.run_pure,Result.andThen_ok]
  rw [show((xs.map a.eval).toArray)=(#[]++(Array.map a.eval xs.toArray)++ #[]) from by simp]
  exact this
 rw [aR]
 show Calls _ _ _ _ _
 refine(hf.2 s le).mono ?_
 rintro e w' ⟨v,rfl,hr,bd⟩
 exact k _ _ ((s.later bd).put hd hr)
theorem Qq4 {f:FuncId} {xs:List Operand} {ts:Array TypeId} {args:List AV} {r:AV} (hf:Fa E.P f args r) (au:o.op=.call {callee:=.value (.func f),args:=xs.toArray,argTypes:=ts}) (hw:Qu all σ o=some true) (hd:Qs E.N o.dst=true)
 (le:JT h (xs.map (ev σ)) args) (gX:σ.az o.dst r=σ') (k:aw E (.ops all rest::K) σ' h):aw E (.ops all (o::rest)::K) σ h:=Hk hf.lk au hw hd le gX k
theorem Qr {f:FuncId} {xs:List Operand} {ts:Array TypeId} {args:List AV} {r:AV} (hf:Fa E.P f args r) (au:o.op=.call {callee:=.value (.func f),args:=xs.toArray,argTypes:=ts}) (hw:Qu all σ o=some true) (hd:Qs E.N o.dst=true)
 (le:JT h (xs.map (ev σ)) args) (k:aw E (.ops all rest::K) (σ.az o.dst r) h):aw E (.ops all (o::rest)::K) σ h:=Qq4 hf au hw hd le rfl k
inductive JU (h:Qa):CV→CV→Prop
 |int (k:IntKind) (n:Int):JU h (.int k n) (.int k n)
 |bool (b:Bool):JU h (.bool b) (.bool b)
 |str (s:ByteArray):JU h (.str s) (.str s)
 |aN:JU h .aN .aN
 |v7:JU h .ab .ab
 |any (x:CV):JU h x .any
 |ab {t:Bool} {s:Nat} {f:Nat→CV}:JU h .ab (.row t s 0 f)
 |row {t:Bool} {s n:Nat} {f f':Nat→CV}:(∀j,j<n*s→JU h (f j) (f' j))→JU h (.row true s n f) (.row t s n f')
 |aO {t:Bool} {g s off n m:Nat} {ty:TypeId} {f f':Nat→CV}:h.get g=some (.cells ty m f)→off+n*s≤m→(∀j,j<n*s→JU h (f (off+j)) (f' j))→JU h (.aO g s off n) (.row t s n f')
 |eZ {t:TypeId} {x y:CV}:JU h x y→JU h (.eZ t x) (.eZ t y)
def pk (h:Qa):List CV→List CV→Prop
 |[],[]=>True
 |x::xs,y::ys=>JU h x y∧pk h xs ys
 |_,_=>False
inductive sW (h:Qa):AV→AV→Prop
 |c {x y:CV}:JU h x y→sW h (.c x) (.c y)
 |agg {xs ys:List CV}:pk h xs ys→sW h (.agg xs) (.agg ys)
def uE (h:Qa):List AV→List AV→Prop
 |[],[]=>True
 |x::xs,y::ys=>sW h x y∧uE h xs ys
 |_,_=>False
inductive mx (h:Qa):AV→AV→Prop
 |one {x y:AV}:sW h x y→mx h x y
 |aF {xs ys:List AV}:uE h xs ys→mx h (.aF xs) (.aF ys)
def sX (C:ZX) (w:World) (_:Bool) (b:Nat):Prop:=(C.S0 true b∨C.w0.heap.size≤b)∧b<w.heap.size
theorem JU.rep {C:ZX} {w:World} {h:Qa} (hk:∀g∈h.keys,C.w0.heap.size≤g) (hh:∀g o,(g,o)∈h→YN (QH C h w) w g o) {x y:CV} (le:JU h x y):∀{v:Value},XQ (QH C h w) w x v→XQ (sX C w) w y v:=by
 induction le with
 |int k n=>intro v hr;exact hr
 |bool b=>intro v hr;exact hr
 |str s=>intro v hr;exact hr
 |aN=>intro v hr;exact hr
 |v7=>intro v hr;exact hr
 |any x=>intro v _;trivial
 |ab=>intro v hr;obtain⟨A,hv⟩:=hr;exact⟨A,0,hv,Ac _,fun h0=>by simp at h0⟩
 | @row t s n f f' _ ih=>
   intro v hr
   obtain⟨A,c,hv,hc,hn⟩:=hr
   refine⟨A,c,hv,hc,fun h0=> ?_⟩
   obtain⟨ad,hA,hS,hj⟩:=hn h0
   refine⟨ad,hA,⟨hS.1,hS.2.1⟩,fun j bp=> ?_⟩
   obtain⟨u,hu,hf⟩:=hj j bp
   exact⟨u,hu,ih j bp hf⟩
 | @aO t g s off n m ty f f' hg hle _ ih=>
   intro v hr
   obtain⟨c,hv,hc,_,_⟩:=hr
   have ho:=hh g _ (Qa.get_mem hg)
   have aD:=ho.lt
   obtain⟨cs,hb,hn,hj⟩:=ho
   refine⟨some ⟨g,off,none⟩,c,hv,hc,fun _=>⟨⟨g,off,none⟩,rfl,⟨.inr (hk g (List.mem_map.2 ⟨_,Qa.get_mem hg,rfl⟩)),aD⟩,fun j bp=> ?_⟩⟩
   obtain⟨u,hu,hf⟩:=hj (off+j) om
   exact⟨u,by rw [Zr,YX hb];exact hu,ih j bp hf⟩
 |eZ _ ih=>intro v hr;obtain⟨u,hu,hx⟩:=hr;exact⟨u,hu,ih hx⟩
theorem pk.rep {C:ZX} {w:World} {h:Qa} (hk:∀g∈h.keys,C.w0.heap.size≤g) (hh:∀g o,(g,o)∈h→YN (QH C h w) w g o):∀{xs ys:List CV} {us:List Value},pk h xs ys→XV (QH C h w) w xs us→XV (sX C w) w ys us
 |[],[],[],_,_=>trivial
 |_::_,_::_,_::_,le,hr=>⟨le.1.rep hk hh hr.1,pk.rep hk hh le.2 hr.2⟩
 |[],[],_::_,_,hr=>hr.elim
 |_::_,_::_,[],_,hr=>hr.elim
 |[],_::_,_,le,_=>le.elim
 |_::_,[],_,le,_=>le.elim
theorem sW.rep {C:ZX} {w:World} {h:Qa} (hk:∀g∈h.keys,C.w0.heap.size≤g) (hh:∀g o,(g,o)∈h→YN (QH C h w) w g o) {x y:AV} {v:Value} (le:sW h x y) (hr:Oy (QH C h w) w x v):Oy (sX C w) w y v:=by
 cases le with
 |c l=>exact l.rep hk hh hr
 |agg l=>obtain⟨us,hv,hu⟩:=hr;exact⟨us,hv,l.rep hk hh hu⟩
theorem uE.rep {C:ZX} {w:World} {h:Qa} (hk:∀g∈h.keys,C.w0.heap.size≤g) (hh:∀g o,(g,o)∈h→YN (QH C h w) w g o):∀{xs ys:List AV} {us:List Value},uE h xs ys→ZN (QH C h w) w xs us→ZN (sX C w) w ys us
 |[],[],[],_,_=>trivial
 |_::_,_::_,_::_,le,hr=>⟨le.1.rep hk hh hr.1,uE.rep hk hh le.2 hr.2⟩
 |[],[],_::_,_,hr=>hr.elim
 |_::_,_::_,[],_,hr=>hr.elim
 |[],_::_,_,le,_=>le.elim
 |_::_,[],_,le,_=>le.elim
theorem Sv {S:Bool→Nat→Prop} {w:World} {x:AV} {v:Value} (hr:Oy S w x v):VY S w x v:=by
 cases x with
 |aF xs=>exact hr.elim
 |c x=>exact hr
 |agg cs=>exact hr
theorem mx.rep {C:ZX} {w:World} {h:Qa} (hk:∀g∈h.keys,C.w0.heap.size≤g) (hh:∀g o,(g,o)∈h→YN (QH C h w) w g o) {x y:AV} {v:Value} (le:mx h x y) (hr:VY (QH C h w) w x v):VY (sX C w) w y v:=by
 cases le with
 |one l=>
  cases l with
  |c l=>exact l.rep hk hh hr
  |agg l=>obtain⟨us,hv,hu⟩:=hr;exact⟨us,hv,l.rep hk hh hu⟩
 |aF l=>obtain⟨us,hv,hu⟩:=hr;exact⟨us,hv,l.rep hk hh hu⟩
def lz (P:Program) (σ:Sl) (h:Qa):ResultVar→Option AV
 |.tmp t=>some (σ.get t)
 |.cell a t=>match σ.get a,XC P t with
  |.c (.aj g off),some (ag,n)=>match h.get g with
   |some (.cells _ m f)=>if off+n≤m∧(ag=true∨n=1) then some (if ag then .agg (Yy f off 0 n) else .c (f off)) else none
   |_=>none
  |_,_=>none
theorem Hl {P:Program} {N:Nat} {C:ZX} {a:Act} {w:World} (s:St N C σ h a w) {rv:ResultVar} {x:AV} (hx:lz P σ h rv=some x):
  ∃v,(match rv with
   |.tmp t=>(pure (a.tmps.getD t undef):Sem Value)
   |.cell c t=>do loadVar t (←asAddr (a.tmps.getD c undef))).run P w=.ok v w∧VY (QH C h w) w x v:=by
 cases rv with
 |tmp t=>simp only [lz,Aa] at hx;subst hx;exact⟨_,rfl,s.bC t⟩
 |cell c t=>
  simp only [lz] at hx
  split at hx
  ·rename_i g off ag n hc ht
   split at hx
   ·rename_i ty m f hg
    split at hx
    ·rename_i hle
     injection hx with hx
     subst hx
     have h1:=s.bC c
     rw [hc] at h1
     have hv:a.tmps.getD c undef=.pointer (some ⟨g,off,none⟩):=h1
     obtain⟨cs,hb,hn,hj⟩:=s.heap g _ (Qa.get_mem hg)
     obtain⟨v,aR,hr⟩:=WG (P:=P) (ad:=⟨g,off,none⟩) (off:=off) ht (fun e=>hle.2.elim (fun x=>by rw [e] at x;cases x) id) (fun j ba=>by
      obtain⟨u,hu,hr⟩:=hj (off+j) om
      exact⟨u,by rw [Zr,YX hb];exact hu,hr⟩)
     exact⟨v,by simp only [hv,asAddr,Sem.run_bind,Sem.run_pure,Result.andThen_ok,aR],hr⟩
    ·cases hx
   ·cases hx
  ·cases hx
def ZY (P:Program) (σ:Sl) (h:Qa):List ResultVar→Option AV
 |[rv]=>lz P σ h rv
 |cg=>(cg.mapM (lz P σ h)).map .aF
def AV.flat:AV→Bool
 |.aF _=>false
 |_=>true
theorem Sw {S:Bool→Nat→Prop} {w:World} {x:AV} {v:Value} (hf:x.flat=true) (hr:VY S w x v):Oy S w x v:=by
 cases x with
 |aF xs=>cases hf
 |c x=>exact hr
 |agg cs=>exact hr
def uw (tmps:Array Value):ResultVar→Sem Value
 |.tmp t=>pure (tmps.getD t undef)
 |.cell a t=>do loadVar t (←asAddr (tmps.getD a undef))
theorem IZ {P:Program} {N:Nat} {C:ZX} {a:Act} {w:World} (s:St N C σ h a w):∀(cg:List ResultVar) (xs:List AV),cg.mapM (lz P σ h)=some xs→xs.all AV.flat=true→
  ∃vs:List Value,(cg.mapM (uw a.tmps)).run P w=.ok vs w∧ZN (QH C h w) w xs vs
 |[],xs,hx,_=>by
  simp at hx
  subst hx
  exact⟨[],by simp,trivial⟩
 |rv::cg,xs,hx,cW=>by
  rw [List.mapM_cons] at hx
  cases h1:lz P σ h rv with
  |none=>rw [h1] at hx;cases hx
  |some x=>
   rw [h1] at hx
   cases h2:cg.mapM (lz P σ h) with
   |none=>rw [h2] at hx;cases hx
   |some ys=>
    rw [h2] at hx
    have kz:xs=x::ys:=by injection hx with hx;exact hx.symm
    subst kz
    simp only [List.all_cons,Ba] at cW
    obtain⟨v,hv,hr⟩:=Hl s h1
    obtain⟨vs,mX,dy⟩:=IZ s cg ys h2 cW.2
    refine⟨v::vs,?_,Sw cW.1 hr,dy⟩
    rw [List.mapM_cons]
    have kx:(uw a.tmps rv).run P w=.ok v w:=by cases rv<;>exact hv
    simp [kx,mX]
theorem WI {P:Program} {N:Nat} {C:ZX} {a:Act} {w:World} {fn:Func} (s:St N C σ h a w) {cg:List ResultVar} (dy:fn.results=cg.toArray) {x:AV} (hx:ZY P σ h cg=some x)
  (cW:∀xs,x=.aF xs→xs.all AV.flat=true):∃v,(results fn a.tmps).run P w=.ok v w∧VY (QH C h w) w x v:=by
 have he:results fn a.tmps=(do let vs←fn.results.mapM (uw a.tmps);pure (if h:vs.size=1 then vs[0] else .tuple vs)):=by
  unfold results
  congr 1
 rw [he,dy]
 match cg,hx with
 |[rv],hx=>
  obtain⟨v,hv,hr⟩:=Hl s hx
  have kx:(uw a.tmps rv).run P w=.ok v w:=by cases rv<;>exact hv
  exact⟨v,by simp [kx],hr⟩
 |[],hx=>
  simp [ZY] at hx
  subst hx
  exact⟨.tuple #[],by simp,[],rfl,trivial⟩
 |r1::r2::cg,hx=>
  simp only [ZY] at hx
  cases h2:(r1::r2::cg).mapM (lz P σ h) with
  |none=>rw [h2] at hx;cases hx
  |some ys=>
   rw [h2] at hx
   injection hx with hx
   obtain⟨vs,mX,vH⟩:=IZ s _ ys h2 (cW ys hx.symm)
   subst hx
   have hl:vs.length=(r1::r2::cg).length:=by
    have k1:∀(xs:List AV) (us:List Value),ZN (QH C h w) w xs us→us.length=xs.length:=by
     intro xs
     induction xs with
     |nil=>intro us hr;cases us with
      |nil=>rfl
      |cons=>exact hr.elim
     |cons x xs ih=>intro us hr;cases us with
      |nil=>exact hr.elim
      |cons u us=>simp [ih us hr.2]
    have k2:∀(l:List ResultVar) (ys:List AV),l.mapM (lz P σ h)=some ys→ys.length=l.length:=by
     intro l
     induction l with
     |nil=>intro ys hy;simp at hy;subst hy;rfl
     |cons a l ih=>
      intro ys hy
      rw [List.mapM_cons] at hy
      cases e1:lz P σ h a with
      |none=>rw [e1] at hy;cases hy
      |some x=>
       rw [e1] at hy
       cases e2:l.mapM (lz P σ h) with
       |none=>rw [e2] at hy;cases hy
       |some zs=>
        rw [e2] at hy
        have:ys=x::zs:=by injection hy with hy;exact hy.symm
        subst this
        simp [ih zs e2]
    rw [k1 _ _ vH,k2 _ _ h2]
   refine⟨.tuple vs.toArray,?_,vs,rfl,vH⟩
   have hm:(Array.mapM (uw a.tmps) (r1::r2::cg).toArray).run P w=.ok vs.toArray w:=by
    rw [List.mapM_toArray]
    simp only [Sem.run_map,mX,Result.andThen_ok]
   simp only [Sem.run_bind,hm,Result.andThen_ok,Sem.run_pure]
   rw [dif_neg (by simp [hl])]
def C9 (C:ZX) (r:AV):Ending→World→Prop:=fun e w'=>∃v,e=.returned v∧VY (sX C w') w' r v∧Fr (fun _=>False) C.w0 w'
def Wn (P:Program) (fn:Func) (C:ZX) (r:AV):Vj:={P,N:=fn.ntmps,C,Q:=bodyPost P fn (C9 C r)}
theorem I0 {P:Program} {fn:Func} {C:ZX} {r x:AV} {a:Act} {w:World} (hC:∀b,¬C.bO b) (s:St fn.ntmps C σ h a w) {cg:List ResultVar} (dy:fn.results=cg.toArray) (hx:ZY P σ h cg=some x)
  (cW:∀xs,x=.aF xs→xs.all AV.flat=true) (le:mx h x r):a.defers=[]∧∃v,(results fn a.tmps).run P w=.ok v w∧C9 C r (.returned v) w:=by
 obtain⟨v,hv,hr⟩:=WI s dy hx cW
 refine⟨s.defers,v,hv,v,rfl,le.rep (fun g hg=>(s.keys g hg).resolve_left (hC g)) s.heap hr,?_⟩
 exact⟨s.frame.os,s.frame.tape,s.frame.output,s.frame.size,s.frame.drawn,fun b hb _=>s.frame.block b hb (hC b),s.frame.has⟩
theorem QtJ {P:Program} {fn:Func} {C:ZX} {r x:AV} {K:List It} (hC:∀b,¬C.bO b) {cg:List ResultVar} (dy:fn.results=cg.toArray) (hx:ZY P σ h cg=some x) (cW:∀xs,x=.aF xs→xs.all AV.flat=true)
 (le:mx h x r):aw (Wn P fn C r) (.code .ret::K) σ h:=fun a w s=>wp_ret (UV a w (I0 hC s dy hx cW le))
theorem QtK {P:Program} {fn:Func} {C:ZX} {r x:AV} (hC:∀b,¬C.bO b) {cg:List ResultVar} (dy:fn.results=cg.toArray) (hx:ZY P σ h cg=some x) (cW:∀xs,x=.aF xs→xs.all AV.flat=true)
 (le:mx h x r):aw (Wn P fn C r) [] σ h:=fun a w s=>I0 hC s dy hx cW le
def qx:AV→Bool
 |.aF xs=>xs.all AV.flat
 |_=>true
theorem Jb {x:AV} (hx:qx x=true):∀xs,x=.aF xs→xs.all AV.flat=true:=fun xs e=>by subst e;exact hx
theorem I1 {P:Program} {fn:Func} {C:ZX} {r:AV} {K:List It} (hC:∀b,¬C.bO b) {cg:List ResultVar} (dy:fn.results=cg.toArray) (k:∀R:Option AV→Prop,(∀x,qx x=true→mx h x r→R (some x))→R (ZY P σ h cg)):
  aw (Wn P fn C r) (.code .ret::K) σ h:=by
 have:=k (fun y=>y=ZY P σ h cg→aw (Wn P fn C r) (.code .ret::K) σ h) (fun x hf le e=>QtJ hC dy e.symm (Jb hf) le)
 exact this rfl
theorem Qq5 {P:Program} {fn:Func} {C:ZX} {r:AV} (hC:∀b,¬C.bO b) {cg:List ResultVar} (dy:fn.results=cg.toArray) (k:∀R:Option AV→Prop,(∀x,qx x=true→mx h x r→R (some x))→R (ZY P σ h cg)):
  aw (Wn P fn C r) [] σ h:=by
 have:=k (fun y=>y=ZY P σ h cg→aw (Wn P fn C r) [] σ h) (fun x hf le e=>QtK hC dy e.symm (Jb hf) le)
 exact this rfl
def ZD:Nat→List AV→Sl
 |_,[]=>[]
 |i,x::xs=>(i,x)::ZD (i+1) xs
theorem A3:∀(xs:List AV) (i t:Nat),(ZD i xs).get t=if i≤t then xs.getD (t-i) (.c .any) else .c .any
 |[],i,t=>by simp [ZD,Sl.get]
 |x::xs,i,t=>by
  simp only [ZD,Sl.get,A3 xs (i+1) t]
  by_cases h1:i=t
  ·subst h1;simp
  ·rw [iN h1]
   by_cases h2:i≤t
   ·have h3:i+1≤t:=by omega
    rw [iP h3,iP h2]
    have:t-i=(t-(i+1))+1:=by omega
    rw [this];simp
   ·rw [iN h2,iN om]
theorem ZN.getD {S:Bool→Nat→Prop} {w:World}:∀(xs:List AV) (vs:List Value),ZN S w xs vs→∀t,VY S w (xs.getD t (.c .any)) (vs.getD t undef)
 |[],[],_,t=>by simp;trivial
 |x::xs,v::vs,hr,0=>Sv hr.1
 |x::xs,v::vs,hr,t+1=>by simpa using ZN.getD xs vs hr.2 t
 |[],_::_,hr,_=>hr.elim
 |_::_,[],hr,_=>hr.elim
theorem ZN.len {S:Bool→Nat→Prop} {w:World}:∀{xs:List AV} {vs:List Value},ZN S w xs vs→vs.length=xs.length
 |[],[],_=>rfl
 |_::_,_::_,hr=>by simp [ZN.len hr.2]
 |[],_::_,hr=>hr.elim
 |_::_,[],hr=>hr.elim
theorem WJ {T:(Bool→Nat→Prop)→World→Prop} {P:Program} {f:FuncId} {fn:Func} {c:Code} {args:List AV} {r:AV} (hf:P.funcs[f]?=some fn) (hb:fn.body=some c) (hn:(fn.name== "runtime.NumGoroutine")=false) (hl:args.length≤fn.ntmps)
  (k:∀C:ZX,(∀b,¬C.bO b)→T C.S0 C.w0→aw (Wn P fn C r) [.code c] (ZD 0 args) []):kC T P f args r:=by
 refine⟨⟨fn,hf,by rw [hb];rfl,hn⟩,fun S w vs hm aD hT hr=> ?_⟩
 let C:ZX:={w0:=w,S0:=S,bO:=fun _=>False,mono:=hm,apart:=fun _ _ _ x=>x,lt:=aD}
 refine(calls_of_wp hf hb (R:=C9 C r) ?_).mono ?_
 ·have hk:=k C (fun _ x=>x) hT
  have kp:Yn S (QH C [] w) w w:=⟨fun t b hb=>⟨.inl hb,aD t b hb,by simp [Qa.keys]⟩,fun _ _ _=>rfl,fun _ _ x=>x⟩
  have hlen:=hr.len
  refine hk _ _ ⟨?_,rfl,fun t=> ?_,fun g o hm=>by simp at hm,by simp [Qa.keys],fun g hg=>by simp [Qa.keys] at hg,Fr.refl _ _⟩
  ·show(vs.toArray++Array.replicate (fn.ntmps-vs.toArray.size) undef).size=fn.ntmps
   simp;omega
  ·rw [A3]
   simp only [Lz,if_true,Nat.sub_zero]
   refine VY.aT kp ?_
   have h1:=ZN.getD args vs hr t
   have h2:(vs.toArray++Array.replicate (fn.ntmps-vs.toArray.size) undef).getD t undef=vs.getD t undef:=by
    rw [Array.getD_eq_getD_getElem?,Lg]
    by_cases ht:t<vs.length
    ·rw [Array.getElem?_append_left (by simpa using ht)];simp
    ·rw [Array.getElem?_append_right (by simpa using ht)]
     rw [List.getElem?_eq_none om]
     simp [Array.getElem?_replicate]
     split<;>rfl
   rw [h2]
   exact h1
 ·rintro e w' ⟨v,he,hr',bd⟩
  exact⟨v,he,hr',bd⟩
theorem OS {P:Program} {f:FuncId} {fn:Func} {c:Code} {args:List AV} {r:AV} (hf:P.funcs[f]?=some fn) (hb:fn.body=some c) (hn:(fn.name== "runtime.NumGoroutine")=false) (hl:args.length≤fn.ntmps)
 (k:∀C:ZX,(∀b,¬C.bO b)→aw (Wn P fn C r) [.code c] (ZD 0 args) []):Fa P f args r:=WJ hf hb hn hl fun C h _=>k C h
theorem VB {P:Program} {f:FuncId} {fn:Func} {c:Code} {args:List AV} {r:AV} (hf:P.funcs[f]?=some fn) (hb:fn.body=some c) (hn:(fn.name== "runtime.NumGoroutine")=false) (hl:args.length≤fn.ntmps)
 (k:∀C:ZX,(∀b,¬C.bO b)→C8 C→aw (Wn P fn C r) [.code c] (ZD 0 args) []):VA P f args r:=WJ hf hb hn hl k
end
end
section
variable {P : Program} {h : Qa} {ρ : Operand → AV}
def XM:IntKind→Int→Prop
 |.i64,x=> -9223372036854775808≤x∧x≤9223372036854775807
 |.u64,x=>0≤x∧x≤18446744073709551615
 |.u32,x=>0≤x∧x≤4294967295
 |.u8,x=>0≤x∧x≤255
 |_,_=>False
theorem XN {k:IntKind} {x:Int} (hx:XM k x):k.wrap x=x:=by
 cases k<;>simp only [XM] at hx
 ·rw [IntKind.wrap_i64];omega
 ·simp only [IntKind.wrap,IntKind.bits,IntKind.signed];simp;omega
 ·rw [IntKind.wrap_u32];omega
 ·rw [IntKind.wrap_u64];omega
noncomputable def hJ (nw:Bool) (op:BinOp) (k:IntKind) (a b:Int):Option (Prop×CV):=
 match nw,op with
 |true,.add=>some (XM k (a+b),.int k (a+b))
 |true,.sub=>some (XM k (a-b),.int k (a-b))
 |true,.mul=>some (XM k (a*b),.int k (a*b))
 |true,.shl=>none
 |_,_=>bX op k a b
theorem QB.hJ {nw:Bool} {op:BinOp} {t t':TypeId} {x y:Operand} {k:IntKind} {a b:Int} {req:Prop} {r:CV} (hx:ρ x=.c (.int k a)) (hy:ρ y=.c (.int k b))
  (hr:AI.hJ nw op k a b=some (req,r)) (aP:req):QB P h ρ (.binOp op t x y t') (.c r):=by
 cases nw with
 |false=>exact QB.bX hx hy (by simpa [AI.hJ] using hr) aP
 |true=>
  cases op
  case add=>
   simp only [AI.hJ,Aa,Ab] at hr
   obtain⟨rfl,rfl⟩:=hr
   exact QB.bX (req:=True) hx hy (by simp [AI.bX,QM,XN aP]) trivial
  case sub=>
   simp only [AI.hJ,Aa,Ab] at hr
   obtain⟨rfl,rfl⟩:=hr
   exact QB.bX (req:=True) hx hy (by simp [AI.bX,QM,XN aP]) trivial
  case mul=>
   simp only [AI.hJ,Aa,Ab] at hr
   obtain⟨rfl,rfl⟩:=hr
   exact QB.bX (req:=True) hx hy (by simp [AI.bX,QM,XN aP]) trivial
  case shl=>cases hr
  all_goals exact QB.bX hx hy hr aP
def sM:Operand→Bool
 |.const .nilIface=>true
 |_=>false
theorem Hm {x:Operand} (hx:sM x=true):x=.const .nilIface:=by
 unfold sM at hx
 split at hx
 ·rfl
 ·cases hx
def KN (a b:ByteArray):Bool:=a.toList==b.toList
theorem Vg (op:BinOp) (t:TypeId) (x y:Operand) (a b:ByteArray) (w:World):(eqGuard op t x y (.string a) (.string b)).run P w=.ok () w:=by
 unfold eqGuard
 cases op<;>simp
theorem Sx {t:TypeId} (a b:ByteArray) (w:World):(Go.binOp .eql t (.string a) (.string b)).run P w=.ok (.bool (KN a b)) w:=by
 unfold Go.binOp
 simp [Op.stringOp,KN]
theorem Sy {t:TypeId} (a b:ByteArray) (w:World):(Go.binOp .neq t (.string a) (.string b)).run P w=.ok (.bool (!KN a b)) w:=by
 unfold Go.binOp
 simp [Op.stringOp,KN]
theorem QB.eqStr {t t':TypeId} {x y:Operand} {a b:ByteArray} (hx:ρ x=.c (.str a)) (hy:ρ y=.c (.str b)):QB P h ρ (.binOp .eql t x y t') (.c (.bool (KN a b))):=fun S w e _ ho _=>by
 have h1:e x=.string a:=by have:=ho x Ag;rw [hx] at this;exact this
 have h2:e y=.string b:=by have:=ho y Ag;rw [hy] at this;exact this
 exact⟨.bool (KN a b),fun o au=>YD au (by rw [h1,h2];exact Vg ..) (by rw [h1,h2];exact Sx a b w),rfl⟩
theorem QB.sk {t t':TypeId} {x y:Operand} {a b:ByteArray} (hx:ρ x=.c (.str a)) (hy:ρ y=.c (.str b)):QB P h ρ (.binOp .neq t x y t') (.c (.bool (!KN a b))):=fun S w e _ ho _=>by
 have h1:e x=.string a:=by have:=ho x Ag;rw [hx] at this;exact this
 have h2:e y=.string b:=by have:=ho y Ag;rw [hy] at this;exact this
 exact⟨.bool (!KN a b),fun o au=>YD au (by rw [h1,h2];exact Vg ..) (by rw [h1,h2];exact Sy a b w),rfl⟩
theorem QB.qR {t t':TypeId} {x y:Operand} {a b:ByteArray} (hl:a.size+b.size≤9223372036854775807) (hx:ρ x=.c (.str a)) (hy:ρ y=.c (.str b)):QB P h ρ (.binOp .add t x y t') (.c (.str (a++b))):=fun S w e _ ho _=>by
 have h1:e x=.string a:=by have:=ho x Ag;rw [hx] at this;exact this
 have h2:e y=.string b:=by have:=ho y Ag;rw [hy] at this;exact this
 refine⟨.string (a++b),fun o au=>YD au (by rw [h1,h2];exact Vg ..) ?_,rfl⟩
 rw [h1,h2]
 have hn:¬(9223372036854775807:Int)<(a.size:Int)+(b.size:Int):=by omega
 simp [Go.binOp,Op.stringOp,hn]
def V4 (a b:ByteArray):Bool:=Op.bytesLess a.toList b.toList
theorem Hn:∀a b:List UInt8,(!(Op.bytesLess a b||a==b))=Op.bytesLess b a
 |[],[]=>rfl
 |[],_::_=>rfl
 |_::_,[]=>rfl
 |x::a,y::b=>by
  have ih:=Hn a b
  show(!((decide (x<y)||(x==y&&Op.bytesLess a b))||(x::a==y::b)))=(decide (y<x)||(y==x&&Op.bytesLess b a))
  rw [←ih,List.cons_beq_cons]
  by_cases h1:x=y
  ·subst h1
   have h2:¬x<x:=UInt8.lt_irrefl x
   simp [h2]
  ·have h2:(x==y)=false:=beq_eq_false_iff_ne.2 h1
   have h3:(y==x)=false:=beq_eq_false_iff_ne.2 fun e=>h1 e.symm
   rw [h2,h3]
   by_cases h4:x<y
   ·have h5:¬y<x:=fun h=>by have a1:x.toNat<y.toNat:=h4;have a2:y.toNat<x.toNat:=h;omega
    simp [h4,h5]
   ·have h5:y<x:=by
     have a1:¬x.toNat<y.toNat:=h4
     have a3:x.toNat≠y.toNat:=fun e=>h1 (UInt8.toNat_inj.1 e)
     show y.toNat<x.toNat
     omega
    simp [h4,h5]
theorem Sz {op:BinOp} {r:Bool} {t:TypeId} (a b:ByteArray) (w:World) (h:op=.lss∧r=V4 a b∨op=.leq∧r= !V4 b a∨op=.gtr∧r=V4 b a∨op=.geq∧r= !V4 a b):(Go.binOp op t (.string a) (.string b)).run P w=.ok (.bool r) w:=by
 have h1:=Hn a.toList b.toList
 rcases h with ⟨rfl,rfl⟩|⟨rfl,rfl⟩|⟨rfl,rfl⟩|⟨rfl,rfl⟩
 ·unfold Go.binOp
  simp [Op.stringOp,V4]
 ·unfold Go.binOp V4
  rw [←h1]
  simp [Op.stringOp]
 ·unfold Go.binOp V4
  rw [←h1]
  simp [Op.stringOp]
 ·unfold Go.binOp
  simp [Op.stringOp,V4]
theorem QB.iT {op:BinOp} {r:Bool} {t t':TypeId} {x y:Operand} {a b:ByteArray} (hc:op=.lss∧r=V4 a b∨op=.leq∧r= !V4 b a∨op=.gtr∧r=V4 b a∨op=.geq∧r= !V4 a b) (hx:ρ x=.c (.str a)) (hy:ρ y=.c (.str b)):QB P h ρ (.binOp op t x y t') (.c (.bool r)):=fun S w e _ ho _=>by
 have h1:e x=.string a:=by have:=ho x Ag;rw [hx] at this;exact this
 have h2:e y=.string b:=by have:=ho y Ag;rw [hy] at this;exact this
 exact⟨.bool r,fun o au=>YD au (by rw [h1,h2];exact Vg ..) (by rw [h1,h2];exact Sz a b w hc),rfl⟩
noncomputable def Ui (P:Program) (nw:Bool) (op:BinOp) (t:TypeId) (y:Operand):AV→AV→Option (Prop×AV)
 |.c (.int k a),.c (.int k' b)=>
  match op with
  |.shl=>(dY .shl k a b).map fun p=>(p.1,.c p.2)
  |.shr=>(dY .shr k a b).map fun p=>(p.1,.c p.2)
  |op=>if k=k' then(hJ nw op k a b).map fun p=>(p.1,.c p.2) else none
 |.c (.bool a),.c (.bool b)=>
  match op with
  |.eql=>some (o8 P t=true,.c (.bool (a==b)))
  |.neq=>some (o8 P t=true,.c (.bool (a !=b)))
  |_=>none
 |.c (.str a),.c (.str b)=>
  match op with
  |.eql=>some (True,.c (.bool (KN a b)))
  |.neq=>some (True,.c (.bool (!KN a b)))
  |.add=>some (a.size+b.size≤9223372036854775807,.c (.str (a++b)))
  |.lss=>some (True,.c (.bool (V4 a b)))
  |.leq=>some (True,.c (.bool (!V4 b a)))
  |.gtr=>some (True,.c (.bool (V4 b a)))
  |.geq=>some (True,.c (.bool (!V4 a b)))
  |_=>none
 |.c x,.c .aN=>
  match op,sM y,eb x with
  |.eql,true,some b=>some (OQ P t=true,.c (.bool b))
  |.neq,true,some b=>some (OQ P t=true,.c (.bool !b))
  |_,_,_=>none
 |_,_=>none
def xR (P:Program) (t:TypeId) (h:Qa):AV→Option (Prop×AV)
 |.c (.eR m f)=>match XC P t with
  |some (true,n)=>some (n≤m,.agg (Yy f 0 0 n))
  |some (false,1)=>some (1≤m,.c (f 0))
  |_=>none
 |.c (.aj g off)=>match h.get g,XC P t with
  |some (.cells _ m f),some (true,n)=>some (off+n≤m,.agg (Yy f off 0 n))
  |some (.cells _ m f),some (false,1)=>some (off+1≤m,.c (f off))
  |_,_=>none
 |_=>none
def B8 (P:Program) (t:TypeId):AV→AV→Option (Prop×AV)
 |.c (.row _ s n f),.c (.int _ i)=>match QP P t with
  |some (_,size,_)=>some (s=size∧0<size∧0≤i∧i<n,.c (.eR s fun j=>f (i.toNat*s+j)))
  |none=>none
 |.c (.aO g s off n),.c (.int _ i)=>match QP P t with
  |some (_,size,_)=>some (s=size∧0≤i∧i<n,.c (.aj g (off+i.toNat*s)))
  |none=>none
 |_,_=>none
def B9 (P:Program) (t i:Nat):AV→Option (Prop×AV)
 |.c (.aj g o)=>(Qo P t i).map fun off=>(True,.c (.aj g (o+off)))
 |.c (.eR n f)=>(Qo P t i).map fun off=>(off≤n,.c (.eR (n-off) fun j=>f (off+j)))
 |_=>none
theorem QB.iM {x:Operand} {g off:Nat} (hx:ρ x=.c (.aj g off)):QB P h ρ (.nilCheck x) (.c (.aj g off)):=fun S w e _ ho _=>by
 have h1:=ho x Ag
 rw [hx] at h1
 have h2:e x=.pointer (some ⟨g,off,none⟩):=h1
 exact⟨_,fun o au=>by simp only [execOp,au,h2];rfl,rfl⟩
def wide:IntKind→IntKind→Bool
 |.u32,.u64=>true
 |.u32,.i64=>true
 |.u8,.i64=>true
 |.u8,.u64=>true
 |_,_=>false
noncomputable def OT (P:Program) (nw:Bool) (h:Qa) (ρ:Operand→AV):Op→Option (Prop×AV)
 |.move x=>some (True,ρ x)
 |.assign x=>some (True,ρ x)
 |.pick c a b=>match ρ c with
  |.c (.bool t)=>some (True,OR t (ρ a) (ρ b))
  |_=>none
 |.binOp op t x y _=>Ui P nw op t y (ρ x) (ρ y)
 |.unOp .not _ x=>match ρ x with
  |.c (.bool b)=>some (True,.c (.bool !b))
  |_=>none
 |.unOp .neg _ x=>match ρ x with
  |.c (.int k n)=>some (True,.c (.int k (Xz k (0-n))))
  |_=>none
 |.convert s d x=>match ZC P s,ZC P d,ρ x with
  |some _,some k',.c (.int ks n)=>if wide ks k' then some (XM k' n,.c (.int k' n)) else some (True,.c (.int k' (Xz k' n)))
  |_,_,_=>none
 |.extract x i=>match ρ x with
  |.aF xs=>(xs[i]?).map fun y=>(True,y)
  |_=>none
 |.makeInterface t x=>match ZC P t,ρ x with
  |some _,.c c=>some (True,.c (.eZ t c))
  |_,_=>none
 |.load t a=>xR P t h (ρ a)
 |.slice t x lo hi none=>ue P ρ t x lo hi
 |.build t ⟨ps⟩=>uf P ρ t ps
 |.nilCheck x=>match ρ x with
  |.c (.aj g off)=>some (True,.c (.aj g off))
  |_=>none
 |.fieldAddr t x i=>B9 P t i (ρ x)
 |.indexAddr t x ix=>B8 P t (ρ x) (ρ ix)
 |.call {callee:=.builtin .len,args:=⟨[x]⟩,argTypes:=⟨[t]⟩}=>match QP P t,ρ x with
  |some _,.c c=>(oc c).map fun(n:Nat)=>(True,.c (.int .i64 (n:Int)))
  |_,_=>none
 |.call {callee:=.builtin .max,args:=⟨[x,y]⟩,argTypes:=⟨[_,_]⟩}=>match ρ x,ρ y with
  |.c (.int k a),.c (.int k' b)=>some (k=k',.c (.int k (if b>a then b else a)))
  |_,_=>none
 |.call {callee:=.builtin .min,args:=⟨[x,y]⟩,argTypes:=⟨[_,_]⟩}=>match ρ x,ρ y with
  |.c (.int k a),.c (.int k' b)=>some (k=k',.c (.int k (if b<a then b else a)))
  |_,_=>none
 |_=>none
theorem Ho {nw:Bool} {op:BinOp} {t t':TypeId} {x y:Operand} {req:Prop} {r:AV} (hk:∀v,ρ (.const v)=qU v) (hb:Ui P nw op t y (ρ x) (ρ y)=some (req,r)) (aP:req):QB P h ρ (.binOp op t x y t') r:=by
 unfold Ui at hb
 split at hb
 ·rename_i k a k' b hx hy
  split at hb
  ·simp only [dY,Option.map_some,Aa,Ab] at hb
   obtain⟨rfl,rfl⟩:=hb
   exact QB.dY hx hy rfl aP
  ·simp only [dY,Option.map_some,Aa,Ab] at hb
   obtain⟨rfl,rfl⟩:=hb
   exact QB.dY hx hy rfl aP
  ·split at hb
   ·rename_i e
    subst e
    cases hi:hJ nw op k a b with
    |none=>rw [hi] at hb;cases hb
    |some p=>
     rw [hi] at hb
     simp only [Option.map_some,Aa,Ab] at hb
     obtain⟨rfl,rfl⟩:=hb
     exact QB.hJ hx hy hi aP
   ·cases hb
 ·rename_i a b hx hy
  split at hb
  ·simp only [Aa,Ab] at hb
   obtain⟨rfl,rfl⟩:=hb
   exact QB.qW aP hx hy
  ·simp only [Aa,Ab] at hb
   obtain⟨rfl,rfl⟩:=hb
   exact QB.oW aP hx hy
  ·cases hb
 ·rename_i a b hx hy
  split at hb
  ·simp only [Aa,Ab] at hb
   obtain⟨rfl,rfl⟩:=hb
   exact QB.eqStr hx hy
  ·simp only [Aa,Ab] at hb
   obtain⟨rfl,rfl⟩:=hb
   exact QB.sk hx hy
  ·simp only [Aa,Ab] at hb
   obtain⟨rfl,rfl⟩:=hb
   exact QB.qR aP hx hy
  ·simp only [Aa,Ab] at hb
   obtain⟨rfl,rfl⟩:=hb
   exact QB.iT (.inl ⟨rfl,rfl⟩) hx hy
  ·simp only [Aa,Ab] at hb
   obtain⟨rfl,rfl⟩:=hb
   exact QB.iT (.inr (.inl ⟨rfl,rfl⟩)) hx hy
  ·simp only [Aa,Ab] at hb
   obtain⟨rfl,rfl⟩:=hb
   exact QB.iT (.inr (.inr (.inl ⟨rfl,rfl⟩))) hx hy
  ·simp only [Aa,Ab] at hb
   obtain⟨rfl,rfl⟩:=hb
   exact QB.iT (.inr (.inr (.inr ⟨rfl,rfl⟩))) hx hy
  ·cases hb
 ·rename_i c hx hy
  split at hb
  ·rename_i b hn hc
   simp only [Aa,Ab] at hb
   obtain⟨rfl,rfl⟩:=hb
   obtain rfl:=Hm hn
   exact QB.uL aP hx hc hy
  ·rename_i b hn hc
   simp only [Aa,Ab] at hb
   obtain⟨rfl,rfl⟩:=hb
   obtain rfl:=Hm hn
   exact QB.sj aP hx hc hy
  ·cases hb
 ·cases hb
theorem Qmq {t:TypeId} {a:Operand} {req:Prop} {r:AV} (hb:xR P t h (ρ a)=some (req,r)) (aP:req):QB P h ρ (.load t a) r:=by
 unfold xR at hb
 split at hb
 ·rename_i m f ha
  split at hb
  ·rename_i n ht
   simp only [Aa,Ab] at hb
   obtain⟨rfl,rfl⟩:=hb
   exact QB.qj ht (fun e=>by cases e) ha aP
  ·rename_i ht
   simp only [Aa,Ab] at hb
   obtain⟨rfl,rfl⟩:=hb
   exact QB.qj ht (fun _=>rfl) ha aP
  ·cases hb
 ·rename_i g off ha
  split at hb
  ·rename_i ty m f n hg ht
   simp only [Aa,Ab] at hb
   obtain⟨rfl,rfl⟩:=hb
   exact QB.qi ht (fun e=>by cases e) ha hg aP
  ·rename_i ty m f hg ht
   simp only [Aa,Ab] at hb
   obtain⟨rfl,rfl⟩:=hb
   exact QB.qi ht (fun _=>rfl) ha hg aP
  ·cases hb
 ·cases hb
theorem A4 {nw:Bool} {op:Op} {req:Prop} {r:AV} (hk:∀v,ρ (.const v)=qU v) (hb:OT P nw h ρ op=some (req,r)) (aP:req):QB P h ρ op r:=by
 unfold OT at hb
 split at hb
 ·simp only [Aa,Ab] at hb;obtain⟨rfl,rfl⟩:=hb;exact QB.move _
 ·simp only [Aa,Ab] at hb;obtain⟨rfl,rfl⟩:=hb;exact QB.assign _
 ·split at hb
  ·rename_i hc
   simp only [Aa,Ab] at hb;obtain⟨rfl,rfl⟩:=hb;exact QB.pick hc
  ·cases hb
 ·exact Ho hk hb aP
 ·split at hb
  ·rename_i hx
   simp only [Aa,Ab] at hb;obtain⟨rfl,rfl⟩:=hb;exact QB.not hx
  ·cases hb
 ·split at hb
  ·rename_i hx
   simp only [Aa,Ab] at hb;obtain⟨rfl,rfl⟩:=hb;exact QB.neg hx
  ·cases hb
 ·split at hb
  ·rename_i hs hd hx
   split at hb
   ·simp only [Aa,Ab] at hb;obtain⟨rfl,rfl⟩:=hb
    have:=QB.convert (h:=h) hs hd hx
    rwa [QM,XN aP] at this
   ·simp only [Aa,Ab] at hb;obtain⟨rfl,rfl⟩:=hb;exact QB.convert hs hd hx
  ·cases hb
 ·split at hb
  ·rename_i i _ xs hx
   cases hi:xs[i]? with
   |none=>rw [hi] at hb;cases hb
   |some y=>
    rw [hi] at hb
    simp only [Option.map_some,Aa,Ab] at hb;obtain⟨rfl,rfl⟩:=hb;exact QB.extract hx hi
  ·cases hb
 ·split at hb
  ·rename_i ht hx
   simp only [Aa,Ab] at hb;obtain⟨rfl,rfl⟩:=hb;exact QB.makeInterface ht hx
  ·cases hb
 ·exact Qmq hb aP
 ·exact Fz hb aP
 ·exact Fu hb aP
 ·split at hb
  ·rename_i hx
   simp only [Aa,Ab] at hb;obtain⟨rfl,rfl⟩:=hb;exact QB.iM hx
  ·cases hb
 ·rename_i t x i
  unfold B9 at hb
  split at hb
  ·rename_i g o hx
   cases hf:Qo P t i with
   |none=>rw [hf] at hb;cases hb
   |some off=>
    rw [hf] at hb
    simp only [Option.map_some,Aa,Ab] at hb;obtain⟨rfl,rfl⟩:=hb;exact QB.qX hf hx
  ·rename_i n f hx
   cases hf:Qo P t i with
   |none=>rw [hf] at hb;cases hb
   |some off=>
    rw [hf] at hb
    simp only [Option.map_some,Aa,Ab] at hb;obtain⟨rfl,rfl⟩:=hb;exact QB.qY hf hx aP
  ·cases hb
 ·unfold B8 at hb
  split at hb
  ·rename_i hx ki
   split at hb
   ·rename_i ht
    simp only [Aa,Ab] at hb;obtain⟨rfl,rfl⟩:=hb
    obtain⟨rfl,hz,h0,hl⟩:=aP
    exact QB.sh ht hx ki h0 hl hz
   ·cases hb
  ·rename_i hx ki
   split at hb
   ·rename_i ht
    simp only [Aa,Ab] at hb;obtain⟨rfl,rfl⟩:=hb
    obtain⟨rfl,h0,hl⟩:=aP
    exact QB.sg ht hx ki h0 hl
   ·cases hb
  ·cases hb
 ·split at hb
  ·rename_i x t _ _ _ c ht hx
   cases hn:oc c with
   |none=>rw [hn] at hb;cases hb
   |some n=>
    rw [hn] at hb
    simp only [Option.map_some,Aa,Ab] at hb;obtain⟨rfl,rfl⟩:=hb
    exact QB.lV ht hx hn
  ·cases hb
 ·split at hb
  ·rename_i hx hy
   simp only [Aa,Ab] at hb;obtain⟨rfl,rfl⟩:=hb
   subst aP
   exact QB.max2 hx hy
  ·cases hb
 ·split at hb
  ·rename_i hx hy
   simp only [Aa,Ab] at hb;obtain⟨rfl,rfl⟩:=hb
   subst aP
   exact QB.min2 hx hy
  ·cases hb
 ·cases hb
theorem Qwv {E:Vj} {K:List It} {σ σ':Sl} {h:Qa} {all rest:List Oper} {o:Oper} (nw:Bool) {req:Prop} {r:AV} (hb:OT E.P nw h (ev σ) o.op=some (req,r)) (aP:req) (gX:σ.az o.dst r=σ')
  (hw:Qu all σ o=some true) (hd:Qs E.N o.dst=true) (k:aw E (.ops all rest::K) σ' h):aw E (.ops all (o::rest)::K) σ h:=
 xK hw (A4 (fun _=>rfl) hb aP) hd gX k
end
section
noncomputable def JV (P:Program) (nw:Bool) (h:Qa) (all:List Oper):List Oper→Prop→Sl→Option (Prop×Sl)
 |[],q,σ=>some (q,σ)
 |o::rest,q,σ=>match Qu all σ o with
  |some true=>match OT P nw h (ev σ) o.op with
   |some (q1,r)=>JV P nw h all rest (q∧q1) (σ.az o.dst r)
   |none=>none
  |some false=>JV P nw h all rest q (σ.az o.dst (.aF []))
  |none=>none
def CJ (N:Nat) (l:List Oper):Bool:=l.all fun o=>Qs N o.dst
section
variable {E : Vj} {K : List It} {σ σ' : Sl} {h : Qa} {all rest : List Oper} {o : Oper}
theorem Bn {P:Program} {nw:Bool}:∀(l:List Oper) (q:Prop) (σ σ':Sl) (q':Prop),JV P nw h all l q σ=some (q',σ')→q'→q
 |[],q,σ,σ',q',hr,hq=>by
  simp only [JV,Aa,Ab] at hr
  rw [hr.1];exact hq
 |o::l,q,σ,σ',q',hr,hq=>by
  unfold JV at hr
  split at hr
  ·split at hr
   ·exact(Bn l _ _ _ _ hr hq).1
   ·cases hr
  ·exact Bn l _ _ _ _ hr hq
  ·cases hr
theorem A5 (nw:Bool):∀(l:List Oper) (q:Prop) (σ σ':Sl) (q':Prop),JV E.P nw h all l q σ=some (q',σ')→q'→CJ E.N l=true→aw E (.ops all rest::K) σ' h→aw E (.ops all (l++rest)::K) σ h
 |[],q,σ,σ',q',hr,_,_,k=>by
  simp only [JV,Aa,Ab] at hr
  rw [hr.2]
  exact k
 |o::l,q,σ,σ',q',hr,hq,hd,k=>by
  simp only [CJ,List.all_cons,Ba] at hd
  unfold JV at hr
  split at hr
  ·rename_i hw
   split at hr
   ·rename_i q1 r hp
    exact Qwv nw hp (Bn l _ _ _ _ hr hq).2 rfl hw hd.1 (A5 nw l _ _ _ q' hr hq hd.2 k)
   ·cases hr
  ·rename_i hw
   exact Fv hw hd.1 rfl (A5 nw l _ _ _ q' hr hq hd.2 k)
  ·cases hr
theorem NF {id:Nat} {l:List Oper} (nw:Bool) {q:Prop} (hr:JV E.P nw h l l True σ=some (q,σ')) (hq:q) (hd:CJ E.N l=true) (k:aw E K σ' h):aw E (.code (.region id l.toArray false)::K) σ h:=
 YW (by have:=A5 (E:=E) (K:=K) (h:=h) (all:=l) (rest:=[]) nw l True σ σ' q hr hq hd (XP k);simpa using this)
def Vl (f:Nat→CV) (off:Nat):List CV→Nat→CV
 |[]=>f
 |c::cs=>Vl (fun j=>if j=off then c else f j) (off+1) cs
def dh (cs:Array Value) (k:Nat):List Value→Array Value
 |[]=>cs
 |u::us=>dh (cs.setIfInBounds k u) (k+1) us
theorem A6 (us:List Value):∀(cs:Array Value) (k:Nat),(dh cs k us).size=cs.size:=by
 induction us with
 |nil=>intro cs k;rfl
 |cons u us ih=>intro cs k;simp [dh,ih]
theorem Bo {S:Bool→Nat→Prop} {w:World} {n:Nat}:∀(vs:List CV) (us:List Value) (cs:Array Value) (f:Nat→CV) (k:Nat),XV S w vs us→n≤cs.size→(∀j,j<n→∃u,cs[j]?=some u∧XQ S w (f j) u)→
  ∀j,j<n→∃u,(dh cs k us)[j]?=some u∧XQ S w (Vl f k vs j) u
 |[],[],cs,f,k,_,_,hc=>hc
 |c::vs,u::us,cs,f,k,hr,hn,hc=>by
  refine Bo vs us _ _ (k+1) hr.2 (by simpa using hn) (fun j hj=> ?_)
  by_cases e:j=k
  ·subst e
   exact⟨u,by simp [show j<cs.size from by omega],by simpa using hr.1⟩
  ·obtain⟨x,hx,hxr⟩:=hc j hj
   exact⟨x,by rw [Array.getElem?_setIfInBounds_ne (fun e'=>e e'.symm)];exact hx,by simpa [e] using hxr⟩
 |[],_::_,_,_,_,hr,_,_=>hr.elim
 |_::_,[],_,_,_,hr,_,_=>hr.elim
theorem Jc {P:Program} {g:Nat} {ty:TypeId}:∀(us:List Value) (w:World) (cs:Array Value) (off i:Nat),w.heap[g]?=some (.cells cs ty (0,0))→off+i+us.length≤cs.size→(∀u∈us,u.oneCell'=true)→
  ∃w',(storeCells ⟨g,off,none⟩ us i).run P w=.ok () w'∧w'.heap[g]?=some (.cells (dh cs (off+i) us) ty (0,0))∧Fr (fun b=>b=g) w w'
 |[],w,cs,off,i,hb,_,_=>⟨w,by simp [storeCells],hb,Fr.refl _ _⟩
 |u::us,w,cs,off,i,hb,hl,h1=>by
  simp only [Lc] at hl
  have hc:w.cell? ⟨g,off+i,none⟩=some (cs[off+i]'om):=by rw [YX hb];exact Array.getElem?_eq_getElem _
  have hz:w.frozen? ⟨g,off+i,none⟩=false:=by simp [World.frozen?,hb]
  have cm:(w.setCell ⟨g,off+i,none⟩ u).heap[g]?=some (.cells (cs.setIfInBounds (off+i) u) ty (0,0)):=by
   simp [World.setCell,Array.getElem?_modify,hb]
  obtain⟨w',aR,kJ,bd⟩:=Jc us (w.setCell ⟨g,off+i,none⟩ u) _ off (i+1) cm (by simp;omega) (fun x hx=>h1 x (Lm _ hx))
  refine⟨w',?_,by simpa [dh,Nat.add_assoc] using kJ,(Fr.setCell w _ u (own:=fun b=>b=g) rfl).trans bd (fun x hx _=>hx)⟩
  simp only [storeCells,Sem.run_bind,Zr,run_store P w _ u _ (h1 u (by simp)),hc,hz]
  simpa using aR
theorem St.setObj {N:Nat} {C:ZX} {a:Act} {w w':World} {g:Nat} {ob ob':XS} (s:St N C σ h a w) (hg:h.get g=some ob) (bd:Fr (fun b=>b=g) w w') (ho:YN (QH C (h.set g ob') w') w' g ob'):
  St N C σ (h.set g ob') a w':=by
 have gU:g∈h.keys:=List.mem_map.2 ⟨_,Qa.get_mem hg,rfl⟩
 have hk:(h.set g ob').keys=h.keys:=Qa.gE _ _ _
 have kp:Yn (QH C h w) (QH C (h.set g ob') w') w w':=
  ⟨fun t b hb=>⟨hb.1,Ae hb.2.1 bd.size,by rw [hk];exact hb.2.2⟩,fun t b hb=>bd.block b hb.2.1 (fun e=>hb.2.2 (e▸gU)),bd.has⟩
 refine⟨s.size,s.defers,fun t=>VY.aT kp (s.bC t),fun g' o' hm=> ?_,by rw [hk];exact s.nodup,by rw [hk];exact s.keys,?_⟩
 ·rcases Qa.mem_set s.nodup hm with e|⟨lK,aK⟩
  ·cases e;exact ho
  ·have h1:=s.heap g' o' lK
   exact YN.aT kp (bd.block g' h1.lt aK) h1
 ·refine s.frame.trans bd (fun x hx aD=> ?_)
  subst hx
  exact(s.keys _ gU).resolve_right om
theorem Kn {t g off m n:Nat} {ty:TypeId} {ag:Bool} {f:Nat→CV} {a x:Operand} {v:AV} {h':Qa} (au:o.op=.store t a x) (hw:Qu all σ o=some true) (hd:Qs E.N o.dst=true) (hY:o.dst=none) (ha:ev σ a=.c (.aj g off)) (hx:ev σ x=v)
  (hg:h.get g=some (.cells ty m f)) (ht:XC E.P t=some (ag,n)) (gj:∀xs,v≠.aF xs) (hs:v.cells.all CV.aX=true) (hlen:v.cells.length=n) (hle:off+n≤m)
  (hh:h.set g (.cells ty m (Vl f off v.cells))=h') (k:aw E (.ops all rest::K) σ h'):aw E (.ops all (o::rest)::K) σ h:=by
 subst hh
 refine Kj hw (fun ac w s=> ?_) k
 have h1:=QN s a
 have h2:=QN s x
 rw [ha] at h1
 rw [hx] at h2
 have cU:ac.eval a=.pointer (some ⟨g,off,none⟩):=h1
 obtain⟨hL,oM⟩:=Oe gj hs h2
 obtain⟨cs,hb,hn,hj⟩:=s.heap g _ (Qa.get_mem hg)
 have gW:(ac.eval x).cells.toList.length=n:=by rw [hL.length,hlen]
 obtain⟨w',aR,kJ,bd⟩:=Jc (P:=E.P) (ac.eval x).cells.toList w cs off 0 hb om (fun u hu=>oM u (by simpa using hu))
 refine⟨undef,w',.inr ⟨?_,rfl⟩,?_⟩
 ·have bF:(ac.eval x).cells.size=n:=by rw [←gW];simp
  simp only [execOp,au,Instr.storeAt,Instr.sureAddr,cU,storeVar,Sem.run_bind,Sem.run_pure,Result.andThen_ok,(LK ht w).2,bF,ne_eq,not_true_eq_false,if_false,aR]
 ·have e:ac.put o.dst undef=ac:=by rw [hY];rfl
  rw [e]
  have gU:g∈h.keys:=List.mem_map.2 ⟨_,Qa.get_mem hg,rfl⟩
  have eV:(h.set g (.cells ty m (Vl f off v.cells))).keys=h.keys:=Qa.gE _ _ _
  have kp:Yn (QH E.C h w) (QH E.C (h.set g (.cells ty m (Vl f off v.cells))) w') w w':=
   ⟨fun t b hb=>⟨hb.1,Ae hb.2.1 bd.size,by rw [eV];exact hb.2.2⟩,fun t b hb=>bd.block b hb.2.1 (fun e=>hb.2.2 (e▸gU)),bd.has⟩
  refine s.setObj hg bd ⟨_,kJ,by rw [A6];exact hn,?_⟩
  have:=Bo v.cells (ac.eval x).cells.toList cs f (off+0) (hL.aT kp) hn (fun j ba=>by obtain⟨u,hu,hr⟩:=hj j ba;exact⟨u,hu,hr.aT kp⟩)
  simpa using this
end
end
section
section
variable {E : Vj} {K : List It} {σ σ' : Sl} {h : Qa} {all rest : List Oper} {o : Oper}
theorem Qoh (us:List Value):∀(cs:Array Value) (k j:Nat),k+us.length≤cs.size→(dh cs k us)[j]?=if k≤j∧j<k+us.length then us[j-k]? else cs[j]?:=by
 induction us with
 |nil=>intro cs k j _;simp [dh];omega
 |cons u us ih=>
  intro cs k j hl
  simp only [Lc] at hl
  rw [dh,ih _ _ _ (by simp;omega)]
  by_cases h1:k+1≤j∧j<k+1+us.length
  ·rw [iP h1,iP (by simp;omega)]
   have:j-k=(j-(k+1))+1:=by omega
   rw [this];simp
  ·rw [iN h1]
   by_cases h2:j=k
   ·subst h2
    rw [iP (by simp)]
    simp [show j<cs.size from by omega]
   ·rw [iN (by simp;omega),Array.getElem?_setIfInBounds_ne (fun e=>h2 e.symm)]
theorem Gd (us:List Value) (cs:Array Value) (hs:cs.size=us.length):dh cs 0 us=us.toArray:=by
 apply Array.ext_getElem?
 intro j
 rw [Qoh us cs 0 j om]
 by_cases hj:j<us.length
 ·rw [iP om];simp
 ·rw [iN om,Array.getElem?_eq_none om];simp;omega
theorem Qmr (us:List Value) (off:Nat):∀(cs:Array Value) (k:Nat),(us.zipIdx k).foldl (fun cs (p:Value×Nat)=>cs.setIfInBounds (off+p.2) p.1) cs=dh cs (off+k) us:=by
 induction us with
 |nil=>intro cs k;rfl
 |cons u us ih=>intro cs k;simp only [List.zipIdx_cons,List.foldl_cons,ih,dh,Nat.add_assoc]
theorem Ty (v:Value) (off:Nat) (cs:Array Value):v.cells.zipIdx.foldl (fun cs (c,j)=>cs.setIfInBounds (off+j) c) cs=dh cs off v.cells.toList:=by
 have:=Qmr v.cells.toList off cs 0
 rw [Nat.add_zero] at this
 rw [←this,←Array.foldl_toList]
 simp
def eF:Nat→List Value→List (Nat×Value)
 |_,[]=>[]
 |k,v::vs=>(k,v)::eF (k+1) vs
theorem Sr (us vs:List Value):∀(cs:Array Value) (k:Nat),dh cs k (us++vs)=dh (dh cs k us) (k+us.length) vs:=by
 induction us with
 |nil=>intro cs k;simp [dh]
 |cons u us ih=>intro cs k;simp only [Lq,dh,ih,Lc];congr 1;omega
theorem Bp (size:Nat):∀(vs:List Value) (k:Nat) (cs:Array Value),(∀v∈vs,v.cells.size=size)→(k+vs.length)*size≤cs.size→
  Instr.fill (fun i=>some (i*size,size)) cs (eF k vs)=some (dh cs (k*size) (vs.flatMap fun v=>v.cells.toList))
 |[],k,cs,_,_=>rfl
 |v::vs,k,cs,hv,hl=>by
  have h1:v.cells.size=size:=hv v (by simp)
  have h2:(k+(vs.length+1))*size=k*size+size+vs.length*size:=by rw [Nat.add_mul,Nat.add_mul];omega
  simp only [Lc] at hl
  simp only [eF,Instr.fill]
  rw [iN (by simp only [h1,ne_eq,not_true_eq_false,decide_false,Bool.false_or,Dq];omega),Ty]
  rw [Bp size vs (k+1) _ (fun x hx=>hv x (Lm _ hx)) (by rw [A6];rw [show k+1+vs.length=k+(vs.length+1) from by omega];exact hl)]
  simp only [List.flatMap_cons,Sr]
  congr 2
  rw [Nat.add_mul]
  simp [h1]
theorem XV.append {S:Bool→Nat→Prop} {w:World}:∀{xs ys:List CV} {us vs:List Value},XV S w xs us→XV S w ys vs→XV S w (xs++ys) (us++vs)
 |[],_,[],_,_,h2=>h2
 |_::_,_,_::_,_,h1,h2=>⟨h1.1,XV.append h1.2 h2⟩
 |[],_,_::_,_,h1,_=>h1.elim
 |_::_,_,[],_,h1,_=>h1.elim
theorem A7 {N:Nat} {C:ZX} {a:Act} {w:World} (s:St N C σ h a w) (size:Nat):∀(xs:List Operand),(∀x∈xs,(ev σ x).flat=true∧(ev σ x).cells.all CV.aX=true∧(ev σ x).cells.length=size)→
  XV (QH C h w) w ((xs.map (ev σ)).flatMap AV.cells) ((xs.map a.eval).flatMap fun v=>v.cells.toList)∧∀v∈xs.map a.eval,v.cells.size=size
 |[],_=>⟨trivial,by simp⟩
 |x::xs,hx=>by
  obtain⟨h1,h2,h3⟩:=hx x (by simp)
  obtain⟨hL,_⟩:=Oe (fun ys e=>by rw [e] at h1;cases h1) h2 (QN s x)
  obtain⟨r1,r2⟩:=A7 s size xs (fun y hy=>hx y (Lm _ hy))
  refine⟨by simpa using hL.append r1,?_⟩
  intro v hv
  simp only [Ld,Lb] at hv
  rcases hv with rfl|hv
  ·have:=hL.length;rw [h3] at this;simpa using this
  ·exact r2 v hv
def o9:Nat→List Operand→List (Nat×Operand)
 |_,[]=>[]
 |k,v::vs=>(k,v)::o9 (k+1) vs
theorem Br (e:Operand→Value):∀(xs:List Operand) (k:Nat),(o9 k xs).map (fun p=>(p.1,e p.2))=eF k (xs.map e)
 |[],_=>rfl
 |_::xs,k=>by simp [o9,eF,Br e xs (k+1)]
theorem Qw {t e size bytes len:Nat} {xs:List Operand} {cells:List CV} (au:o.op=.buildSlice t len (o9 0 xs).toArray) (hw:Qu all σ o=some true) (hd:Qs E.N o.dst=true) (ht:QP E.P t=some (e,size,bytes))
  (hz:(Qk E.P e).isSome=true) (hl:xs.length=len) (gw:len*size≤16777216) (pX:len≤16777216) (hx:∀x∈xs,(ev σ x).flat=true∧(ev σ x).cells.all CV.aX=true∧(ev σ x).cells.length=size) (hc:(xs.map (ev σ)).flatMap AV.cells=cells)
  (k:∀g,g∉h.keys→aw E (.ops all rest::K) (σ.az o.dst (.c (.aO g size 0 len))) ((g,.cells e (len*size) (ao cells))::h)):aw E (.ops all (o::rest)::K) σ h:=by
 subst hc
 refine UW (r:=fun g=>.c (.aO g size 0 len)) (ob:=.cells e (len*size) (ao ((xs.map (ev σ)).flatMap AV.cells))) hw hd (fun a w s=> ?_) k
 obtain⟨hu,inf,hi,bF,_⟩:=Q6 ht
 obtain⟨z,EY⟩:=Option.isSome_iff_exists.1 hz
 obtain⟨i',zv,hi',fQ,_⟩:=Yt EY
 rw [hi] at hi'
 injection hi' with hi'
 subst hi'
 obtain⟨hL,cn⟩:=A7 s size xs hx
 have lM:w.heap.size∉h.keys:=fun hm=>Nat.lt_irrefl _ (s.jZ hm)
 generalize mX:xs.map a.eval=vs at hL cn
 have rI:vs.length=len:=by rw [←mX];simpa using hl
 have cW:(vs.flatMap fun v=>v.cells.toList).length=len*size:=by
  rw [←rI]
  clear hL mX rI
  induction vs with
  |nil=>simp
  |cons v vs ih=>simp only [List.flatMap_cons,La,Lc,ih (fun x hx=>cn x (Lm _ hx)),Nat.add_mul];have:=cn v (by simp);simp [this];omega
 refine⟨.slice (some ⟨w.heap.size,0,none⟩) len len,w.alloc (.cells (vs.flatMap fun v=>v.cells.toList).toArray e),?_,Fr.alloc _ _ _,by simp,?_,?_⟩
 ·have hm:(Array.map (fun x:Nat×Operand=>(x.1,a.eval x.2)) (o9 0 xs).toArray).toList=eF 0 vs:=by
   rw [←mX,←Br];simp
  have jF:∀zc:Array Value,Instr.fill (fun i=>some (i*size,size)) ((Array.range (len*size)).map (fun x=>zc[x%zc.size]!)) (eF 0 vs)=some (vs.flatMap fun v=>v.cells.toList).toArray:=fun zc=>by
   rw [Bp size vs 0 _ cn (by simp [rI])]
   rw [Nat.zero_mul,Gd _ _ (by simp [cW])]
  simp only [execOp,au,Instr.buildSlice,Sem.run_bind,run_underlying hu,Result.andThen_ok,sizeOf,typeInfo,Sem.run_pure]
  simp only [run_program,hi,Result.andThen_ok,Sem.run_pure,bF]
  rw [iN om]
  rw [hm]
  by_cases h0:len*size=0
  ·rw [iP h0]
   simp only [Sem.run_bind,Sem.run_pure,Result.andThen_ok,jF]
   rfl
  ·rw [iN h0]
   simp only [Sem.run_bind,Sem.run_pure,Result.andThen_ok,zeroValue,typeInfo,run_program,hi,fQ,jF]
   rfl
 ·have hr:=Uh (C:=E.C) (w:=w) (ty:=e) (h':=((w.heap.size,XS.cells e (len*size) (ao ((xs.map (ev σ)).flatMap AV.cells)))::h)) (hL.aT (WH lM))
  have bS:((xs.map (ev σ)).flatMap AV.cells).length=len*size:=by rw [←hL.length,cW]
  rw [bS] at hr
  exact hr
 ·exact⟨len,rfl,Ac _,by unfold maxLen;omega,(vs.flatMap fun v=>v.cells.toList).toArray,e,⟨_,heap_alloc_new w _⟩,by simp [cW]⟩
end
end
section
section
variable {E : Vj} {K : List It} {σ σ' : Sl} {h : Qa} {all rest : List Oper} {o : Oper}
theorem Fq (l:List Value) (j:Nat) (hj:j<l.length) (S:Bool→Nat→Prop) (w:World):XQ S w (ao (l.map Oz) j) (l[j]):=by
 rw [Of (l.map Oz) j (Oz l[j]) (by simp [hj])]
 exact WE S w _
theorem KP {t e size bytes n c:Nat} {z:List CV} {xl xc:Operand} {kl kc:IntKind} {nl nc:Int} (au:o.op=.makeSlice t xl xc) (hw:Qu all σ o=some true) (hd:Qs E.N o.dst=true) (ht:QP E.P t=some (e,size,bytes))
  (hz:Qk E.P e=some z) (aY:z.length=size) (bw:0<size) (hl:ev σ xl=.c (.int kl nl)) (hc:ev σ xc=.c (.int kc nc)) (hn:nl=n) (nJ:nc=c) (jq:n≤c) (ed:bytes*c≤281474976710656) (DZ:c≤9223372036854775807)
  (k:∀g,g∉h.keys→aw E (.ops all rest::K) (σ.az o.dst (.c (.aO g size 0 n))) ((g,.cells e (c*size) (fun j=>ao z (j%size)))::h)):aw E (.ops all (o::rest)::K) σ h:=by
 refine UW (r:=fun g=>.c (.aO g size 0 n)) (ob:=.cells e (c*size) (fun j=>ao z (j%size))) hw hd (fun a w s=> ?_) k
 obtain⟨hu,inf,hi,bF,cY⟩:=Q6 ht
 obtain⟨i',zv,hi',fQ,rfl⟩:=Yt hz
 rw [hi] at hi'
 injection hi' with hi'
 subst hi'
 have h1:a.eval xl=.int kl n:=by have:=QN s xl;rw [hl,hn] at this;exact this
 have h2:a.eval xc=.int kc c:=by have:=QN s xc;rw [hc,nJ] at this;exact this
 have cm:(inf.bytes:Int)*(c:Int)≤281474976710656:=by
  have h:((inf.bytes*c:Nat):Int)≤281474976710656:=by rw [cY];omega
  rwa [Int.natCast_mul] at h
 have hr:=run_make (P:=E.P) w t e inf zv hu hi fQ kl kc n c om om cm om
 simp only [Int.toNat_natCast] at hr
 refine⟨.slice (some ⟨w.heap.size,0,none⟩) n c,w.alloc (.cells (madeCells zv.cells (c*inf.size)) e),?_,Fr.alloc _ _ _,by simp,?_,?_⟩
 ·simp only [execOp,au,h1,h2,Sem.run_bind,hr,Result.andThen_ok]
  rfl
 ·refine⟨_,heap_alloc_new w _,by rw [size_madeCells,bF];exact Ac _,fun j hj=> ?_⟩
  have im:zv.cells.size=size:=by simpa using aY
  have aD:j%size<zv.cells.size:=by rw [im];exact Nat.mod_lt _ bw
  refine⟨zv.cells[j%size],?_,?_⟩
  ·have jH:j%size<zv.cells.size:=aD
   simp only [madeCells,bF,im]
   simp [hj,jH,getElem!_pos]
  ·exact Fq zv.cells.toList (j%size) (by simpa using aD) _ _
 ·exact⟨c,rfl,jq,by unfold maxLen;omega,_,e,⟨_,heap_alloc_new w _⟩,by rw [size_madeCells,bF];simp⟩
inductive Src (h:Qa) (size:Nat):CV→Nat→(Nat→CV)→Prop
 |ab {f:Nat→CV}:Src h size .ab 0 f
 |row {t:Bool} {n:Nat} {f:Nat→CV}:Src h size (.row t size n f) n f
 |aO {g off n m:Nat} {ty:TypeId} {f f':Nat→CV}:h.get g=some (.cells ty m f')→off+n*size≤m→(∀j,j<n*size→f j=f' (off+j))→Src h size (.aO g size off n) n f
theorem Src.cells {S:Bool→Nat→Prop} {w:World} {size n:Nat} {x:CV} {f:Nat→CV} {v:Value} (hh:∀g o,(g,o)∈h→YN S w g o) (hs:Src h size x n f) (hr:XQ S w x v):
  ∃A c,v=.slice A n c∧(0<n*size→∃ad,A=some ad∧∀j,j<n*size→∃u,w.cell? (ad.add j)=some u∧XQ S w (f j) u):=by
 cases hs with
 |ab=>obtain⟨A,hv⟩:=hr;exact⟨A,0,hv,fun h0=>by simp at h0⟩
 |row=>obtain⟨A,c,hv,_,hn⟩:=hr;exact⟨A,c,hv,fun h0=>by obtain⟨ad,hA,_,hj⟩:=hn h0;exact⟨ad,hA,hj⟩⟩
 | @aO g off n m ty f f' hg hle hf=>
   obtain⟨c,hv,_,_,_⟩:=hr
   obtain⟨cs,hb,hn,hj⟩:=hh _ _ (Qa.get_mem hg)
   refine⟨_,c,hv,fun _=>⟨_,rfl,fun j bp=> ?_⟩⟩
   obtain⟨u,hu,hr⟩:=hj (off+j) om
   exact⟨u,by rw [Zr,YX hb];exact hu,by rw [hf j bp];exact hr⟩
theorem Kk {S:Bool→Nat→Prop} {w:World} {ad:Addr} {f:Nat→CV}:∀(n:Nat),(∀j,j<n→∃u,w.cell? (ad.add j)=some u∧XQ S w (f j) u)→
  ∃us:List Value,us.length=n∧(∀j u,us[j]?=some u→w.cell? (ad.add j)=some u∧XQ S w (f j) u)
 |0,_=>⟨[],rfl,fun j u e=>by simp at e⟩
 |n+1,hc=>by
  obtain⟨us,hl,hu⟩:=Kk n (fun j hj=>hc j om)
  obtain⟨u,h1,h2⟩:=hc n om
  refine⟨us++[u],by simp [hl],fun j x e=> ?_⟩
  rw [List.getElem?_append] at e
  split at e
  ·exact hu j x e
  ·rename_i hj
   have:j-us.length=0:=by
    rcases Nat.eq_zero_or_pos (j-us.length) with h0|h0
    ·exact h0
    ·rw [List.getElem?_eq_none (by simp;omega)] at e;cases e
   rw [this] at e
   simp at e
   subst e
   have ba:j=n:=by omega
   subst ba
   exact⟨h1,h2⟩
def Xs (f:Nat→CV) (m:Nat) (f2:Nat→CV) (j:Nat):CV:=if j<m then f j else f2 (j-m)
def Qa.del:Qa→Nat→Qa
 |[],_=>[]
 |(g',x)::h,g=>if g'=g then h else(g',x)::Qa.del h g
theorem Qa.db (h:Qa) (g:Nat):(h.del g).Sublist h:=by
 induction h with
 |nil=>exact .slnil
 |cons p h ih=>
  obtain⟨g',x⟩:=p
  unfold Qa.del
  split
  ·exact Ls _ _
  ·exact ih.cons_cons _
theorem Qa.fT (h:Qa) (g:Nat) (hn:h.keys.Nodup):g∉(h.del g).keys:=by
 induction h with
 |nil=>simp [Qa.del,Qa.keys]
 |cons p h ih=>
  obtain⟨g',x⟩:=p
  simp only [Qa.keys,Ld,List.nodup_cons] at hn
  unfold Qa.del
  split
  ·rename_i e;subst e;exact hn.1
  ·rename_i e
   simp only [Qa.keys,Ld,Lb,not_or]
   exact⟨fun e'=>e e'.symm,ih hn.2⟩
theorem Fr.setRow {w:World} {g:Nat} {cs cI:Array Value} {e:TypeId} (hg:w.heap[g]?=some (.cells cs e (0,0))) (hs:cI.size=cs.size):Fr (fun b=>b=g) w (w.setRow g cI):=by
 refine⟨rfl,rfl,rfl,by simp [World.setRow],Ac _,fun b _ hn=>setRow_other w g b cI hn,fun g1 m hh=> ?_⟩
 obtain⟨c1,t1,⟨f1,h1⟩,h2⟩:=hh
 by_cases aK:g1=g
 ·subst aK
  rw [hg] at h1
  injection h1 with h1
  injection h1 with h1 h3
  subst h1
  exact⟨cI,e,⟨_,setRow_heap w g1 cs cI e _ hg⟩,by rw [hs];exact h2⟩
 ·exact⟨c1,t1,⟨f1,(setRow_other w g g1 cI aK).trans h1⟩,h2⟩
theorem Tz {P:Program} {w:World} {t ty e size bytes n c k d g:Nat} {z:List CV} {cs:Array Value} {ad:Addr} {news:List Value} (ht:QP P t=some (e,size,bytes)) (hz:Qk P e=some z) (aY:z.length=size)
  (hb:w.heap[g]?=some (.cells cs e (0,0))) (cn:c*size≤cs.size) (jq:n≤c) (cE:c≤maxLen) (bZ:news.length=k*size) (cB:∀j u,news[j]?=some u→w.cell? (ad.add j)=some u) (h1:∀u∈news,u.oneCell'=true)
  (dn:n+k≤maxLen) (ed:(n+k)*bytes≤140737488355328):
  ∃g' c' w' cI,(Builtin.append_ #[t,t] ty #[.slice (some ⟨g,0,none⟩) n c,.slice (some ad) k d]).run P w=.ok (.slice (some ⟨g',0,none⟩) (n+k) c') w'∧w'.heap[g']?=some (.cells cI e (0,0))∧c'*size≤cI.size∧n+k≤c'∧c'≤maxLen∧
   (∀j,j<n*size→cI[j]?=cs[j]?)∧(∀j,j<k*size→cI[n*size+j]?=news[j]?)∧(g'=g∨g'=w.heap.size)∧Fr (fun b=>b=g) w w':=by
 obtain⟨hu,inf,hi,bF,cY⟩:=Q6 ht
 obtain⟨i',zv,hi',fQ,rfl⟩:=Yt hz
 rw [hi] at hi'
 injection hi' with hi'
 subst hi'
 subst bF
 subst cY
 have im:zv.cells.size=inf.size:=by simpa using aY
 have hmul:(n+k)*inf.size=n*inf.size+k*inf.size:=Nat.add_mul _ _ _
 have tz:n*inf.size≤cs.size:=Lt (Nm _ jq) cn
 have rh:n+k≤9223372036854775807:=by simp only [maxLen] at dn;omega
 by_cases iK:n+k≤c
 ·have ru:n*inf.size+news.length≤cs.size:=by rw [bZ,←Nat.add_mul];exact Lt (Nm _ iK) cn
  have hr:=run_append_room (P:=P) w t ty e inf hu hi g n c cs hb ad k d news bZ cB h1 iK ru
  refine⟨g,c,_,_,hr,setRow_heap w g cs _ e _ hb,?_,iK,cE,fun j hj=> ?_,fun j hj=> ?_,.inl rfl,Fr.setRow hb ?_⟩
  ·refine Lt cn ?_;simp only [List.size_toArray,La,List.length_take,List.length_drop,Array.length_toList];omega
  ·simp only [List.getElem?_toArray,Lo]
   rw [List.getElem?_append_left (by simp;omega),List.getElem?_take]
   simp [hj]
  ·simp only [List.getElem?_toArray,Lo]
   rw [List.getElem?_append_right (by simp;omega),List.getElem?_append_left (by simp;omega)]
   simp [Nat.min_eq_left tz]
  ·simp only [List.size_toArray,La,List.length_take,List.length_drop,Array.length_toList];omega
 ·have hold:∀j v,(cs.toList.take (n*inf.size))[j]?=some v→w.cell? ((⟨g,0,none⟩:Addr).add j)=some v:=by
   intro j v hv
   rw [Zr,YX hb,Nz]
   rw [List.getElem?_take] at hv
   split at hv
   ·simpa using hv
   ·cases hv
  have lP:(cs.toList.take (n*inf.size)).length=n*inf.size:=by simp;omega
  have hr:=run_append_grow (P:=P) w t ty e inf zv hu hi fQ ⟨g,0,none⟩ n c _ lP hold ad k d news bZ cB om om (growslice_fits om ed)
  have eu:=grownCap_ge w (n+k) c e
  refine⟨w.heap.size,_,_,_,hr,heap_alloc_new w.drew _,?_,eu,grownCap_le_maxLen w (n+k) c e dn,fun j hj=> ?_,fun j hj=> ?_,.inr rfl,?_⟩
  ·refine Nat.le_of_eq ?_
   simp only [Array.size_append,List.size_toArray,size_zeroCells,im,lP,bZ,←Nat.add_mul]
   congr 1
   omega
  ·rw [Array.append_assoc,Array.getElem?_append_left (by simp;omega)]
   simp [hj]
  ·rw [Array.append_assoc,Array.getElem?_append_right (by simp;omega),Array.getElem?_append_left (by simp;omega)]
   simp [Nat.min_eq_left tz]
  ·exact(Fr.drew (fun b=>b=g) w (w.drawn+1)).trans (Fr.alloc (fun _=>False) w.drew _) (fun x hx _=>hx.elim)
theorem Fw {P:Program} {w:World} {t ty e size bytes k d:Nat} {z:List CV} {A:Option Addr} {ad:Addr} {news:List Value} (ht:QP P t=some (e,size,bytes)) (hz:Qk P e=some z) (aY:z.length=size)
  (bZ:news.length=k*size) (cB:∀j u,news[j]?=some u→w.cell? (ad.add j)=some u) (hk:0<k) (dn:k≤maxLen) (ed:k*bytes≤140737488355328):
  ∃c' w' cI,(Builtin.append_ #[t,t] ty #[.slice A 0 0,.slice (some ad) k d]).run P w=.ok (.slice (some ⟨w.heap.size,0,none⟩) k c') w'∧w'.heap[w.heap.size]?=some (.cells cI e (0,0))∧c'*size≤cI.size∧k≤c'∧c'≤maxLen∧
   (∀j,j<k*size→cI[j]?=news[j]?)∧Fr (fun _=>False) w w':=by
 obtain⟨hu,inf,hi,bF,cY⟩:=Q6 ht
 obtain⟨i',zv,hi',fQ,rfl⟩:=Yt hz
 rw [hi] at hi'
 injection hi' with hi'
 subst hi'
 subst bF
 subst cY
 have im:zv.cells.size=inf.size:=by simpa using aY
 have rh:k≤9223372036854775807:=by simp only [maxLen] at dn;omega
 cases A with
 |none=>
  have hr:=run_append_nil (P:=P) w t ty e inf zv hu hi fQ ad k d news bZ cB hk om om
  have eu:=grownCap_ge w k 0 e
  refine⟨_,_,_,hr,heap_alloc_new w.drew _,?_,eu,grownCap_le_maxLen w k 0 e dn,fun j hj=> ?_,?_⟩
  ·refine Nat.le_of_eq ?_
   simp only [Array.size_append,List.size_toArray,size_zeroCells,im,bZ,←Nat.add_mul]
   congr 1
   omega
  ·rw [Array.getElem?_append_left (by simp;omega)]
   simp
  ·exact(Fr.drew (fun _=>False) w (w.drawn+1)).trans (Fr.alloc (fun _=>False) w.drew _) (fun x hx _=>hx.elim)
 |some ad0=>
  have hr:=run_append_grow (P:=P) w t ty e inf zv hu hi fQ ad0 0 0 [] (by simp) (by simp) ad k d news bZ cB om om (growslice_fits om (by simpa using ed))
  rw [Nz] at hr
  have eu:=grownCap_ge w k 0 e
  refine⟨_,_,_,hr,heap_alloc_new w.drew _,?_,eu,grownCap_le_maxLen w k 0 e dn,fun j hj=> ?_,?_⟩
  ·refine Nat.le_of_eq ?_
   simp only [Array.size_append,List.size_toArray,size_zeroCells,im,bZ,Lu,Nz,←Nat.add_mul]
   congr 1
   omega
  ·rw [Array.append_assoc,Array.getElem?_append_right (by simp),Array.getElem?_append_left (by simp;omega)]
   simp
  ·exact(Fr.drew (fun _=>False) w (w.drawn+1)).trans (Fr.alloc (fun _=>False) w.drew _) (fun x hx _=>hx.elim)
theorem St.replace {N:Nat} {C:ZX} {a:Act} {w w':World} {g g':Nat} {ob ob':XS} (s:St N C σ h a w) (hg:h.get g=some ob) (bd:Fr (fun b=>b=g) w w') (iV:g'=g∨g'=w.heap.size)
  (ho:Yn (QH C h w) (QH C ((g',ob')::h.del g) w') w w'→YN (QH C ((g',ob')::h.del g) w') w' g' ob'):St N C σ ((g',ob')::h.del g) a w'∧g'∉(h.del g).keys:=by
 have gU:g∈h.keys:=List.mem_map.2 ⟨_,Qa.get_mem hg,rfl⟩
 have dV:∀b,b∈(h.del g).keys→b∈h.keys:=fun b hb=>by
  obtain⟨p,hp,e⟩:=List.mem_map.1 hb
  exact List.mem_map.2 ⟨p,(Qa.db h g).subset hp,e⟩
 have hglt:=s.jZ gU
 have lN:g'∉(h.del g).keys:=by
  rcases iV with rfl|rfl
  ·exact Qa.fT h _ s.nodup
  ·exact fun hm=>Nat.lt_irrefl _ (s.jZ (dV _ hm))
 have kp:Yn (QH C h w) (QH C ((g',ob')::h.del g) w') w w':=by
  refine⟨fun t b hb=>⟨hb.1,Ae hb.2.1 bd.size,?_⟩,fun t b hb=>bd.block b hb.2.1 (fun e=>hb.2.2 (e▸gU)),bd.has⟩
  simp only [Qa.keys,Ld,Lb,not_or]
  refine⟨?_,fun hm=>hb.2.2 (dV b hm)⟩
  rcases iV with rfl|rfl
  ·exact fun e=>hb.2.2 (e▸gU)
  ·have:=hb.2.1;omega
 refine⟨⟨s.size,s.defers,fun t=>VY.aT kp (s.bC t),fun g1 o1 hm=> ?_,?_,fun g1 jU=> ?_,?_⟩,lN⟩
 ·simp only [Lb,Ab] at hm
  rcases hm with ⟨rfl,rfl⟩|hm
  ·exact ho kp
  ·have h1:=s.heap g1 o1 ((Qa.db h g).subset hm)
   have jI:g1∈(h.del g).keys:=List.mem_map.2 ⟨(g1,o1),hm,rfl⟩
   have aK:g1≠g:=fun e=>Qa.fT h g s.nodup (e▸jI)
   exact YN.aT kp (bd.block g1 h1.lt aK) h1
 ·simp only [Qa.keys,Ld,List.nodup_cons]
  exact⟨lN,((Qa.db h g).map _).nodup s.nodup⟩
 ·simp only [Qa.keys,Ld,Lb] at jU
  rcases jU with rfl|jU
  ·rcases iV with rfl|rfl
   ·exact s.keys _ gU
   ·right;exact s.frame.size
  ·exact s.keys g1 (dV _ jU)
 ·refine s.frame.trans bd (fun x hx aD=> ?_)
  subst hx
  exact(s.keys _ gU).resolve_right om
end
end
section
section
variable {E : Vj} {K : List It} {σ σ' : Sl} {h : Qa} {all rest : List Oper} {o : Oper}
theorem Ko {P:Program} {o:Oper} {s x:Operand} {t:TypeId} {e:Operand→Value} {w w':World} {v:Value} (au:o.op=.call {callee:=.builtin .append,args:= #[s,x],argTypes:= #[t,t]})
  (hr:(Builtin.append_ #[t,t] o.type #[e s,e x]).run P w=.ok v w'):(execOp e o).run P w=.ok (.value v) w':=by
 simp only [execOp,au,resolve,invoke,Go.builtin,Sem.run_bind,Sem.run_pure,Result.andThen_ok,List.map_toArray,Ld,List.map_nil,hr]
theorem YA {t e size bytes n k m g:Nat} {z:List CV} {f f2:Nat→CV} {s x:Operand} {cx:CV} {h2:Qa} (au:o.op=.call {callee:=.builtin .append,args:= #[s,x],argTypes:= #[t,t]}) (hw:Qu all σ o=some true) (hd:Qs E.N o.dst=true)
  (ht:QP E.P t=some (e,size,bytes)) (hz:Qk E.P e=some z) (aY:z.length=size) (bw:0<size) (hs:ev σ s=.c (.aO g size 0 n)) (hg:h.get g=some (.cells e m f)) (hm:n*size≤m) (hx:ev σ x=.c cx) (cl:Src h size cx k f2) (df:∀j,j<k*size→(f2 j).aX=true) (hk:0<k)
  (dn:n+k≤maxLen) (ed:(n+k)*bytes≤140737488355328) (tm:h.del g=h2)
  (kk:∀g',g'∉h2.keys→aw E (.ops all rest::K) (σ.az o.dst (.c (.aO g' size 0 (n+k)))) ((g',.cells e ((n+k)*size) (Xs f (n*size) f2))::h2)):aw E (.ops all (o::rest)::K) σ h:=fun a w st=>by
 subst tm
 have r1:=QN st s
 have r2:=QN st x
 rw [hs] at r1
 rw [hx] at r2
 obtain⟨c,fJ,jq,cE,Pb,RT,⟨_,cQ⟩,oB⟩:=r1
 obtain⟨cs,hb,hn,hj⟩:=st.heap g _ (Qa.get_mem hg)
 rw [hb] at cQ
 injection cQ with cQ
 injection cQ with cQ _
 subst cQ
 obtain⟨A,d,jr,hA⟩:=cl.cells st.heap r2
 obtain⟨ad,rfl,hc⟩:=hA (Nat.mul_pos hk bw)
 obtain⟨news,bZ,cB⟩:=Kk (k*size) hc
 obtain⟨g',c',w',cI,aR,cm,dS,ib,jC,hold,dx,iV,bd⟩:=Tz (P:=E.P) (ty:=o.type) (d:=d) ht hz aY hb (by simpa using oB) jq cE bZ (fun j u e=>(cB j u e).1)
  (fun u mn=>by
   obtain⟨j,dO,rfl⟩:=List.getElem_of_mem mn
   exact Ug (df j om) (cB j _ (Li dO)).2) dn ed
 have hmul:(n+k)*size=n*size+k*size:=Nat.add_mul _ _ _
 have rW:(n+k)*size≤cI.size:=Lt (Nm _ ib) dS
 obtain⟨iR,lN⟩:=st.replace (ob':=.cells e ((n+k)*size) (Xs f (n*size) f2)) hg bd iV (fun kp=>⟨cI,cm,rW,fun j bp=>by
  unfold Xs
  by_cases ba:j<n*size
  ·rw [iP ba,hold j ba]
   obtain⟨u,hu,hr⟩:=hj j om
   exact⟨u,hu,hr.aT kp⟩
  ·rw [iN ba]
   have pS:j-n*size<k*size:=by omega
   have:=dx (j-n*size) pS
   rw [show n*size+(j-n*size)=j from by omega] at this
   rw [this]
   have aD:j-n*size<news.length:=by omega
   exact⟨news[j-n*size],Li aD,(cB _ _ (Li aD)).2.aT kp⟩⟩)
 have st2:=iR.put hd (r:=.c (.aO g' size 0 (n+k))) (v:=.slice (some ⟨g',0,none⟩) (n+k) c') ⟨c',rfl,ib,jC,cI,e,⟨_,cm⟩,by simp [dS]⟩
 have dC:=kk g' lN _ _ st2
 show wpList _ _ _ _ _ _
 unfold wpList
 rw [iP (st.wanted hw)]
 refine .inl ?_
 unfold Oper.wp
 rw [Ko au (by rw [fJ,jr];exact aR)]
 exact dC
theorem UX {t e size bytes k:Nat} {z:List CV} {f2:Nat→CV} {s x:Operand} {cx:CV} (au:o.op=.call {callee:=.builtin .append,args:= #[s,x],argTypes:= #[t,t]}) (hw:Qu all σ o=some true) (hd:Qs E.N o.dst=true)
  (ht:QP E.P t=some (e,size,bytes)) (hz:Qk E.P e=some z) (aY:z.length=size) (bw:0<size) (hs:ev σ s=.c .ab) (hx:ev σ x=.c cx) (cl:Src h size cx k f2) (hk:0<k)
  (dn:k≤maxLen) (ed:k*bytes≤140737488355328)
  (kk:∀g',g'∉h.keys→aw E (.ops all rest::K) (σ.az o.dst (.c (.aO g' size 0 k))) ((g',.cells e (k*size) f2)::h)):aw E (.ops all (o::rest)::K) σ h:=by
 refine UW (r:=fun g=>.c (.aO g size 0 k)) (ob:=.cells e (k*size) f2) hw hd (fun a w st=> ?_) kk
 have r1:=QN st s
 have r2:=QN st x
 rw [hs] at r1
 rw [hx] at r2
 obtain⟨A0,fJ⟩:=r1
 obtain⟨A,d,jr,hA⟩:=cl.cells st.heap r2
 obtain⟨ad,rfl,hc⟩:=hA (Nat.mul_pos hk bw)
 obtain⟨news,bZ,cB⟩:=Kk (k*size) hc
 obtain⟨c',w',cI,aR,cm,dS,ib,jC,dx,bd⟩:=Fw (P:=E.P) (ty:=o.type) (d:=d) ht hz aY bZ (fun j u e=>(cB j u e).1) hk dn ed
 have aD:w.heap.size<w'.heap.size:=(Array.getElem?_eq_some_iff.1 cm).1
 have lM:w.heap.size∉h.keys:=fun hm=>Nat.lt_irrefl _ (st.jZ hm)
 have kp:Yn (QH E.C h w) (QH E.C ((w.heap.size,.cells e (k*size) f2)::h) w') w w':=
  ⟨fun t b hb=>⟨hb.1,Ae hb.2.1 bd.size,by
   have:=hb.2.1
   simp only [Qa.keys,Ld,Lb,not_or]
   exact⟨by omega,hb.2.2⟩⟩,fun t b hb=>bd.block b hb.2.1 (fun x=>x),bd.has⟩
 refine⟨_,w',Ko au (by rw [fJ,jr];exact aR),bd,aD,⟨cI,cm,Lt (Nm _ ib) dS,fun j bp=> ?_⟩,c',rfl,ib,jC,cI,e,⟨_,cm⟩,by simp [dS]⟩
 rw [dx j bp]
 have hl:j<news.length:=by omega
 exact⟨news[j],Li hl,(cB _ _ (Li hl)).2.aT kp⟩
theorem Wo {P:Program} {t ty e size bytes n c d:Nat} {A B:Option Addr} {w:World} (ht:QP P t=some (e,size,bytes)) (jq:n≤c):(Builtin.append_ #[t,t] ty #[.slice A n c,.slice B 0 d]).run P w=.ok (.slice A n c) w:=by
 obtain⟨hu,inf,hi,bF,cY⟩:=Q6 ht
 cases A<;>cases B<;>simp [Builtin.append_,run_underlying hu,sizeOf,typeInfo,hi,Builtin.lenOf,Builtin.firstCells,loadCells,loadCellsFrom,jq,storeCells]
def I2:CV→Bool
 |.ab=>true
 |.aO _ _ _ _=>true
 |_=>false
theorem Vm {t e size bytes:Nat} {f2:Nat→CV} {s x:Operand} {cs cx:CV} (au:o.op=.call {callee:=.builtin .append,args:= #[s,x],argTypes:= #[t,t]}) (hw:Qu all σ o=some true) (hd:Qs E.N o.dst=true)
  (ht:QP E.P t=some (e,size,bytes)) (hs:ev σ s=.c cs) (cq:I2 cs=true) (hx:ev σ x=.c cx) (cl:Src h size cx 0 f2) (gX:σ.az o.dst (.c cs)=σ')
  (kk:aw E (.ops all rest::K) σ' h):aw E (.ops all (o::rest)::K) σ h:=by
 subst gX
 refine Kj hw (fun a w st=> ?_) kk
 have r1:=QN st s
 have r2:=QN st x
 rw [hs] at r1
 rw [hx] at r2
 obtain⟨B,d,jr,_⟩:=cl.cells st.heap r2
 have fJ:∃A n c,a.eval s=.slice A n c∧n≤c:=by
  cases cs<;>simp only [I2,reduceCtorEq] at cq
  ·obtain⟨A,hv⟩:=r1;exact⟨A,0,0,hv,Ac _⟩
  ·obtain⟨c,hv,hle,_⟩:=r1;exact⟨_,_,c,hv,hle⟩
 obtain⟨A,n,c,fJ,jq⟩:=fJ
 refine⟨a.eval s,w,.inl (Ko au ?_),st.put hd r1⟩
 rw [fJ,jr]
 exact Wo ht jq
end
end
section
def looks (all:List Oper) (o:Oper):List Nat:=
 (o.op.operands.toList.filterMap fun|.tmp t=>some t|_=>none)++
 (match o.guard with
  |some (g,_)=>((all[g]?).bind (·.dst)).toList
  |none=>[])
def kG (o:Oper) (j:Nat):Bool:=o.after.any fun e=>e.on==j&&Region.binds .any e
def uv (l:List Oper) (i:Nat) (o:Oper):Bool:=
 (o.after.all fun e=> !Region.binds .any e||decide (e.on<i))&&
 (l.zipIdx.all fun(p,j)=>match p.dst with
  |none=>true
  |some d=>(!(looks l o).contains d||(if j<i then kG o j else if i<j then kG p i else true))&&(j==i||o.dst !=some d))
def Jd (l:List Oper):Bool:=l.zipIdx.all fun(o,i)=>uv l i o
def sJ (l:List Oper) (n:Nat):Bool:=l.zipIdx.all fun(o,i)=>decide (i<n)||(List.range i).all fun j=>kG o j
section
variable {E : Vj} {K : List It} {σ σ' : Sl} {h : Qa} {l : List Oper} {o : Oper}
def VZ (E:Vj) (h:Qa) (l:List Oper) (σ:Sl) (o:Oper) (r:AV):Prop:=
 Qs E.N o.dst=true∧∀(σ':Sl) (a:Act) (w:World) (Q:Exit→Act→World→Prop),(∀t∈looks l o,σ'.get t=σ.get t)→St E.N E.C σ' h a w→
  if Region.wanted o (yielded l.toArray a.tmps) then o.wp E.P a w (fun a' w'=>St E.N E.C (σ'.az o.dst r) h a' w') Q else r=.aF []
theorem XD {σ':Sl} {x:Operand} (hx:x∈o.op.operands) (hs:∀t∈looks l o,σ'.get t=σ.get t):ev σ' x=ev σ x:=by
 cases x with
 |tmp t=>exact hs t (by
  unfold looks
  refine List.mem_append_left _ (List.mem_filterMap.2 ⟨.tmp t,by simpa using hx,rfl⟩))
 |const v=>rfl
 |global g=>rfl
 |func f=>rfl
theorem Xg {σ':Sl} (hs:∀t∈looks l o,σ'.get t=σ.get t):Qu l σ' o=Qu l σ o:=by
 unfold Qu
 cases hg:o.guard with
 |none=>rfl
 |some p=>
  obtain⟨j,want⟩:=p
  simp only
  cases hj:(l[j]?).bind (·.dst) with
  |none=>rfl
  |some t=>
   have:σ'.get t=σ.get t:=hs t (by unfold looks;rw [hg];simp [hj])
   simp only [this]
theorem VZ.pure {nw:Bool} {q:Prop} {r:AV} (hw:Qu l σ o=some true) (hb:OT E.P nw h (ev σ) o.op=some (q,r)) (hq:q) (hd:Qs E.N o.dst=true):VZ E h l σ o r:=by
 refine⟨hd,fun σ' a w Q hs s=> ?_⟩
 rw [iP (s.wanted ((Xg hs).trans hw))]
 obtain⟨v,aR,hr⟩:=A4 (fun _=>rfl) hb hq (QH E.C h w) w a.eval QH.dM (fun x hx=>by rw [←XD hx hs];exact QN s x) s.heap
 unfold Oper.wp
 rw [aR o rfl]
 exact s.put hd hr
theorem VZ.skip (hw:Qu l σ o=some false) (hd:Qs E.N o.dst=true):VZ E h l σ o (.aF []):=by
 refine⟨hd,fun σ' a w Q hs s=> ?_⟩
 rw [iN (by rw [s.wanted ((Xg hs).trans hw)];simp)]
theorem VZ.pE {f:FuncId} {xs:List Operand} {ts:Array TypeId} {args:List AV} {r:AV} (hf:Vk E.C E.P f args r) (au:o.op=.call {callee:=.value (.func f),args:=xs.toArray,argTypes:=ts}) (hw:Qu l σ o=some true) (hd:Qs E.N o.dst=true)
  (le:JT h (xs.map (ev σ)) args):VZ E h l σ o r:=by
 refine⟨hd,fun σ' a w Q hs s=> ?_⟩
 rw [iP (s.wanted ((Xg hs).trans hw))]
 have he:xs.map (ev σ')=xs.map (ev σ):=List.map_congr_left fun x hx=>XD (by rw [au];simp [Op.operands,Call.operands,hx]) hs
 unfold Oper.wp
 have aR:(execOp a.eval o).run E.P w=.ok (.enter f (xs.map a.eval).toArray) w:=by
  simp only [execOp,au,resolve,Act.eval,Deferred.ofValue,invoke,Sem.run_bind]
  have:=hf.1.run (#[]++(Array.map a.eval xs.toArray)++ #[]) w
  simp only [Sem.run_pure,Result.andThen_ok]
  rw [show((xs.map a.eval).toArray)=(#[]++(Array.map a.eval xs.toArray)++ #[]) from by simp]
  exact this
 rw [aR]
 show Calls _ _ _ _ _
 refine(hf.2 s (by rw [he];exact le)).mono ?_
 rintro e w' ⟨v,rfl,hr,bd⟩
 exact(s.later bd).put hd hr
theorem VZ.call {f:FuncId} {xs:List Operand} {ts:Array TypeId} {args:List AV} {r:AV} (hf:Fa E.P f args r) (au:o.op=.call {callee:=.value (.func f),args:=xs.toArray,argTypes:=ts}) (hw:Qu l σ o=some true) (hd:Qs E.N o.dst=true)
 (le:JT h (xs.map (ev σ)) args):VZ E h l σ o r:=VZ.pE hf.lk au hw hd le
def br:List (Oper×AV)→List Bool→Sl→Sl
 |(o,r)::ps,b::bs,σ=>br ps bs (if b then σ.az o.dst r else σ)
 |_,_,σ=>σ
theorem YE (σ:Sl) (d:Option Nat) (r:AV) (t:Nat):(σ.az d r).get t=if d=some t then r else σ.get t:=by
 cases d with
 |none=>simp [Sl.az]
 |some d=>simp [Sl.az,Sl.bL]
theorem Xv:∀(ps:List (Oper×AV)) (bs:List Bool) (σ:Sl) (t:Nat),(∀(j:Nat) (p:Oper×AV),ps[j]?=some p→bs[j]?=some true→p.1.dst≠some t)→(br ps bs σ).get t=σ.get t
 |[],_,_,_,_=>by simp [br]
 |_::_,[],_,_,_=>by simp [br]
 |(o,r)::ps,b::bs,σ,t,hn=>by
  simp only [br]
  rw [Xv ps bs _ t (fun j p hp hb=>hn (j+1) p (by simpa using hp) (by simpa using hb))]
  cases b with
  |false=>rfl
  |true=>
   rw [iP rfl,YE,iN]
   exact hn 0 (o,r) rfl rfl
theorem XI:∀(ps:List (Oper×AV)) (bs:List Bool) (σ:Sl) (t i:Nat) (o:Oper) (r:AV),ps[i]?=some (o,r)→bs[i]?=some true→o.dst=some t→(∀(j:Nat) (p:Oper×AV),j≠i→ps[j]?=some p→p.1.dst≠some t)→(br ps bs σ).get t=r
 |[],_,_,_,_,_,_,hp,_,_,_=>by simp at hp
 |_::_,[],_,_,_,_,_,_,hb,_,_=>by simp at hb
 |(o',r')::ps,b::bs,σ,t,0,o,r,hp,hb,ho,hn=>by
  simp only [List.getElem?_cons_zero,Aa,Ab] at hp hb
  obtain⟨rfl,rfl⟩:=hp
  subst hb
  simp only [br]
  rw [Xv ps bs _ t (fun j p hp _=>hn (j+1) p om (by simpa using hp)),iP trivial,YE,iP ho]
 |(o',r')::ps,b::bs,σ,t,i+1,o,r,hp,hb,ho,hn=>by
  simp only [br]
  exact XI ps bs _ t i o r (by simpa using hp) (by simpa using hb) ho (fun j p hj hp=>hn (j+1) p om (by simpa using hp))
inductive Dr (E:Vj) (h:Qa) (l:List Oper):List (Oper×AV)→Sl→Sl→Prop
 |nil {σ:Sl}:Dr E h l [] σ σ
 |cons {o:Oper} {r:AV} {ps:List (Oper×AV)} {σ σ':Sl}:VZ E h l σ o r→Dr E h l ps (σ.az o.dst r) σ'→Dr E h l ((o,r)::ps) σ σ'
theorem Dr.at_ {ps:List (Oper×AV)} (d:Dr E h l ps σ σ'):∀(i:Nat) (o:Oper) (r:AV),ps[i]?=some (o,r)→VZ E h l (br ps ((List.range ps.length).map fun j=>decide (j<i)) σ) o r:=by
 induction d with
 |nil=>intro i o r hp;simp at hp
 | @cons o' r' ps σ σ' hc _ ih=>
   intro i o r hp
   simp only [Lc,List.range_succ_eq_map,Ld,List.map_map,br]
   cases i with
   |zero=>
    simp only [List.getElem?_cons_zero,Aa,Ab] at hp
    obtain⟨rfl,rfl⟩:=hp
    have:∀(ps:List (Oper×AV)) (n:Nat) (σ:Sl),br ps ((List.range n).map ((fun j=>decide (j<0))∘Nat.succ)) σ=σ:=by
     intro ps
     induction ps with
     |nil=>intro n σ;simp [br]
     |cons p ps qg=>
      intro n σ
      cases n with
      |zero=>simp [br]
      |succ n=>
       obtain⟨q,r⟩:=p
       simp only [List.range_succ_eq_map,Ld,List.map_map,br]
       simp only [Function.comp,Nat.not_lt_zero,decide_false] at qg⊢
       exact qg n σ
    simp only [Nat.lt_irrefl,decide_false]
    rw [this]
    exact hc
   |succ i=>
    have:=ih i o r (by simpa using hp)
    have e:((fun j=>decide (j<i+1))∘Nat.succ)=fun j=>decide (j<i):=by funext j;simp [Function.comp]
    rw [e]
    simpa using this
theorem Dr.end_ {ps:List (Oper×AV)} (d:Dr E h l ps σ σ'):σ'=br ps ((List.range ps.length).map fun _=>true) σ:=by
 induction d with
 |nil=>rfl
 | @cons o' r' ps σ σ' _ _ ih=>
   simp only [Lc,List.range_succ_eq_map,Ld,List.map_map,br,if_true]
   exact ih
theorem Yo {listed:Array Bool} {i:Nat} (hs:listed.size=l.length):i∈Region.ready .any l.toArray listed↔i<l.length∧listed.getD i false=false∧∀o,l[i]?=some o→∀e∈o.after,Region.binds .any e=true→listed.getD e.on false=true:=by
 unfold Region.ready
 simp only [List.mem_filter,List.mem_range,List.size_toArray,Ba,Bool.not_eq_true']
 constructor
 ·rintro ⟨hi,h1,h2⟩
  refine⟨hi,?_,fun o ho e he hb=> ?_⟩
  ·simp only [Array.getD,hs,hi,dif_pos] at h1⊢;exact h1
  ·rw [show l.toArray[i]?=some o from by simpa using ho] at h2
   simp only [Option.map_some,Option.getD_some,Array.all_eq_true] at h2
   obtain⟨j,hj,rfl⟩:=Array.getElem_of_mem he
   have:=h2 j hj
   rw [hb] at this
   simpa using this
 ·rintro ⟨hi,h1,h2⟩
  refine⟨hi,?_,?_⟩
  ·simp only [Array.getD,hs,hi,dif_pos] at h1⊢;exact h1
  ·have ho:l[i]?=some l[i]:=Li hi
   rw [show l.toArray[i]?=some l[i] from by simp [hi]]
   simp only [Option.map_some,Option.getD_some,Array.all_eq_true]
   intro j hj
   have:=h2 _ ho l[i].after[j] (Array.getElem_mem hj)
   cases hb:Region.binds .any l[i].after[j] with
   |false=>simp
   |true=>simp [this hb]
theorem G9 (bo:Jd l=true) {i:Nat} {o:Oper} (ho:l[i]?=some o):uv l i o=true:=by
 unfold Jd at bo
 rw [List.all_eq_true] at bo
 have:=bo (o,i) (by rw [List.mem_zipIdx_iff_getElem?];exact ho)
 exact this
theorem Uj (bo:Jd l=true) {i:Nat} {o:Oper} (ho:l[i]?=some o) {e:Edge} (he:e∈o.after) (hb:Region.binds .any e=true):e.on<i:=by
 have:=G9 bo ho
 unfold uv at this
 simp only [Ba,Array.all_eq_true] at this
 obtain⟨j,hj,rfl⟩:=Array.getElem_of_mem he
 have:=this.1 j hj
 rw [hb] at this
 simpa using this
theorem ZE (bo:Jd l=true) {i j d:Nat} {o p:Oper} (ho:l[i]?=some o) (hp:l[j]?=some p) (hd:p.dst=some d):
  (d∈looks l o→(j<i→kG o j=true)∧(i<j→kG p i=true))∧(j≠i→o.dst≠some d):=by
 have:=G9 bo ho
 unfold uv at this
 simp only [Ba,List.all_eq_true] at this
 have h2:=this.2 (p,j) (by rw [List.mem_zipIdx_iff_getElem?];exact hp)
 simp only [hd,Ba,Bool.or_eq_true,Bool.not_eq_true',List.contains_eq_mem,decide_eq_false_iff_not,beq_iff_eq,bne_iff_ne] at h2
 refine⟨fun hm=> ?_,fun aK=>h2.2.resolve_left aK⟩
 have h3:=h2.1.resolve_left (fun hn=>hn hm)
 exact⟨fun aD=>by rw [iP aD] at h3;exact h3,fun aD=>by rw [iN om,iP aD] at h3;exact h3⟩
theorem Ze {o:Oper} {j:Nat} (he:kG o j=true):∃e∈o.after,e.on=j∧Region.binds .any e=true:=by
 unfold kG at he
 rw [Array.any_eq_true] at he
 obtain⟨i,hi,h1⟩:=he
 simp only [Ba,beq_iff_eq] at h1
 exact⟨_,Array.getElem_mem hi,h1.1,h1.2⟩
theorem Ge {n:Nat} (ht:sJ l n=true) {i:Nat} {o:Oper} (ho:l[i]?=some o) (hn:n≤i) {j:Nat} (hj:j<i):kG o j=true:=by
 unfold sJ at ht
 rw [List.all_eq_true] at ht
 have:=ht (o,i) (by rw [List.mem_zipIdx_iff_getElem?];exact ho)
 simp only [Bool.or_eq_true,Dq,List.all_eq_true,List.mem_range] at this
 exact this.resolve_left om j hj
theorem aA {listed:Array Bool} {i j:Nat} (hi:i<listed.size):(listed.setIfInBounds i true).getD j false=if j=i then true else listed.getD j false:=by
 by_cases h:j=i
 ·subst h;simp [Array.getD,hi]
 ·rw [iN h,Array.getD_eq_getD_getElem?,Array.getD_eq_getD_getElem?,Array.getElem?_setIfInBounds_ne (fun e=>h e.symm)]
theorem Ha {n:Nat} (bo:Jd l=true) (ht:sJ l n=true) {Q:Exit→Act→World→Prop}:∀(fuel i:Nat) (listed:Array Bool) (a:Act) (w:World),n≤i→i+fuel=l.length→listed.size=l.length→(∀j,j<l.length→listed.getD j false=decide (j<i))→
  wpList E.P l.toArray Q (l.drop i) a w→wpAny E.P .any l.toArray Q fuel listed a w
 |0,i,listed,a,w,_,hf,hs,hl,k=>by
  have:l.drop i=[]:=List.drop_eq_nil_of_le om
  rw [this] at k
  refine⟨?_,k⟩
  rw [List.eq_nil_iff_forall_not_mem]
  intro j hj
  obtain⟨h1,h2,_⟩:=(Yo hs).1 hj
  rw [hl j h1] at h2
  simp at h2
  omega
 |fuel+1,i,listed,a,w,hn,hf,hs,hl,k=>by
  have hi:i<l.length:=by omega
  have ho:l[i]?=some l[i]:=Li hi
  have bM:i∈Region.ready .any l.toArray listed:=(Yo hs).2 ⟨hi,by rw [hl i hi];simp,fun o fi e he hb=>by
   have:=Uj bo fi he hb
   rw [hl e.on om];simpa using this⟩
  refine⟨fun e=>by rw [e] at bM;simp at bM,fun j hj=> ?_⟩
  obtain⟨h1,h2,h3⟩:=(Yo hs).1 hj
  have dw:j=i:=by
   rw [hl j h1] at h2
   simp only [decide_eq_false_iff_not,Nat.not_lt] at h2
   rcases Nat.lt_or_ge i j with aD|eu
   ·obtain⟨e,he,gn,hb⟩:=Ze (Ge ht (Li h1) om aD)
    have:=h3 _ (Li h1) e he hb
    rw [gn,hl i hi] at this
    simp at this
   ·omega
  subst dw
  rw [List.drop_eq_getElem_cons hi] at k
  unfold wpOp
  rw [show l.toArray[j]?=some l[j] from by simp [hi]]
  have ea:∀a w,wpList E.P l.toArray Q (l.drop (j+1)) a w→wpAny E.P .any l.toArray Q fuel (listed.setIfInBounds j true) a w:=fun a w k'=>
   Ha bo ht fuel (j+1) _ a w om om (by simpa using hs) (fun q hq=>by
    rw [aA om,hl q hq]
    by_cases h:q=j
    ·subst h;simp
    ·rw [iN h];congr 1;simp;omega) k'
  simp only [wpList] at k
  simp only
  split
  ·rename_i hw
   rw [iP hw] at k
   exact k.imp (Oper.wp_mono ea) id
  ·rename_i hw
   rw [iN hw] at k
   exact ea _ _ k
def Kp (n:Nat) (listed:Array Bool):List Bool:=(List.range n).map fun j=>listed.getD j false
theorem X3 {n:Nat} {listed:Array Bool} {j:Nat} (hj:j<n):(Kp n listed)[j]?=some (listed.getD j false):=by simp [Kp,hj]
def fx (L:Nat→Bool):Nat→Nat
 |0=>0
 |n+1=>fx L n+cond (L n) 0 1
theorem Gf {L L':Nat→Bool}:∀n,(∀j,j<n→L j=L' j)→fx L n=fx L' n
 |0,_=>rfl
 |n+1,hc=>by simp only [fx,Gf n (fun j hj=>hc j om),hc n om]
theorem wT {L:Nat→Bool}:∀n,0<fx L n→∃j,j<n∧L j=false∧∀q,q<j→L q=true
 |0,hp=>by simp [fx] at hp
 |n+1,hp=>by
  rcases Nat.eq_zero_or_pos (fx L n) with h0|h0
  ·refine⟨n,by omega,?_,?_⟩
   ·simp only [fx,h0] at hp
    cases hL:L n with
    |false=>rfl
    |true=>rw [hL] at hp;simp at hp
   ·intro q hq
    cases hL:L q with
    |true=>rfl
    |false=>
     have:∀m,q<m→0<fx L m:=by
      intro m
      induction m with
      |zero=>intro h;omega
      |succ m ih=>
       intro h
       simp only [fx]
       rcases Nat.lt_or_ge q m with h1|h1
       ·have:=ih h1;omega
       ·have:q=m:=by omega
        subst this;rw [hL];simp
     have:=this n hq
     omega
  ·obtain⟨j,h1,h2,h3⟩:=wT n h0
   exact⟨j,by omega,h2,h3⟩
theorem wO {L:Nat→Bool}:∀n,fx L n=0→∀j,j<n→L j=true
 |0,_,j,hj=>by omega
 |n+1,hz,j,hj=>by
  simp only [fx] at hz
  rcases Nat.lt_or_ge j n with h1|h1
  ·exact wO n om j h1
  ·have:j=n:=by omega
   subst this
   cases hL:L j with
   |true=>rfl
   |false=>rw [hL] at hz;simp at hz
theorem wU {L:Nat→Bool} {i:Nat}:∀n,i<n→L i=false→fx (fun j=>if j=i then true else L j) n+1=fx L n
 |0,hi,_=>by omega
 |n+1,hi,hL=>by
  simp only [fx]
  rcases Nat.lt_or_ge i n with h1|h1
  ·have:=wU n h1 hL
   have hx:(if n=i then true else L n)=L n:=iN om
   simp only [hx]
   omega
  ·have:i=n:=by omega
   subst this
   rw [Gf (L':=L) i (fun j hj=>by rw [iN om])]
   simp [hL]
theorem Qoi {n:Nat} {ps:List (Oper×AV)} (bo:Jd l=true) (ht:sJ l n=true) (hn:n≤l.length) (mR:ps.map (·.1)=l.take n) (d:Dr E h l ps σ σ') {Q:Exit→Act→World→Prop}
  (k:∀a w,St E.N E.C σ' h a w→wpList E.P l.toArray Q (l.drop n) a w):∀(u:Nat) (listed:Array Bool) (a:Act) (w:World),fx (fun j=>listed.getD j false) n=u→listed.size=l.length→
  (∀i o,l[i]?=some o→listed.getD i false=true→∀e∈o.after,Region.binds .any e=true→listed.getD e.on false=true)→(∀j,n≤j→j<l.length→listed.getD j false=false)→
  St E.N E.C (br ps (Kp n listed) σ) h a w→wpAny E.P .any l.toArray Q (u+(l.length-n)) listed a w:=by
 have dJ:ps.length=n:=by have:=congrArg List.length mR;simp at this;omega
 have fM:∀(j:Nat) (p:Oper×AV),ps[j]?=some p→l[j]?=some p.1∧j<n:=by
  intro j p hp
  have hj:j<ps.length:=(List.getElem?_eq_some_iff.1 hp).1
  have h1:(ps.map (·.1))[j]?=some p.1:=by simp [hp]
  rw [mR,List.getElem?_take] at h1
  split at h1
  ·exact⟨h1,by omega⟩
  ·cases h1
 intro u
 induction u with
 |zero=>
  intro listed a w hu hs _ fO st
  have bQ:=wO n hu
  rw [Nz]
  refine Ha bo ht (l.length-n) n listed a w (Ac _) om hs (fun j hj=> ?_) (k a w ?_)
  ·rcases Nat.lt_or_ge j n with h1|h1
   ·rw [bQ j h1];simp [h1]
   ·rw [fO j h1 hj];simp;omega
  ·have e:Kp n listed=(List.range ps.length).map fun _=>true:=by
    unfold Kp
    rw [dJ]
    exact List.map_congr_left fun j hj=>bQ j (by simpa using hj)
   rw [d.end_,←e]
   exact st
 |succ u ih=>
  intro listed a w hu hs bS fO st
  rw [show u+1+(l.length-n)=(u+(l.length-n))+1 from by omega]
  obtain⟨j0,kL,pR,nK⟩:=wT (L:=fun j=>listed.getD j false) n om
  have bM:j0∈Region.ready .any l.toArray listed:=(Yo hs).2 ⟨by omega,pR,fun o ho e he hb=>nK _ (Uj bo ho he hb)⟩
  refine⟨fun e=>by rw [e] at bM;simp at bM,fun i hi=> ?_⟩
  obtain⟨h1,h2,h3⟩:=(Yo hs).1 hi
  have ho:l[i]?=some l[i]:=Li h1
  have bV:i<n:=by
   rcases Nat.lt_or_ge i n with aD|eu
   ·exact aD
   ·obtain⟨e,he,gn,hb⟩:=Ze (Ge ht ho eu (show j0<i from by omega))
    have:=h3 _ ho e he hb
    rw [gn] at this
    rw [pR] at this
    cases this
  have fj:ps[i]?=some ps[i]:=Li om
  obtain⟨ig,_⟩:=fM i _ fj
  rw [ho] at ig
  injection ig with ig
  obtain⟨hd,hc⟩:=d.at_ i ps[i].1 ps[i].2 fj
  have bW:∀t∈looks l ps[i].1,(br ps (Kp n listed) σ).get t=(br ps ((List.range ps.length).map fun j=>decide (j<i)) σ).get t:=by
   intro t lS
   by_cases hex:∃(j:Nat) (p:Oper×AV),ps[j]?=some p∧j<i∧p.1.dst=some t
   ·obtain⟨j,p,hp,dw,ee⟩:=hex
    obtain⟨aB,ba⟩:=fM j p hp
    have bG:∀(j':Nat) (p':Oper×AV),j'≠j→ps[j']?=some p'→p'.1.dst≠some t:=fun j' p' aK jJ=>
     (ZE bo (fM j' p' jJ).1 aB ee).2 (fun e=>aK e.symm)
    obtain⟨e,he,gn,hb⟩:=Ze (((ZE bo (by rw [←ig];exact ho) aB ee).1 lS).1 dw)
    have oI:listed.getD j false=true:=by rw [←gn];exact h3 _ ho e (by rw [ig];exact he) hb
    rw [XI ps _ σ t j p.1 p.2 hp (by rw [X3 ba,oI]) ee bG,
     XI ps _ σ t j p.1 p.2 hp (by simp [show j<ps.length from by omega,dw]) ee bG]
   ·rw [Xv ps _ σ t (fun j p hp hb ee=> ?_),Xv ps _ σ t (fun j p hp hb ee=> ?_)]
    ·have bp:j<ps.length:=(List.getElem?_eq_some_iff.1 hp).1
     simp [bp] at hb
     exact hex ⟨j,p,hp,hb,ee⟩
    ·obtain⟨aB,ba⟩:=fM j p hp
     rw [X3 ba] at hb
     injection hb with hb
     rcases Nat.lt_trichotomy j i with aD|heq|fV
     ·exact hex ⟨j,p,hp,aD,ee⟩
     ·subst heq;rw [h2] at hb;cases hb
     ·obtain⟨e,he,gn,cm⟩:=Ze (((ZE bo (by rw [←ig];exact ho) aB ee).1 lS).2 fV)
      have:=bS j _ aB hb e he cm
      rw [gn,h2] at this
      cases this
  have cK:∀a' w',St E.N E.C ((br ps (Kp n listed) σ).az ps[i].1.dst ps[i].2) h a' w'→wpAny E.P .any l.toArray Q (u+(l.length-n)) (listed.setIfInBounds i true) a' w':=by
   intro a' w' iR
   have iH:i<listed.size:=by omega
   refine ih _ a' w' ?_ (by simpa using hs) (fun q o hq bT e he hb=> ?_) (fun j hj bp=> ?_) ?_
   ·have rB:(fun j=>(listed.setIfInBounds i true).getD j false)=fun j=>if j=i then true else listed.getD j false:=funext fun j=>aA iH
    rw [rB]
    have:=wU (L:=fun j=>listed.getD j false) n bV h2
    omega
   ·rw [aA iH] at bT⊢
    by_cases rQ:q=i
    ·subst rQ
     by_cases kK:e.on=q
     ·rw [iP kK]
     ·rw [iN kK];exact h3 o hq e he hb
    ·rw [iN rQ] at bT
     have:=bS q o hq bT e he hb
     by_cases kK:e.on=i
     ·rw [iP kK]
     ·rw [iN kK];exact this
   ·rw [aA iH,iN om];exact fO j hj bp
   ·refine St.jQ iR (fun t=>.inr ?_) (Lr _)
    rw [YE]
    by_cases ee:ps[i].1.dst=some t
    ·rw [iP ee]
     have bG:∀(j':Nat) (p':Oper×AV),j'≠i→ps[j']?=some p'→p'.1.dst≠some t:=fun j' p' aK jJ=>
      (ZE bo (fM j' p' jJ).1 (fM i _ fj).1 ee).2 (fun e=>aK e.symm)
     exact XI ps _ σ t i ps[i].1 ps[i].2 fj (by rw [X3 bV,aA iH,iP rfl]) ee bG
    ·rw [iN ee]
     by_cases hex:∃(j:Nat) (p:Oper×AV),ps[j]?=some p∧listed.getD j false=true∧p.1.dst=some t
     ·obtain⟨j,p,hp,oI,dG⟩:=hex
      obtain⟨aB,ba⟩:=fM j p hp
      have bG:∀(j':Nat) (p':Oper×AV),j'≠j→ps[j']?=some p'→p'.1.dst≠some t:=fun j' p' aK jJ=>
       (ZE bo (fM j' p' jJ).1 aB dG).2 (fun e=>aK e.symm)
      rw [XI ps _ σ t j p.1 p.2 hp (by rw [X3 ba,aA iH];split<;>first|rfl|rw [oI]) dG bG,
       XI ps _ σ t j p.1 p.2 hp (by rw [X3 ba,oI]) dG bG]
     ·rw [Xv ps _ σ t (fun j p hp hb dG=> ?_),Xv ps _ σ t (fun j p hp hb dG=> ?_)]
      ·obtain⟨_,ba⟩:=fM j p hp
       rw [X3 ba] at hb
       injection hb with hb
       exact hex ⟨j,p,hp,hb,dG⟩
      ·obtain⟨_,ba⟩:=fM j p hp
       rw [X3 ba,aA iH] at hb
       injection hb with hb
       split at hb
       ·rename_i dw;subst dw;rw [fj] at hp;injection hp with hp;subst hp;exact ee dG
       ·exact hex ⟨j,p,hp,hb,dG⟩
  have eG:=hc _ a w Q bW st
  unfold wpOp
  rw [show l.toArray[i]?=some l[i] from by simp [h1]]
  simp only
  rw [ig]
  split
  ·rename_i hw
   rw [iP hw] at eG
   exact .inl (Oper.wp_mono cK eG)
  ·rename_i hw
   rw [iN hw] at eG
   have st2:=st.put hd (r:=.aF []) (v:=undef) ⟨[],rfl,trivial⟩
   rw [←eG] at st2
   exact cK _ _ st2
theorem Qq6 {id:Nat} (n:Nat) {ps:List (Oper×AV)} (hm:E.P.follows .mixedOrders=true) (bo:(Jd l&&sJ l n&&decide (n≤l.length))=true) (mR:ps.map (·.1)=l.take n) (d:Dr E h l ps σ σ') (k:aw E (.ops l (l.drop n)::K) σ' h):
  aw E (.code (.region id l.toArray true)::K) σ h:=fun a w s=>by
 simp only [Ba,Dq] at bo
 refine wp_region_any hm ?_
 have s':=s.later (Fr.drew (fun _=>False) w (w.drawn+1))
 have e0:∀j,(Array.replicate l.length false).getD j false=false:=fun j=>by
  rw [Array.getD_eq_getD_getElem?]
  simp only [Array.getElem?_replicate]
  split<;>rfl
 have mW:∀m,fx (fun j=>(Array.replicate l.length false).getD j false) m=m:=by
  intro m
  induction m with
  |zero=>rfl
  |succ m ih=>rw [fx,ih,e0];rfl
 have:=Qoi (Q:=ep E K) bo.1.1 bo.1.2 bo.2 mR d (fun a w st=>k a w st) n (Array.replicate l.length false) a {w with drawn:=w.drawn+1} (mW n) (by simp) (fun i o _ hl=>by rw [e0] at hl;cases hl) (fun j _ _=>e0 j) (by
  refine s'.jQ (fun t=>.inr ?_) (Lr _)
  rw [Xv ps _ σ t (fun j p hp hb=> ?_)]
  exfalso
  have bp:j<ps.length:=(List.getElem?_eq_some_iff.1 hp).1
  have dJ:ps.length=n:=by have:=congrArg List.length mR;simp at this;omega
  rw [X3 om,e0] at hb
  cases hb)
 rw [show n+(l.length-n)=l.length from by omega] at this
 simpa using this
def YO (E:Vj) (h:Qa) (l:List Oper) (K:List It) (k:Nat) (rest:List Oper) (σ:Sl):Prop:=
 ∃ps σ',ps.map (·.1)=rest.take k∧Dr E h l ps σ σ'∧aw E (.ops l (rest.drop k)::K) σ' h
theorem Xl {id:Nat} (n:Nat) (hm:E.P.follows .mixedOrders=true) (bo:(Jd l&&sJ l n&&decide (n≤l.length))=true) (k:YO E h l K n l σ):aw E (.code (.region id l.toArray true)::K) σ h:=by
 obtain⟨ps,σ',h1,h2,h3⟩:=k
 exact Qq6 n hm bo h1 h2 h3
theorem Qq7 {rest:List Oper} (k:aw E (.ops l rest::K) σ h):YO E h l K 0 rest σ:=⟨[],σ,by simp,.nil,by simpa using k⟩
theorem Uk {rest:List Oper} {n:Nat} {r:AV} (hc:VZ E h l σ o r) (k:YO E h l K n rest (σ.az o.dst r)):YO E h l K (n+1) (o::rest) σ:=by
 obtain⟨ps,σ',h1,h2,h3⟩:=k
 exact⟨(o,r)::ps,σ',by simp [h1],.cons hc h2,by simpa using h3⟩
theorem wP {rest:List Oper} {n:Nat} {f:FuncId} {xs:List Operand} {ts:Array TypeId} {args:List AV} {r:AV} (hf:Fa E.P f args r) (au:o.op=.call {callee:=.value (.func f),args:=xs.toArray,argTypes:=ts}) (hw:Qu l σ o=some true) (hd:Qs E.N o.dst=true)
 (le:JT h (xs.map (ev σ)) args) (k:YO E h l K n rest (σ.az o.dst r)):YO E h l K (n+1) (o::rest) σ:=Uk (VZ.call hf au hw hd le) k
theorem Qms {rest:List Oper} {n:Nat} {f:FuncId} {xs:List Operand} {ts:Array TypeId} {args:List AV} {r:AV} (hf:Vk E.C E.P f args r) (au:o.op=.call {callee:=.value (.func f),args:=xs.toArray,argTypes:=ts}) (hw:Qu l σ o=some true) (hd:Qs E.N o.dst=true)
 (le:JT h (xs.map (ev σ)) args) (k:YO E h l K n rest (σ.az o.dst r)):YO E h l K (n+1) (o::rest) σ:=Uk (VZ.pE hf au hw hd le) k
end
end
end Go.AI
