/- Parts of one proof, laid by a program. -/
import Derived.Test.YtfcnbgmclfkfcaaGreatM00
import Derived.Test.YtfcnbgmclfkfcaaGreatM03
import Derived.Orders
set_option linter.unusedSimpArgs false
set_option linter.unusedVariables false
namespace Go.AI
def looks (all:List Oper) (o:Oper):List Nat:=
 (o.op.operands.toList.filterMap fun|.tmp t=>some t|_=>none)++
 (match o.guard with
  |some (g,_)=>((all[g]?).bind (·.dst)).toList
  |none=>[])
def edge (o:Oper) (j:Nat):Bool:=o.after.any fun e=>e.on==j&&Region.binds .any e
def lexAt (l:List Oper) (i:Nat) (o:Oper):Bool:=
 (o.after.all fun e=> !Region.binds .any e||decide (e.on<i))&&
 (l.zipIdx.all fun(p,j)=>match p.dst with
  |none=>true
  |some d=>(!(looks l o).contains d||(if j<i then edge o j else if i<j then edge p i else true))&&(j==i||o.dst !=some d))
def lexOk (l:List Oper):Bool:=l.zipIdx.all fun(o,i)=>lexAt l i o
def tailOk (l:List Oper) (n:Nat):Bool:=l.zipIdx.all fun(o,i)=>decide (i<n)||(List.range i).all fun j=>edge o j
section
variable {E : Env} {K : List It} {σ σ' : Sl} {h : Heap} {l : List Oper} {o : Oper}
def Calm (E:Env) (h:Heap) (l:List Oper) (σ:Sl) (o:Oper) (r:AV):Prop:=
 dstOk E.N o.dst=true∧∀(σ':Sl) (a:Act) (w:World) (Q:Exit→Act→World→Prop),(∀t∈looks l o,σ'.get t=σ.get t)→St E.N E.C σ' h a w→
  if Region.wanted o (yielded l.toArray a.tmps) then o.wp E.P a w (fun a' w'=>St E.N E.C (σ'.setO o.dst r) h a' w') Q else r=.tup []
theorem ev_same {σ':Sl} {x:Operand} (hx:x∈o.op.operands) (hs:∀t∈looks l o,σ'.get t=σ.get t):ev σ' x=ev σ x:=by
 cases x with
 |tmp t=>exact hs t (by
  unfold looks
  refine List.mem_append_left _ (List.mem_filterMap.2 ⟨.tmp t,by simpa using hx,rfl⟩))
 |const v=>rfl
 |global g=>rfl
 |func f=>rfl
theorem want_same {σ':Sl} (hs:∀t∈looks l o,σ'.get t=σ.get t):wantA l σ' o=wantA l σ o:=by
 unfold wantA
 cases hg:o.guard with
 |none=>rfl
 |some p=>
  obtain⟨j,want⟩:=p
  simp only
  cases hj:(l[j]?).bind (·.dst) with
  |none=>rfl
  |some t=>
   have:σ'.get t=σ.get t:=hs t (by unfold looks;rw [hg];simp [hj])
   simp only [this]
theorem Calm.pure {nw:Bool} {q:Prop} {r:AV} (hw:wantA l σ o=some true) (hb:pureOp E.P nw h (ev σ) o.op=some (q,r)) (hq:q) (hd:dstOk E.N o.dst=true):Calm E h l σ o r:=by
 refine⟨hd,fun σ' a w Q hs s=> ?_⟩
 rw [if_pos (s.wanted ((want_same hs).trans hw))]
 obtain⟨v,hrun,hr⟩:=pureOp_ok (fun _=>rfl) hb hq (Stab E.C h w) w a.eval Stab.mono' (fun x hx=>by rw [←ev_same hx hs];exact ev_rep s x) s.heap
 unfold Oper.wp
 rw [hrun o rfl]
 exact s.put hd hr
theorem Calm.skip (hw:wantA l σ o=some false) (hd:dstOk E.N o.dst=true):Calm E h l σ o (.tup []):=by
 refine⟨hd,fun σ' a w Q hs s=> ?_⟩
 rw [if_neg (by rw [s.wanted ((want_same hs).trans hw)];simp)]
theorem Calm.call {f:FuncId} {xs:List Operand} {ts:Array TypeId} {args:List AV} {r:AV} (hf:Fa E.P f args r) (hop:o.op=.call {callee:=.value (.func f),args:=xs.toArray,argTypes:=ts}) (hw:wantA l σ o=some true) (hd:dstOk E.N o.dst=true)
 (le:LeA h (xs.map (ev σ)) args):Calm E h l σ o r:=by
 refine⟨hd,fun σ' a w Q hs s=> ?_⟩
 rw [if_pos (s.wanted ((want_same hs).trans hw))]
 have he:xs.map (ev σ')=xs.map (ev σ):=List.map_congr_left fun x hx=>ev_same (by rw [hop];simp [Op.operands,Call.operands,hx]) hs
 unfold Oper.wp
 have hrun:(execOp a.eval o).run E.P w=.ok (.enter f (xs.map a.eval).toArray) w:=by
  simp only [execOp,hop,resolve,Act.eval,Deferred.ofValue,invoke,Sem.run_bind]
  have:=hf.1.run (#[]++(Array.map a.eval xs.toArray)++ #[]) w
  simp only [Sem.run_pure,Result.andThen_ok]
  rw [show((xs.map a.eval).toArray)=(#[]++(Array.map a.eval xs.toArray)++ #[]) from by simp]
  exact this
 rw [hrun]
 show Calls _ _ _ _ _
 refine(hf.use s (by rw [he];exact le)).mono ?_
 rintro e w' ⟨v,rfl,hr,hfr⟩
 exact(s.later hfr).put hd hr
def sigL:List (Oper×AV)→List Bool→Sl→Sl
 |(o,r)::ps,b::bs,σ=>sigL ps bs (if b then σ.setO o.dst r else σ)
 |_,_,σ=>σ
theorem setO_get (σ:Sl) (d:Option Nat) (r:AV) (t:Nat):(σ.setO d r).get t=if d=some t then r else σ.get t:=by
 cases d with
 |none=>simp [Sl.setO]
 |some d=>simp [Sl.setO,Sl.get_set]
theorem sigL_get_none:∀(ps:List (Oper×AV)) (bs:List Bool) (σ:Sl) (t:Nat),(∀(j:Nat) (p:Oper×AV),ps[j]?=some p→bs[j]?=some true→p.1.dst≠some t)→(sigL ps bs σ).get t=σ.get t
 |[],_,_,_,_=>by simp [sigL]
 |_::_,[],_,_,_=>by simp [sigL]
 |(o,r)::ps,b::bs,σ,t,hn=>by
  simp only [sigL]
  rw [sigL_get_none ps bs _ t (fun j p hp hb=>hn (j+1) p (by simpa using hp) (by simpa using hb))]
  cases b with
  |false=>rfl
  |true=>
   rw [if_pos rfl,setO_get,if_neg]
   exact hn 0 (o,r) rfl rfl
theorem sigL_get_some:∀(ps:List (Oper×AV)) (bs:List Bool) (σ:Sl) (t i:Nat) (o:Oper) (r:AV),ps[i]?=some (o,r)→bs[i]?=some true→o.dst=some t→(∀(j:Nat) (p:Oper×AV),j≠i→ps[j]?=some p→p.1.dst≠some t)→(sigL ps bs σ).get t=r
 |[],_,_,_,_,_,_,hp,_,_,_=>by simp at hp
 |_::_,[],_,_,_,_,_,_,hb,_,_=>by simp at hb
 |(o',r')::ps,b::bs,σ,t,0,o,r,hp,hb,ho,hn=>by
  simp only [List.getElem?_cons_zero,Option.some.injEq,Prod.mk.injEq] at hp hb
  obtain⟨rfl,rfl⟩:=hp
  subst hb
  simp only [sigL]
  rw [sigL_get_none ps bs _ t (fun j p hp _=>hn (j+1) p om (by simpa using hp)),if_pos trivial,setO_get,if_pos ho]
 |(o',r')::ps,b::bs,σ,t,i+1,o,r,hp,hb,ho,hn=>by
  simp only [sigL]
  exact sigL_get_some ps bs _ t i o r (by simpa using hp) (by simpa using hb) ho (fun j p hj hp=>hn (j+1) p om (by simpa using hp))
inductive Dr (E:Env) (h:Heap) (l:List Oper):List (Oper×AV)→Sl→Sl→Prop
 |nil {σ:Sl}:Dr E h l [] σ σ
 |cons {o:Oper} {r:AV} {ps:List (Oper×AV)} {σ σ':Sl}:Calm E h l σ o r→Dr E h l ps (σ.setO o.dst r) σ'→Dr E h l ((o,r)::ps) σ σ'
theorem Dr.at_ {ps:List (Oper×AV)} (d:Dr E h l ps σ σ'):∀(i:Nat) (o:Oper) (r:AV),ps[i]?=some (o,r)→Calm E h l (sigL ps ((List.range ps.length).map fun j=>decide (j<i)) σ) o r:=by
 induction d with
 |nil=>intro i o r hp;simp at hp
 | @cons o' r' ps σ σ' hc _ ih=>
   intro i o r hp
   simp only [List.length_cons,List.range_succ_eq_map,List.map_cons,List.map_map,sigL]
   cases i with
   |zero=>
    simp only [List.getElem?_cons_zero,Option.some.injEq,Prod.mk.injEq] at hp
    obtain⟨rfl,rfl⟩:=hp
    have:∀(ps:List (Oper×AV)) (n:Nat) (σ:Sl),sigL ps ((List.range n).map ((fun j=>decide (j<0))∘Nat.succ)) σ=σ:=by
     intro ps
     induction ps with
     |nil=>intro n σ;simp [sigL]
     |cons p ps ih2=>
      intro n σ
      cases n with
      |zero=>simp [sigL]
      |succ n=>
       obtain⟨q,r⟩:=p
       simp only [List.range_succ_eq_map,List.map_cons,List.map_map,sigL]
       simp only [Function.comp,Nat.not_lt_zero,decide_false] at ih2⊢
       exact ih2 n σ
    simp only [Nat.lt_irrefl,decide_false]
    rw [this]
    exact hc
   |succ i=>
    have:=ih i o r (by simpa using hp)
    have e:((fun j=>decide (j<i+1))∘Nat.succ)=fun j=>decide (j<i):=by funext j;simp [Function.comp]
    rw [e]
    simpa using this
theorem Dr.end_ {ps:List (Oper×AV)} (d:Dr E h l ps σ σ'):σ'=sigL ps ((List.range ps.length).map fun _=>true) σ:=by
 induction d with
 |nil=>rfl
 | @cons o' r' ps σ σ' _ _ ih=>
   simp only [List.length_cons,List.range_succ_eq_map,List.map_cons,List.map_map,sigL,if_true]
   exact ih
theorem mem_ready {listed:Array Bool} {i:Nat} (hs:listed.size=l.length):i∈Region.ready .any l.toArray listed↔i<l.length∧listed.getD i false=false∧∀o,l[i]?=some o→∀e∈o.after,Region.binds .any e=true→listed.getD e.on false=true:=by
 unfold Region.ready
 simp only [List.mem_filter,List.mem_range,List.size_toArray,Bool.and_eq_true,Bool.not_eq_true']
 constructor
 ·rintro ⟨hi,h1,h2⟩
  refine⟨hi,?_,fun o ho e he hb=> ?_⟩
  ·simp only [Array.getD,hs,hi,dif_pos] at h1⊢;exact h1
  ·rw [show l.toArray[i]?=some o from by simpa using ho] at h2
   simp only [Option.map_some,Option.getD_some,Array.all_eq_true] at h2
   obtain⟨j,hj,rfl⟩:=Array.getElem_of_mem he
   have:=h2 j hj
   rw [hb] at this
   simpa using this
 ·rintro ⟨hi,h1,h2⟩
  refine⟨hi,?_,?_⟩
  ·simp only [Array.getD,hs,hi,dif_pos] at h1⊢;exact h1
  ·have ho:l[i]?=some l[i]:=List.getElem?_eq_getElem hi
   rw [show l.toArray[i]?=some l[i] from by simp [hi]]
   simp only [Option.map_some,Option.getD_some,Array.all_eq_true]
   intro j hj
   have:=h2 _ ho l[i].after[j] (Array.getElem_mem hj)
   cases hb:Region.binds .any l[i].after[j] with
   |false=>simp
   |true=>simp [this hb]
theorem lexOk_at (hok:lexOk l=true) {i:Nat} {o:Oper} (ho:l[i]?=some o):lexAt l i o=true:=by
 unfold lexOk at hok
 rw [List.all_eq_true] at hok
 have:=hok (o,i) (by rw [List.mem_zipIdx_iff_getElem?];exact ho)
 exact this
theorem lex_back (hok:lexOk l=true) {i:Nat} {o:Oper} (ho:l[i]?=some o) {e:Edge} (he:e∈o.after) (hb:Region.binds .any e=true):e.on<i:=by
 have:=lexOk_at hok ho
 unfold lexAt at this
 simp only [Bool.and_eq_true,Array.all_eq_true] at this
 obtain⟨j,hj,rfl⟩:=Array.getElem_of_mem he
 have:=this.1 j hj
 rw [hb] at this
 simpa using this
theorem lex_pair (hok:lexOk l=true) {i j d:Nat} {o p:Oper} (ho:l[i]?=some o) (hp:l[j]?=some p) (hd:p.dst=some d):
 (d∈looks l o→(j<i→edge o j=true)∧(i<j→edge p i=true))∧(j≠i→o.dst≠some d):=by
 have:=lexOk_at hok ho
 unfold lexAt at this
 simp only [Bool.and_eq_true,List.all_eq_true] at this
 have h2:=this.2 (p,j) (by rw [List.mem_zipIdx_iff_getElem?];exact hp)
 simp only [hd,Bool.and_eq_true,Bool.or_eq_true,Bool.not_eq_true',List.contains_eq_mem,decide_eq_false_iff_not,beq_iff_eq,bne_iff_ne] at h2
 refine⟨fun hm=> ?_,fun hne=>h2.2.resolve_left hne⟩
 have h3:=h2.1.resolve_left (fun hn=>hn hm)
 exact⟨fun hlt=>by rw [if_pos hlt] at h3;exact h3,fun hlt=>by rw [if_neg om,if_pos hlt] at h3;exact h3⟩
theorem edge_mem {o:Oper} {j:Nat} (he:edge o j=true):∃e∈o.after,e.on=j∧Region.binds .any e=true:=by
 unfold edge at he
 rw [Array.any_eq_true] at he
 obtain⟨i,hi,h1⟩:=he
 simp only [Bool.and_eq_true,beq_iff_eq] at h1
 exact⟨_,Array.getElem_mem hi,h1.1,h1.2⟩
theorem tail_edge {n:Nat} (ht:tailOk l n=true) {i:Nat} {o:Oper} (ho:l[i]?=some o) (hn:n≤i) {j:Nat} (hj:j<i):edge o j=true:=by
 unfold tailOk at ht
 rw [List.all_eq_true] at ht
 have:=ht (o,i) (by rw [List.mem_zipIdx_iff_getElem?];exact ho)
 simp only [Bool.or_eq_true,decide_eq_true_eq,List.all_eq_true,List.mem_range] at this
 exact this.resolve_left om j hj
theorem getD_set {listed:Array Bool} {i j:Nat} (hi:i<listed.size):(listed.setIfInBounds i true).getD j false=if j=i then true else listed.getD j false:=by
 by_cases h:j=i
 ·subst h;simp [Array.getD,hi]
 ·rw [if_neg h,Array.getD_eq_getD_getElem?,Array.getD_eq_getD_getElem?,Array.getElem?_setIfInBounds_ne (fun e=>h e.symm)]
theorem tail_any {n:Nat} (hok:lexOk l=true) (ht:tailOk l n=true) {Q:Exit→Act→World→Prop}:∀(fuel i:Nat) (listed:Array Bool) (a:Act) (w:World),n≤i→i+fuel=l.length→listed.size=l.length→(∀j,j<l.length→listed.getD j false=decide (j<i))→
 wpList E.P l.toArray Q (l.drop i) a w→wpAny E.P .any l.toArray Q fuel listed a w
 |0,i,listed,a,w,_,hf,hs,hl,k=>by
  have:l.drop i=[]:=List.drop_eq_nil_of_le om
  rw [this] at k
  refine⟨?_,k⟩
  rw [List.eq_nil_iff_forall_not_mem]
  intro j hj
  obtain⟨h1,h2,_⟩:=(mem_ready hs).1 hj
  rw [hl j h1] at h2
  simp at h2
  omega
 |fuel+1,i,listed,a,w,hn,hf,hs,hl,k=>by
  have hi:i<l.length:=by omega
  have ho:l[i]?=some l[i]:=List.getElem?_eq_getElem hi
  have hready:i∈Region.ready .any l.toArray listed:=(mem_ready hs).2 ⟨hi,by rw [hl i hi];simp,fun o ho' e he hb=>by
   have:=lex_back hok ho' he hb
   rw [hl e.on om];simpa using this⟩
  refine⟨fun e=>by rw [e] at hready;simp at hready,fun j hj=> ?_⟩
  obtain⟨h1,h2,h3⟩:=(mem_ready hs).1 hj
  have hji:j=i:=by
   rw [hl j h1] at h2
   simp only [decide_eq_false_iff_not,Nat.not_lt] at h2
   rcases Nat.lt_or_ge i j with hlt|hge
   ·obtain⟨e,he,hon,hb⟩:=edge_mem (tail_edge ht (List.getElem?_eq_getElem h1) om hlt)
    have:=h3 _ (List.getElem?_eq_getElem h1) e he hb
    rw [hon,hl i hi] at this
    simp at this
   ·omega
  subst hji
  rw [List.drop_eq_getElem_cons hi] at k
  unfold wpOp
  rw [show l.toArray[j]?=some l[j] from by simp [hi]]
  have hstep:∀a w,wpList E.P l.toArray Q (l.drop (j+1)) a w→wpAny E.P .any l.toArray Q fuel (listed.setIfInBounds j true) a w:=fun a w k'=>
   tail_any hok ht fuel (j+1) _ a w om om (by simpa using hs) (fun q hq=>by
    rw [getD_set om,hl q hq]
    by_cases h:q=j
    ·subst h;simp
    ·rw [if_neg h];congr 1;simp;omega) k'
  simp only [wpList] at k
  simp only
  split
  ·rename_i hw
   rw [if_pos hw] at k
   exact k.imp (Oper.wp_mono hstep) id
  ·rename_i hw
   rw [if_neg hw] at k
   exact hstep _ _ k
def marks (n:Nat) (listed:Array Bool):List Bool:=(List.range n).map fun j=>listed.getD j false
theorem marks_get {n:Nat} {listed:Array Bool} {j:Nat} (hj:j<n):(marks n listed)[j]?=some (listed.getD j false):=by simp [marks,hj]
def unl (L:Nat→Bool):Nat→Nat
 |0=>0
 |n+1=>unl L n+cond (L n) 0 1
theorem unl_congr {L L':Nat→Bool}:∀n,(∀j,j<n→L j=L' j)→unl L n=unl L' n
 |0,_=>rfl
 |n+1,hc=>by simp only [unl,unl_congr n (fun j hj=>hc j om),hc n om]
theorem unl_pos {L:Nat→Bool}:∀n,0<unl L n→∃j,j<n∧L j=false∧∀q,q<j→L q=true
 |0,hp=>by simp [unl] at hp
 |n+1,hp=>by
  rcases Nat.eq_zero_or_pos (unl L n) with h0|h0
  ·refine⟨n,by omega,?_,?_⟩
   ·simp only [unl,h0] at hp
    cases hL:L n with
    |false=>rfl
    |true=>rw [hL] at hp;simp at hp
   ·intro q hq
    cases hL:L q with
    |true=>rfl
    |false=>
     have:∀m,q<m→0<unl L m:=by
      intro m
      induction m with
      |zero=>intro h;omega
      |succ m ih=>
       intro h
       simp only [unl]
       rcases Nat.lt_or_ge q m with h1|h1
       ·have:=ih h1;omega
       ·have:q=m:=by omega
        subst this;rw [hL];simp
     have:=this n hq
     omega
  ·obtain⟨j,h1,h2,h3⟩:=unl_pos n h0
   exact⟨j,by omega,h2,h3⟩
theorem unl_zero {L:Nat→Bool}:∀n,unl L n=0→∀j,j<n→L j=true
 |0,_,j,hj=>by omega
 |n+1,hz,j,hj=>by
  simp only [unl] at hz
  rcases Nat.lt_or_ge j n with h1|h1
  ·exact unl_zero n om j h1
  ·have:j=n:=by omega
   subst this
   cases hL:L j with
   |true=>rfl
   |false=>rw [hL] at hz;simp at hz
theorem unl_set {L:Nat→Bool} {i:Nat}:∀n,i<n→L i=false→unl (fun j=>if j=i then true else L j) n+1=unl L n
 |0,hi,_=>by omega
 |n+1,hi,hL=>by
  simp only [unl]
  rcases Nat.lt_or_ge i n with h1|h1
  ·have:=unl_set n h1 hL
   have hx:(if n=i then true else L n)=L n:=if_neg om
   simp only [hx]
   omega
  ·have:i=n:=by omega
   subst this
   rw [unl_congr (L':=L) i (fun j hj=>by rw [if_neg om])]
   simp [hL]
theorem draw_any {n:Nat} {ps:List (Oper×AV)} (hok:lexOk l=true) (ht:tailOk l n=true) (hn:n≤l.length) (hps:ps.map (·.1)=l.take n) (d:Dr E h l ps σ σ') {Q:Exit→Act→World→Prop}
 (k:∀a w,St E.N E.C σ' h a w→wpList E.P l.toArray Q (l.drop n) a w):∀(u:Nat) (listed:Array Bool) (a:Act) (w:World),unl (fun j=>listed.getD j false) n=u→listed.size=l.length→
 (∀i o,l[i]?=some o→listed.getD i false=true→∀e∈o.after,Region.binds .any e=true→listed.getD e.on false=true)→(∀j,n≤j→j<l.length→listed.getD j false=false)→
 St E.N E.C (sigL ps (marks n listed) σ) h a w→wpAny E.P .any l.toArray Q (u+(l.length-n)) listed a w:=by
 have hpl:ps.length=n:=by have:=congrArg List.length hps;simp at this;omega
 have hpi:∀(j:Nat) (p:Oper×AV),ps[j]?=some p→l[j]?=some p.1∧j<n:=by
  intro j p hp
  have hj:j<ps.length:=(List.getElem?_eq_some_iff.1 hp).1
  have h1:(ps.map (·.1))[j]?=some p.1:=by simp [hp]
  rw [hps,List.getElem?_take] at h1
  split at h1
  ·exact⟨h1,by omega⟩
  ·cases h1
 intro u
 induction u with
 |zero=>
  intro listed a w hu hs _ htl st
  have hall:=unl_zero n hu
  rw [Nat.zero_add]
  refine tail_any hok ht (l.length-n) n listed a w (Nat.le_refl _) om hs (fun j hj=> ?_) (k a w ?_)
  ·rcases Nat.lt_or_ge j n with h1|h1
   ·rw [hall j h1];simp [h1]
   ·rw [htl j h1 hj];simp;omega
  ·have e:marks n listed=(List.range ps.length).map fun _=>true:=by
    unfold marks
    rw [hpl]
    exact List.map_congr_left fun j hj=>hall j (by simpa using hj)
   rw [d.end_,←e]
   exact st
 |succ u ih=>
  intro listed a w hu hs hcl htl st
  rw [show u+1+(l.length-n)=(u+(l.length-n))+1 from by omega]
  obtain⟨j0,hj0,hj1,hj2⟩:=unl_pos (L:=fun j=>listed.getD j false) n om
  have hready:j0∈Region.ready .any l.toArray listed:=(mem_ready hs).2 ⟨by omega,hj1,fun o ho e he hb=>hj2 _ (lex_back hok ho he hb)⟩
  refine⟨fun e=>by rw [e] at hready;simp at hready,fun i hi=> ?_⟩
  obtain⟨h1,h2,h3⟩:=(mem_ready hs).1 hi
  have ho:l[i]?=some l[i]:=List.getElem?_eq_getElem h1
  have hin:i<n:=by
   rcases Nat.lt_or_ge i n with hlt|hge
   ·exact hlt
   ·obtain⟨e,he,hon,hb⟩:=edge_mem (tail_edge ht ho hge (show j0<i from by omega))
    have:=h3 _ ho e he hb
    rw [hon] at this
    rw [hj1] at this
    cases this
  have hpi':ps[i]?=some ps[i]:=List.getElem?_eq_getElem om
  obtain⟨hp1,_⟩:=hpi i _ hpi'
  rw [ho] at hp1
  injection hp1 with hp1
  obtain⟨hd,hc⟩:=d.at_ i ps[i].1 ps[i].2 hpi'
  have hsame:∀t∈looks l ps[i].1,(sigL ps (marks n listed) σ).get t=(sigL ps ((List.range ps.length).map fun j=>decide (j<i)) σ).get t:=by
   intro t htl'
   by_cases hex:∃(j:Nat) (p:Oper×AV),ps[j]?=some p∧j<i∧p.1.dst=some t
   ·obtain⟨j,p,hp,hji,hdt⟩:=hex
    obtain⟨hlp,hjn⟩:=hpi j p hp
    have huniq:∀(j':Nat) (p':Oper×AV),j'≠j→ps[j']?=some p'→p'.1.dst≠some t:=fun j' p' hne hp'=>
     (lex_pair hok (hpi j' p' hp').1 hlp hdt).2 (fun e=>hne e.symm)
    obtain⟨e,he,hon,hb⟩:=edge_mem (((lex_pair hok (by rw [←hp1];exact ho) hlp hdt).1 htl').1 hji)
    have hlj:listed.getD j false=true:=by rw [←hon];exact h3 _ ho e (by rw [hp1];exact he) hb
    rw [sigL_get_some ps _ σ t j p.1 p.2 hp (by rw [marks_get hjn,hlj]) hdt huniq,
     sigL_get_some ps _ σ t j p.1 p.2 hp (by simp [show j<ps.length from by omega,hji]) hdt huniq]
   ·rw [sigL_get_none ps _ σ t (fun j p hp hb hdt=> ?_),sigL_get_none ps _ σ t (fun j p hp hb hdt=> ?_)]
    ·have hjl:j<ps.length:=(List.getElem?_eq_some_iff.1 hp).1
     simp [hjl] at hb
     exact hex ⟨j,p,hp,hb,hdt⟩
    ·obtain⟨hlp,hjn⟩:=hpi j p hp
     rw [marks_get hjn] at hb
     injection hb with hb
     rcases Nat.lt_trichotomy j i with hlt|heq|hgt
     ·exact hex ⟨j,p,hp,hlt,hdt⟩
     ·subst heq;rw [h2] at hb;cases hb
     ·obtain⟨e,he,hon,hb'⟩:=edge_mem (((lex_pair hok (by rw [←hp1];exact ho) hlp hdt).1 htl').2 hgt)
      have:=hcl j _ hlp hb e he hb'
      rw [hon,h2] at this
      cases this
  have hnext:∀a' w',St E.N E.C ((sigL ps (marks n listed) σ).setO ps[i].1.dst ps[i].2) h a' w'→wpAny E.P .any l.toArray Q (u+(l.length-n)) (listed.setIfInBounds i true) a' w':=by
   intro a' w' st'
   have his:i<listed.size:=by omega
   refine ih _ a' w' ?_ (by simpa using hs) (fun q o hq hlq e he hb=> ?_) (fun j hj hjl=> ?_) ?_
   ·have hfun:(fun j=>(listed.setIfInBounds i true).getD j false)=fun j=>if j=i then true else listed.getD j false:=funext fun j=>getD_set his
    rw [hfun]
    have:=unl_set (L:=fun j=>listed.getD j false) n hin h2
    omega
   ·rw [getD_set his] at hlq⊢
    by_cases hqi:q=i
    ·subst hqi
     by_cases hei:e.on=q
     ·rw [if_pos hei]
     ·rw [if_neg hei];exact h3 o hq e he hb
    ·rw [if_neg hqi] at hlq
     have:=hcl q o hq hlq e he hb
     by_cases hei:e.on=i
     ·rw [if_pos hei]
     ·rw [if_neg hei];exact this
   ·rw [getD_set his,if_neg om];exact htl j hj hjl
   ·refine St.weak st' (fun t=>.inr ?_) (List.Sublist.refl _)
    rw [setO_get]
    by_cases hdt:ps[i].1.dst=some t
    ·rw [if_pos hdt]
     have huniq:∀(j':Nat) (p':Oper×AV),j'≠i→ps[j']?=some p'→p'.1.dst≠some t:=fun j' p' hne hp'=>
      (lex_pair hok (hpi j' p' hp').1 (hpi i _ hpi').1 hdt).2 (fun e=>hne e.symm)
     exact sigL_get_some ps _ σ t i ps[i].1 ps[i].2 hpi' (by rw [marks_get hin,getD_set his,if_pos rfl]) hdt huniq
    ·rw [if_neg hdt]
     by_cases hex:∃(j:Nat) (p:Oper×AV),ps[j]?=some p∧listed.getD j false=true∧p.1.dst=some t
     ·obtain⟨j,p,hp,hlj,hdt'⟩:=hex
      obtain⟨hlp,hjn⟩:=hpi j p hp
      have huniq:∀(j':Nat) (p':Oper×AV),j'≠j→ps[j']?=some p'→p'.1.dst≠some t:=fun j' p' hne hp'=>
       (lex_pair hok (hpi j' p' hp').1 hlp hdt').2 (fun e=>hne e.symm)
      rw [sigL_get_some ps _ σ t j p.1 p.2 hp (by rw [marks_get hjn,getD_set his];split<;>first|rfl|rw [hlj]) hdt' huniq,
       sigL_get_some ps _ σ t j p.1 p.2 hp (by rw [marks_get hjn,hlj]) hdt' huniq]
     ·rw [sigL_get_none ps _ σ t (fun j p hp hb hdt'=> ?_),sigL_get_none ps _ σ t (fun j p hp hb hdt'=> ?_)]
      ·obtain⟨_,hjn⟩:=hpi j p hp
       rw [marks_get hjn] at hb
       injection hb with hb
       exact hex ⟨j,p,hp,hb,hdt'⟩
      ·obtain⟨_,hjn⟩:=hpi j p hp
       rw [marks_get hjn,getD_set his] at hb
       injection hb with hb
       split at hb
       ·rename_i hji;subst hji;rw [hpi'] at hp;injection hp with hp;subst hp;exact hdt hdt'
       ·exact hex ⟨j,p,hp,hb,hdt'⟩
  have hcalm:=hc _ a w Q hsame st
  unfold wpOp
  rw [show l.toArray[i]?=some l[i] from by simp [h1]]
  simp only
  rw [hp1]
  split
  ·rename_i hw
   rw [if_pos hw] at hcalm
   exact .inl (Oper.wp_mono hnext hcalm)
  ·rename_i hw
   rw [if_neg hw] at hcalm
   have st2:=st.put hd (r:=.tup []) (v:=undef) ⟨[],rfl,trivial⟩
   rw [←hcalm] at st2
   exact hnext _ _ st2
theorem aw_draw {id:Nat} (n:Nat) {ps:List (Oper×AV)} (hm:E.P.follows .mixedOrders=true) (hok:(lexOk l&&tailOk l n&&decide (n≤l.length))=true) (hps:ps.map (·.1)=l.take n) (d:Dr E h l ps σ σ') (k:aw E (.ops l (l.drop n)::K) σ' h):
 aw E (.code (.region id l.toArray true)::K) σ h:=fun a w s=>by
 simp only [Bool.and_eq_true,decide_eq_true_eq] at hok
 refine wp_region_any hm ?_
 have s':=s.later (Fr.drew (fun _=>False) w (w.drawn+1))
 have e0:∀j,(Array.replicate l.length false).getD j false=false:=fun j=>by
  rw [Array.getD_eq_getD_getElem?]
  simp only [Array.getElem?_replicate]
  split<;>rfl
 have hun:∀m,unl (fun j=>(Array.replicate l.length false).getD j false) m=m:=by
  intro m
  induction m with
  |zero=>rfl
  |succ m ih=>rw [unl,ih,e0];rfl
 have:=draw_any (Q:=exW E K) hok.1.1 hok.1.2 hok.2 hps d (fun a w st=>k a w st) n (Array.replicate l.length false) a {w with drawn:=w.drawn+1} (hun n) (by simp) (fun i o _ hl=>by rw [e0] at hl;cases hl) (fun j _ _=>e0 j) (by
  refine s'.weak (fun t=>.inr ?_) (List.Sublist.refl _)
  rw [sigL_get_none ps _ σ t (fun j p hp hb=> ?_)]
  exfalso
  have hjl:j<ps.length:=(List.getElem?_eq_some_iff.1 hp).1
  have hpl:ps.length=n:=by have:=congrArg List.length hps;simp at this;omega
  rw [marks_get om,e0] at hb
  cases hb)
 rw [show n+(l.length-n)=l.length from by omega] at this
 simpa using this
def DrK (E:Env) (h:Heap) (l:List Oper) (K:List It) (k:Nat) (rest:List Oper) (σ:Sl):Prop:=
 ∃ps σ',ps.map (·.1)=rest.take k∧Dr E h l ps σ σ'∧aw E (.ops l (rest.drop k)::K) σ' h
theorem aw_dr {id:Nat} (n:Nat) (hm:E.P.follows .mixedOrders=true) (hok:(lexOk l&&tailOk l n&&decide (n≤l.length))=true) (k:DrK E h l K n l σ):aw E (.code (.region id l.toArray true)::K) σ h:=by
 obtain⟨ps,σ',h1,h2,h3⟩:=k
 exact aw_draw n hm hok h1 h2 h3
theorem drk_nil {rest:List Oper} (k:aw E (.ops l rest::K) σ h):DrK E h l K 0 rest σ:=⟨[],σ,by simp,.nil,by simpa using k⟩
theorem drk_cons {rest:List Oper} {n:Nat} {r:AV} (hc:Calm E h l σ o r) (k:DrK E h l K n rest (σ.setO o.dst r)):DrK E h l K (n+1) (o::rest) σ:=by
 obtain⟨ps,σ',h1,h2,h3⟩:=k
 exact⟨(o,r)::ps,σ',by simp [h1],.cons hc h2,by simpa using h3⟩
theorem drk_call {rest:List Oper} {n:Nat} {f:FuncId} {xs:List Operand} {ts:Array TypeId} {args:List AV} {r:AV} (hf:Fa E.P f args r) (hop:o.op=.call {callee:=.value (.func f),args:=xs.toArray,argTypes:=ts}) (hw:wantA l σ o=some true) (hd:dstOk E.N o.dst=true)
 (le:LeA h (xs.map (ev σ)) args) (k:DrK E h l K n rest (σ.setO o.dst r)):DrK E h l K (n+1) (o::rest) σ:=drk_cons (Calm.call hf hop hw hd le) k
end
end Go.AI
namespace Go.AI
attribute [go_sem] wide Bool.false_eq_true sameB runOps wantA pureOp ev Sl.get Sl.set Sl.setO cst cstC binAV binI binInt binSh loadAV indexAV fieldAV sliceAV boundAV buildAV lenCV cellsAt nilAV isNil Heap.get Heap.set Heap.del
attribute [go_sem] Option.map_some Option.map_none Option.bind_some List.getElem?_cons_zero List.getElem?_cons_succ Nat.mul_one Nat.add_zero Nat.zero_add Nat.sub_zero Nat.zero_mul Int.toNat_natCast
@[go_sem] theorem pick_bool (t p q:Bool):pickAV t (.c (.bool p)) (.c (.bool q))=.c (.bool (bif t then p else q)):=rfl
@[go_sem] theorem pick_true (x y:AV):pickAV true x y=x:=by rw [pickAV_eq];rfl
@[go_sem] theorem pick_false (x y:AV):pickAV false x y=y:=by rw [pickAV_eq];rfl
abbrev ws (t:Bool) (xs:List Nat):CV:=.row t 1 xs.length fun j=>.int .u32 (xs.getD j 0:Nat)
def wf (zs:List Nat) (j:Nat):CV:=.int .u32 (zs.getD j 0:Nat)
@[go_sem] theorem wf_at (zs:List Nat) (j:Nat):wf zs j=.int .u32 (zs.getD j 0:Nat):=rfl
theorem updF_wf {zs:List Nat} {i v:Nat} (hi:i<zs.length):updF (wf zs) i [.int .u32 (v:Int)]=wf (zs.set i v):=by
 funext j
 simp only [updF]
 by_cases e:j=i
 ·subst e;simp [hi,wf]
 ·rw [if_neg e]
  show CV.int .u32 (zs.getD j 0:Nat)=CV.int .u32 ((zs.set i v).getD j 0:Nat)
  rw [List.getD_eq_getElem?_getD,List.getD_eq_getElem?_getD,List.getElem?_set_ne (fun h=>e h.symm)]
theorem make_wf (n:Nat):(fun j=>ofL [.int .u32 0] (j%1))=wf (List.replicate n 0):=by
 funext j
 show ofL [CV.int .u32 0] (j%1)=CV.int .u32 ((List.replicate n 0).getD j 0:Nat)
 rw [Nat.mod_one,List.getD_eq_getElem?_getD,List.getElem?_replicate]
 split<;>rfl
theorem shr_u64_32 (a:Int):shrZ .u64 a 32=a/4294967296:=by
 rw [shrZ_eq]
 show a.fdiv 4294967296=_
 rw [Int.fdiv_eq_ediv_of_nonneg _ om]
theorem shr_i64_32 (a:Int):shrZ .i64 a 32=a/4294967296:=by
 rw [shrZ_eq]
 show a.fdiv 4294967296=_
 rw [Int.fdiv_eq_ediv_of_nonneg _ om]
theorem shr_u64_63 (a:Int):shrZ .u64 a 63=a/9223372036854775808:=by
 rw [shrZ_eq]
 show a.fdiv 9223372036854775808=_
 rw [Int.fdiv_eq_ediv_of_nonneg _ om]
theorem shr63_nat (D:Nat):shrZ .u64 (D:Int) 63=((D/9223372036854775808:Nat):Int):=by rw [shr_u64_63];omega
attribute [go_sem] shr_i64_32 shr_u64_32 LeA List.map_cons List.map_nil AV.cells Option.getD_some Option.getD_none
@[go_sem] theorem ofL_at:∀(cs:List CV) (k:Nat),ofL cs k=(cs[k]?).getD .any
 |[],_=>rfl
 |_::_,0=>rfl
 |_::cs,k+1=>by rw [List.getElem?_cons_succ];exact ofL_at cs k
@[go_sem] theorem toNat_add_nat (a b:Nat):((a:Int)+(b:Int)).toNat=a+b:=by omega
@[go_sem] theorem toNat_add_one (a:Nat):((a:Int)+1).toNat=a+1:=by omega
@[go_sem] theorem toNat_sub_one (a:Nat):((a:Int)-1).toNat=a-1:=by omega
theorem c_int {k:IntKind} {a b:Int} (e:a=b):AV.c (.int k a)=.c (.int k b):=by rw [e]
attribute [go_sem] Sl.sub cond_true cond_false
theorem le_ws {h:Heap} {t t':Bool} {xs:List Nat} (ht:t'=true→t=true):LeC h (ws t xs) (ws t' xs):=.row ht fun _ _=>.refl _
theorem ler_ws {h:Heap} {t:Bool} {xs:List Nat}:LeR h (ws true xs) (ws t xs):=.row fun _ _=>.int _ _
theorem ler_oslws {h:Heap} {t:Bool} {g off n m:Nat} {ty:TypeId} {f:Nat→CV} {ys:List Nat} (hg:h.get g=some (.cells ty m f)) (hm:off+n≤m) (hn:n=ys.length) (hf:∀j,j<n→f (off+j)=.int .u32 (ys.getD j 0:Nat)):LeR h (.osl g 1 off n) (ws t ys):=by
 subst hn
 exact .osl hg om (fun j hj=>by rw [hf j om];exact .int _ _)
theorem lec_oslws {h:Heap} {g off n m:Nat} {ty:TypeId} {f:Nat→CV} {ys:List Nat} (hg:h.get g=some (.cells ty m f)) (hm:off+n≤m) (hn:n=ys.length) (hf:∀j,j<n→f (off+j)=.int .u32 (ys.getD j 0:Nat)):LeC h (.osl g 1 off n) (ws false ys):=by
 subst hn
 exact .osl hg om (fun j hj=>by rw [hf j om];exact .refl _)
theorem ler_int {h:Heap} {k:IntKind} {a b:Int} (e:a=b):LeR h (.int k a) (.int k b):=by subst e;exact .int _ _
theorem ler_bool {h:Heap} {a b:Bool} (e:a=b):LeR h (.bool a) (.bool b):=by subst e;exact .bool _
@[go_sem] theorem envP (P:Program) (fn:Func) (C:Ctx) (r:AV):(envOf P fn C r).P=P:=rfl
@[go_sem] theorem resAV1 (P:Program) (σ:Sl) (h:Heap) (t:Nat):resAV P σ h [.tmp t]=some (σ.get t):=rfl
attribute [go_sem] resAV rvAV List.mapM_cons List.mapM_nil
theorem wrap_u32_nat (n:Nat):wrapZ .u32 (n:Int)=((n%4294967296:Nat):Int):=by rw [wrapZ_eq,IntKind.wrap_u32];omega
theorem wrap_u64 {x:Int} (h0:0≤x) (h1:x≤18446744073709551615):IntKind.u64.wrap x=x:=wrap_inRange ⟨h0,h1⟩
theorem wrap_u32 {x:Int} (h0:0≤x) (h1:x≤4294967295):IntKind.u32.wrap x=x:=wrap_inRange ⟨h0,h1⟩
theorem wrap_i64 {x:Int} (h0: -9223372036854775808≤x) (h1:x≤9223372036854775807):IntKind.i64.wrap x=x:=wrap_inRange ⟨h0,h1⟩
attribute [go_sem] Nat.reduceEqDiff reduceIte Nat.reduceAdd Nat.reduceSub Nat.reduceMul Nat.reduceLeDiff Nat.reduceLT Int.reduceToNat List.length_cons List.length_nil Bool.not_true Bool.not_false
section
variable {E : Env} {K : List It} {σ : Sl} {h : Heap} {all l rest : List Oper} {o : Oper}
theorem wa1 {x y:Code} (k:aw E (.code x::.code y::K) σ h):aw E (.code (.seq x y)::K) σ h:=aw_seq k
theorem wa2 {id:Nat} {c:Code} (k:aw E (.code c::.blk id::K) σ h):aw E (.code (.block id c)::K) σ h:=aw_block k
theorem wa3 (k:aw E K σ h):aw E (.code .skip::K) σ h:=aw_skip k
theorem wa4 {id:Nat} (k:aw E K σ h):aw E (.blk id::K) σ h:=aw_blk k
theorem wa5 {id:Nat} {K':List It} (hk:exitK id K=some K') (k:aw E K' σ h):aw E (.code (.exit id)::K) σ h:=aw_exit hk k
theorem wa6 {id:Nat} (k:aw E (.ops l l::K) σ h):aw E (.code (.region id l.toArray false)::K) σ h:=aw_region k
theorem wa7 (k:aw E K σ h):aw E (.ops l []::K) σ h:=aw_ops_nil k
theorem wa8 (k:aw E (.ops l rest::K) σ h):DrK E h l K 0 rest σ:=drk_nil k
theorem wl2 {t:Bool} {s n:Nat} {f:Nat→CV}:LeC h (.row true s n f) (.row t s n f):=.row (fun _=>rfl) fun _ _=>.refl _
theorem lel_refl {h:Heap}:∀xs:List CV,LeL h xs xs
 |[]=>trivial
 |x::xs=>⟨.refl x,lel_refl xs⟩
end
end Go.AI
namespace Go.AI
def DoneH (C:Ctx) (Q:AV→Heap→Prop):Ending→World→Prop:=fun e w'=>∃v r h',e=.returned v∧Q r h'∧h'.keys.Nodup∧(∀g∈h'.keys,C.own0 g∨C.w0.heap.size≤g)∧
 Rep (Stab C h' w') w' r v∧(∀g o,(g,o)∈h'→ORep (Stab C h' w') w' g o)∧Fr C.own0 C.w0 w'
def Fh (P:Program) (f:FuncId) (hc:Heap) (args:List AV) (Q:AV→Heap→Prop):Prop:=
 Callable P f∧∀(C:Ctx) (vs:List Value),(∀b,C.own0 b↔b∈hc.keys)→hc.keys.Nodup→(∀g o,(g,o)∈hc→ORep C.S0 C.w0 g o)→RepT C.S0 C.w0 args vs→Calls P f vs.toArray C.w0 (DoneH C Q)
def envOfH (P:Program) (fn:Func) (C:Ctx) (Q:AV→Heap→Prop):Env:={P,N:=fn.ntmps,C,Q:=bodyPost P fn (DoneH C Q)}
@[go_sem] theorem envPH (P:Program) (fn:Func) (C:Ctx) (Q:AV→Heap→Prop):(envOfH P fn C Q).P=P:=rfl
@[go_sem] theorem envCH (P:Program) (fn:Func) (C:Ctx) (Q:AV→Heap→Prop):(envOfH P fn C Q).C=C:=rfl
@[go_sem] theorem envC (P:Program) (fn:Func) (C:Ctx) (r:AV):(envOf P fn C r).C=C:=rfl
theorem keysPerm {h h':Heap} (hp:h.Perm h') (g:Nat):g∈h.keys↔g∈h'.keys:=(hp.map (·.1)).mem_iff
theorem nodupPerm {h h':Heap} (hp:h.Perm h') (hn:h.keys.Nodup):h'.keys.Nodup:=((hp.map (fun p:Nat×AObj=>p.1)).nodup_iff).1 hn
section
variable {E : Env} {K : List It} {σ σ' : Sl} {h : Heap} {all rest : List Oper} {o : Oper}
theorem doneh_of {P:Program} {fn:Func} {C:Ctx} {Q:AV→Heap→Prop} {x:AV} {a:Act} {w:World} (s:St fn.ntmps C σ h a w) {rvs:List ResultVar} (hrs:fn.results=rvs.toArray) (hx:resAV P σ h rvs=some x)
 (hfl:∀xs,x=.tup xs→xs.all AV.flat=true) (hq:Q x h):a.defers=[]∧∃v,(results fn a.tmps).run P w=.ok v w∧DoneH C Q (.returned v) w:=by
 obtain⟨v,hv,hr⟩:=results_run s hrs hx hfl
 exact⟨s.defers,v,hv,v,x,h,rfl,hq,s.nodup,s.keys,hr,s.heap,s.frame⟩
theorem aw_reth {P:Program} {fn:Func} {C:Ctx} {Q:AV→Heap→Prop} {x:AV} {rvs:List ResultVar} (hrs:fn.results=rvs.toArray) (hx:resAV P σ h rvs=some x) (hfl:∀xs,x=.tup xs→xs.all AV.flat=true)
 (hq:Q x h):aw (envOfH P fn C Q) (.code .ret::K) σ h:=fun a w s=>wp_ret (exW_ret a w (doneh_of s hrs hx hfl hq))
theorem aw_endh {P:Program} {fn:Func} {C:Ctx} {Q:AV→Heap→Prop} {x:AV} {rvs:List ResultVar} (hrs:fn.results=rvs.toArray) (hx:resAV P σ h rvs=some x) (hfl:∀xs,x=.tup xs→xs.all AV.flat=true)
 (hq:Q x h):aw (envOfH P fn C Q) [] σ h:=fun a w s=>doneh_of s hrs hx hfl hq
theorem aw_rethq {P:Program} {fn:Func} {C:Ctx} {Q:AV→Heap→Prop} {rvs:List ResultVar} (hrs:fn.results=rvs.toArray) (k:∀R:Option AV→Prop,(∀x,flatR x=true→Q x h→R (some x))→R (resAV P σ h rvs)):
 aw (envOfH P fn C Q) (.code .ret::K) σ h:=by
 have:=k (fun y=>y=resAV P σ h rvs→aw (envOfH P fn C Q) (.code .ret::K) σ h) (fun x hf hq e=>aw_reth hrs e.symm (flatR_spec hf) hq)
 exact this rfl
theorem aw_endhq {P:Program} {fn:Func} {C:Ctx} {Q:AV→Heap→Prop} {rvs:List ResultVar} (hrs:fn.results=rvs.toArray) (k:∀R:Option AV→Prop,(∀x,flatR x=true→Q x h→R (some x))→R (resAV P σ h rvs)):
 aw (envOfH P fn C Q) [] σ h:=by
 have:=k (fun y=>y=resAV P σ h rvs→aw (envOfH P fn C Q) [] σ h) (fun x hf hq e=>aw_endh hrs e.symm (flatR_spec hf) hq)
 exact this rfl
theorem fh_of_body {P:Program} {f:FuncId} {fn:Func} {c:Code} {hc:Heap} {args:List AV} {Q:AV→Heap→Prop} (hf:P.funcs[f]?=some fn) (hb:fn.body=some c) (hn:(fn.name== "runtime.NumGoroutine")=false) (hl:args.length≤fn.ntmps)
 (k:∀C:Ctx,(∀b,C.own0 b↔b∈hc.keys)→aw (envOfH P fn C Q) [.code c] (initS 0 args) hc):Fh P f hc args Q:=by
 refine⟨⟨fn,hf,by rw [hb];rfl,hn⟩,fun C vs hC hnd ho hr=> ?_⟩
 refine calls_of_wp hf hb (R:=DoneH C Q) ?_
 have hk:=k C hC
 have kp:Keeps C.S0 (Stab C hc C.w0) C.w0 C.w0:=⟨fun t b hb=>⟨.inl hb,C.lt t b hb,fun hm=>C.apart t b hb ((hC b).2 hm)⟩,fun _ _ _=>rfl,fun _ _ x=>x⟩
 have hlen:=hr.len
 refine hk _ _ ⟨?_,rfl,fun t=> ?_,fun g o hm=>ORep.keep kp rfl (ho g o hm),hnd,fun g hg=>.inl ((hC g).2 hg),Fr.refl _ _⟩
 ·show(vs.toArray++Array.replicate (fn.ntmps-vs.toArray.size) undef).size=fn.ntmps
  simp;omega
 ·rw [initS_get]
  simp only [Nat.zero_le,if_true,Nat.sub_zero]
  refine Rep.keep kp ?_
  have h1:=RepT.getD args vs hr t
  have h2:(vs.toArray++Array.replicate (fn.ntmps-vs.toArray.size) undef).getD t undef=vs.getD t undef:=by
   rw [Array.getD_eq_getD_getElem?,List.getD_eq_getElem?_getD]
   by_cases ht:t<vs.length
   ·rw [Array.getElem?_append_left (by simpa using ht)];simp
   ·rw [Array.getElem?_append_right (by simpa using ht)]
    rw [List.getElem?_eq_none om]
    simp [Array.getElem?_replicate]
    split<;>rfl
  rw [h2]
  exact h1
theorem LeC.rep0 {S:Bool→Nat→Prop} {w:World} (hm:∀b,S true b→S false b) {x y:CV} {v:Value} (le:LeC [] x y) (hr:RepC S w x v):RepC S w y v:=
 (le.rep hm (fun g o hg=>by simp at hg) hr).keep ⟨fun t b hb=>hb.elim id (fun x=>by simp [Heap.keys] at x),fun _ _ _=>rfl,fun _ _ x=>x⟩
theorem Le0.rep0 {S:Bool→Nat→Prop} {w:World} (hm:∀b,S true b→S false b) {x y:AV} {v:Value} (le:Le0 [] x y) (hr:Rep S w x v):Rep0 S w y v:=
 (le.rep hm (fun g o hg=>by simp at hg) hr).keep ⟨fun t b hb=>hb.elim id (fun x=>by simp [Heap.keys] at x),fun _ _ _=>rfl,fun _ _ x=>x⟩
theorem LeA.rep0 {N:Nat} {C:Ctx} {a:Act} {w:World} (s:St N C σ h a w):∀{xs:List Operand} {ys:List AV},LeA [] (xs.map (ev σ)) ys→RepT (Stab C h w) w ys (xs.map a.eval)
 |[],[],_=>trivial
 |x::xs,y::ys,le=>⟨le.1.rep0 Stab.mono' (ev_rep s x),LeA.rep0 s le.2⟩
 |[],_::_,le=>le.elim
 |_::_,[],le=>le.elim
theorem Fh.use {P:Program} {N:Nat} {C:Ctx} {a:Act} {w:World} {f:FuncId} {vs:List Value} {args:List AV} {hc hr:Heap} {Q:AV→Heap→Prop} (hf:Fh P f hc args Q) (s:St N C σ h a w) (hp:h.Perm (hc++hr)) (le:RepT (Stab C h w) w args vs):
 Calls P f vs.toArray w fun e w'=>∃v r h',e=.returned v∧Q r h'∧(∀g∈h'.keys,g∉hr.keys)∧St N C σ (h'++hr) a w'∧Rep (Stab C (h'++hr) w') w' r v:=by
 have hkk:∀g,g∈h.keys↔g∈hc.keys∨g∈hr.keys:=fun g=>by
  rw [keysPerm hp];simp [Heap.keys,List.mem_append,or_and_right,exists_or]
 have hnd:(hc.keys++hr.keys).Nodup:=by
  have:(hc++hr).keys.Nodup:=nodupPerm hp s.nodup
  simpa [Heap.keys] using this
 have hdisj:∀g,g∈hc.keys→g∉hr.keys:=fun g h1 h2=>(List.nodup_append.1 hnd).2.2 g h1 g h2 rfl
 let C':Ctx:={w0:=w,S0:=Stab C h w,own0:=fun b=>b∈hc.keys,mono:=Stab.mono',apart:=fun t b hb hm=>hb.2.2 ((hkk b).2 (.inl hm)),lt:=fun t b hb=>hb.2.1}
 refine(hf.2 C' vs (fun b=>Iff.rfl) (List.nodup_append.1 hnd).1 (fun g o hm=>s.heap g o (hp.mem_iff.2 (List.mem_append_left _ hm))) le).mono ?_
 rintro e w' ⟨v,r,h',he,hq,hnd',hk',hrep,ho,hfr⟩
 have hfresh:∀g∈h'.keys,g∉hr.keys:=fun g hg hm=>by
  rcases hk' g hg with h1|h1
  ·exact hdisj g h1 hm
  ·have:=s.klt ((hkk g).2 (.inr hm));have h2:w.heap.size≤g:=h1;omega
 have hka:∀g,g∈(h'++hr).keys↔g∈h'.keys∨g∈hr.keys:=fun g=>by simp [Heap.keys,List.mem_append,or_and_right,exists_or]
 have kp1:Keeps (Stab C' h' w') (Stab C (h'++hr) w') w' w':=by
  refine⟨fun t b hb=> ?_,fun _ _ _=>rfl,fun _ _ x=>x⟩
  obtain⟨h1,h2,h3⟩:=hb
  rcases h1 with h1|h1
  ·have h1':Stab C h w t b:=h1
   refine⟨h1'.1,h2,fun hm=> ?_⟩
   rcases(hka b).1 hm with hm|hm
   ·exact h3 hm
   ·exact h1'.2.2 ((hkk b).2 (.inr hm))
  ·have h1':w.heap.size≤b:=h1
   refine⟨.inr (Nat.le_trans s.frame.size h1'),h2,fun hm=> ?_⟩
   rcases(hka b).1 hm with hm|hm
   ·exact h3 hm
   ·have:=s.klt ((hkk b).2 (.inr hm));omega
 have kp2:Keeps (Stab C h w) (Stab C (h'++hr) w') w w':=by
  refine⟨fun t b hb=>⟨hb.1,Nat.lt_of_lt_of_le hb.2.1 hfr.size,fun hm=> ?_⟩,fun t b hb=>hfr.block b hb.2.1 (fun hm=>hb.2.2 ((hkk b).2 (.inl hm))),hfr.has⟩
  rcases(hka b).1 hm with hm|hm
  ·rcases hk' b hm with h1|h1
   ·exact hb.2.2 ((hkk b).2 (.inl h1))
   ·have h2:w.heap.size≤b:=h1;have:=hb.2.1;omega
  ·exact hb.2.2 ((hkk b).2 (.inr hm))
 refine⟨v,r,h',he,hq,hfresh,⟨s.size,s.defers,fun t=>Rep.keep kp2 (s.slots t),fun g ob hm=> ?_,?_,fun g hg=> ?_,?_⟩,Rep.keep kp1 hrep⟩
 ·rcases List.mem_append.1 hm with hm|hm
  ·exact ORep.keep kp1 rfl (ho g ob hm)
  ·have h1:=s.heap g ob (hp.mem_iff.2 (List.mem_append_right _ hm))
   exact ORep.keep kp2 (hfr.block g h1.lt (fun h2=>hdisj g h2 (List.mem_map.2 ⟨_,hm,rfl⟩))) h1
 ·show(List.map (·.1) (h'++hr)).Nodup
  rw [List.map_append]
  refine List.nodup_append.2 ⟨hnd',(List.nodup_append.1 hnd).2.1,fun x hx y hy e=> ?_⟩
  subst e
  exact hfresh x hx hy
 ·rcases(hka g).1 hg with hg|hg
  ·rcases hk' g hg with h1|h1
   ·exact s.keys g ((hkk g).2 (.inl h1))
   ·exact .inr (Nat.le_trans s.frame.size h1)
  ·exact s.keys g ((hkk g).2 (.inr hg))
 ·refine s.frame.trans hfr (fun x hx hlt=> ?_)
  exact(s.keys x ((hkk x).2 (.inl hx))).resolve_right om
theorem aw_callh {f:FuncId} {xs:List Operand} {ts:Array TypeId} {hc hr:Heap} {args:List AV} {Q:AV→Heap→Prop} (hf:Fh E.P f hc args Q) (hop:o.op=.call {callee:=.value (.func f),args:=xs.toArray,argTypes:=ts}) (hw:wantA all σ o=some true) (hd:dstOk E.N o.dst=true)
 (hp:h.Perm (hc++hr)) (le:LeA [] (xs.map (ev σ)) args) (k:∀r h',Q r h'→(∀g∈h'.keys,g∉hr.keys)→aw E (.ops all rest::K) (σ.setO o.dst r) (h'++hr)):aw E (.ops all (o::rest)::K) σ h:=fun a w s=>by
 show wpList _ _ _ _ _ _
 unfold wpList
 rw [if_pos (s.wanted hw)]
 refine .inl ?_
 unfold Oper.wp
 have hrun:(execOp a.eval o).run E.P w=.ok (.enter f (xs.map a.eval).toArray) w:=by
  simp only [execOp,hop,resolve,Act.eval,Deferred.ofValue,invoke,Sem.run_bind]
  have:=hf.1.run (#[]++(Array.map a.eval xs.toArray)++ #[]) w
  simp only [Sem.run_pure,Result.andThen_ok]
  rw [show((xs.map a.eval).toArray)=(#[]++(Array.map a.eval xs.toArray)++ #[]) from by simp]
  exact this
 rw [hrun]
 show Calls _ _ _ _ _
 refine(hf.use s hp (LeA.rep0 s le)).mono ?_
 rintro e w' ⟨v,r,h',rfl,hq,hfr,s',hrep⟩
 exact k r h' hq hfr _ _ (s'.put hd hrep)
theorem aw_perm {h':Heap} (hp:h.Perm h') (k:aw E K σ h'):aw E K σ h:=fun a w s=>by
 have hkk:∀b,b∈h.keys↔b∈h'.keys:=keysPerm hp
 have kp:Keeps (Stab E.C h w) (Stab E.C h' w) w w:=⟨fun t b hb=>⟨hb.1,hb.2.1,fun hm=>hb.2.2 ((hkk b).2 hm)⟩,fun _ _ _=>rfl,fun _ _ e=>e⟩
 exact k a w ⟨s.size,s.defers,fun t=>Rep.keep kp (s.slots t),fun g o hm=>ORep.keep kp rfl (s.heap g o (hp.mem_iff.2 hm)),nodupPerm hp s.nodup,fun g hg=>s.keys g ((hkk g).2 hg),s.frame⟩
theorem aw_frz {t g s off n m:Nat} {ty:TypeId} {f:Nat→CV} {σ':Sl} {h':Heap} (ht:σ.get t=.c (.osl g s off n)) (hg:h.get g=some (.cells ty m f)) (hm:off+n*s≤m) (hn:¬E.C.own0 g) (hσ:σ.set t (.c (.row true s n fun j=>f (off+j)))=σ') (hh:h.del g=h')
 (k:aw E K σ' h'):aw E K σ h:=fun a w st=>by
 subst hσ hh
 refine k a w ?_
 have hgm:(g,_)∈h:=Heap.get_mem hg
 have hkg:g∈h.keys:=List.mem_map.2 ⟨_,hgm,rfl⟩
 have hsub:=Heap.del_sub h g
 have hks:∀b,b∈(h.del g).keys→b∈h.keys:=fun b hb=>by
  obtain⟨p,hp,e⟩:=List.mem_map.1 hb
  exact List.mem_map.2 ⟨p,hsub.subset hp,e⟩
 have kp:Keeps (Stab E.C h w) (Stab E.C (h.del g) w) w w:=⟨fun t b hb=>⟨hb.1,hb.2.1,fun hm=>hb.2.2 (hks b hm)⟩,fun _ _ _=>rfl,fun _ _ e=>e⟩
 refine⟨st.size,st.defers,fun t'=> ?_,fun g' o' hm'=>ORep.keep kp rfl (st.heap g' o' (hsub.subset hm')),(hsub.map _).nodup st.nodup,fun g' hg'=>st.keys g' (hks g' hg'),st.frame⟩
 rw [Sl.get_set]
 by_cases e:t=t'
 ·subst e
  rw [if_pos rfl]
  have h1:=st.slots t
  rw [ht] at h1
  obtain⟨c,hv,hc,_,_⟩:=h1
  obtain⟨cs,hb,hcs,hj⟩:=st.heap g _ hgm
  refine⟨some ⟨g,off,none⟩,c,hv,hc,fun _=>⟨⟨g,off,none⟩,rfl,⟨.inr ((st.keys g hkg).resolve_left hn),st.klt hkg,Heap.del_not h g st.nodup⟩,fun j hjl=> ?_⟩⟩
  obtain⟨u,hu,hr⟩:=hj (off+j) om
  exact⟨u,by rw [add_mk,cell_own hb];exact hu,hr.keep kp⟩
 ·rw [if_neg e]
  exact Rep.keep kp (st.slots t')
end
end Go.AI
namespace Go.AI
attribute [go_sem] List.cons_append List.nil_append List.append_nil
section
variable {E : Env} {K : List It} {σ σ' : Sl} {h : Heap} {all rest : List Oper} {o : Oper}
theorem aw_cut {α:Type} {c:Code} (S:α→Sl) (H:α→Heap) (F:α→Prop) (k1:aw E (.code c::.stop (fun σ' h'=>∃x,Sl.sub (S x) σ'∧(H x).Sublist h'∧F x)::K) σ h) (k2:∀x,F x→aw E K (S x) (H x)):aw E (.code c::K) σ h:=fun a w s=>by
 have:=k1 a w s
 refine wp_mono this ?_
 intro e a' w' hq
 cases e with
 |normal=>
  obtain⟨σ2,h2,⟨x,r1,r2,r3⟩,s2⟩:=hq
  exact k2 x r3 a' w' (s2.weak (Sl.sub_le r1) r2)
 |exit id=>exact hq
 |goto l=>exact hq
 |ret=>exact hq
 |panic c=>exact hq
 |outgrown=>exact hq
theorem aw_conv {t:Nat} {v:AV} (hc:∀S w u,Rep S w (σ.get t) u→Rep S w v u) (hσ:σ.set t v=σ') (k:aw E K σ' h):aw E K σ h:=fun a w s=>by
 subst hσ
 refine k a w ⟨s.size,s.defers,fun t'=> ?_,s.heap,s.nodup,s.keys,s.frame⟩
 rw [Sl.get_set]
 by_cases e:t=t'
 ·subst e;rw [if_pos rfl];exact hc _ _ _ (s.slots t)
 ·rw [if_neg e];exact s.slots t'
theorem repC_row {S:Bool→Nat→Prop} {w:World} {t:Bool} {s n:Nat} {f f':Nat→CV} {u:Value} (hf:∀j,j<n*s→∀x,RepC S w (f j) x→RepC S w (f' j) x) (hr:RepC S w (.row t s n f) u):RepC S w (.row t s n f') u:=by
 obtain⟨A,c,hv,hc,hn⟩:=hr
 refine⟨A,c,hv,hc,fun h0=> ?_⟩
 obtain⟨ad,hA,hS,hj⟩:=hn h0
 refine⟨ad,hA,hS,fun j hjl=> ?_⟩
 obtain⟨x,hx,hr⟩:=hj j hjl
 exact⟨x,hx,hf j hjl x hr⟩
theorem aw_frzw {t g off n m:Nat} {ty:TypeId} {zs ys:List Nat} {σ':Sl} {h':Heap} (ht:σ.get t=.c (.osl g 1 off n)) (hg:h.get g=some (.cells ty m (wf zs))) (hm:off+n≤m) (hn:¬E.C.own0 g) (hl:n=ys.length) (hy:∀j,j<n→zs.getD (off+j) 0=ys.getD j 0) (hσ:σ.set t (.c (ws true ys))=σ') (hh:h.del g=h')
 (k:aw E K σ' h'):aw E K σ h:=by
 subst hσ hl
 refine aw_frz ht hg om hn rfl hh (aw_conv (t:=t) (v:=.c (ws true ys)) (fun S w u hr=> ?_) rfl ?_)
 ·rw [Sl.get_set,if_pos rfl] at hr
  refine repC_row (fun j hj x hx=> ?_) hr
  have:wf zs (off+j)=.int .u32 (ys.getD j 0:Nat):=by rw [wf_at,hy j om]
  rw [this] at hx
  exact hx
 ·have e:∀(σ:Sl) (v v':AV),(σ.set t v).set t v'=σ.set t v':=by
   intro σ v v'
   induction σ with
   |nil=>simp [Sl.set]
   |cons p σ ih=>
    obtain⟨s,x⟩:=p
    by_cases h:s=t
    ·subst h;simp [Sl.set]
    ·simp [Sl.set,h,ih]
  rw [e];exact k
end
end Go.AI
namespace Go.AI
def Heap.ne (g:Nat):Heap→Prop
 |[]=>True
 |(g',_)::h=>((g=g')=False∧(g'=g)=False)∧Heap.ne g h
theorem Heap.ne_of {g:Nat}:∀{h:Heap},g∉h.keys→Heap.ne g h
 |[],_=>trivial
 |(g',_)::h,hg=>by
  simp only [Heap.keys,List.map_cons,List.mem_cons,not_or] at hg
  exact⟨⟨eq_false hg.1,eq_false fun e=>hg.1 e.symm⟩,Heap.ne_of hg.2⟩
theorem Sl.set_same:∀{σ:Sl} {t:Nat} {v:AV},σ.get t=v→v≠.c .any→σ.set t v=σ
 |[],t,v,h,hn=>by simp [Sl.get] at h;exact absurd h.symm hn
 |(s,x)::σ,t,v,h,hn=>by
  by_cases e:s=t
  ·subst e;simp [Sl.get] at h;subst h;simp [Sl.set]
  ·simp only [Sl.get,e,if_false] at h
   simp only [Sl.set,e,if_false,Sl.set_same h hn]
section
variable {E : Env} {K : List It} {σ σ' : Sl} {h : Heap} {all rest : List Oper} {o : Oper}
theorem aw_split (t:Nat) {b:Bool} (hb:σ.get t=.c (.bool b)) (k1:b=true→aw E K (σ.set t (.c (.bool true))) h) (k2:b=false→aw E K (σ.set t (.c (.bool false))) h):aw E K σ h:=by
 cases b with
 |true=>have:=k1 rfl;rwa [Sl.set_same hb (fun e=>by cases e)] at this
 |false=>have:=k2 rfl;rwa [Sl.set_same hb (fun e=>by cases e)] at this
theorem drk_split (t:Nat) {b:Bool} {l:List Oper} {n:Nat} (hb:σ.get t=.c (.bool b)) (k1:b=true→DrK E h l K n rest (σ.set t (.c (.bool true)))) (k2:b=false→DrK E h l K n rest (σ.set t (.c (.bool false)))):DrK E h l K n rest σ:=by
 cases b with
 |true=>have:=k1 rfl;rwa [Sl.set_same hb (fun e=>by cases e)] at this
 |false=>have:=k2 rfl;rwa [Sl.set_same hb (fun e=>by cases e)] at this
theorem aw_condT {t:Nat} {x y:Code} (hb:σ.get t=.c (.bool true)) (k:aw E (.code x::K) σ h):aw E (.code (.cond (.tmp t) x y)::K) σ h:=
 aw_cond hb (fun _=>k) (fun e=>by cases e)
theorem aw_condF {t:Nat} {x y:Code} (hb:σ.get t=.c (.bool false)) (k:aw E (.code y::K) σ h):aw E (.code (.cond (.tmp t) x y)::K) σ h:=
 aw_cond hb (fun e=>by cases e) (fun _=>k)
theorem aw_keep (σ':Sl) (h':Heap) (hs:Sl.sub σ' σ) (hh:h'.Sublist h) (k:aw E K σ' h'):aw E K σ h:=aw_weak (Sl.sub_le hs) hh k
end
theorem le_any_row {h:Heap} {t t':Bool} {s n:Nat} {f:Nat→CV} (ht:t'=true→t=true):LeC h (.row t s n f) (.row t' s n f):=.row ht fun _ _=>.refl _
end Go.AI
