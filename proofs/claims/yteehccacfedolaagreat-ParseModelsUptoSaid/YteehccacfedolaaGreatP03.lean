/- Parts of one proof, laid by a program. -/
import Derived.Test.YteehccacfedolaaGreatP00
import Derived.Test.YteehccacfedolaaGreatP02
import Derived.Test.YteehccacfedolaaGreatProg
import Derived.KernelRfl
set_option linter.unusedSimpArgs false
set_option linter.unusedVariables false
set_option maxRecDepth 100000
set_option maxHeartbeats 12800000
namespace Go.AI
structure Al where
 i:Nat
 d:Nat
 rf:Nat→AV
 ob:AObj
def addA:List Al→(Nat→Bool)→(Nat→Nat)→Sl→Sl
 |[],_,_,σ=>σ
 |x::al,L,γ,σ=>if L x.i then(addA al L γ σ).set x.d (x.rf (γ x.i)) else addA al L γ σ
def extA:List Al→(Nat→Bool)→(Nat→Nat)→Heap
 |[],_,_=>[]
 |x::al,L,γ=>if L x.i then(γ x.i,x.ob)::extA al L γ else extA al L γ
theorem addA_congr {L L':Nat→Bool} {γ γ':Nat→Nat} {σ:Sl}:∀{al:List Al},(∀x∈al,L x.i=L' x.i∧γ x.i=γ' x.i)→addA al L γ σ=addA al L' γ' σ
 |[],_=>rfl
 |x::al,h=>by
  have h1:=h x (List.mem_cons_self ..)
  simp only [addA,h1.1,h1.2,addA_congr (al:=al) fun y hy=>h y (List.mem_cons_of_mem _ hy)]
theorem extA_congr {L L':Nat→Bool} {γ γ':Nat→Nat}:∀{al:List Al},(∀x∈al,L x.i=L' x.i∧γ x.i=γ' x.i)→extA al L γ=extA al L' γ'
 |[],_=>rfl
 |x::al,h=>by
  have h1:=h x (List.mem_cons_self ..)
  simp only [extA,h1.1,h1.2,extA_congr (al:=al) fun y hy=>h y (List.mem_cons_of_mem _ hy)]
theorem addA_out {L:Nat→Bool} {γ:Nat→Nat} {σ:Sl} {t:Nat}:∀{al:List Al},(∀x∈al,L x.i=true→x.d≠t)→(addA al L γ σ).get t=σ.get t
 |[],_=>rfl
 |x::al,h=>by
  have ih:=addA_out (L:=L) (γ:=γ) (σ:=σ) (t:=t) (al:=al) fun y hy=>h y (List.mem_cons_of_mem _ hy)
  simp only [addA]
  split
  ·rename_i hL
   rw [Sl.get_set,if_neg (h x (List.mem_cons_self ..) hL)];exact ih
  ·exact ih
theorem addA_in {L:Nat→Bool} {γ:Nat→Nat} {σ:Sl} {x:Al}:∀{al:List Al},x∈al→L x.i=true→(∀y∈al,y.d=x.d→y=x)→(addA al L γ σ).get x.d=x.rf (γ x.i)
 |[],hm,_,_=>by simp at hm
 |y::al,hm,hL,hu=>by
  by_cases e:y.d=x.d
  ·have:=hu y (List.mem_cons_self ..) e
   subst this
   simp only [addA,hL,if_true,Sl.get_set]
  ·have hm':x∈al:=(List.mem_cons.1 hm).resolve_left (fun h=>e (by rw [h]))
   have ih:=addA_in (γ:=γ) (σ:=σ) hm' hL fun z hz=>hu z (List.mem_cons_of_mem _ hz)
   simp only [addA]
   split
   ·rw [Sl.get_set,if_neg e];exact ih
   ·exact ih
theorem extA_new {L:Nat→Bool} {γ:Nat→Nat} {x:Al} {g:Nat}:∀{al:List Al},x∈al→L x.i=false→(al.map (·.i)).Nodup→
  (extA al (fun j=>if j=x.i then true else L j) (fun j=>if j=x.i then g else γ j)).Perm ((g,x.ob)::extA al L γ)
 |[],hm,_,_=>by simp at hm
 |y::al,hm,hL,hn=>by
  simp only [List.map_cons,List.nodup_cons] at hn
  by_cases e:y.i=x.i
  ·have hxy:x=y:=by
    rcases List.mem_cons.1 hm with h|h
    ·exact h
    ·exact absurd (List.mem_map.2 ⟨x,h,rfl⟩) (e▸hn.1)
   subst hxy
   have:extA al (fun j=>if j=x.i then true else L j) (fun j=>if j=x.i then g else γ j)=extA al L γ:=extA_congr fun z hz=>by
    have hne:z.i≠x.i:=fun h=>hn.1 (List.mem_map.2 ⟨z,hz,h⟩)
    simp [hne]
   simp only [extA,if_true,hL,this]
   exact .refl _
  ·have hm':x∈al:=(List.mem_cons.1 hm).resolve_left (fun h=>e (by rw [h]))
   have ih:=extA_new (L:=L) (γ:=γ) (g:=g) hm' hL hn.2
   simp only [extA,e,if_false]
   split
   ·exact(List.Perm.cons _ ih).trans (List.Perm.swap _ _ _)
   ·exact ih
theorem St.perm {N:Nat} {C:Ctx} {σ:Sl} {h h':Heap} {a:Act} {w:World} (hp:h.Perm h') (s:St N C σ h a w):St N C σ h' a w:=by
 have hkk:∀b,b∈h.keys↔b∈h'.keys:=keysPerm hp
 have kp:Keeps (Stab C h w) (Stab C h' w) w w:=⟨fun t b hb=>⟨hb.1,hb.2.1,fun hm=>hb.2.2 ((hkk b).2 hm)⟩,fun _ _ _=>rfl,fun _ _ e=>e⟩
 exact⟨s.size,s.defers,fun t=>Rep.keep kp (s.slots t),fun g o hm=>ORep.keep kp rfl (s.heap g o (hp.mem_iff.2 hm)),nodupPerm hp s.nodup,fun g hg=>s.keys g ((hkk g).2 hg),s.frame⟩
def edgeT (l:List Oper):Nat→Oper→Nat→Bool
 |0,o,j=>edge o j
 |k+1,o,j=>edge o j||o.after.any fun e=>Region.binds .any e&&(match l[e.on]? with|some p=>edgeT l k p j|none=>false)
def tailT (l:List Oper) (n:Nat):Bool:=l.zipIdx.all fun(o,i)=>decide (i<n)||(List.range i).all fun j=>edgeT l 6 o j
section
variable {E : Env} {K : List It} {σ σ' : Sl} {h : Heap} {l : List Oper} {o : Oper}
theorem edgeT_listed {L:Nat→Bool} (hcl:∀i o,l[i]?=some o→L i=true→∀e∈o.after,Region.binds .any e=true→L e.on=true):∀(k:Nat) (o:Oper) (j:Nat),(∀e∈o.after,Region.binds .any e=true→L e.on=true)→edgeT l k o j=true→L j=true
 |0,o,j,hp,he=>by
  obtain⟨e,he',hon,hb⟩:=edge_mem he
  rw [←hon];exact hp e he' hb
 |k+1,o,j,hp,he=>by
  simp only [edgeT,Bool.or_eq_true] at he
  rcases he with he|he
  ·obtain⟨e,he',hon,hb⟩:=edge_mem he
   rw [←hon];exact hp e he' hb
  ·rw [Array.any_eq_true] at he
   obtain⟨i,hi,h1⟩:=he
   simp only [Bool.and_eq_true] at h1
   obtain⟨hb,h2⟩:=h1
   have hl:=hp _ (Array.getElem_mem hi) hb
   split at h2
   ·rename_i p hpp
    exact edgeT_listed hcl k p j (hcl _ p hpp hl) h2
   ·cases h2
theorem tailT_edge {n:Nat} (ht:tailT l n=true) {i:Nat} {o:Oper} (ho:l[i]?=some o) (hn:n≤i) {j:Nat} (hj:j<i):edgeT l 6 o j=true:=by
 unfold tailT at ht
 rw [List.all_eq_true] at ht
 have:=ht (o,i) (by rw [List.mem_zipIdx_iff_getElem?];exact ho)
 simp only [Bool.or_eq_true,decide_eq_true_eq,List.all_eq_true,List.mem_range] at this
 exact this.resolve_left om j hj
theorem tailT_any {n:Nat} (hok:lexOk l=true) (ht:tailT l n=true) {Q:Exit→Act→World→Prop}:∀(fuel i:Nat) (listed:Array Bool) (a:Act) (w:World),n≤i→i+fuel=l.length→listed.size=l.length→(∀j,j<l.length→listed.getD j false=decide (j<i))→
  wpList E.P l.toArray Q (l.drop i) a w→wpAny E.P .any l.toArray Q fuel listed a w
 |0,i,listed,a,w,_,hf,hs,hl,k=>by
  have:l.drop i=[]:=List.drop_eq_nil_of_le om
  rw [this] at k
  refine⟨?_,k⟩
  rw [List.eq_nil_iff_forall_not_mem]
  intro j hj
  obtain⟨h1,h2,_⟩:=(mem_ready hs).1 hj
  rw [hl j h1] at h2
  simp at h2
  omega
 |fuel+1,i,listed,a,w,hn,hf,hs,hl,k=>by
  have hi:i<l.length:=by omega
  have ho:l[i]?=some l[i]:=List.getElem?_eq_getElem hi
  have hcl:∀q o,l[q]?=some o→listed.getD q false=true→∀e∈o.after,Region.binds .any e=true→listed.getD e.on false=true:=fun q o hq hlq e he hb=>by
   have hql:q<l.length:=(List.getElem?_eq_some_iff.1 hq).1
   rw [hl q hql] at hlq
   have:=lex_back hok hq he hb
   simp only [decide_eq_true_eq] at hlq
   rw [hl e.on om];simp;omega
  have hready:i∈Region.ready .any l.toArray listed:=(mem_ready hs).2 ⟨hi,by rw [hl i hi];simp,fun o ho' e he hb=>by
   have:=lex_back hok ho' he hb
   rw [hl e.on om];simpa using this⟩
  refine⟨fun e=>by rw [e] at hready;simp at hready,fun j hj=> ?_⟩
  obtain⟨h1,h2,h3⟩:=(mem_ready hs).1 hj
  have hji:j=i:=by
   rw [hl j h1] at h2
   simp only [decide_eq_false_iff_not,Nat.not_lt] at h2
   rcases Nat.lt_or_ge i j with hlt|hge
   ·have:=edgeT_listed (L:=fun q=>listed.getD q false) hcl 6 _ i (h3 _ (List.getElem?_eq_getElem h1)) (tailT_edge ht (List.getElem?_eq_getElem h1) om hlt)
    simp only [hl i hi] at this
    simp at this
   ·omega
  subst hji
  rw [List.drop_eq_getElem_cons hi] at k
  unfold wpOp
  rw [show l.toArray[j]?=some l[j] from by simp [hi]]
  have hstep:∀a w,wpList E.P l.toArray Q (l.drop (j+1)) a w→wpAny E.P .any l.toArray Q fuel (listed.setIfInBounds j true) a w:=fun a w k'=>
   tailT_any hok ht fuel (j+1) _ a w om om (by simpa using hs) (fun q hq=>by
    rw [getD_set om,hl q hq]
    by_cases h:q=j
    ·subst h;simp
    ·rw [if_neg h];congr 1;simp;omega) k'
  simp only [wpList] at k
  simp only
  split
  ·rename_i hw
   rw [if_pos hw] at k
   exact k.imp (Oper.wp_mono hstep) id
  ·rename_i hw
   rw [if_neg hw] at k
   exact hstep _ _ k
def CalmX (E:Env) (h:Heap) (l:List Oper) (σ:Sl) (o:Oper) (r:AV):Prop:=
 dstOk E.N o.dst=true∧∀(σ':Sl) (ext:Heap) (a:Act) (w:World) (Q:Exit→Act→World→Prop),(∀t∈looks l o,σ'.get t=σ.get t)→St E.N E.C σ' (ext++h) a w→
  if Region.wanted o (yielded l.toArray a.tmps) then o.wp E.P a w (fun a' w'=>St E.N E.C (σ'.setO o.dst r) (ext++h) a' w') Q else r=.tup []
def NewX (E:Env) (h:Heap) (l:List Oper) (σ:Sl) (o:Oper) (rf:Nat→AV) (ob:AObj):Prop:=
 dstOk E.N o.dst=true∧∀(σ':Sl) (ext:Heap) (a:Act) (w:World) (Q:Exit→Act→World→Prop),(∀t∈looks l o,σ'.get t=σ.get t)→St E.N E.C σ' (ext++h) a w→
  Region.wanted o (yielded l.toArray a.tmps)=true∧o.wp E.P a w (fun a' w'=>∃g,St E.N E.C (σ'.setO o.dst (rf g)) ((g,ob)::(ext++h)) a' w') Q
inductive DrX (E:Env) (h:Heap) (l:List Oper):Nat→List (Oper×AV)→Sl→Sl→List Al→Prop
 |nil {i:Nat} {σ:Sl}:DrX E h l i [] σ σ []
 |calm {i:Nat} {o:Oper} {r:AV} {ps:List (Oper×AV)} {σ σ':Sl} {al:List Al}:CalmX E h l σ o r→DrX E h l (i+1) ps (σ.setO o.dst r) σ' al→DrX E h l i ((o,r)::ps) σ σ' al
 |new {i d:Nat} {o:Oper} {rf:Nat→AV} {ob:AObj} {ps:List (Oper×AV)} {σ σ':Sl} {al:List Al}:o.dst=some d→NewX E h l σ o rf ob→DrX E h l (i+1) ps (σ.setO o.dst (.c .any)) σ' al→DrX E h l i ((o,.c .any)::ps) σ σ' (⟨i,d,rf,ob⟩::al)
theorem sigL_zero:∀(ps:List (Oper×AV)) (n:Nat) (σ:Sl),sigL ps ((List.range n).map (fun _=>false)) σ=σ:=by
 intro ps
 induction ps with
 |nil=>intro n σ;simp [sigL]
 |cons p ps ih2=>
  intro n σ
  cases n with
  |zero=>simp [sigL]
  |succ n=>
   obtain⟨q,r⟩:=p
   simp only [List.range_succ_eq_map,List.map_cons,List.map_map,sigL]
   exact ih2 n σ
theorem DrX.at_ {i:Nat} {ps:List (Oper×AV)} {al:List Al} (d:DrX E h l i ps σ σ' al):∀(j:Nat) (o:Oper) (r:AV),ps[j]?=some (o,r)→
  (CalmX E h l (sigL ps ((List.range ps.length).map fun q=>decide (q<j)) σ) o r∧∀x∈al,x.i≠i+j)∨
  (r=.c .any∧∃x∈al,x.i=i+j∧o.dst=some x.d∧NewX E h l (sigL ps ((List.range ps.length).map fun q=>decide (q<j)) σ) o x.rf x.ob):=by
 have low:∀{i:Nat} {ps:List (Oper×AV)} {σ σ':Sl} {al:List Al},DrX E h l i ps σ σ' al→∀x∈al,i≤x.i:=by
  intro i ps σ σ' al d
  induction d with
  |nil=>intro x hx;simp at hx
  |calm _ _ ih=>intro x hx;have:=ih x hx;omega
  |new _ _ _ ih=>
   intro x hx
   rcases List.mem_cons.1 hx with rfl|hx
   ·exact Nat.le_refl _
   ·have:=ih x hx;omega
 induction d with
 |nil=>intro j o r hp;simp at hp
 | @calm i o' r' ps σ σ' al hc hd ih=>
   intro j o r hp
   simp only [List.length_cons,List.range_succ_eq_map,List.map_cons,List.map_map,sigL]
   cases j with
   |zero=>
    simp only [List.getElem?_cons_zero,Option.some.injEq,Prod.mk.injEq] at hp
    obtain⟨rfl,rfl⟩:=hp
    left
    have e:((fun q=>decide (q<0))∘Nat.succ)=fun _=>false:=by funext q;simp [Function.comp]
    simp only [Nat.lt_irrefl,decide_false,e]
    exact⟨by rw [sigL_zero];exact hc,fun x hx=>by have:=low hd x hx;omega⟩
   |succ j=>
    have:=ih j o r (by simpa using hp)
    have e:((fun q=>decide (q<j+1))∘Nat.succ)=fun q=>decide (q<j):=by funext q;simp [Function.comp]
    rw [e]
    rw [show i+(j+1)=i+1+j from by omega]
    simpa using this
 | @new i d o' rf ob ps σ σ' al hod hn hd ih=>
   intro j o r hp
   simp only [List.length_cons,List.range_succ_eq_map,List.map_cons,List.map_map,sigL]
   cases j with
   |zero=>
    simp only [List.getElem?_cons_zero,Option.some.injEq,Prod.mk.injEq] at hp
    obtain⟨rfl,rfl⟩:=hp
    right
    have e:((fun q=>decide (q<0))∘Nat.succ)=fun _=>false:=by funext q;simp [Function.comp]
    simp only [Nat.lt_irrefl,decide_false,e]
    refine⟨trivial,_,List.mem_cons_self ..,rfl,hod,?_⟩
    rw [sigL_zero];exact hn
   |succ j=>
    have:=ih j o r (by simpa using hp)
    have e:((fun q=>decide (q<j+1))∘Nat.succ)=fun q=>decide (q<j):=by funext q;simp [Function.comp]
    rw [e]
    rw [show i+(j+1)=i+1+j from by omega]
    rcases this with ⟨h1,h2⟩|⟨h1,x,hx,h2⟩
    ·left
     refine⟨by simpa using h1,fun x hx=> ?_⟩
     rcases List.mem_cons.1 hx with rfl|hx
     ·simp only;omega
     ·exact h2 x hx
    ·right
     exact⟨h1,x,List.mem_cons_of_mem _ hx,by simpa using h2⟩
theorem DrX.end_ {i:Nat} {ps:List (Oper×AV)} {al:List Al} (d:DrX E h l i ps σ σ' al):σ'=sigL ps ((List.range ps.length).map fun _=>true) σ:=by
 induction d with
 |nil=>rfl
 |calm _ _ ih=>
  simp only [List.length_cons,List.range_succ_eq_map,List.map_cons,List.map_map,sigL,if_true]
  exact ih
 |new _ _ _ ih=>
  simp only [List.length_cons,List.range_succ_eq_map,List.map_cons,List.map_map,sigL,if_true]
  exact ih
theorem DrX.al_ {i:Nat} {ps:List (Oper×AV)} {al:List Al} (d:DrX E h l i ps σ σ' al):(∀x∈al,i≤x.i∧x.i<i+ps.length∧∃p,ps[x.i-i]?=some p∧p.1.dst=some x.d)∧(al.map (·.i)).Nodup:=by
 induction d with
 |nil=>exact⟨fun x hx=>by simp at hx,by simp⟩
 | @calm i o' r' ps σ σ' al hc hd ih=>
   refine⟨fun x hx=> ?_,ih.2⟩
   obtain⟨h1,h2,p,h3,h4⟩:=ih.1 x hx
   refine⟨by omega,by simp only [List.length_cons];omega,p,?_,h4⟩
   rw [show x.i-i=(x.i-(i+1))+1 from by omega]
   simpa using h3
 | @new i d o' rf ob ps σ σ' al hod hn hd ih=>
   refine⟨fun x hx=> ?_,?_⟩
   ·rcases List.mem_cons.1 hx with rfl|hx
    ·exact⟨Nat.le_refl _,by simp,(o',.c .any),by simp,hod⟩
    ·obtain⟨h1,h2,p,h3,h4⟩:=ih.1 x hx
     refine⟨by omega,by simp only [List.length_cons];omega,p,?_,h4⟩
     rw [show x.i-i=(x.i-(i+1))+1 from by omega]
     simpa using h3
   ·simp only [List.map_cons,List.nodup_cons]
    refine⟨fun hm=> ?_,ih.2⟩
    obtain⟨x,hx,he⟩:=List.mem_map.1 hm
    have:=(ih.1 x hx).1
    omega
theorem drawX_any {n:Nat} {ps:List (Oper×AV)} {al:List Al} (hok:lexOk l=true) (ht:tailT l n=true) (hn:n≤l.length) (hps:ps.map (·.1)=l.take n) (d:DrX E h l 0 ps σ σ' al) (hnl:∀x∈al,∀i o,i<n→l[i]?=some o→x.d∉looks l o) {Q:Exit→Act→World→Prop}
  (k:∀γ a w,St E.N E.C (addA al (fun _=>true) γ σ') (extA al (fun _=>true) γ++h) a w→wpList E.P l.toArray Q (l.drop n) a w):∀(u:Nat) (listed:Array Bool) (γ:Nat→Nat) (a:Act) (w:World),unl (fun j=>listed.getD j false) n=u→listed.size=l.length→
  (∀i o,l[i]?=some o→listed.getD i false=true→∀e∈o.after,Region.binds .any e=true→listed.getD e.on false=true)→(∀j,n≤j→j<l.length→listed.getD j false=false)→
  St E.N E.C (addA al (fun j=>listed.getD j false) γ (sigL ps (marks n listed) σ)) (extA al (fun j=>listed.getD j false) γ++h) a w→wpAny E.P .any l.toArray Q (u+(l.length-n)) listed a w:=by
 have hpl:ps.length=n:=by have:=congrArg List.length hps;simp at this;omega
 have hpi:∀(j:Nat) (p:Oper×AV),ps[j]?=some p→l[j]?=some p.1∧j<n:=by
  intro j p hp
  have hj:j<ps.length:=(List.getElem?_eq_some_iff.1 hp).1
  have h1:(ps.map (·.1))[j]?=some p.1:=by simp [hp]
  rw [hps,List.getElem?_take] at h1
  split at h1
  ·exact⟨h1,by omega⟩
  ·cases h1
 obtain⟨hal,hnd⟩:=d.al_
 have halp:∀x∈al,x.i<n∧∃p,ps[x.i]?=some p∧p.1.dst=some x.d:=fun x hx=>by
  obtain⟨_,h2,p,h3,h4⟩:=hal x hx
  exact⟨by omega,p,by simpa using h3,h4⟩
 have hone:∀x∈al,∀(j:Nat) (p:Oper×AV),ps[j]?=some p→p.1.dst=some x.d→j=x.i:=fun x hx j p hp hd=>by
  obtain⟨hxn,q,hq,hqd⟩:=halp x hx
  rcases Nat.decEq j x.i with hne|he
  ·exact absurd hd ((lex_pair hok (hpi j p hp).1 (hpi x.i q hq).1 hqd).2 (fun e=>hne e.symm))
  ·exact he
 have huniq:∀x∈al,∀y∈al,y.d=x.d→y=x:=fun x hx y hy e=>by
  obtain⟨_,q,hq,hqd⟩:=halp y hy
  have hi:=hone x hx y.i q hq (by rw [hqd,e])
  have:∀(l:List Al),(l.map (·.i)).Nodup→x∈l→y∈l→y=x:=by
   intro l
   induction l with
   |nil=>intro _ hm;simp at hm
   |cons z l ih=>
    intro hnd h1 h2
    simp only [List.map_cons,List.nodup_cons] at hnd
    rcases List.mem_cons.1 h1 with e1|m1<;>rcases List.mem_cons.1 h2 with e2|m2
    ·rw [e1,e2]
    ·exact absurd (List.mem_map.2 ⟨y,m2,by rw [hi,e1]⟩) hnd.1
    ·exact absurd (List.mem_map.2 ⟨x,m1,by rw [←hi,e2]⟩) hnd.1
    ·exact ih hnd.2 m1 m2
  exact this al hnd hx hy
 intro u
 induction u with
 |zero=>
  intro listed γ a w hu hs _ htl st
  have hall:=unl_zero n hu
  rw [Nat.zero_add]
  refine tailT_any hok ht (l.length-n) n listed a w (Nat.le_refl _) om hs (fun j hj=> ?_) (k γ a w ?_)
  ·rcases Nat.lt_or_ge j n with h1|h1
   ·rw [hall j h1];simp [h1]
   ·rw [htl j h1 hj];simp;omega
  ·have e:marks n listed=(List.range ps.length).map fun _=>true:=by
    unfold marks
    rw [hpl]
    exact List.map_congr_left fun j hj=>hall j (by simpa using hj)
   have hc:∀x∈al,(fun j=>listed.getD j false) x.i=(fun _=>true) x.i∧γ x.i=γ x.i:=fun x hx=>⟨hall x.i (halp x hx).1,rfl⟩
   rw [d.end_,←e,←addA_congr (L:=fun j=>listed.getD j false) (L':=fun _=>true) (γ:=γ) (γ':=γ) hc,←extA_congr (L:=fun j=>listed.getD j false) (L':=fun _=>true) (γ:=γ) (γ':=γ) hc]
   exact st
 |succ u ih=>
  intro listed γ a w hu hs hcl htl st
  rw [show u+1+(l.length-n)=(u+(l.length-n))+1 from by omega]
  obtain⟨j0,hj0,hj1,hj2⟩:=unl_pos (L:=fun j=>listed.getD j false) n om
  have hready:j0∈Region.ready .any l.toArray listed:=(mem_ready hs).2 ⟨by omega,hj1,fun o ho e he hb=>hj2 _ (lex_back hok ho he hb)⟩
  refine⟨fun e=>by rw [e] at hready;simp at hready,fun i hi=> ?_⟩
  obtain⟨h1,h2,h3⟩:=(mem_ready hs).1 hi
  have ho:l[i]?=some l[i]:=List.getElem?_eq_getElem h1
  have hin:i<n:=by
   rcases Nat.lt_or_ge i n with hlt|hge
   ·exact hlt
   ·have:=edgeT_listed (L:=fun q=>listed.getD q false) hcl 6 _ j0 (h3 _ ho) (tailT_edge ht ho hge (show j0<i from by omega))
    simp only [hj1] at this
    cases this
  have hpi':ps[i]?=some ps[i]:=List.getElem?_eq_getElem om
  obtain⟨hp1,_⟩:=hpi i _ hpi'
  rw [ho] at hp1
  injection hp1 with hp1
  have hat:=d.at_ i ps[i].1 ps[i].2 hpi'
  rw [Nat.zero_add] at hat
  have hsame:∀t∈looks l ps[i].1,(addA al (fun j=>listed.getD j false) γ (sigL ps (marks n listed) σ)).get t=(sigL ps ((List.range ps.length).map fun j=>decide (j<i)) σ).get t:=by
   intro t htl'
   rw [addA_out fun x hx _ e=>hnl x hx i l[i] hin ho (by rw [hp1,e];exact htl')]
   by_cases hex:∃(j:Nat) (p:Oper×AV),ps[j]?=some p∧j<i∧p.1.dst=some t
   ·obtain⟨j,p,hp,hji,hdt⟩:=hex
    obtain⟨hlp,hjn⟩:=hpi j p hp
    have huniq:∀(j':Nat) (p':Oper×AV),j'≠j→ps[j']?=some p'→p'.1.dst≠some t:=fun j' p' hne hp'=>
     (lex_pair hok (hpi j' p' hp').1 hlp hdt).2 (fun e=>hne e.symm)
    obtain⟨e,he,hon,hb⟩:=edge_mem (((lex_pair hok (by rw [←hp1];exact ho) hlp hdt).1 htl').1 hji)
    have hlj:listed.getD j false=true:=by rw [←hon];exact h3 _ ho e (by rw [hp1];exact he) hb
    rw [sigL_get_some ps _ σ t j p.1 p.2 hp (by rw [marks_get hjn,hlj]) hdt huniq,
     sigL_get_some ps _ σ t j p.1 p.2 hp (by simp [show j<ps.length from by omega,hji]) hdt huniq]
   ·rw [sigL_get_none ps _ σ t (fun j p hp hb hdt=> ?_),sigL_get_none ps _ σ t (fun j p hp hb hdt=> ?_)]
    ·have hjl:j<ps.length:=(List.getElem?_eq_some_iff.1 hp).1
     simp [hjl] at hb
     exact hex ⟨j,p,hp,hb,hdt⟩
    ·obtain⟨hlp,hjn⟩:=hpi j p hp
     rw [marks_get hjn] at hb
     injection hb with hb
     rcases Nat.lt_trichotomy j i with hlt|heq|hgt
     ·exact hex ⟨j,p,hp,hlt,hdt⟩
     ·subst heq;rw [h2] at hb;cases hb
     ·obtain⟨e,he,hon,hb'⟩:=edge_mem (((lex_pair hok (by rw [←hp1];exact ho) hlp hdt).1 htl').2 hgt)
      have:=hcl j _ hlp hb e he hb'
      rw [hon,h2] at this
      cases this
  have his:i<listed.size:=by omega
  have hsig:∀t,(sigL ps (marks n (listed.setIfInBounds i true)) σ).get t=((sigL ps (marks n listed) σ).setO ps[i].1.dst ps[i].2).get t:=by
   intro t
   rw [setO_get]
   by_cases hdt:ps[i].1.dst=some t
   ·rw [if_pos hdt]
    have huniq:∀(j':Nat) (p':Oper×AV),j'≠i→ps[j']?=some p'→p'.1.dst≠some t:=fun j' p' hne hp'=>
     (lex_pair hok (hpi j' p' hp').1 (hpi i _ hpi').1 hdt).2 (fun e=>hne e.symm)
    exact sigL_get_some ps _ σ t i ps[i].1 ps[i].2 hpi' (by rw [marks_get hin,getD_set his,if_pos rfl]) hdt huniq
   ·rw [if_neg hdt]
    by_cases hex:∃(j:Nat) (p:Oper×AV),ps[j]?=some p∧listed.getD j false=true∧p.1.dst=some t
    ·obtain⟨j,p,hp,hlj,hdt'⟩:=hex
     obtain⟨hlp,hjn⟩:=hpi j p hp
     have huniq:∀(j':Nat) (p':Oper×AV),j'≠j→ps[j']?=some p'→p'.1.dst≠some t:=fun j' p' hne hp'=>
      (lex_pair hok (hpi j' p' hp').1 hlp hdt').2 (fun e=>hne e.symm)
     rw [sigL_get_some ps _ σ t j p.1 p.2 hp (by rw [marks_get hjn,getD_set his];split<;>first|rfl|rw [hlj]) hdt' huniq,
      sigL_get_some ps _ σ t j p.1 p.2 hp (by rw [marks_get hjn,hlj]) hdt' huniq]
    ·rw [sigL_get_none ps _ σ t (fun j p hp hb hdt'=> ?_),sigL_get_none ps _ σ t (fun j p hp hb hdt'=> ?_)]
     ·obtain⟨_,hjn⟩:=hpi j p hp
      rw [marks_get hjn] at hb
      injection hb with hb
      exact hex ⟨j,p,hp,hb,hdt'⟩
     ·obtain⟨_,hjn⟩:=hpi j p hp
      rw [marks_get hjn,getD_set his] at hb
      injection hb with hb
      split at hb
      ·rename_i hji;subst hji;rw [hpi'] at hp;injection hp with hp;subst hp;exact hdt hdt'
      ·exact hex ⟨j,p,hp,hb,hdt'⟩
  have hL:(fun j=>(listed.setIfInBounds i true).getD j false)=fun j=>if j=i then true else listed.getD j false:=funext fun j=>getD_set his
  have hgo:∀(γ':Nat→Nat) a' w',St E.N E.C (addA al (fun j=>if j=i then true else listed.getD j false) γ' (sigL ps (marks n (listed.setIfInBounds i true)) σ)) (extA al (fun j=>if j=i then true else listed.getD j false) γ'++h) a' w'→wpAny E.P .any l.toArray Q (u+(l.length-n)) (listed.setIfInBounds i true) a' w':=by
   intro γ' a' w' st'
   refine ih _ γ' a' w' ?_ (by simpa using hs) (fun q o hq hlq e he hb=> ?_) (fun j hj hjl=> ?_) (by rw [hL];exact st')
   ·rw [hL]
    have:=unl_set (L:=fun j=>listed.getD j false) n hin h2
    omega
   ·rw [getD_set his] at hlq⊢
    by_cases hqi:q=i
    ·subst hqi
     by_cases hei:e.on=q
     ·rw [if_pos hei]
     ·rw [if_neg hei];exact h3 o hq e he hb
    ·rw [if_neg hqi] at hlq
     have:=hcl q o hq hlq e he hb
     by_cases hei:e.on=i
     ·rw [if_pos hei]
     ·rw [if_neg hei];exact this
   ·rw [getD_set his,if_neg om];exact htl j hj hjl
  unfold wpOp
  rw [show l.toArray[i]?=some l[i] from by simp [h1]]
  simp only
  rw [hp1]
  rcases hat with ⟨⟨hd,hc⟩,hno⟩|⟨hany,x,hx,hxi,hxd,hd,hc⟩
  ·
   have hnext:∀a' w',St E.N E.C ((addA al (fun j=>listed.getD j false) γ (sigL ps (marks n listed) σ)).setO ps[i].1.dst ps[i].2) (extA al (fun j=>listed.getD j false) γ++h) a' w'→wpAny E.P .any l.toArray Q (u+(l.length-n)) (listed.setIfInBounds i true) a' w':=by
    intro a' w' st'
    refine hgo γ a' w' ?_
    have hcg:∀x∈al,(fun j=>if j=i then true else listed.getD j false) x.i=(fun j=>listed.getD j false) x.i∧γ x.i=γ x.i:=fun x hx=>⟨by simp [hno x hx],rfl⟩
    rw [extA_congr (L:=fun j=>if j=i then true else listed.getD j false) (L':=fun j=>listed.getD j false) (γ:=γ) (γ':=γ) hcg,addA_congr (L:=fun j=>if j=i then true else listed.getD j false) (L':=fun j=>listed.getD j false) (γ:=γ) (γ':=γ) hcg]
    refine St.weak st' (fun t=>.inr ?_) (List.Sublist.refl _)
    by_cases hex:∃x∈al,listed.getD x.i false=true∧x.d=t
    ·obtain⟨x,hx,hlx,rfl⟩:=hex
     rw [addA_in hx hlx (huniq x hx),setO_get,if_neg (fun e=>hno x hx (hone x hx i _ hpi' e).symm),addA_in hx hlx (huniq x hx)]
    ·have hout:∀x∈al,(fun j=>listed.getD j false) x.i=true→x.d≠t:=fun x hx hlx e=>hex ⟨x,hx,hlx,e⟩
     rw [addA_out hout,hsig,setO_get,setO_get,addA_out hout]
   have hcalm:=hc _ _ a w Q hsame st
   split
   ·rename_i hw
    rw [if_pos hw] at hcalm
    exact .inl (Oper.wp_mono hnext hcalm)
   ·rename_i hw
    rw [if_neg hw] at hcalm
    have st2:=st.put hd (r:=.tup []) (v:=undef) ⟨[],rfl,trivial⟩
    rw [←hcalm] at st2
    exact hnext _ _ st2
  ·
   obtain⟨hw,hnew⟩:=hc _ _ a w Q hsame st
   rw [if_pos hw]
   refine .inl (Oper.wp_mono ?_ hnew)
   rintro a' w' ⟨g,st'⟩
   refine hgo (fun j=>if j=i then g else γ j) a' w' ?_
   have hli:listed.getD x.i false=false:=by rw [hxi];exact h2
   have hperm:=extA_new (L:=fun j=>listed.getD j false) (γ:=γ) (g:=g) hx hli hnd
   rw [hxi] at hperm
   refine St.perm (h:=((g,x.ob)::(extA al (fun j=>listed.getD j false) γ++h))) ?_ ?_
   ·rw [←List.cons_append]
    exact(hperm.append_right h).symm
   refine St.weak st' (fun t=>.inr ?_) (List.Sublist.refl _)
   by_cases hxt:x.d=t
   ·subst hxt
    have:=addA_in (L:=fun j=>if j=i then true else listed.getD j false) (γ:=fun j=>if j=i then g else γ j) (σ:=sigL ps (marks n (listed.setIfInBounds i true)) σ) hx (by simp [hxi]) (huniq x hx)
    rw [this,setO_get,if_pos hxd]
    simp [hxi]
   ·rw [setO_get,if_neg (fun e=>hxt (by rw [hxd] at e;injection e))]
    by_cases hex:∃y∈al,listed.getD y.i false=true∧y.d=t
    ·obtain⟨y,hy,hly,rfl⟩:=hex
     have hyi:y.i≠i:=fun e=>by rw [e,h2] at hly;cases hly
     have e1:=addA_in (L:=fun j=>if j=i then true else listed.getD j false) (γ:=fun j=>if j=i then g else γ j) (σ:=sigL ps (marks n (listed.setIfInBounds i true)) σ) hy (by simp [hyi,hly]) (huniq y hy)
     rw [e1,addA_in hy hly (huniq y hy)]
     simp [hyi]
    ·have hout:∀y∈al,(fun j=>listed.getD j false) y.i=true→y.d≠t:=fun y hy hly e=>hex ⟨y,hy,hly,e⟩
     have hout':∀y∈al,(fun j=>if j=i then true else listed.getD j false) y.i=true→y.d≠t:=fun y hy hly e=>by
      by_cases hyi:y.i=i
      ·have:y=x:=by
        obtain⟨_,q,hq,hqd⟩:=halp y hy
        rw [hyi,hpi'] at hq
        injection hq with hq
        rw [←hq,hxd] at hqd
        injection hqd with hqd
        exact huniq x hx y hy hqd.symm
       exact hxt (by rw [←this];exact e)
      ·simp only [hyi,if_false] at hly
       exact hout y hy hly e
     rw [addA_out hout',hsig,setO_get,if_neg (fun e=>hxt (by rw [hxd] at e;injection e)),addA_out hout]
end
end Go.AI
namespace Go.AI
section
variable {E : Env} {K : List It} {σ σ' : Sl} {h : Heap} {l : List Oper} {o : Oper}
theorem CalmX.pure2 {nw:Bool} {q:Prop} {r:AV} (hw:wantA l σ o=some true) (hb:pureOp2 E.P nw h (ev σ) o.op=some (q,r)) (hq:q) (hd:dstOk E.N o.dst=true):CalmX E h l σ o r:=by
 refine⟨hd,fun σ' ext a w Q hs s=> ?_⟩
 rw [if_pos (s.wanted ((want_same hs).trans hw))]
 obtain⟨v,hrun,hr⟩:=pureOp2_ok (fun _=>rfl) hb hq (Stab E.C (ext++h) w) w a.eval Stab.mono' (fun x hx=>by rw [←ev_same hx hs];exact ev_rep s x) (fun g ob hm=>s.heap g ob (List.mem_append_right _ hm))
 unfold Oper.wp
 rw [hrun o rfl]
 exact s.put hd hr
theorem CalmX.skip (hw:wantA l σ o=some false) (hd:dstOk E.N o.dst=true):CalmX E h l σ o (.tup []):=by
 refine⟨hd,fun σ' ext a w Q hs s=> ?_⟩
 rw [if_neg (by rw [s.wanted ((want_same hs).trans hw)];simp)]
theorem Heap.get_ext:∀{ext h:Heap} {g:Nat} {ob:AObj},(ext++h).keys.Nodup→h.get g=some ob→Heap.get (ext++h) g=some ob
 |[],h,g,ob,_,hg=>hg
 |(g0,o0)::ext,h,g,ob,hn,hg=>by
  simp only [List.cons_append,Heap.keys,List.map_cons,List.nodup_cons] at hn
  have hne:¬g0=g:=fun e=>hn.1 (by
   rw [e]
   exact List.mem_map.2 ⟨(g,ob),List.mem_append_right _ (Heap.get_mem hg),rfl⟩)
  simp only [List.cons_append,Heap.get,if_neg hne]
  exact Heap.get_ext hn.2 hg
theorem LeC.ext {ext h:Heap} (hn:(ext++h).keys.Nodup) {x y:CV} (le:LeC h x y):LeC (ext++h) x y:=by
 induction le with
 |refl x=>exact .refl x
 |any x=>exact .any x
 |nils=>exact .nils
 |row ht _ ih=>exact .row ht ih
 |osl hg hm _ ih=>exact .osl (Heap.get_ext hn hg) hm ih
 |ifc _ ih=>exact .ifc ih
theorem LeL.ext {ext h:Heap} (hn:(ext++h).keys.Nodup):∀{xs ys:List CV},LeL h xs ys→LeL (ext++h) xs ys
 |[],[],_=>trivial
 |_::_,_::_,le=>⟨le.1.ext hn,LeL.ext hn le.2⟩
 |[],_::_,le=>le.elim
 |_::_,[],le=>le.elim
theorem LeA.ext {ext h:Heap} (hn:(ext++h).keys.Nodup):∀{xs ys:List AV},LeA h xs ys→LeA (ext++h) xs ys
 |[],[],_=>trivial
 |_::_,_::_,le=>⟨by
   rcases le.1 with l|l
   ·exact .c (l.ext hn)
   ·exact .agg (LeL.ext hn l),LeA.ext hn le.2⟩
 |[],_::_,le=>le.elim
 |_::_,[],le=>le.elim
theorem CalmX.call {f:FuncId} {xs:List Operand} {ts:Array TypeId} {args:List AV} {r:AV} (hf:Fa E.P f args r) (hop:o.op=.call {callee:=.value (.func f),args:=xs.toArray,argTypes:=ts}) (hw:wantA l σ o=some true) (hd:dstOk E.N o.dst=true)
  (le:LeA h (xs.map (ev σ)) args):CalmX E h l σ o r:=by
 refine⟨hd,fun σ' ext a w Q hs s=> ?_⟩
 rw [if_pos (s.wanted ((want_same hs).trans hw))]
 have he:xs.map (ev σ')=xs.map (ev σ):=List.map_congr_left fun x hx=>ev_same (by rw [hop];simp [Op.operands,Call.operands,hx]) hs
 unfold Oper.wp
 have hrun:(execOp a.eval o).run E.P w=.ok (.enter f (xs.map a.eval).toArray) w:=by
  simp only [execOp,hop,resolve,Act.eval,Deferred.ofValue,invoke,Sem.run_bind]
  have:=hf.1.run (#[]++(Array.map a.eval xs.toArray)++ #[]) w
  simp only [Sem.run_pure,Result.andThen_ok]
  rw [show((xs.map a.eval).toArray)=(#[]++(Array.map a.eval xs.toArray)++ #[]) from by simp]
  exact this
 rw [hrun]
 show Calls _ _ _ _ _
 refine(hf.use s (by rw [he];exact le.ext s.nodup)).mono ?_
 rintro e w' ⟨v,rfl,hr,hfr⟩
 exact(s.later hfr).put hd hr
theorem CalmX.of_run {r:AV} (hw:wantA l σ o=some true) (hd:dstOk E.N o.dst=true)
  (hrun:∀σ' ext a w,(∀x∈o.op.operands,ev σ' x=ev σ x)→St E.N E.C σ' (ext++h) a w→∃v w',(execOp a.eval o).run E.P w=.ok (.value v) w'∧Fr (fun _=>False) w w'∧Rep (Stab E.C (ext++h) w') w' r v):CalmX E h l σ o r:=by
 refine⟨hd,fun σ' ext a w Q hs s=> ?_⟩
 rw [if_pos (s.wanted ((want_same hs).trans hw))]
 obtain⟨v,w',hr,hfr,hrep⟩:=hrun σ' ext a w (fun x hx=>ev_same hx hs) s
 unfold Oper.wp
 rw [hr]
 exact(s.later hfr).put hd hrep
theorem CalmX.empty {t e size bytes:Nat} (hop:o.op=.buildSlice t 0 #[]) (hw:wantA l σ o=some true) (hd:dstOk E.N o.dst=true) (ht:tElem E.P t=some (e,size,bytes)):CalmX E h l σ o (.c .nils):=by
 refine CalmX.of_run hw hd fun σ' ext a w _ s=> ?_
 obtain⟨hu,inf,hi,hsz,_⟩:=tElem_spec ht
 refine⟨.slice (some ⟨w.heap.size,0,none⟩) 0 0,w.alloc (.cells #[] e),?_,Fr.alloc _ _ _,_,rfl⟩
 simp only [execOp,hop,Instr.buildSlice,Sem.run_bind,run_underlying hu,Result.andThen_ok,sizeOf,typeInfo,Sem.run_pure]
 simp only [run_program,hi,Result.andThen_ok,Sem.run_pure,hsz,Nat.zero_mul]
 rw [if_neg om,if_pos trivial]
 simp only [Sem.run_bind,Sem.run_pure,Result.andThen_ok]
 have hf:Instr.fill (fun i=>some (i*size,size)) (Array.map (fun x=>(#[]:Array Value)[x%(#[]:Array Value).size]!) (Array.range 0)) (Array.map (fun x:Nat×Operand=>(x.1,a.eval x.2)) #[]).toList=some #[]:=by simp [Instr.fill]
 rw [hf]
 rfl
theorem CalmX.copy {t e size bytes k:Nat} {z:List CV} {f2:Nat→CV} {s x:Operand} {cx:CV} (hop:o.op=.call {callee:=.builtin .append,args:= #[s,x],argTypes:= #[t,t]}) (hw:wantA l σ o=some true) (hd:dstOk E.N o.dst=true)
  (ht:tElem E.P t=some (e,size,bytes)) (hz:tZero E.P e=some z) (hzl:z.length=size) (hs0:0<size) (hs:ev σ s=.c .nils) (hx:ev σ x=.c cx) (hsrc:Src h size cx k f2)
  (h63:k≤maxLen) (hby:k*bytes≤140737488355328):CalmX E h l σ o (.c (.row true size k f2)):=by
 refine CalmX.of_run hw hd fun σ' ext a w he st=> ?_
 have r1:=ev_rep st s
 have r2:=ev_rep st x
 rw [he s (by rw [hop];simp [Op.operands,Call.operands]),hs] at r1
 rw [he x (by rw [hop];simp [Op.operands,Call.operands]),hx] at r2
 obtain⟨A0,hv1⟩:=r1
 obtain⟨A,d,hv2,hA⟩:=hsrc.cells (fun g ob hm=>st.heap g ob (List.mem_append_right _ hm)) r2
 rcases Nat.eq_zero_or_pos k with hk|hk
 ·subst hk
  refine⟨.slice A0 0 0,w,exec_append hop ?_,Fr.refl _ _,A0,0,rfl,Nat.le_refl _,fun h0=>by simp at h0⟩
  rw [hv1,hv2]
  exact run_append_zero ht (Nat.le_refl _)
 ·obtain⟨ad,rfl,hc⟩:=hA (Nat.mul_pos hk hs0)
  obtain⟨news,hnl,hnews⟩:=list_of_cells (k*size) hc
  obtain⟨c',w',cs',hrun,hb',hcs',hle',hcm',hnew,hfr⟩:=append_new (P:=E.P) (ty:=o.type) (d:=d) (A:=A0) ht hz hzl hnl (fun j u e=>(hnews j u e).1) hk h63 hby
  have hlt:w.heap.size<w'.heap.size:=(Array.getElem?_eq_some_iff.1 hb').1
  have hnk:w.heap.size∉(ext++h).keys:=fun hm=>Nat.lt_irrefl _ (st.klt hm)
  have kp:Keeps (Stab E.C (ext++h) w) (Stab E.C (ext++h) w') w w':=
   ⟨fun t b hb=>⟨hb.1,Nat.lt_of_lt_of_le hb.2.1 hfr.size,hb.2.2⟩,fun t b hb=>hfr.block b hb.2.1 (fun x=>x),hfr.has⟩
  refine⟨_,w',exec_append hop (by rw [hv1,hv2];exact hrun),hfr,_,c',rfl,hle',fun _=>⟨_,rfl,⟨.inr st.frame.size,hlt,hnk⟩,fun j hjl=> ?_⟩⟩
  have hl:j<news.length:=by omega
  refine⟨news[j],?_,(hnews _ _ (List.getElem?_eq_getElem hl)).2.keep kp⟩
  rw [add_mk,cell_own hb',Nat.zero_add,hnew j hjl]
  exact List.getElem?_eq_getElem hl
theorem NewX.of_run {rf:Nat→AV} {ob:AObj} (hw:wantA l σ o=some true) (hd:dstOk E.N o.dst=true)
  (hrun:∀σ' ext a w,(∀x∈o.op.operands,ev σ' x=ev σ x)→St E.N E.C σ' (ext++h) a w→∃v w',(execOp a.eval o).run E.P w=.ok (.value v) w'∧Fr (fun _=>False) w w'∧w.heap.size<w'.heap.size∧
   ORep (Stab E.C ((w.heap.size,ob)::(ext++h)) w') w' w.heap.size ob∧Rep (Stab E.C ((w.heap.size,ob)::(ext++h)) w') w' (rf w.heap.size) v):NewX E h l σ o rf ob:=by
 refine⟨hd,fun σ' ext a w Q hs s=>⟨s.wanted ((want_same hs).trans hw),?_⟩⟩
 obtain⟨v,w',hr,hfr,hlt,ho,hrep⟩:=hrun σ' ext a w (fun x hx=>ev_same hx hs) s
 unfold Oper.wp
 rw [hr]
 exact⟨w.heap.size,(s.new rfl hfr hlt ho).put hd hrep⟩
theorem NewX.make {t e size bytes n c:Nat} {z:List CV} {xl xc:Operand} {kl kc:IntKind} {nl nc:Int} (hop:o.op=.makeSlice t xl xc) (hw:wantA l σ o=some true) (hd:dstOk E.N o.dst=true) (ht:tElem E.P t=some (e,size,bytes))
  (hz:tZero E.P e=some z) (hzl:z.length=size) (hs0:0<size) (hl:ev σ xl=.c (.int kl nl)) (hc:ev σ xc=.c (.int kc nc)) (hn:nl=n) (hcn:nc=c) (hnc:n≤c) (hby:bytes*c≤281474976710656) (hc63:c≤9223372036854775807):
  NewX E h l σ o (fun g=>.c (.osl g size 0 n)) (.cells e (c*size) (fun j=>ofL z (j%size))):=by
 refine NewX.of_run hw hd fun σ' ext a w he s=> ?_
 obtain⟨hu,inf,hi,hsz,hbb⟩:=tElem_spec ht
 obtain⟨i',zv,hi',hzv,rfl⟩:=tZero_spec hz
 rw [hi] at hi'
 injection hi' with hi'
 subst hi'
 have h1:a.eval xl=.int kl n:=by have:=ev_rep s xl;rw [he xl (by rw [hop];simp [Op.operands]),hl,hn] at this;exact this
 have h2:a.eval xc=.int kc c:=by have:=ev_rep s xc;rw [he xc (by rw [hop];simp [Op.operands]),hc,hcn] at this;exact this
 have hb':(inf.bytes:Int)*(c:Int)≤281474976710656:=by
  have h:((inf.bytes*c:Nat):Int)≤281474976710656:=by rw [hbb];omega
  rwa [Int.natCast_mul] at h
 have hr:=run_make (P:=E.P) w t e inf zv hu hi hzv kl kc n c om om hb' om
 simp only [Int.toNat_natCast] at hr
 refine⟨.slice (some ⟨w.heap.size,0,none⟩) n c,w.alloc (.cells (madeCells zv.cells (c*inf.size)) e),?_,Fr.alloc _ _ _,by simp,?_,?_⟩
 ·simp only [execOp,hop,h1,h2,Sem.run_bind,hr,Result.andThen_ok]
  rfl
 ·refine⟨_,heap_alloc_new w _,by rw [size_madeCells,hsz];exact Nat.le_refl _,fun j hj=> ?_⟩
  have hzs:zv.cells.size=size:=by simpa using hzl
  have hlt:j%size<zv.cells.size:=by rw [hzs];exact Nat.mod_lt _ hs0
  refine⟨zv.cells[j%size],?_,?_⟩
  ·have hlt':j%size<zv.cells.size:=hlt
   simp only [madeCells,hsz,hzs]
   simp [hj,hlt',getElem!_pos]
  ·exact ofL_map_cst zv.cells.toList (j%size) (by simpa using hlt) _ _
 ·exact⟨c,rfl,hnc,by unfold maxLen;omega,_,e,⟨_,heap_alloc_new w _⟩,by rw [size_madeCells,hsz];simp⟩
def noLook (l:List Oper) (n d:Nat):Bool:=(l.take n).all fun o=> !(looks l o).contains d
theorem noLook_spec {n d:Nat} (hn:noLook l n d=true) (i:Nat) (o:Oper) (hi:i<n) (ho:l[i]?=some o):d∉looks l o:=fun hm=>by
 unfold noLook at hn
 rw [List.all_eq_true] at hn
 have:o∈l.take n:=List.mem_of_getElem? (i:=i) (by rw [List.getElem?_take,if_pos hi];exact ho)
 have:=hn o this
 simp [hm] at this
def DrB (E:Env) (h:Heap) (l:List Oper) (K:List It) (M i k:Nat) (rest:List Oper) (σ:Sl) (pre:List Al):Prop:=
 ∃ps σ' al,ps.map (·.1)=rest.take k∧DrX E h l i ps σ σ' al∧(∀x∈al,noLook l M x.d=true)∧∀γ,aw E (.ops l (rest.drop k)::K) (addA (pre++al) (fun _=>true) γ σ') (extA (pre++al) (fun _=>true) γ++h)
theorem aw_drB {id:Nat} (n:Nat) (hm:E.P.follows .mixedOrders=true) (hok:(lexOk l&&tailT l n&&decide (n≤l.length))=true) (k:DrB E h l K n 0 n l σ []):aw E (.code (.region id l.toArray true)::K) σ h:=fun a w s=>by
 obtain⟨ps,σ',al,hps,d,hnl,k⟩:=k
 simp only [Bool.and_eq_true,decide_eq_true_eq] at hok
 refine wp_region_any hm ?_
 have s':=s.later (Fr.drew (fun _=>False) w (w.drawn+1))
 have e0:∀j,(Array.replicate l.length false).getD j false=false:=fun j=>by
  rw [Array.getD_eq_getD_getElem?]
  simp only [Array.getElem?_replicate]
  split<;>rfl
 have hun:∀m,unl (fun j=>(Array.replicate l.length false).getD j false) m=m:=by
  intro m
  induction m with
  |zero=>rfl
  |succ m ih=>rw [unl,ih,e0];rfl
 have hadd0:∀(L:Nat→Bool) (al:List Al) (σ:Sl) (γ:Nat→Nat),(∀j,L j=false)→addA al L γ σ=σ∧extA al L γ=[]:=by
  intro L al σ γ hL
  induction al with
  |nil=>exact⟨rfl,rfl⟩
  |cons x al ih=>simp only [addA,extA,hL,Bool.false_eq_true,if_false];exact ih
 have hadd:=fun(al:List Al) (σ:Sl) (γ:Nat→Nat)=>hadd0 (fun j=>(Array.replicate l.length false).getD j false) al σ γ e0
 have:=drawX_any (Q:=exW E K) hok.1.1 hok.1.2 hok.2 hps d (fun x hx i o hi ho=>noLook_spec (hnl x hx) i o hi ho) (fun γ a w st=>k γ a w st) n (Array.replicate l.length false) (fun _=>0) a {w with drawn:=w.drawn+1} (hun n) (by simp) (fun i o _ hl=>by rw [e0] at hl;cases hl) (fun j _ _=>e0 j) (by
  rw [(hadd al _ _).1,(hadd al σ _).2,List.nil_append]
  refine s'.weak (fun t=>.inr ?_) (List.Sublist.refl _)
  rw [sigL_get_none ps _ σ t (fun j p hp hb=> ?_)]
  exfalso
  have hjl:j<ps.length:=(List.getElem?_eq_some_iff.1 hp).1
  have hpl:ps.length=n:=by have:=congrArg List.length hps;simp at this;omega
  rw [marks_get om,e0] at hb
  cases hb)
 rw [show n+(l.length-n)=l.length from by omega] at this
 simpa using this
theorem drb_nil {M i:Nat} {rest:List Oper} {pre:List Al} (k:∀γ,aw E (.ops l rest::K) (addA pre (fun _=>true) γ σ) (extA pre (fun _=>true) γ++h)):DrB E h l K M i 0 rest σ pre:=
 ⟨[],σ,[],by simp,.nil,by simp,fun γ=>by simpa using k γ⟩
theorem drb_calm {M i n:Nat} {rest:List Oper} {pre:List Al} {r:AV} (hc:CalmX E h l σ o r) (k:DrB E h l K M (i+1) n rest (σ.setO o.dst r) pre):DrB E h l K M i (n+1) (o::rest) σ pre:=by
 obtain⟨ps,σ',al,h1,h2,h3,h4⟩:=k
 exact⟨(o,r)::ps,σ',al,by simp [h1],.calm hc h2,h3,by simpa using h4⟩
theorem drb_new {M i n d:Nat} {rest:List Oper} {pre:List Al} {rf:Nat→AV} {ob:AObj} (hd:o.dst=some d) (hc:NewX E h l σ o rf ob) (hn:noLook l M d=true) (k:DrB E h l K M (i+1) n rest (σ.set d (.c .any)) (pre++[⟨i,d,rf,ob⟩])):DrB E h l K M i (n+1) (o::rest) σ pre:=by
 obtain⟨ps,σ',al,h1,h2,h3,h4⟩:=k
 refine⟨(o,.c .any)::ps,σ',⟨i,d,rf,ob⟩::al,by simp [h1],.new hd hc (by rw [hd];exact h2),fun x hx=> ?_,fun γ=> ?_⟩
 ·rcases List.mem_cons.1 hx with rfl|hx
  ·exact hn
  ·exact h3 x hx
 ·have:=h4 γ
  simpa using this
theorem drb_2q {M i n:Nat} {rest:List Oper} {pre:List Al} (nw:Bool) (hd:dstOk E.N o.dst=true) (k:∀R:Option (Prop×Sl)→Prop,(∀q σ',q→DrB E h l K M (i+1) n rest σ' pre→R (some (q,σ')))→R (runOp2 E.P nw h l o σ)):DrB E h l K M i (n+1) (o::rest) σ pre:=by
 have:=k (fun x=>x=runOp2 E.P nw h l o σ→DrB E h l K M i (n+1) (o::rest) σ pre) (fun q σ' hq ha e=>by
  unfold runOp2 at e
  split at e
  ·rename_i hw
   split at e
   ·rename_i q1 r hp
    simp only [Option.some.injEq,Prod.mk.injEq] at e
    obtain⟨rfl,rfl⟩:=e
    exact drb_calm (CalmX.pure2 hw hp hq hd) ha
   ·cases e
  ·rename_i hw
   simp only [Option.some.injEq,Prod.mk.injEq] at e
   obtain⟨rfl,rfl⟩:=e
   exact drb_calm (CalmX.skip hw hd) ha
  ·cases e)
 exact this rfl
end
attribute [go_sem] addA extA
end Go.AI
namespace Go.AI
section
variable {E : Env} {K : List It} {σ σ' : Sl} {h : Heap} {l : List Oper} {o : Oper}
theorem Oper_wp_imp {P:Program} {o:Oper} {a:Act} {w:World} {K K':Act→World→Prop} {Q Q':Exit→Act→World→Prop} (h:∀a w,K a w→K' a w) (hq:∀e a w,e≠.normal→Q e a w→Q' e a w) (hh:o.wp P a w K Q):o.wp P a w K' Q':=by
 have hl:LetsOut Q→LetsOut Q':=fun⟨a,w,x⟩=>⟨a,w,hq _ _ _ (by simp) x⟩
 unfold Oper.wp at*
 generalize (execOp a.eval o).run P w=r at*
 cases r with
 |ok n w'=>
  cases n<;>simp only [Oper.upon] at hh⊢ <;>
   first
    |exact h _ _ hh
    |exact Calls.mono hh (fun e w'' he=>by cases e<;>first|exact h _ _ he|exact hl he|exact hq _ _ _ (by simp) he)
    |exact Rows.mono hh (fun _ _ he=>h _ _ he)
    |exact hh
 |halt x w'=>cases x<;>simp only [Oper.upon] at hh⊢ <;>first|exact hq _ _ _ (by simp) hh|exact hh|exact hl hh
end
end Go.AI
namespace Go.AI
section
variable {E : Env} {K : List It} {σ σ' : Sl} {h : Heap} {l : List Oper} {o : Oper}
theorem NewX.alloc {t:TypeId} {z:List CV} (hop:o.op=.alloc t) (hw:wantA l σ o=some true) (hd:dstOk E.N o.dst=true) (hz:tZero E.P t=some z):NewX E h l σ o (fun g=>.c (.optr g 0)) (.cells t z.length (ofL z)):=by
 refine NewX.of_run hw hd fun σ' ext a w he s=> ?_
 obtain⟨i,v,hi,hv,rfl⟩:=tZero_spec hz
 refine⟨.pointer (some ⟨w.heap.size,0,none⟩),w.alloc (.cells v.cells.toList.toArray t),?_,Fr.alloc _ _ _,by simp,orep_new (cstL_rep _ _ _),rfl⟩
 simp only [execOp,hop,Instr.alloc,zeroValue,typeInfo,newVar,newRow,Sem.run_bind]
 simp [hi,hv]
end
end Go.AI
namespace Go.AI
def Has0 (FP h:Heap):Prop:=∀p∈FP,p∈h
structure After (l:List Oper) (res:Nat→AV) (σ0:Sl) (seen:Nat→Prop) (σ:Sl):Prop where
 yes:∀j o d,seen j→l[j]?=some o→o.dst=some d→σ.get d=res j
 no:∀t,(∀j o,seen j→l[j]?=some o→o.dst≠some t)→σ.get t=σ0.get t
def depsOk (o:Oper) (seen:List Nat):Bool:=o.after.all fun e=> !Region.binds .any e||seen.contains e.on
theorem deps_mem {o:Oper} {seen:List Nat} (h:depsOk o seen=true) {e:Edge} (he:e∈o.after) (hb:Region.binds .any e=true):e.on∈seen:=by
 unfold depsOk at h
 rw [Array.all_eq_true'] at h
 have:=h e he
 rw [hb] at this
 simpa using this
def cwGo (l:List Oper):List Nat→List Nat→List Nat→List (Nat×Nat)→Bool
 |_,_,_,[]=>true
 |seen,pn,fr,(i,b)::cs=>(match l[i]? with
  |none=>false
  |some o=> !(seen.contains i)&&depsOk o seen&&(pn.all fun p=>edgeT l 12 o p)&&(b !=2||seen.all fun p=>fr.contains p||edgeT l 12 o p))&&cwGo l (i::seen) (if b=0∨b=3 then pn else i::pn) (if b=3 then i::fr else fr) cs
section
variable {E : Env} {K : List It} {l : List Oper} {FP : Heap} {σ σ' : Sl} {h : Heap} {o : Oper}
def Flt (E:Env) (FP:Heap) (l:List Oper) (σ:Sl) (o:Oper) (r:AV):Prop:=dstOk E.N o.dst=true∧∀h,Has0 FP h→Calm E h l σ o r
def Pin (E:Env) (l:List Oper) (σ:Sl) (h:Heap) (o:Oper) (R:AV→Heap→Prop):Prop:=
 ∀(σ':Sl) (K:List It),(∀t∈looks l o,σ'.get t=σ.get t)→aw E (.ops l [o]::.stop (fun σ2 h2=>∃r,R r h2∧σ2=σ'.setO o.dst r)::K) σ' h
inductive CW (E:Env) (l:List Oper) (K:List It):Heap→List (Nat×Nat)→Sl→Heap→Prop
 |nil {FP:Heap} {σ:Sl} {h:Heap}:aw E K σ h→CW E l K FP [] σ h
 |flt {FP:Heap} {i:Nat} {cs:List (Nat×Nat)} {o:Oper} {r:AV} {σ:Sl} {h:Heap}:l[i]?=some o→Flt E FP l σ o r→CW E l K FP cs (σ.setO o.dst r) h→CW E l K FP ((i,0)::cs) σ h
 |fre {FP:Heap} {i:Nat} {cs:List (Nat×Nat)} {o:Oper} {r:AV} {σ:Sl} {h:Heap}:l[i]?=some o→Flt E [] l σ o r→CW E l K FP cs (σ.setO o.dst r) h→CW E l K FP ((i,3)::cs) σ h
 |pin {FP FP':Heap} {i m:Nat} {cs:List (Nat×Nat)} {o:Oper} {R:AV→Heap→Prop} {σ:Sl} {h:Heap}:l[i]?=some o→(m=2∨m=1∧FP'=FP)→Pin E l σ h o R→(∀r h',R r h'→Has0 FP' h')→(∀r h',R r h'→CW E l K FP' cs (σ.setO o.dst r) h')→CW E l K FP ((i,m)::cs) σ h
theorem cwGo_new {cs:List (Nat×Nat)}:∀{seen pn fr:List Nat},cwGo l seen pn fr cs=true→∀i∈cs.map (·.1),i∉seen:=by
 induction cs with
 |nil=>intro seen pn fr _ i hi;cases hi
 |cons c cs ih=>
  intro seen pn fr hg i hi
  obtain⟨c,b⟩:=c
  simp only [cwGo,Bool.and_eq_true] at hg
  obtain⟨h1,h2⟩:=hg
  simp only [List.map_cons,List.mem_cons] at hi
  rcases hi with rfl|hi
  ·split at h1
   ·cases h1
   ·simp only [Bool.and_eq_true,Bool.not_eq_true'] at h1
    have:=h1.1.1.1
    simpa using this
  ·have:=ih h2 i hi
   exact fun hm=>this (List.mem_cons_of_mem _ hm)
theorem cwGo_pin {p:Nat} {cs:List (Nat×Nat)}:∀{seen pn fr:List Nat},cwGo l seen pn fr cs=true→p∈pn→∀i∈cs.map (·.1),∃o,l[i]?=some o∧edgeT l 12 o p=true:=by
 induction cs with
 |nil=>intro seen pn fr _ _ i hi;cases hi
 |cons c cs ih=>
  intro seen pn fr hg hp i hi
  obtain⟨c,b⟩:=c
  simp only [cwGo,Bool.and_eq_true] at hg
  obtain⟨h1,h2⟩:=hg
  simp only [List.map_cons,List.mem_cons] at hi
  rcases hi with rfl|hi
  ·split at h1
   ·cases h1
   ·rename_i o ho
    simp only [Bool.and_eq_true] at h1
    exact⟨o,ho,List.all_eq_true.1 h1.1.2 p hp⟩
  ·refine ih h2 ?_ i hi
   split
   ·exact hp
   ·exact List.mem_cons_of_mem _ hp
structure DInv (E:Env) (l:List Oper) (K:List It) (FP:Heap) (σ0:Sl) (listed:Array Bool) (σa:Sl) (h:Heap) (seen pn fr:List Nat) (cs:List (Nat×Nat)) (σc:Sl) (res:Nat→AV):Prop where
 size:listed.size=l.length
 hcl:∀i o,l[i]?=some o→listed.getD i false=true→∀e∈o.after,Region.binds .any e=true→listed.getD e.on false=true
 go:cwGo l seen pn fr cs=true
 frs:∀i∈fr,i∈seen
 all:∀i,i<l.length→i∈seen∨i∈cs.map (·.1)
 cw:CW E l K FP cs σc h
 fp:Has0 FP h
 closed:∀j∈seen,∀o,l[j]?=some o→∀e∈o.after,Region.binds .any e=true→e.on∈seen
 aft:After l res σ0 (· ∈seen) σc
 pend:∀i∈seen,listed.getD i false=false→∃(seen':List Nat) (σi:Sl) (o:Oper),l[i]?=some o∧(∀j∈seen',j∈seen)∧i∉seen'∧(∀j∈seen',∀o,l[j]?=some o→∀e∈o.after,Region.binds .any e=true→e.on∈seen')∧
  (∀e∈o.after,Region.binds .any e=true→e.on∈seen')∧After l res σ0 (· ∈seen') σi∧Flt E FP l σi o (res i)∧(i∈fr→Flt E [] l σi o (res i))
 pins:∀p∈pn,listed.getD p false=true
 act:After l res σ0 (fun j=>listed.getD j false=true) σa
 sub:∀i,i<l.length→listed.getD i false=true→i∈seen
def lexP (l:List Oper):Bool:=l.zipIdx.all fun(o,i)=>l.zipIdx.all fun(p,j)=>match p.dst with
 |none=>true
 |some d=>(!(looks l o).contains d||(if j<i then edge o j else if i<j then edge p i else true))&&(j==i||o.dst !=some d)
theorem lexP_of (h:lexOk l=true):lexP l=true:=by
 unfold lexOk at h
 unfold lexP
 rw [List.all_eq_true] at h⊢
 intro x hx
 have:=h x hx
 obtain⟨o,i⟩:=x
 simp only [lexAt,Bool.and_eq_true] at this
 exact this.2
theorem lexP_pair (hok:lexP l=true) {i j d:Nat} {o p:Oper} (ho:l[i]?=some o) (hp:l[j]?=some p) (hd:p.dst=some d):
  (d∈looks l o→(j<i→edge o j=true)∧(i<j→edge p i=true))∧(j≠i→o.dst≠some d):=by
 unfold lexP at hok
 rw [List.all_eq_true] at hok
 have:=hok (o,i) (by rw [List.mem_zipIdx_iff_getElem?];exact ho)
 simp only [List.all_eq_true] at this
 have h2:=this (p,j) (by rw [List.mem_zipIdx_iff_getElem?];exact hp)
 simp only [hd,Bool.and_eq_true,Bool.or_eq_true,Bool.not_eq_true',List.contains_eq_mem,decide_eq_false_iff_not,beq_iff_eq,bne_iff_ne] at h2
 refine⟨fun hm=> ?_,fun hne=>h2.2.resolve_left hne⟩
 have h3:=h2.1.resolve_left (fun hn=>hn hm)
 exact⟨fun hlt=>by rw [if_pos hlt] at h3;exact h3,fun hlt=>by rw [if_neg om,if_pos hlt] at h3;exact h3⟩
theorem unl_min {L:Nat→Bool} {ρ:Nat→Nat} {n:Nat}:∀(r j:Nat),ρ j=r→j<n→L j=false→∃j0,j0<n∧L j0=false∧∀q,q<n→ρ q<ρ j0→L q=true:=by
 intro r
 induction r using Nat.strongRecOn with
 |_ r ih=>
  intro j hr hj hL
  by_cases h:∃q,q<n∧ρ q<ρ j∧L q=false
  ·obtain⟨q,q1,q2,q3⟩:=h
   exact ih (ρ q) om q rfl q1 q3
  ·refine⟨j,hj,hL,fun q q1 q2=> ?_⟩
   cases hq:L q with
   |true=>rfl
   |false=>exact absurd ⟨q,q1,q2,hq⟩ h
def Ranked (l:List Oper):Prop:=∃ρ:Nat→Nat,∀i o,l[i]?=some o→∀e∈o.after,Region.binds .any e=true→e.on<l.length∧ρ e.on<ρ i
theorem ranked_of (h:lexOk l=true):Ranked l:=⟨id,fun i o ho e he hb=>by
 have h1:=lex_back h ho he hb
 have h2:=(List.getElem?_eq_some_iff.1 ho).1
 exact⟨by omega,h1⟩⟩
theorem looks_same (hok:lexP l=true) {res:Nat→AV} {σ0 σa σi:Sl} {listed:Array Bool} {seen:List Nat} {i:Nat} (ho:l[i]?=some o) (hcl:∀i o,l[i]?=some o→listed.getD i false=true→∀e∈o.after,Region.binds .any e=true→listed.getD e.on false=true)
  (hni:i∉seen) (hli:listed.getD i false=false) (hcs:∀j∈seen,∀o,l[j]?=some o→∀e∈o.after,Region.binds .any e=true→e.on∈seen) (hds:∀e∈o.after,Region.binds .any e=true→e.on∈seen)
  (hrd:∀e∈o.after,Region.binds .any e=true→listed.getD e.on false=true) (a:After l res σ0 (fun j=>listed.getD j false=true) σa) (b:After l res σ0 (· ∈seen) σi):∀t∈looks l o,σa.get t=σi.get t:=by
 intro t ht
 by_cases hex:∃j p,j∈seen∧l[j]?=some p∧p.dst=some t
 ·obtain⟨j,p,hj,hp,hd⟩:=hex
  rw [b.yes j p t hj hp hd]
  have hne:j≠i:=fun e=>hni (e▸hj)
  obtain⟨e1,e2⟩:=(lexP_pair hok ho hp hd).1 ht
  rcases Nat.lt_or_gt_of_ne hne with hlt|hgt
  ·obtain⟨e,he,hon,hb⟩:=edge_mem (e1 hlt)
   exact a.yes j p t (by rw [←hon];exact hrd e he hb) hp hd
  ·obtain⟨e,he,hon,hb⟩:=edge_mem (e2 hgt)
   exact absurd (by rw [←hon];exact hcs j hj p hp e he hb) hni
 ·rw [b.no t (fun j p hj hp hd=>hex ⟨j,p,hj,hp,hd⟩)]
  refine a.no t fun j p hj hp hd=> ?_
  have hj':listed.getD j false=true:=hj
  have hne:j≠i:=fun e=>by subst e;rw [hli] at hj';cases hj'
  obtain⟨e1,e2⟩:=(lexP_pair hok ho hp hd).1 ht
  rcases Nat.lt_or_gt_of_ne hne with hlt|hgt
  ·obtain⟨e,he,hon,hb⟩:=edge_mem (e1 hlt)
   exact hex ⟨j,p,by rw [←hon];exact hds e he hb,hp,hd⟩
  ·obtain⟨e,he,hon,hb⟩:=edge_mem (e2 hgt)
   have:=hcl j p hp hj' e he hb
   rw [hon,hli] at this
   cases this
theorem After.set (hok:lexP l=true) {res:Nat→AV} {σ0:Sl} {seen:Nat→Prop} {i:Nat} {r:AV} (a:After l res σ0 seen σ) (ho:l[i]?=some o) (hn:¬seen i) (hr:res i=r):After l res σ0 (fun j=>j=i∨seen j) (σ.setO o.dst r):=by
 refine⟨fun j p d hj hp hd=> ?_,fun t ht=> ?_⟩
 ·rw [setO_get]
  rcases hj with rfl|hj
  ·rw [ho] at hp
   injection hp with hp
   subst hp
   rw [if_pos hd,hr]
  ·have hne:j≠i:=fun e=>hn (e▸hj)
   rw [if_neg ((lexP_pair hok ho hp hd).2 hne)]
   exact a.yes j p d hj hp hd
 ·rw [setO_get,if_neg (ht i o (.inl rfl) ho)]
  exact a.no t fun j p hj hp=>ht j p (.inr hj) hp
theorem After.congr {res res':Nat→AV} {σ0:Sl} {seen seen':Nat→Prop} (a:After l res σ0 seen σ) (h1:∀j,j<l.length→(seen' j↔seen j)) (h2:∀j,seen j→res' j=res j):After l res' σ0 seen' σ:=by
 have hlt:∀{j:Nat} {o:Oper},l[j]?=some o→j<l.length:=fun h=>(List.getElem?_eq_some_iff.1 h).1
 refine⟨fun j p d hj hp hd=> ?_,fun t ht=>a.no t fun j p hj hp=>ht j p ((h1 j (hlt hp)).2 hj) hp⟩
 have hj':=(h1 j (hlt hp)).1 hj
 rw [h2 j hj']
 exact a.yes j p d hj' hp hd
theorem Flt.wide {r:AV} (hf:Flt E [] l σ o r):Flt E FP l σ o r:=⟨hf.1,fun h _=>hf.2 h (fun _ hm=>absurd hm List.not_mem_nil)⟩
theorem DInv.adv (hok:lexP l=true) {σ0 σa σc:Sl} {listed:Array Bool} {seen pn:List Nat} {i:Nat} {cs:List (Nat×Nat)} {res:Nat→AV} {fr:List Nat} {b:Nat} (hb:b=0∨b=3) (v:DInv E l K FP σ0 listed σa h seen pn fr ((i,b)::cs) σc res):
  ∃fr' σc' res',DInv E l K FP σ0 listed σa h (i::seen) pn fr' cs σc' res':=by
 obtain⟨size,hcl,go,frs,all,cw,fp,closed,aft,pend,pins,act,sub⟩:=v
 have hni:i∉seen:=cwGo_new go i (by simp)
 have hfr:i∉fr:=fun hm=>hni (frs i hm)
 obtain⟨o,r,ho,hf,hf3,k⟩:∃o r,l[i]?=some o∧Flt E FP l σc o r∧(b=3→Flt E [] l σc o r)∧CW E l K FP cs (σc.setO o.dst r) h:=by
  cases cw with
  |pin _ hm=>exact absurd hm om
  |flt ho hf k=>exact⟨_,_,ho,hf,fun e=>by omega,k⟩
  |fre ho hf k=>exact⟨_,_,ho,hf.wide,fun _=>hf,k⟩
 have hlt:i<l.length:=(List.getElem?_eq_some_iff.1 ho).1
 have hli:listed.getD i false=false:=by
  cases hb:listed.getD i false with
  |false=>rfl
  |true=>exact absurd (sub i hlt hb) hni
 simp only [cwGo,ho,Bool.and_eq_true] at go
 obtain⟨⟨⟨⟨_,g2⟩,_⟩,_⟩,g4⟩:=go
 rw [if_pos hb] at g4
 let res':Nat→AV:=fun j=>if j=i then r else res j
 have hres:∀j,j≠i→res' j=res j:=fun j hj=>if_neg hj
 have hresi:res' i=r:=if_pos rfl
 have hdeps:∀e∈o.after,Region.binds .any e=true→e.on∈seen:=fun e he hb=>deps_mem g2 he hb
 have hclosed':∀j∈i::seen,∀o,l[j]?=some o→∀e∈o.after,Region.binds .any e=true→e.on∈i::seen:=fun j hj p hp e he hb=>by
  rcases List.mem_cons.1 hj with rfl|hj
  ·rw [ho] at hp;injection hp with hp;subst hp
   exact List.mem_cons_of_mem _ (hdeps e he hb)
  ·exact List.mem_cons_of_mem _ (closed j hj p hp e he hb)
 have aft':After l res' σ0 (· ∈seen) σc:=aft.congr (fun _ _=>Iff.rfl) fun j hj=>hres j fun e=>hni (e▸hj)
 have hfr':∀j∈(if b=3 then i::fr else fr),(j=i∧b=3)∨j∈fr:=fun j hj=>by
  split at hj
  ·rename_i e
   rcases List.mem_cons.1 hj with h|h
   ·exact .inl ⟨h,e⟩
   ·exact .inr h
  ·exact .inr hj
 refine⟨if b=3 then i::fr else fr,σc.setO o.dst r,res',size,hcl,g4,fun j hj=> ?_,fun j hj=> ?_,k,fp,hclosed',?_,fun j hj hl=> ?_,pins,?_,fun j hj hl=>List.mem_cons_of_mem _ (sub j hj hl)⟩
 ·rcases hfr' j hj with ⟨h,_⟩|h
  ·rw [h];exact List.mem_cons_self ..
  ·exact List.mem_cons_of_mem _ (frs j h)
 ·rcases all j hj with hm|hm
  ·exact .inl (List.mem_cons_of_mem _ hm)
  ·simp only [List.map_cons,List.mem_cons] at hm
   rcases hm with rfl|hm
   ·exact .inl (List.mem_cons_self ..)
   ·exact .inr hm
 ·exact(aft'.set hok ho hni hresi).congr (fun j _=>List.mem_cons) fun _ _=>rfl
 ·rcases List.mem_cons.1 hj with rfl|hj
  ·exact⟨seen,σc,o,ho,fun q hq=>List.mem_cons_of_mem _ hq,hni,closed,hdeps,aft',by rw [hresi];exact hf,fun hm=>by
    rw [hresi]
    rcases hfr' _ hm with ⟨_,e⟩|e
    ·exact hf3 e
    ·exact absurd e hfr⟩
  ·obtain⟨seen',σi,p,hp,h1,h2,h3,h4,h5,h6,h7⟩:=pend j hj hl
   exact⟨seen',σi,p,hp,fun q hq=>List.mem_cons_of_mem _ (h1 q hq),h2,h3,h4,h5.congr (fun _ _=>Iff.rfl) fun q hq=>hres q fun e=>hni (e▸h1 q hq),by rw [hres j fun e=>hni (e▸hj)];exact h6,fun hm=>by
    rw [hres j fun e=>hni (e▸hj)]
    rcases hfr' _ hm with ⟨e,_⟩|e
    ·exact absurd (e▸hj) hni
    ·exact h7 e⟩
 ·exact act.congr (fun _ _=>Iff.rfl) fun j hj=>hres j fun e=>by subst e;rw [hli] at hj;cases hj
theorem list_step {listed:Array Bool} {i:Nat} (hs:listed.size=l.length) (hi:i<l.length) {o:Oper} (ho:l[i]?=some o) (hcl:∀i o,l[i]?=some o→listed.getD i false=true→∀e∈o.after,Region.binds .any e=true→listed.getD e.on false=true)
  (hrd:∀e∈o.after,Region.binds .any e=true→listed.getD e.on false=true):∀j p,l[j]?=some p→(listed.setIfInBounds i true).getD j false=true→∀e∈p.after,Region.binds .any e=true→(listed.setIfInBounds i true).getD e.on false=true:=by
 intro j p hp hj e he hb
 rw [getD_set om] at hj⊢
 by_cases hei:e.on=i
 ·rw [if_pos hei]
 ·rw [if_neg hei]
  by_cases hji:j=i
  ·subst hji
   rw [ho] at hp;injection hp with hp;subst hp
   exact hrd e he hb
  ·rw [if_neg hji] at hj
   exact hcl j p hp hj e he hb
theorem draw_cw (hok:lexP l=true) (hrk:Ranked l) {σ0:Sl}:∀(u:Nat) (FP:Heap) (listed:Array Bool) (σa:Sl) (h:Heap) (a:Act) (w:World),unl (fun j=>listed.getD j false) l.length=u→(∃seen pn fr cs σc res,DInv E l K FP σ0 listed σa h seen pn fr cs σc res)→St E.N E.C σa h a w→wpAny E.P .any l.toArray (exW E K) u listed a w:=by
 intro u
 induction u with
 |zero=>
  rintro FP listed σa h a w hu ⟨seen,pn,fr,cs,σc,res,v⟩ st
  have hall:=unl_zero l.length hu
  refine⟨?_,?_⟩
  ·rw [List.eq_nil_iff_forall_not_mem]
   intro j hj
   obtain⟨h1,h2,_⟩:=(mem_ready v.size).1 hj
   rw [hall j h1] at h2
   cases h2
  ·obtain⟨size,hcl,go,frs,all,cw,fp,closed,aft,pend,pins,act,sub⟩:=v
   have hcs:cs=[]:=by
    cases cs with
    |nil=>rfl
    |cons c cs=>
     have hni:=cwGo_new go c.1 (by simp)
     have:c.1<l.length:=by
      obtain⟨c,b⟩:=c
      simp only [cwGo,Bool.and_eq_true] at go
      have g1:=go.1
      split at g1
      ·cases g1
      ·rename_i o ho
       exact(List.getElem?_eq_some_iff.1 ho).1
     exact absurd (sub _ this (hall _ this)) hni
   subst hcs
   cases cw with
   |nil k=>
   refine k a w (st.weak (fun t=>.inr ?_) (List.Sublist.refl _))
   by_cases hex:∃j p,j<l.length∧l[j]?=some p∧p.dst=some t
   ·obtain⟨j,p,hj,hp,hd⟩:=hex
    rw [aft.yes j p t (sub j hj (hall j hj)) hp hd,act.yes j p t (hall j hj) hp hd]
   ·have hno:∀j (p:Oper),l[j]?=some p→p.dst≠some t:=fun j p hp hd=>hex ⟨j,p,(List.getElem?_eq_some_iff.1 hp).1,hp,hd⟩
    rw [aft.no t fun j p _ hp=>hno j p hp,act.no t fun j p _ hp=>hno j p hp]
 |succ u ih=>
  rintro FP listed σa h a w hu ⟨seen,pn,fr,cs,σc,res,v⟩ st
  obtain⟨ρ,hρ⟩:=hrk
  obtain⟨j1,hj3,hj4,_⟩:=unl_pos (L:=fun j=>listed.getD j false) l.length om
  obtain⟨j0,hj0,hj1,hj2⟩:=unl_min (L:=fun j=>listed.getD j false) (ρ:=ρ) _ j1 rfl hj3 hj4
  have hready:j0∈Region.ready .any l.toArray listed:=(mem_ready v.size).2 ⟨hj0,hj1,fun o ho e he hb=>hj2 _ (hρ _ o ho e he hb).1 (hρ _ o ho e he hb).2⟩
  refine⟨fun e=>by rw [e] at hready;simp at hready,fun i hi=> ?_⟩
  obtain⟨h1,h2,h3⟩:=(mem_ready v.size).1 hi
  have ho:l[i]?=some l[i]:=List.getElem?_eq_getElem h1
  have hrd:=h3 _ ho
  have hun:unl (fun j=>(listed.setIfInBounds i true).getD j false) l.length=u:=by
   have hfun:(fun j=>(listed.setIfInBounds i true).getD j false)=fun j=>if j=i then true else listed.getD j false:=funext fun j=>getD_set (by rw [v.size];exact h1)
   rw [hfun]
   have:=unl_set (L:=fun j=>listed.getD j false) l.length h1 h2
   omega
  clear hready hj0 hj1 hj2 j0
  have key:∀(n:Nat) (seen pn fr:List Nat) (cs:List (Nat×Nat)) (σc:Sl) (res:Nat→AV),cs.length=n→DInv E l K FP σ0 listed σa h seen pn fr cs σc res→wpOp E.P l.toArray (exW E K) i (wpAny E.P .any l.toArray (exW E K) u (listed.setIfInBounds i true)) a w:=by
   intro n
   induction n with
   |zero=>
    intro seen pn fr cs σc res hn v
    have hcs:cs=[]:=List.eq_nil_of_length_eq_zero hn
    subst hcs
    have his:i∈seen:=(v.all i h1).resolve_right (by simp)
    obtain⟨seen',σi,o,ho',q1,q2,q3,q4,q5,q6,_⟩:=v.pend i his h2
    rw [ho] at ho'
    injection ho' with ho'
    subst ho'
    have hsame:=looks_same hok ho v.hcl q2 h2 q3 q4 hrd v.act q5
    have hc:=(q6.2 h v.fp).2 σa a w (exW E K) hsame st
    have hnext:∀a' w',St E.N E.C (σa.setO l[i].dst (res i)) h a' w'→wpAny E.P .any l.toArray (exW E K) u (listed.setIfInBounds i true) a' w':=fun a' w' st'=>by
     refine ih FP _ _ h a' w' hun ⟨seen,pn,fr,[],σc,res,by simpa using v.size,list_step v.size h1 ho v.hcl hrd,v.go,v.frs,v.all,v.cw,v.fp,v.closed,v.aft,fun j hj hl=> ?_,fun p hp=> ?_,?_,fun j hj hl=> ?_⟩ st'
     ·rw [getD_set (by have:=v.size;omega)] at hl
      split at hl
      ·cases hl
      ·exact v.pend j hj hl
     ·rw [getD_set (by have:=v.size;omega)]
      split
      ·rfl
      ·exact v.pins p hp
     ·refine(v.act.set hok ho (by rw [h2];simp) rfl).congr (fun j _=> ?_) fun _ _=>rfl
      rw [getD_set (by have:=v.size;omega)]
      by_cases hji:j=i<;>simp [hji]
     ·rw [getD_set (by have:=v.size;omega)] at hl
      split at hl
      ·rename_i e;rw [e];exact his
      ·exact v.sub j hj hl
    unfold wpOp
    rw [show l.toArray[i]?=some l[i] from by simp [h1]]
    simp only
    split
    ·rename_i hw
     rw [if_pos hw] at hc
     exact .inl (Oper.wp_mono hnext hc)
    ·rename_i hw
     rw [if_neg hw] at hc
     have st2:=st.put q6.1 (r:=.tup []) (v:=undef) ⟨[],rfl,trivial⟩
     rw [←hc] at st2
     exact hnext _ _ st2
   |succ n ihn=>
    intro seen pn fr cs σc res hn v
    by_cases his:i∈seen
    ·obtain⟨seen',σi,o,ho',q1,q2,q3,q4,q5,q6,_⟩:=v.pend i his h2
     rw [ho] at ho'
     injection ho' with ho'
     subst ho'
     have hsame:=looks_same hok ho v.hcl q2 h2 q3 q4 hrd v.act q5
     have hc:=(q6.2 h v.fp).2 σa a w (exW E K) hsame st
     have hnext:∀a' w',St E.N E.C (σa.setO l[i].dst (res i)) h a' w'→wpAny E.P .any l.toArray (exW E K) u (listed.setIfInBounds i true) a' w':=fun a' w' st'=>by
      refine ih FP _ _ h a' w' hun ⟨seen,pn,fr,cs,σc,res,by simpa using v.size,list_step v.size h1 ho v.hcl hrd,v.go,v.frs,v.all,v.cw,v.fp,v.closed,v.aft,fun j hj hl=> ?_,fun p hp=> ?_,?_,fun j hj hl=> ?_⟩ st'
      ·rw [getD_set (by have:=v.size;omega)] at hl
       split at hl
       ·cases hl
       ·exact v.pend j hj hl
      ·rw [getD_set (by have:=v.size;omega)]
       split
       ·rfl
       ·exact v.pins p hp
      ·refine(v.act.set hok ho (by rw [h2];simp) rfl).congr (fun j _=> ?_) fun _ _=>rfl
       rw [getD_set (by have:=v.size;omega)]
       by_cases hji:j=i<;>simp [hji]
      ·rw [getD_set (by have:=v.size;omega)] at hl
       split at hl
       ·rename_i e;rw [e];exact his
       ·exact v.sub j hj hl
     unfold wpOp
     rw [show l.toArray[i]?=some l[i] from by simp [h1]]
     simp only
     split
     ·rename_i hw
      rw [if_pos hw] at hc
      exact .inl (Oper.wp_mono hnext hc)
     ·rename_i hw
      rw [if_neg hw] at hc
      have st2:=st.put q6.1 (r:=.tup []) (v:=undef) ⟨[],rfl,trivial⟩
      rw [←hc] at st2
      exact hnext _ _ st2
    ·match cs,hn,v with
     |(c,b)::cs,hn,v=>
      by_cases hb:b=0∨b=3
      ·obtain⟨fr',σc',res',v'⟩:=v.adv hok hb
       exact ihn _ _ _ cs _ _ (by simpa using hn) v'
      obtain⟨size,hcl,go,frs,all,cw,fp,closed,aft,pend,pins,act,sub⟩:=v
      cases cw with
      |flt=>exact absurd (.inl rfl) hb
      |fre=>exact absurd (.inr rfl) hb
      | @pin _ FP' _ _ _ o R _ _ hoc hmk hpin kf k=>
      have hcl':c<l.length:=(List.getElem?_eq_some_iff.1 hoc).1
      have hcn:c∉seen:=cwGo_new go c (by simp)
      have hlc:listed.getD c false=false:=by
       cases hb:listed.getD c false with
       |false=>rfl
       |true=>exact absurd (sub c hcl' hb) hcn
      simp only [cwGo,hoc,Bool.and_eq_true] at go
      obtain⟨⟨⟨⟨_,g2⟩,_⟩,g3⟩,g4⟩:=go
      rw [if_neg hb,if_neg (fun e=>hb (.inr e))] at g4
      have g4':cwGo l (c::seen) (c::pn) fr cs=true:=g4
      have hic:i=c:=by
       rcases all i h1 with hm|hm
       ·exact absurd hm his
       ·simp only [List.map_cons,List.mem_cons] at hm
        rcases hm with hm|hm
        ·exact hm
        ·obtain⟨o',ho',he⟩:=cwGo_pin g4' (List.mem_cons_self ..) i hm
         rw [ho] at ho'
         injection ho' with ho'
         subst ho'
         have:=edgeT_listed (L:=fun j=>listed.getD j false) (fun i o hi=>hcl i o hi) 12 l[i] c hrd he
         rw [hlc] at this
         cases this
      subst hic
      rw [ho] at hoc
      injection hoc with hoc
      subst hoc
      have hdeps:∀e∈l[i].after,Region.binds .any e=true→e.on∈seen:=fun e he hb=>deps_mem g2 he hb
      have hsame:=looks_same hok ho hcl hcn h2 closed hdeps hrd act aft
      have kk:=hpin σa K hsame a w st
      have hall:b=2→∀j∈seen,j∈fr∨listed.getD j false=true:=fun hm j hj=>by
       subst hm
       simp only [bne_self_eq_false,Bool.false_or] at g3
       have:=List.all_eq_true.1 g3 j hj
       rw [Bool.or_eq_true] at this
       rcases this with h|h
       ·exact .inl (by simpa using h)
       ·exact .inr (edgeT_listed (L:=fun j=>listed.getD j false) (fun i o hi=>hcl i o hi) 12 l[i] j hrd h)
      have hnext:∀a' w',exW E (.stop (fun σ2 h2=>∃r,R r h2∧σ2=σa.setO l[i].dst r)::K) .normal a' w'→wpAny E.P .any l.toArray (exW E K) u (listed.setIfInBounds i true) a' w':=by
       rintro a' w' ⟨σ2,h',⟨r,hR,rfl⟩,st'⟩
       have fp':=kf r h' hR
       have cw':=k r h' hR
       let res':Nat→AV:=fun j=>if j=i then r else res j
       have hres:∀j,j≠i→res' j=res j:=fun j hj=>if_neg hj
       have hresi:res' i=r:=if_pos rfl
       have aft':After l res' σ0 (· ∈seen) σc:=aft.congr (fun _ _=>Iff.rfl) fun j hj=>hres j fun e=>hcn (e▸hj)
       have act':After l res' σ0 (fun j=>listed.getD j false=true) σa:=act.congr (fun _ _=>Iff.rfl) fun j hj=>hres j fun e=>by subst e;rw [h2] at hj;cases hj
       refine ih FP' _ _ h' a' w' hun ⟨i::seen,i::pn,fr,cs,σc.setO l[i].dst r,res',by simpa using size,list_step size h1 ho hcl hrd,g4',fun j hj=>List.mem_cons_of_mem _ (frs j hj),fun j hj=> ?_,cw',fp',fun j hj p hp e he hb=> ?_,(aft'.set hok ho hcn hresi).congr (fun j _=>List.mem_cons) fun _ _=>rfl,fun j hj hl=> ?_,fun p hp=> ?_,?_,fun j hj hl=> ?_⟩ st'
       ·rcases all j hj with hm|hm
        ·exact .inl (List.mem_cons_of_mem _ hm)
        ·simp only [List.map_cons,List.mem_cons] at hm
         rcases hm with rfl|hm
         ·exact .inl (List.mem_cons_self ..)
         ·exact .inr hm
       ·rcases List.mem_cons.1 hj with rfl|hj
        ·rw [ho] at hp;injection hp with hp;subst hp
         exact List.mem_cons_of_mem _ (hdeps e he hb)
        ·exact List.mem_cons_of_mem _ (closed j hj p hp e he hb)
       ·rw [getD_set om] at hl
        split at hl
        ·cases hl
        ·rename_i hji
         have hj':j∈seen:=(List.mem_cons.1 hj).resolve_left hji
         obtain⟨seen',σi,p,hp,q1,q2,q3,q4,q5,q6,q7⟩:=pend j hj' hl
         rcases hmk with hm2|⟨_,rfl⟩
         ·rcases hall hm2 j hj' with hfr|hl2
          ·exact⟨seen',σi,p,hp,fun q hq=>List.mem_cons_of_mem _ (q1 q hq),q2,q3,q4,q5.congr (fun _ _=>Iff.rfl) fun q hq=>hres q fun e=>hcn (e▸q1 q hq),by rw [hres j hji];exact(q7 hfr).wide,fun hm=>by rw [hres j hji];exact q7 hm⟩
          ·rw [hl2] at hl;cases hl
         ·exact⟨seen',σi,p,hp,fun q hq=>List.mem_cons_of_mem _ (q1 q hq),q2,q3,q4,q5.congr (fun _ _=>Iff.rfl) fun q hq=>hres q fun e=>hcn (e▸q1 q hq),by rw [hres j hji];exact q6,fun hm=>by rw [hres j hji];exact q7 hm⟩
       ·rw [getD_set om]
        split
        ·rfl
        ·rename_i hpi
         exact pins p ((List.mem_cons.1 hp).resolve_left hpi)
       ·refine(act'.set hok ho (by rw [h2];simp) hresi).congr (fun j _=> ?_) fun _ _=>rfl
        rw [getD_set om]
        by_cases hji:j=i<;>simp [hji]
       ·rw [getD_set om] at hl
        split at hl
        ·rename_i e;rw [e];exact List.mem_cons_self ..
        ·exact List.mem_cons_of_mem _ (sub j hj hl)
      have hq:∀e a w,e≠.normal→exW E (.stop (fun σ2 h2=>∃r,R r h2∧σ2=σa.setO l[i].dst r)::K) e a w→exW E K e a w:=fun e a w hne hq=>by
       cases e with
       |normal=>exact absurd rfl hne
       |exit id=>exact hq
       |goto l=>exact hq
       |ret=>exact hq
       |panic c=>exact hq
       |outgrown=>exact hq
      unfold wpOp
      rw [show l.toArray[i]?=some l[i] from by simp [h1]]
      change wpList E.P l.toArray _ [l[i]] a w at kk
      simp only [wpList] at kk
      simp only
      split
      ·rename_i hw
       rw [if_pos hw] at kk
       exact kk.imp (Oper_wp_imp hnext hq) (fun x=>⟨x.1,x.2.elim fun a h=>h.elim fun w h=>⟨a,w,hq _ _ _ (by simp) h⟩⟩)
      ·rename_i hw
       rw [if_neg hw] at kk
       exact hnext _ _ kk
  exact key cs.length seen pn fr cs σc res rfl v
theorem aw_cw {id:Nat} (FP:Heap) (cs:List (Nat×Nat)) (hm:E.P.follows .mixedOrders=true) (hok:(lexOk l&&cwGo l [] [] [] cs&&((List.range l.length).all fun i=>(cs.map (·.1)).contains i))=true) (hFP:Has0 FP h) (k:CW E l K FP cs σ h):
  aw E (.code (.region id l.toArray true)::K) σ h:=fun a w s=>by
 simp only [Bool.and_eq_true] at hok
 obtain⟨⟨hlx,hgo⟩,hall⟩:=hok
 refine wp_region_any hm ?_
 have s':=s.later (Fr.drew (fun _=>False) w (w.drawn+1))
 have e0:∀j,(Array.replicate l.length false).getD j false=false:=fun j=>by
  rw [Array.getD_eq_getD_getElem?]
  simp only [Array.getElem?_replicate]
  split<;>rfl
 have hun:∀m,unl (fun j=>(Array.replicate l.length false).getD j false) m=m:=by
  intro m
  induction m with
  |zero=>rfl
  |succ m ih=>rw [unl,ih,e0];rfl
 have:=draw_cw (E:=E) (K:=K) (σ0:=σ) (lexP_of hlx) (ranked_of hlx) l.length FP (Array.replicate l.length false) σ h a {w with drawn:=w.drawn+1} (hun _) ⟨[],[],[],cs,σ,fun _=>.c .any,by simp,fun i o _ hl=>(by rw [e0] at hl;cases hl),hgo,fun i hi=>absurd hi List.not_mem_nil,fun i hi=>.inr ?_,k,hFP,fun j hj=>absurd hj List.not_mem_nil,⟨fun j _ _ hj=>absurd hj List.not_mem_nil,fun _ _=>rfl⟩,fun i hi=>absurd hi List.not_mem_nil,fun p hp=>absurd hp List.not_mem_nil,⟨fun j _ _ hj=>(by rw [e0] at hj;cases hj),fun _ _=>rfl⟩,fun i _ hl=>(by rw [e0] at hl;cases hl)⟩ s'
 ·simpa using this
 ·have:=List.all_eq_true.1 hall i (List.mem_range.2 hi)
  simpa using this
theorem Flt.pure {nw:Bool} {q:Prop} {r:AV} (hw:wantA l σ o=some true) (hb:pureOp2 E.P nw FP (ev σ) o.op=some (q,r)) (hq:q) (hd:dstOk E.N o.dst=true):Flt E FP l σ o r:=by
 refine⟨hd,fun h hfp=>⟨hd,fun σ' a w Q hs s=> ?_⟩⟩
 rw [if_pos (s.wanted ((want_same hs).trans hw))]
 obtain⟨v,hrun,hr⟩:=pureOp2_ok (fun _=>rfl) hb hq (Stab E.C h w) w a.eval Stab.mono' (fun x hx=>by rw [←ev_same hx hs];exact ev_rep s x) (fun g o hm=>s.heap g o (hfp _ hm))
 unfold Oper.wp
 rw [hrun o rfl]
 exact s.put hd hr
theorem Flt.skip (hw:wantA l σ o=some false) (hd:dstOk E.N o.dst=true):Flt E FP l σ o (.tup []):=⟨hd,fun _ _=>Calm.skip hw hd⟩
theorem cw_1q {i:Nat} {cs:List (Nat×Nat)} (ho:l[i]?=some o) (hd:dstOk E.N o.dst=true) (k:∀R:Option (Prop×Sl)→Prop,(∀q σ',CW E l K FP cs σ' h→(hq:q:=by(try simp only [inRange])<;>and_intros<;>first|exact True.intro|omega|trivial)→R (some (q,σ')))→R (runOp2 E.P true FP l o σ)):CW E l K FP ((i,0)::cs) σ h:=by
 have:=k (fun x=>x=runOp2 E.P true FP l o σ→CW E l K FP ((i,0)::cs) σ h) (fun q σ' ha hq e=>by
  unfold runOp2 at e
  split at e
  ·rename_i hw
   split at e
   ·rename_i q1 r hp
    injection e with e
    injection e with e1 e2
    subst e1 e2
    exact .flt ho (Flt.pure hw hp hq hd) ha
   ·cases e
  ·rename_i hw
   injection e with e
   injection e with e1 e2
   subst e1 e2
   exact .flt ho (Flt.skip hw hd) ha
  ·cases e)
 exact this rfl
end
end Go.AI
namespace Go.AI
section
variable {E : Env} {K : List It} {l : List Oper} {FP : Heap} {σ σ' : Sl} {h : Heap} {o : Oper} {i : Nat} {cs : List (Nat × Nat)}
theorem wc1 (ho:l[i]?=some o) (hd:dstOk E.N o.dst=true) (k:∀R:Option (Prop×Sl)→Prop,(∀q σ',CW E l K FP cs σ' h→(hq:q:=by(try simp only [inRange])<;>and_intros<;>first|exact True.intro|omega|trivial)→R (some (q,σ')))→R (runOp2 E.P true FP l o σ)):CW E l K FP ((i,0)::cs) σ h:=cw_1q ho hd k
theorem wc2 (k:aw E K σ h):CW E l K FP [] σ h:=.nil k
theorem evs_same {σ':Sl} {xs:List Operand} (hx:∀x∈xs,x∈o.op.operands) (hs:∀t∈looks l o,σ'.get t=σ.get t):xs.map (ev σ')=xs.map (ev σ):=List.map_congr_left fun x h=>ev_same (hx x h) hs
theorem cw_callh {FP':Heap} {m:Nat} {f:FuncId} {xs:List Operand} {ts:Array TypeId} {hc hr:Heap} {args:List AV} {Q:AV→Heap→Prop} (ho:l[i]?=some o) (hf:Fh E.P f hc args Q) (hop:o.op=.call {callee:=.value (.func f),args:=xs.toArray,argTypes:=ts}) (hw:wantA l σ o=some true) (hd:dstOk E.N o.dst=true)
  (hp:h.Perm (hc++hr)) (le:LeA [] (xs.map (ev σ)) args) (hFP:∀r h',Q r h'→Has0 FP' (h'++hr)) (k:∀r h',Q r h'→(∀g∈h'.keys,g∉hr.keys)→CW E l K FP' cs (σ.setO o.dst r) (h'++hr)) (hm:m=2∨m=1∧FP'=FP:=by first|exact .inl rfl|exact .inr ⟨rfl,rfl⟩):CW E l K FP ((i,m)::cs) σ h:=by
 refine .pin ho hm (R:=fun r h2=>∃h',Q r h'∧(∀g∈h'.keys,g∉hr.keys)∧h2=h'++hr) (fun σ' K hs=> ?_) ?_ ?_
 ·have he:xs.map (ev σ')=xs.map (ev σ):=evs_same (fun x hx=>by rw [hop];simp [Op.operands,Call.operands,hx]) hs
  exact aw_callh hf hop ((want_same hs).trans hw) hd hp (by rw [he];exact le) fun r h' hq hfr=>aw_ops_nil (aw_stop ⟨r,⟨h',hq,hfr,rfl⟩,rfl⟩)
 ·rintro r h2 ⟨h',hq,_,rfl⟩;exact hFP r h' hq
 ·rintro r h2 ⟨h',hq,hfr,rfl⟩;exact k r h' hq hfr
theorem cw_store {FP':Heap} {mk t g off m n:Nat} {ty:TypeId} {ag:Bool} {f:Nat→CV} {a x:Operand} {v:AV} {h':Heap} (ho:l[i]?=some o) (hop:o.op=.store t a x) (hw:wantA l σ o=some true) (hd:dstOk E.N o.dst=true) (hdn:o.dst=none) (ha:ev σ a=.c (.optr g off)) (hx:ev σ x=v)
  (hg:h.get g=some (.cells ty m f)) (ht:tSz E.P t=some (ag,n)) (hnt:∀xs,v≠.tup xs) (hs:v.cells.all CV.solid=true) (hlen:v.cells.length=n) (hle:off+n≤m)
  (hh:h.set g (.cells ty m (updF f off v.cells))=h') (hFP:Has0 FP' h') (k:CW E l K FP' cs σ h') (hm:mk=2∨mk=1∧FP'=FP:=by first|exact .inl rfl|exact .inr ⟨rfl,rfl⟩):CW E l K FP ((i,mk)::cs) σ h:=by
 refine .pin ho hm (R:=fun _ h2=>h2=h') (fun σ' K hsm=> ?_) ?_ ?_
 ·exact aw_store hop ((want_same hsm).trans hw) hd hdn ((ev_same (by rw [hop];simp [Op.operands]) hsm).trans ha) ((ev_same (by rw [hop];simp [Op.operands]) hsm).trans hx) hg ht hnt hs hlen hle hh (aw_ops_nil (aw_stop ⟨.c .any,rfl,by rw [hdn];rfl⟩))
 ·rintro _ _ rfl;exact hFP
 ·rintro _ _ rfl;rw [hdn];exact k
theorem Flt.call {f:FuncId} {xs:List Operand} {ts:Array TypeId} {args:List AV} {r:AV} (hf:Fa E.P f args r) (hop:o.op=.call {callee:=.value (.func f),args:=xs.toArray,argTypes:=ts}) (hw:wantA l σ o=some true) (hd:dstOk E.N o.dst=true)
 (le:∀h,Has0 FP h→LeA h (xs.map (ev σ)) args):Flt E FP l σ o r:=⟨hd,fun h hfp=>Calm.call hf hop hw hd (le h hfp)⟩
theorem cw_callq {f:FuncId} {xs:List Operand} {ts:Array TypeId} {args:List AV} {r:AV} (ho:l[i]?=some o) (hf:Fa E.P f args r) (hop:o.op=.call {callee:=.value (.func f),args:=xs.toArray,argTypes:=ts}) (hw:wantA l σ o=some true) (hd:dstOk E.N o.dst=true)
 (le:∀h,Has0 FP h→LeA h (xs.map (ev σ)) args) (k:CW E l K FP cs (σ.setO o.dst r) h):CW E l K FP ((i,0)::cs) σ h:=.flt ho (Flt.call hf hop hw hd le) k
theorem has0_nil {h:Heap}:Has0 [] h:=fun p hp=>absurd hp List.not_mem_nil
theorem has0_cons {p:Nat×AObj} {FP h:Heap} (h1:p∈h) (h2:Has0 FP h):Has0 (p::FP) h:=fun q hq=>by
 rcases List.mem_cons.1 hq with rfl|hq
 ·exact h1
 ·exact h2 q hq
theorem has0_skip {p:Nat×AObj} {FP h:Heap} (h1:Has0 FP h):Has0 FP (p::h):=fun q hq=>List.mem_cons_of_mem _ (h1 q hq)
end
end Go.AI
namespace Go.AI
structure Hold (X:Prop):Prop where
 out:X
theorem o0:True:=True.intro
theorem oj {a b:Prop} (x:a) (y:b):a∧b:=⟨x,y⟩
theorem yG {F X G:Prop} (f:F) (x:X) (k:F→Hold X→G:=by intro f x;(repeat first|apply wa1|apply wa2|apply wa3|apply wa4|apply wa5 rfl|apply wa6|apply wa7|(refine wb1 rfl fun R r=>?_;simp only[go_sem,f];with_reducible show R (some _);with_reducible refine r _ _ ?_;clear r R)|apply wa8|(refine wd1 rfl fun R r=>?_;simp only[go_sem,f];with_reducible show R (some _);with_reducible refine r _ _ ?_;clear r R)|apply wc2|(refine wc1 rfl rfl fun R r=>?_;simp only[go_sem,f];with_reducible show R (some _);with_reducible refine r _ _ ?_;clear r R));exact x.out):G:=k f ⟨x⟩
theorem xG {X G:Prop} (x:X) (k:Hold X→G:=by intro x;(repeat first|apply wa1|apply wa2|apply wa3|apply wa4|apply wa5 rfl|apply wa6|apply wa7|(refine wb1 rfl fun R r=>?_;simp only[go_sem];with_reducible show R (some _);with_reducible refine r _ _ ?_;clear r R)|apply wa8|(refine wd1 rfl fun R r=>?_;simp only[go_sem];with_reducible show R (some _);with_reducible refine r _ _ ?_;clear r R)|apply wc2|(refine wc1 rfl rfl fun R r=>?_;simp only[go_sem];with_reducible show R (some _);with_reducible refine r _ _ ?_;clear r R));exact x.out):G:=k ⟨x⟩
theorem yH {F X G:Prop} (f:F) (x:X) (k:F→Hold X→G:=by intro f x;(repeat first|apply wa7|(refine wb1 rfl fun R r=>?_;simp only[go_sem,f];with_reducible show R (some _);with_reducible refine r _ _ ?_;clear r R)|apply wa8|(refine wd1 rfl fun R r=>?_;simp only[go_sem,f];with_reducible show R (some _);with_reducible refine r _ _ ?_;clear r R)|apply wc2|(refine wc1 rfl rfl fun R r=>?_;simp only[go_sem,f];with_reducible show R (some _);with_reducible refine r _ _ ?_;clear r R));exact x.out):G:=k f ⟨x⟩
theorem xH {X G:Prop} (x:X) (k:Hold X→G:=by intro x;(repeat first|apply wa7|(refine wb1 rfl fun R r=>?_;simp only[go_sem];with_reducible show R (some _);with_reducible refine r _ _ ?_;clear r R)|apply wa8|(refine wd1 rfl fun R r=>?_;simp only[go_sem];with_reducible show R (some _);with_reducible refine r _ _ ?_;clear r R)|apply wc2|(refine wc1 rfl rfl fun R r=>?_;simp only[go_sem];with_reducible show R (some _);with_reducible refine r _ _ ?_;clear r R));exact x.out):G:=k ⟨x⟩
theorem yI {F X G:Prop} (f:F) (x:X) (k:F→Hold X→G:=by intro f x;(repeat first|apply wa1|apply wa3|apply wa4|apply wa5 rfl|apply wa6|apply wa7|(refine wb1 rfl fun R r=>?_;simp only[go_sem,f];with_reducible show R (some _);with_reducible refine r _ _ ?_;clear r R)|apply wa8|(refine wd1 rfl fun R r=>?_;simp only[go_sem,f];with_reducible show R (some _);with_reducible refine r _ _ ?_;clear r R)|apply wc2|(refine wc1 rfl rfl fun R r=>?_;simp only[go_sem,f];with_reducible show R (some _);with_reducible refine r _ _ ?_;clear r R));exact x.out):G:=k f ⟨x⟩
theorem xI {X G:Prop} (x:X) (k:Hold X→G:=by intro x;(repeat first|apply wa1|apply wa3|apply wa4|apply wa5 rfl|apply wa6|apply wa7|(refine wb1 rfl fun R r=>?_;simp only[go_sem];with_reducible show R (some _);with_reducible refine r _ _ ?_;clear r R)|apply wa8|(refine wd1 rfl fun R r=>?_;simp only[go_sem];with_reducible show R (some _);with_reducible refine r _ _ ?_;clear r R)|apply wc2|(refine wc1 rfl rfl fun R r=>?_;simp only[go_sem];with_reducible show R (some _);with_reducible refine r _ _ ?_;clear r R));exact x.out):G:=k ⟨x⟩
theorem yO {F X G:Prop} (f:F) (x:X) (k:F→Hold X→G:=by intro f x;(first|(refine wb1 rfl fun R r=>?_;simp only[go_sem,f];with_reducible show R (some _);with_reducible refine r _ _ ?_;clear r R)|(refine wd1 rfl fun R r=>?_;simp only[go_sem,f];with_reducible show R (some _);with_reducible refine r _ _ ?_;clear r R)|apply wc2|(refine wc1 rfl rfl fun R r=>?_;simp only[go_sem,f];with_reducible show R (some _);with_reducible refine r _ _ ?_;clear r R));exact x.out):G:=k f ⟨x⟩
theorem xO {X G:Prop} (x:X) (k:Hold X→G:=by intro x;(first|(refine wb1 rfl fun R r=>?_;simp only[go_sem];with_reducible show R (some _);with_reducible refine r _ _ ?_;clear r R)|(refine wd1 rfl fun R r=>?_;simp only[go_sem];with_reducible show R (some _);with_reducible refine r _ _ ?_;clear r R)|apply wc2|(refine wc1 rfl rfl fun R r=>?_;simp only[go_sem];with_reducible show R (some _);with_reducible refine r _ _ ?_;clear r R));exact x.out):G:=k ⟨x⟩
theorem yS {F X G:Prop} (f:F) (x:X) (k:F→Hold X→G:=by intro f x;(try simp only[go_sem,f]);exact x.out):G:=k f ⟨x⟩
theorem xS {X G:Prop} (x:X) (k:Hold X→G:=by intro x;(try simp only[go_sem]);exact x.out):G:=k ⟨x⟩
theorem yT {F X G C:Prop} (c:C) (f:F) (x:X) (k:C→F→Hold X→G:=by intro c f x;refine aw_retq c rfl fun R r=>?_;simp only[go_sem,f];refine r _ rfl ?_;clear r R;exact x.out):G:=k c f ⟨x⟩
theorem xT {X G C:Prop} (c:C) (x:X) (k:C→Hold X→G:=by intro c x;refine aw_retq c rfl fun R r=>?_;simp only[go_sem];refine r _ rfl ?_;clear r R;exact x.out):G:=k c ⟨x⟩
theorem yU {F X G:Prop} (f:F) (x:X) (k:F→Hold X→G:=by intro f x;refine aw_rethq rfl fun R r=>?_;simp only[go_sem,f];refine r _ rfl ?_;clear r R;exact x.out):G:=k f ⟨x⟩
theorem xU {X G:Prop} (x:X) (k:Hold X→G:=by intro x;refine aw_rethq rfl fun R r=>?_;simp only[go_sem];refine r _ rfl ?_;clear r R;exact x.out):G:=k ⟨x⟩
theorem yV {F X G:Prop} (f:F) (x:X) (k:F→Hold X→G:=by intro f x;refine aw_endhq rfl fun R r=>?_;simp only[go_sem,f];refine r _ rfl ?_;clear r R;exact x.out):G:=k f ⟨x⟩
theorem xV {X G:Prop} (x:X) (k:Hold X→G:=by intro x;refine aw_endhq rfl fun R r=>?_;simp only[go_sem];refine r _ rfl ?_;clear r R;exact x.out):G:=k ⟨x⟩
theorem zE {F P:Prop} (f:F) (k:F→P:=by intro f;simp only[go_sem,f]<;>rfl):P:=k f
theorem eE {P:Prop} (k:P:=by simp only[go_sem]<;>rfl):P:=k
theorem zB {F P:Prop} (f:F) (k:F→P:=by intro f;simp only[go_sem,f]<;>and_intros<;>first|exact True.intro|(with_reducible rfl)|exact c_int om|rfl):P:=k f
theorem eB {P:Prop} (k:P:=by simp only[go_sem]<;>and_intros<;>first|exact True.intro|(with_reducible rfl)|exact c_int om|rfl):P:=k
theorem zZ {α:Type} {l:List α}:l.Sublist l:=List.Sublist.refl l
theorem zL {F P:Prop} (f:F) (k:F→P:=by intro f;first|exact True.intro|simp only[go_sem,f]<;>and_intros<;>first|exact True.intro|exact .c (.refl _)|exact .c wl2|exact .agg (lel_refl _)|exact .agg (by simp only[LeL];and_intros<;>first|exact True.intro|exact .refl _|exact wl2)|exact .c .nils):P:=k f
theorem eL {P:Prop} (k:P:=by first|exact True.intro|simp only[go_sem]<;>and_intros<;>first|exact True.intro|exact .c (.refl _)|exact .c wl2|exact .agg (lel_refl _)|exact .agg (by simp only[LeL];and_intros<;>first|exact True.intro|exact .refl _|exact wl2)|exact .c .nils):P:=k
section
variable {E : Env} {K : List It} {σ : Sl} {h : Heap} {all l rest : List Oper} {o : Oper} {F : Prop}
theorem yC {f:FuncId} {xs:List Operand} {ts:Array TypeId} {args:List AV} {r:AV} {X:Prop} (q:F) (hf:Fa E.P f args r) (x:X) (hop:o.op=.call {callee:=.value (.func f),args:=xs.toArray,argTypes:=ts}:=by exact rfl) (hw:wantA all σ o=some true:=by exact rfl) (hd:dstOk E.N o.dst=true:=by exact rfl)
 (le:F→LeA h (xs.map (ev σ)) args:=by intro f;first|exact True.intro|simp only[go_sem,f]<;>and_intros<;>first|exact True.intro|exact .c (.refl _)|exact .c wl2|exact .agg (lel_refl _)|exact .agg (by simp only[LeL];and_intros<;>first|exact True.intro|exact .refl _|exact wl2)|exact .c .nils) (k:F→Hold X→aw E (.ops all rest::K) (σ.setO o.dst r) h:=by intro f x;(try simp only[go_sem,f]);exact x.out):aw E (.ops all (o::rest)::K) σ h:=aw_callq hf hop hw hd (le q) (k q ⟨x⟩)
theorem xC {f:FuncId} {xs:List Operand} {ts:Array TypeId} {args:List AV} {r:AV} {X:Prop} (hf:Fa E.P f args r) (x:X) (hop:o.op=.call {callee:=.value (.func f),args:=xs.toArray,argTypes:=ts}:=by exact rfl) (hw:wantA all σ o=some true:=by exact rfl) (hd:dstOk E.N o.dst=true:=by exact rfl)
 (le:LeA h (xs.map (ev σ)) args:=by first|exact True.intro|simp only[go_sem]<;>and_intros<;>first|exact True.intro|exact .c (.refl _)|exact .c wl2|exact .agg (lel_refl _)|exact .agg (by simp only[LeL];and_intros<;>first|exact True.intro|exact .refl _|exact wl2)|exact .c .nils) (k:Hold X→aw E (.ops all rest::K) (σ.setO o.dst r) h:=by intro x;(try simp only[go_sem]);exact x.out):aw E (.ops all (o::rest)::K) σ h:=aw_callq hf hop hw hd le (k ⟨x⟩)
theorem yD {f:FuncId} {xs:List Operand} {ts:Array TypeId} {args:List AV} {r:AV} {n:Nat} {X:Prop} (q:F) (hf:Fa E.P f args r) (x:X) (hop:o.op=.call {callee:=.value (.func f),args:=xs.toArray,argTypes:=ts}:=by exact rfl) (hw:wantA l σ o=some true:=by exact rfl) (hd:dstOk E.N o.dst=true:=by exact rfl)
 (le:F→LeA h (xs.map (ev σ)) args:=by intro f;first|exact True.intro|simp only[go_sem,f]<;>and_intros<;>first|exact True.intro|exact .c (.refl _)|exact .c wl2|exact .agg (lel_refl _)|exact .agg (by simp only[LeL];and_intros<;>first|exact True.intro|exact .refl _|exact wl2)|exact .c .nils) (k:F→Hold X→DrK E h l K n rest (σ.setO o.dst r):=by intro f x;(try simp only[go_sem,f]);exact x.out):DrK E h l K (n+1) (o::rest) σ:=drk_call hf hop hw hd (le q) (k q ⟨x⟩)
theorem xD {f:FuncId} {xs:List Operand} {ts:Array TypeId} {args:List AV} {r:AV} {n:Nat} {X:Prop} (hf:Fa E.P f args r) (x:X) (hop:o.op=.call {callee:=.value (.func f),args:=xs.toArray,argTypes:=ts}:=by exact rfl) (hw:wantA l σ o=some true:=by exact rfl) (hd:dstOk E.N o.dst=true:=by exact rfl)
 (le:LeA h (xs.map (ev σ)) args:=by first|exact True.intro|simp only[go_sem]<;>and_intros<;>first|exact True.intro|exact .c (.refl _)|exact .c wl2|exact .agg (lel_refl _)|exact .agg (by simp only[LeL];and_intros<;>first|exact True.intro|exact .refl _|exact wl2)|exact .c .nils) (k:Hold X→DrK E h l K n rest (σ.setO o.dst r):=by intro x;(try simp only[go_sem]);exact x.out):DrK E h l K (n+1) (o::rest) σ:=drk_call hf hop hw hd le (k ⟨x⟩)
theorem yB {t:TypeId} {y:Operand} {v:AV} {X N:Nat→Prop} (q:F) (x:∀g,N g→X g) (hop:o.op=.box t y:=by exact rfl) (hw:wantA all σ o=some true:=by exact rfl) (hd:dstOk E.N o.dst=true:=by exact rfl) (hx:F→ev σ y=v:=by intro f;simp only[go_sem,f]<;>rfl) (hnt:∀xs,v≠.tup xs:=by exact fun _ e=>by cases e) (hs:v.cells.all CV.solid=true:=by first|exact rfl|exact solid_gs3)
  (hn:∀g,g∉h.keys→N g:=by intro g h;replace h:=Heap.ne_of h;(first|dsimp only [Heap.ne,gh] at h|dsimp only [Heap.ne] at h|skip);exact h) (k:F→∀g,N g→Hold (X g)→aw E (.ops all rest::K) (σ.setO o.dst (.c (.optr g 0))) ((g,.cells t v.cells.length (ofL v.cells))::h):=by intro f g e x;(try simp only[go_sem,f,e]);exact x.out):aw E (.ops all (o::rest)::K) σ h:=
 aw_box hop hw hd (hx q) hnt hs fun g hg=>k q g (hn g hg) ⟨x g (hn g hg)⟩
theorem xB {t:TypeId} {y:Operand} {v:AV} {X N:Nat→Prop} (x:∀g,N g→X g) (hop:o.op=.box t y:=by exact rfl) (hw:wantA all σ o=some true:=by exact rfl) (hd:dstOk E.N o.dst=true:=by exact rfl) (hx:ev σ y=v:=by simp only[go_sem]<;>rfl) (hnt:∀xs,v≠.tup xs:=by exact fun _ e=>by cases e) (hs:v.cells.all CV.solid=true:=by first|exact rfl|exact solid_gs3)
  (hn:∀g,g∉h.keys→N g:=by intro g h;replace h:=Heap.ne_of h;(first|dsimp only [Heap.ne,gh] at h|dsimp only [Heap.ne] at h|skip);exact h) (k:∀g,N g→Hold (X g)→aw E (.ops all rest::K) (σ.setO o.dst (.c (.optr g 0))) ((g,.cells t v.cells.length (ofL v.cells))::h):=by intro g e x;(try simp only[go_sem,e]);exact x.out):aw E (.ops all (o::rest)::K) σ h:=
 aw_box hop hw hd hx hnt hs fun g hg=>k g (hn g hg) ⟨x g (hn g hg)⟩
theorem yA {t:TypeId} {z:List CV} {X N:Nat→Prop} (q:F) (x:∀g,N g→X g) (hop:o.op=.alloc t:=by exact rfl) (hw:wantA all σ o=some true:=by exact rfl) (hd:dstOk E.N o.dst=true:=by exact rfl) (hz:F→tZero E.P t=some z:=by intro f;simp only[go_sem,f]<;>rfl)
  (hn:∀g,g∉h.keys→N g:=by intro g h;replace h:=Heap.ne_of h;(first|dsimp only [Heap.ne,gh] at h|dsimp only [Heap.ne] at h|skip);exact h) (k:F→∀g,N g→Hold (X g)→aw E (.ops all rest::K) (σ.setO o.dst (.c (.optr g 0))) ((g,.cells t z.length (ofL z))::h):=by intro f g e x;(try simp only[go_sem,f,e]);exact x.out):aw E (.ops all (o::rest)::K) σ h:=
 aw_alloc hop hw hd (hz q) fun g hg=>k q g (hn g hg) ⟨x g (hn g hg)⟩
theorem xA {t:TypeId} {z:List CV} {X N:Nat→Prop} (x:∀g,N g→X g) (hop:o.op=.alloc t:=by exact rfl) (hw:wantA all σ o=some true:=by exact rfl) (hd:dstOk E.N o.dst=true:=by exact rfl) (hz:tZero E.P t=some z:=by simp only[go_sem]<;>rfl)
  (hn:∀g,g∉h.keys→N g:=by intro g h;replace h:=Heap.ne_of h;(first|dsimp only [Heap.ne,gh] at h|dsimp only [Heap.ne] at h|skip);exact h) (k:∀g,N g→Hold (X g)→aw E (.ops all rest::K) (σ.setO o.dst (.c (.optr g 0))) ((g,.cells t z.length (ofL z))::h):=by intro g e x;(try simp only[go_sem,e]);exact x.out):aw E (.ops all (o::rest)::K) σ h:=
 aw_alloc hop hw hd hz fun g hg=>k g (hn g hg) ⟨x g (hn g hg)⟩
theorem yW {t g off m n:Nat} {ty:TypeId} {ag:Bool} {fc:Nat→CV} {a y:Operand} {v:AV} {h':Heap} (q:F) (k:aw E (.ops all rest::K) σ h') (hop:o.op=.store t a y:=by exact rfl) (hw:wantA all σ o=some true:=by exact rfl) (hd:dstOk E.N o.dst=true:=by exact rfl) (hdn:o.dst=none:=by exact rfl) (ha:F→ev σ a=.c (.optr g off):=by intro f;simp only[go_sem,f]<;>rfl) (hx:F→ev σ y=v:=by intro f;simp only[go_sem,f]<;>rfl)
 (hg:F→h.get g=some (.cells ty m fc):=by intro f;simp only[go_sem,f]<;>rfl) (ht:F→tSz E.P t=some (ag,n):=by intro f;simp only[go_sem,f]<;>rfl) (hnt:∀xs,v≠.tup xs:=by exact fun _ e=>by cases e) (hs:v.cells.all CV.solid=true:=by first|rfl|exact solid_gs3) (hlen:v.cells.length=n:=by rfl) (hle:off+n≤m:=by first|omega|simp)
 (hh:h.set g (.cells ty m (updF fc off v.cells))=h':=by exact rfl):aw E (.ops all (o::rest)::K) σ h:=aw_store hop hw hd hdn (ha q) (hx q) (hg q) (ht q) hnt hs hlen hle hh k
theorem xW {t g off m n:Nat} {ty:TypeId} {ag:Bool} {fc:Nat→CV} {a y:Operand} {v:AV} {h':Heap} (k:aw E (.ops all rest::K) σ h') (hop:o.op=.store t a y:=by exact rfl) (hw:wantA all σ o=some true:=by exact rfl) (hd:dstOk E.N o.dst=true:=by exact rfl) (hdn:o.dst=none:=by exact rfl) (ha:ev σ a=.c (.optr g off):=by simp only[go_sem]<;>rfl) (hx:ev σ y=v:=by simp only[go_sem]<;>rfl)
 (hg:h.get g=some (.cells ty m fc):=by simp only[go_sem]<;>rfl) (ht:tSz E.P t=some (ag,n):=by simp only[go_sem]<;>rfl) (hnt:∀xs,v≠.tup xs:=by exact fun _ e=>by cases e) (hs:v.cells.all CV.solid=true:=by first|rfl|exact solid_gs3) (hlen:v.cells.length=n:=by rfl) (hle:off+n≤m:=by first|omega|simp)
 (hh:h.set g (.cells ty m (updF fc off v.cells))=h':=by exact rfl):aw E (.ops all (o::rest)::K) σ h:=aw_store hop hw hd hdn ha hx hg ht hnt hs hlen hle hh k
theorem yF {t:Nat} {y z:Code} {b:Bool} (q:F) (k1:b=true→aw E (.code y::K) σ h) (k2:b=false→aw E (.code z::K) σ h) (hb:F→σ.get t=.c (.bool b):=by intro f;simp only[go_sem,f]<;>rfl):aw E (.code (.cond (.tmp t) y z)::K) σ h:=aw_cond (hb q) k1 k2
theorem xF {t:Nat} {y z:Code} {b:Bool} (k1:b=true→aw E (.code y::K) σ h) (k2:b=false→aw E (.code z::K) σ h) (hb:σ.get t=.c (.bool b):=by simp only[go_sem]<;>rfl):aw E (.code (.cond (.tmp t) y z)::K) σ h:=aw_cond hb k1 k2
theorem yP {t:Nat} {y z:Code} (q:F) (k:aw E (.code y::K) σ h) (hb:F→σ.get t=.c (.bool true):=by intro f;simp only[go_sem,f]<;>rfl):aw E (.code (.cond (.tmp t) y z)::K) σ h:=aw_condT (hb q) k
theorem xP {t:Nat} {y z:Code} (k:aw E (.code y::K) σ h) (hb:σ.get t=.c (.bool true):=by simp only[go_sem]<;>rfl):aw E (.code (.cond (.tmp t) y z)::K) σ h:=aw_condT hb k
theorem yN {t:Nat} {y z:Code} (q:F) (k:aw E (.code z::K) σ h) (hb:F→σ.get t=.c (.bool false):=by intro f;simp only[go_sem,f]<;>rfl):aw E (.code (.cond (.tmp t) y z)::K) σ h:=aw_condF (hb q) k
theorem xN {t:Nat} {y z:Code} (k:aw E (.code z::K) σ h) (hb:σ.get t=.c (.bool false):=by simp only[go_sem]<;>rfl):aw E (.code (.cond (.tmp t) y z)::K) σ h:=aw_condF hb k
end
end Go.AI
namespace Go.AI
theorem xGT {X G C:Prop} (c:C) (x:X) (k:C→Hold X→G:=by intro c x;refine xG ?_;refine xT c ?_;exact x.out):G:=k c ⟨x⟩
theorem xSG {X G:Prop} (x:X) (k:Hold X→G:=by intro x;refine xS ?_;refine xG ?_;exact x.out):G:=k ⟨x⟩
theorem xSGT {X G C:Prop} (c:C) (x:X) (k:C→Hold X→G:=by intro c x;refine xS ?_;refine xG ?_;refine xT c ?_;exact x.out):G:=k c ⟨x⟩
theorem xSU {X G:Prop} (x:X) (k:Hold X→G:=by intro x;refine xS ?_;refine xU ?_;exact x.out):G:=k ⟨x⟩
theorem yGT {F X G C:Prop} (c:C) (f:F) (x:X) (k:C→F→Hold X→G:=by intro c f x;refine yG f ?_;refine yT c f ?_;exact x.out):G:=k c f ⟨x⟩
theorem yGWSGT {F X G C:Prop} (c:C) (f:F) (x:X) (k:C→F→Hold X→G:=by intro c f x;refine yG f ?_;refine yW f ?_;refine yS f ?_;refine yG f ?_;refine yT c f ?_;exact x.out):G:=k c f ⟨x⟩
theorem ySG {F X G:Prop} (f:F) (x:X) (k:F→Hold X→G:=by intro f x;refine yS f ?_;refine yG f ?_;exact x.out):G:=k f ⟨x⟩
theorem ySGT {F X G C:Prop} (c:C) (f:F) (x:X) (k:C→F→Hold X→G:=by intro c f x;refine yS f ?_;refine yG f ?_;refine yT c f ?_;exact x.out):G:=k c f ⟨x⟩
end Go.AI
namespace Go.Proofs.YteehccacfedolaaGreat
open Go.AI
@[go_sem] theorem ty_e_ws:tElem Tryz.prog 41=some (166,1,4):=by kernel_rfl
@[go_sem] theorem ty_s_u32:tSz Tryz.prog 166=some (false,1):=by kernel_rfl
@[go_sem] theorem ty_z_u32:tZero Tryz.prog 166=some [.int .u32 0]:=by kernel_rfl
@[go_sem] theorem ty_i_u32:tInt Tryz.prog 166=some .u32:=by kernel_rfl
@[go_sem] theorem ty_i_u64:tInt Tryz.prog 207=some .u64:=by kernel_rfl
@[go_sem] theorem ty_i_int:tInt Tryz.prog 3=some .i64:=by kernel_rfl
@[go_sem] theorem ty_b_bool:tBool Tryz.prog 4=true:=by kernel_rfl
@[go_sem] theorem ty_i_err:tInt Tryz.prog 73=some .i64:=by kernel_rfl
@[go_sem] theorem ty_f_err:tIfc Tryz.prog 32=true:=by kernel_rfl
@[go_sem] theorem ty_mixed:Tryz.prog.follows .mixedOrders=true:=by kernel_rfl
end Go.Proofs.YteehccacfedolaaGreat
namespace Go.PN
def val:List Nat→Nat
 |[]=>0
 |x::xs=>x+4294967296*val xs
def words (n:Nat):List Nat:=if h:n=0 then [] else n%4294967296::words (n/4294967296)
termination_by n
decreasing_by omega
theorem words_zero:words 0=[]:=by rw [words];simp
theorem words_cons {n:Nat} (h:n≠0):words n=n%4294967296::words (n/4294967296):=by rw [words];simp [h]
theorem words_mk {x v:Nat} (hx:x<4294967296) (h:x≠0∨v≠0):words (x+4294967296*v)=x::words v:=by
 rw [words_cons om]
 congr 1
 ·omega
 ·congr 1;omega
theorem val_words (n:Nat):val (words n)=n:=by
 induction n using Nat.strongRecOn with
 |ind n ih=>
  by_cases h:n=0
  ·subst h;rw [words_zero];rfl
  ·rw [words_cons h,val,ih _ om];omega
theorem words_lt (n:Nat):∀x∈words n,x<4294967296:=by
 induction n using Nat.strongRecOn with
 |ind n ih=>
  by_cases h:n=0
  ·subst h;rw [words_zero];simp
  ·rw [words_cons h]
   intro x hx
   simp only [List.mem_cons] at hx
   rcases hx with rfl|hx
   ·omega
   ·exact ih _ om x hx
theorem words_eq_nil {n:Nat}:words n=[]↔n=0:=by
 constructor
 ·intro h
  have:=val_words n
  rw [h] at this
  exact this.symm
 ·rintro rfl;exact words_zero
theorem words_inj {a b:Nat} (h:words a=words b):a=b:=by rw [←val_words a,h,val_words]
theorem val_zero {xs:List Nat} (h:∀x∈xs,x=0):val xs=0:=by
 induction xs with
 |nil=>rfl
 |cons x xs ih=>rw [val,ih (fun y hy=>h y (by simp [hy])),h x (by simp)]
theorem trim_eq:∀(xs:List Nat) (n:Nat),(∀x∈xs,x<4294967296)→n≤xs.length→(∀j,n≤j→xs.getD j 0=0)→(n=0∨xs.getD (n-1) 0≠0)→words (val xs)=xs.take n
 |[],n,_,hn,_,_=>by simp at hn;subst hn;simp [val,words_zero]
 |x::xs,0,hx,_,hz,_=>by
  have:val (x::xs)=0:=val_zero (fun y hy=>by
   obtain⟨j,hj,rfl⟩:=List.getElem_of_mem hy
   have:=hz j (Nat.zero_le _)
   rw [List.getD_eq_getElem?_getD,List.getElem?_eq_getElem hj] at this
   exact this)
  rw [this,words_zero];rfl
 |x::xs,n+1,hx,hn,hz,hl=>by
  have hx0:x<4294967296:=hx x (by simp)
  have ih:=trim_eq xs n (fun y hy=>hx y (by simp [hy])) (by simpa using hn) (fun j hj=>by simpa using hz (j+1) om) (by
   cases n with
   |zero=>exact .inl rfl
   |succ n=>right;simpa using hl.resolve_left om)
  rw [val,words_mk hx0,ih]
  ·rfl
  ·cases n with
   |zero=>left;simpa using hl.resolve_left om
   |succ n=>
    right
    intro h0
    rw [h0,words_zero] at ih
    have:=congrArg List.length ih
    simp at this hn
    omega
def Plain (xs:List Nat):Prop:=xs=[]∨xs.getD (xs.length-1) 0≠0
theorem words_val {xs:List Nat} (hx:∀x∈xs,x<4294967296) (hp:Plain xs):words (val xs)=xs:=by
 have:=trim_eq xs xs.length hx (Nat.le_refl _) (fun j hj=>by rw [List.getD_eq_getElem?_getD,List.getElem?_eq_none hj];rfl) (by
  rcases hp with rfl|hp
  ·left;rfl
  ·exact .inr hp)
 rwa [List.take_length] at this
theorem words_plain (n:Nat):Plain (words n):=by
 induction n using Nat.strongRecOn with
 |ind n ih=>
  by_cases h:n=0
  ·subst h;left;exact words_zero
  ·right
   rw [words_cons h]
   by_cases h2:n/4294967296=0
   ·rw [h2,words_zero];simp;omega
   ·have:=ih _ (by omega:n/4294967296<n)
    rcases this with e|e
    ·rw [words_eq_nil] at e;exact absurd e h2
    ·have hl:0<(words (n/4294967296)).length:=by
      rcases Nat.eq_zero_or_pos (words (n/4294967296)).length with h0|h0
      ·rw [List.length_eq_zero_iff,words_eq_nil] at h0;exact absurd h0 h2
      ·exact h0
     rw [List.length_cons,show(words (n/4294967296)).length+1-1=((words (n/4294967296)).length-1)+1 from by omega]
     simpa using e
theorem val_lt:∀(xs:List Nat),(∀x∈xs,x<4294967296)→val xs<4294967296^xs.length
 |[],_=>by simp [val]
 |x::xs,hx=>by
  have h1:=val_lt xs (fun y hy=>hx y (by simp [hy]))
  have h2:=hx x (by simp)
  rw [val,List.length_cons,Nat.pow_succ]
  omega
theorem val_append (xs ys:List Nat):val (xs++ys)=val xs+4294967296^xs.length*val ys:=by
 induction xs with
 |nil=>simp [val]
 |cons x xs ih=>rw [List.cons_append,val,val,ih,List.length_cons,Nat.pow_succ,Nat.mul_add,←Nat.add_assoc,←Nat.mul_assoc,Nat.mul_comm 4294967296 (4294967296^xs.length)]
theorem getD_lt {xs:List Nat} (hx:∀x∈xs,x<4294967296) (i:Nat):xs.getD i 0<4294967296:=by
 rw [List.getD_eq_getElem?_getD]
 cases h:xs[i]? with
 |none=>simp
 |some x=>exact hx x (List.mem_of_getElem? h)
theorem getD_ge {xs:List Nat} {i:Nat} (h:xs.length≤i):xs.getD i 0=0:=by
 rw [List.getD_eq_getElem?_getD,List.getElem?_eq_none h];rfl
theorem getD_take {xs:List Nat} {n j:Nat} (h:j<n):(xs.take n).getD j 0=xs.getD j 0:=by
 rw [List.getD_eq_getElem?_getD,List.getD_eq_getElem?_getD,List.getElem?_take,if_pos h]
theorem val_take_succ (xs:List Nat) (i:Nat):val (xs.take (i+1))=val (xs.take i)+4294967296^i*xs.getD i 0:=by
 by_cases h:i<xs.length
 ·rw [List.take_succ_eq_append_getElem h,val_append,List.getD_eq_getElem?_getD,List.getElem?_eq_getElem h]
  simp [val,List.length_take,Nat.min_eq_left (Nat.le_of_lt h)]
 ·rw [getD_ge om,List.take_of_length_le om,List.take_of_length_le om];simp
theorem take_set (zs:List Nat) (i v:Nat):(zs.set i v).take i=zs.take i:=by
 apply List.ext_getElem?
 intro j
 simp only [List.getElem?_take]
 by_cases h:j<i
 ·rw [if_pos h,if_pos h,List.getElem?_set_ne om]
 ·rw [if_neg h,if_neg h]
theorem getD_set {zs:List Nat} {i v:Nat} (h:i<zs.length):(zs.set i v).getD i 0=v:=by
 simp [List.getD_eq_getElem?_getD,h]
theorem val_set_take {zs:List Nat} {i v:Nat} (h:i<zs.length):val ((zs.set i v).take (i+1))=val (zs.take i)+4294967296^i*v:=by
 rw [val_take_succ,take_set,getD_set h]
theorem val_replicate (n:Nat):val (List.replicate n 0)=0:=val_zero (fun x hx=>(List.mem_replicate.1 hx).2)
theorem set_lt {zs:List Nat} {i v:Nat} (hz:∀x∈zs,x<4294967296) (hv:v<4294967296):∀x∈zs.set i v,x<4294967296:=fun x hx=>by
 rcases List.mem_or_eq_of_mem_set hx with h|h
 ·exact hz x h
 ·omega
theorem replicate_lt (n:Nat):∀x∈List.replicate n 0,x<4294967296:=fun x hx=>by rw [(List.mem_replicate.1 hx).2];omega
def cmpN (a b:Nat):Int:=if a<b then-1 else if a=b then 0 else 1
theorem words_pow_lt (n:Nat):n<4294967296^(words n).length:=by
 have:=val_lt (words n) (words_lt n)
 rwa [val_words] at this
theorem words_len_le {n k:Nat} (h:n<4294967296^k):(words n).length≤k:=by
 induction k generalizing n with
 |zero=>have:n=0:=by simpa using h
        subst this;rw [words_zero];simp
 |succ k ih=>
  by_cases h0:n=0
  ·subst h0;rw [words_zero];simp
  ·rw [words_cons h0,List.length_cons]
   have:= @ih (n/4294967296) (by rw [Nat.pow_succ] at h;exact Nat.div_lt_of_lt_mul om)
   omega
theorem words_pow_le {n:Nat} (h:n≠0):4294967296^((words n).length-1)≤n:=by
 rcases Nat.lt_or_ge n (4294967296^((words n).length-1)) with hlt|hge
 ·have:=words_len_le hlt
  have hl:(words n).length≠0:=fun e=>h (words_eq_nil.1 (List.length_eq_zero_iff.1 e))
  omega
 ·exact hge
theorem words_val_len (xs:List Nat) (hx:∀x∈xs,x<4294967296):(words (val xs)).length≤xs.length:=words_len_le (val_lt xs hx)
theorem words_len_mono {a b:Nat} (h:a≤b):(words a).length≤(words b).length:=words_len_le (Nat.lt_of_le_of_lt h (words_pow_lt b))
theorem cmpN_len_lt {a b:Nat} (h:(words a).length<(words b).length):cmpN a b= -1:=by
 have:a<b:=by
  rcases Nat.lt_or_ge a b with h1|h1
  ·exact h1
  ·have:=words_len_mono h1;omega
 simp [cmpN,this]
theorem cmpN_len_gt {a b:Nat} (h:(words b).length<(words a).length):cmpN a b=1:=by
 have:b<a:=by
  rcases Nat.lt_or_ge b a with h1|h1
  ·exact h1
  ·have:=words_len_mono h1;omega
 unfold cmpN
 rw [if_neg om,if_neg om]
theorem drop_getD (xs:List Nat) {i:Nat} (h:i<xs.length):xs.drop i=xs.getD i 0::xs.drop (i+1):=by
 rw [List.drop_eq_getElem_cons h,List.getD_eq_getElem?_getD,List.getElem?_eq_getElem h];rfl
theorem val_drop (xs:List Nat) (i:Nat):val (xs.drop i)=xs.getD i 0+4294967296*val (xs.drop (i+1)):=by
 by_cases h:i<xs.length
 ·rw [List.drop_eq_getElem_cons h,val,List.getD_eq_getElem?_getD,List.getElem?_eq_getElem h];rfl
 ·rw [getD_ge om,List.drop_eq_nil_of_le om,List.drop_eq_nil_of_le om];rfl
theorem val_split (xs:List Nat) (i:Nat) (h:i≤xs.length):val xs=val (xs.take i)+4294967296^i*val (xs.drop i):=by
 have:=val_append (xs.take i) (xs.drop i)
 rwa [List.take_append_drop,List.length_take,Nat.min_eq_left h] at this
theorem val_take_lt (xs:List Nat) (hx:∀x∈xs,x<4294967296) (i:Nat) (h:i≤xs.length):val (xs.take i)<4294967296^i:=by
 have:=val_lt (xs.take i) (fun x hm=>hx x (List.mem_of_mem_take hm))
 rwa [List.length_take,Nat.min_eq_left h] at this
theorem word_lt {xs ys:List Nat} {i:Nat} (hx:∀x∈xs,x<4294967296) (hy:∀x∈ys,x<4294967296) (h1:i<xs.length) (h2:i<ys.length) (hd:xs.drop (i+1)=ys.drop (i+1)) (hlt:xs.getD i 0<ys.getD i 0):val xs<val ys:=by
 rw [val_split xs i om,val_split ys i om,val_drop xs i,val_drop ys i,hd]
 have h3:=val_take_lt xs hx i om
 have h5:4294967296^i*(xs.getD i 0+4294967296*val (ys.drop (i+1))+1)≤4294967296^i*(ys.getD i 0+4294967296*val (ys.drop (i+1))):=Nat.mul_le_mul_left _ om
 rw [Nat.mul_add,Nat.mul_one] at h5
 omega
theorem add_step {xs ys zs:List Nat} {i c:Nat} (hi:i<zs.length) (h:val (zs.take i)+4294967296^i*c=val (xs.take i)+val (ys.take i)):
  val ((zs.set i ((c+(xs.getD i 0+ys.getD i 0))%4294967296)).take (i+1))+4294967296^(i+1)*((c+(xs.getD i 0+ys.getD i 0))/4294967296)=val (xs.take (i+1))+val (ys.take (i+1)):=by
 rw [val_set_take hi,val_take_succ,val_take_succ,Nat.pow_succ]
 generalize xs.getD i 0=x at*
 generalize ys.getD i 0=y at*
 have e:(c+(x+y))%4294967296+4294967296*((c+(x+y))/4294967296)=c+(x+y):=Nat.mod_add_div _ _
 have e2:4294967296^i*((c+(x+y))%4294967296)+4294967296^i*4294967296*((c+(x+y))/4294967296)=4294967296^i*(c+(x+y)):=by
  rw [Nat.mul_assoc,←Nat.mul_add,e]
 rw [Nat.mul_add,Nat.mul_add] at e2
 omega
theorem add_end {xs ys zs:List Nat} {c:Nat} (hx:∀x∈xs,x<4294967296) (hy:∀x∈ys,x<4294967296) (hl:zs.length=max xs.length ys.length+1)
  (h:val (zs.take zs.length)+4294967296^zs.length*c=val (xs.take zs.length)+val (ys.take zs.length)):val zs=val xs+val ys:=by
 rw [List.take_length,List.take_of_length_le om,List.take_of_length_le om] at h
 have h1:=val_lt xs hx
 have h2:=val_lt ys hy
 have h3:(4294967296:Nat)^xs.length≤4294967296^(max xs.length ys.length):=Nat.pow_le_pow_right om om
 have h4:(4294967296:Nat)^ys.length≤4294967296^(max xs.length ys.length):=Nat.pow_le_pow_right om om
 have h5:(4294967296:Nat)^zs.length=4294967296^(max xs.length ys.length)*4294967296:=by rw [hl,Nat.pow_succ]
 rcases Nat.eq_zero_or_pos c with rfl|hc
 ·simpa using h
 ·have h6:4294967296^zs.length*1≤4294967296^zs.length*c:=Nat.mul_le_mul_left _ hc
  have h7:0<4294967296^(max xs.length ys.length):=Nat.pow_pos om
  omega
def subD (x y b:Nat):Nat:=(x+18446744073709551616-y-b)%18446744073709551616
theorem sub_step {xs ys zs:List Nat} {i b:Nat} (hi:i<zs.length) (hx:xs.getD i 0<4294967296) (hy:ys.getD i 0<4294967296) (hb:b≤1) (h:val (zs.take i)+val (ys.take i)=val (xs.take i)+4294967296^i*b):
  val ((zs.set i (subD (xs.getD i 0) (ys.getD i 0) b%4294967296)).take (i+1))+val (ys.take (i+1))=val (xs.take (i+1))+4294967296^(i+1)*(subD (xs.getD i 0) (ys.getD i 0) b/9223372036854775808)∧subD (xs.getD i 0) (ys.getD i 0) b/9223372036854775808≤1:=by
 rw [val_set_take hi,val_take_succ,val_take_succ,Nat.pow_succ]
 generalize xs.getD i 0=x at*
 generalize ys.getD i 0=y at*
 have hd:subD x y b%4294967296+(y+b)=x+4294967296*(subD x y b/9223372036854775808)∧subD x y b/9223372036854775808≤1:=by
  unfold subD
  rcases Nat.lt_or_ge x (y+b) with h1|h1<;>omega
 generalize subD x y b%4294967296=v at*
 generalize subD x y b/9223372036854775808=b' at*
 have e2:4294967296^i*(v+(y+b))=4294967296^i*(x+4294967296*b'):=by rw [hd.1]
 rw [Nat.mul_add,Nat.mul_add,Nat.mul_add,←Nat.mul_assoc] at e2
 exact⟨by omega,hd.2⟩
theorem sub_end {xs ys zs:List Nat} {b:Nat} (hx:∀x∈xs,x<4294967296) (hz:∀x∈zs,x<4294967296) (hl:zs.length=xs.length) (hle:val ys≤val xs)
  (h:val (zs.take xs.length)+val (ys.take xs.length)=val (xs.take xs.length)+4294967296^xs.length*b):val zs=val xs-val ys:=by
 rw [←hl,List.take_length,hl,List.take_length] at h
 have h1:=val_lt xs hx
 have h2:=val_lt zs hz
 rw [hl] at h2
 have h3:val (ys.take xs.length)=val ys:=by
  by_cases hc:xs.length≤ys.length
  ·have:=val_split ys xs.length hc
   rcases Nat.eq_zero_or_pos (val (ys.drop xs.length)) with h0|h0
   ·rw [h0] at this;omega
   ·have:=Nat.mul_le_mul_left (4294967296^xs.length) h0
    omega
  ·rw [List.take_of_length_le om]
 rcases Nat.eq_zero_or_pos b with rfl|hb
 ·omega
 ·have:=Nat.mul_le_mul_left (4294967296^xs.length) hb
  omega
theorem val_set {zs:List Nat} {j v:Nat} (h:j<zs.length):val (zs.set j v)+4294967296^j*zs.getD j 0=val zs+4294967296^j*v:=by
 have h1:=val_split (zs.set j v) j (by simp;omega)
 have h2:=val_split zs j om
 rw [take_set] at h1
 have h3:=val_drop (zs.set j v) j
 have h4:=val_drop zs j
 have h5:(zs.set j v).drop (j+1)=zs.drop (j+1):=by
  apply List.ext_getElem?
  intro q
  rw [List.getElem?_drop,List.getElem?_drop,List.getElem?_set_ne om]
 rw [getD_set h,h5] at h3
 rw [h3] at h1
 rw [h4] at h2
 rw [h1,h2,Nat.mul_add,Nat.mul_add]
 omega
theorem getD_zero_of_lt {zs:List Nat} {m j:Nat} (h:val zs<4294967296^m) (hj:m≤j):zs.getD j 0=0:=by
 by_cases hl:j<zs.length
 ·have h1:=val_split zs j om
  rw [val_drop zs j] at h1
  rcases Nat.eq_zero_or_pos (zs.getD j 0) with h0|h0
  ·exact h0
  ·have h2:(4294967296:Nat)^m≤4294967296^j:=Nat.pow_le_pow_right om hj
   have h3:=Nat.mul_le_mul_left (4294967296^j) (show 1≤zs.getD j 0+4294967296*val (zs.drop (j+1)) from by omega)
   omega
 ·exact getD_ge om
theorem getD_set_ne {zs:List Nat} {i j v:Nat} (h:i≠j):(zs.set i v).getD j 0=zs.getD j 0:=by
 rw [List.getD_eq_getElem?_getD,List.getD_eq_getElem?_getD,List.getElem?_set_ne h]
theorem mul_step {zs ys:List Nat} {i k c x V:Nat} (hk:i+k<zs.length) (h:val zs+4294967296^(i+k)*c=V+4294967296^i*(x*val (ys.take k))):
  val (zs.set (i+k) ((c+(x*ys.getD k 0+zs.getD (i+k) 0))%4294967296))+4294967296^(i+(k+1))*((c+(x*ys.getD k 0+zs.getD (i+k) 0))/4294967296)=V+4294967296^i*(x*val (ys.take (k+1))):=by
 have h1:=val_set (v:=(c+(x*ys.getD k 0+zs.getD (i+k) 0))%4294967296) hk
 generalize zs.getD (i+k) 0=z at*
 have e:(c+(x*ys.getD k 0+z))%4294967296+4294967296*((c+(x*ys.getD k 0+z))/4294967296)=c+(x*ys.getD k 0+z):=Nat.mod_add_div _ _
 have e2:4294967296^(i+k)*((c+(x*ys.getD k 0+z))%4294967296)+4294967296^(i+(k+1))*((c+(x*ys.getD k 0+z))/4294967296)=4294967296^(i+k)*c+4294967296^(i+k)*(x*ys.getD k 0)+4294967296^(i+k)*z:=by
  rw [show i+(k+1)=(i+k)+1 from by omega,Nat.pow_succ,Nat.mul_assoc,←Nat.mul_add,e,Nat.mul_add,Nat.mul_add,Nat.add_assoc]
 have e3:4294967296^i*(x*val (ys.take (k+1)))=4294967296^i*(x*val (ys.take k))+4294967296^(i+k)*(x*ys.getD k 0):=by
  rw [val_take_succ,Nat.mul_add,Nat.mul_add,Nat.pow_add,Nat.mul_left_comm x,Nat.mul_assoc]
 omega
theorem mul_bound {x y:Nat} (hx:x<4294967296) (hy:y<4294967296):x*y≤18446744065119617025:=by
 have:=Nat.mul_le_mul (show x≤4294967295 from by omega) (show y≤4294967295 from by omega)
 omega
theorem drop_set {zs:List Nat} {i v:Nat} (h:i<zs.length):(zs.set i v).drop i=v::zs.drop (i+1):=by
 rw [drop_getD _ (by simpa using h),getD_set h]
 congr 1
 apply List.ext_getElem?
 intro q
 rw [List.getElem?_drop,List.getElem?_drop,List.getElem?_set_ne om]
theorem small_step {xs zs:List Nat} {m b r:Nat} (hb:0<b) (hm:m<zs.length) (h:val (xs.drop (m+1))=b*val (zs.drop (m+1))+r):
  val (xs.drop m)=b*val ((zs.set m ((r*4294967296+xs.getD m 0)/b)).drop m)+(r*4294967296+xs.getD m 0)%b:=by
 rw [val_drop,drop_set hm,val,h]
 generalize xs.getD m 0=x
 have e:=Nat.div_add_mod (r*4294967296+x) b
 generalize (r*4294967296+x)/b=q at*
 generalize (r*4294967296+x)%b=t at*
 have e2:b*(q+4294967296*val (zs.drop (m+1)))=b*q+4294967296*(b*val (zs.drop (m+1))):=by
  rw [Nat.mul_add,Nat.mul_left_comm]
 rw [e2]
 omega
end Go.PN
namespace Go.Proofs.YteehccacfedolaaGreat
open Go.AI Go.PN
attribute [local irreducible] aw Fa Fh DrK
theorem word_fa (xs:List Nat) (i:Nat) (hx:∀x∈xs,x<4294967296):Fa Tryz.prog 168 [.c (ws false xs),.c (.int .i64 i)] (.c (.int .u64 (xs.getD i 0:Nat))):=by
 refine fa_of_body Tryz.func168 rfl rfl (by simp [Tryz.ntmps168]) fun C hC=> ?_
 have hb:=getD_lt hx i
 simp only [initS,Nat.reduceAdd]
 refine xG ?_
 refine aw_cond eE (fun hb=> ?_) (fun hb=> ?_)
 ·simp only [decide_eq_true_eq] at hb
  refine xGT hC ?_
  exact .one (.c (ler_int rfl))
 ·simp only [decide_eq_false_iff_not] at hb
  refine xGT hC ?_
  refine .one (.c (ler_int ?_))
  rw [getD_ge om];rfl
theorem trim_fa (xs:List Nat) (hx:∀x∈xs,x<4294967296) (hl:xs.length≤1099511627776):Fa Tryz.prog 155 [.c (ws false xs)] (.c (ws true (words (val xs)))):=by
 refine fa_of_body Tryz.func155 rfl rfl (by simp [Tryz.ntmps155]) fun C hC=> ?_
 simp only [initS,Nat.reduceAdd]
 refine xG ?_
 refine aw_lp (fun m:Nat=>[(0,.c (ws false xs)),(3,.c (.int .i64 m))]) (fun _=>[]) (fun m=>m≤xs.length∧(∀j,m≤j→xs.getD j 0=0)) id xs.length eB zZ ⟨Nat.le_refl _,fun j hj=>getD_ge hj⟩ ?_
 rintro m ⟨hm,hz⟩
 have hend:(m=0∨xs.getD (m-1) 0≠0)→words (val xs)=xs.take m:=trim_eq xs m hx hm hz
 by_cases h0:0<m
 ·have hd:decide ((m:Int)>0)=true:=by simp;omega
  apply aw_seq
  apply aw_seq
  refine aw_rp true (by simp only [go_sem,Nat.reduceEqDiff,reduceIte,hd]<;>rfl) (by(try simp only [inRange])<;>and_intros<;>first|exact True.intro|omega|trivial) rfl ?_
  have e1:((m:Int)-1).toNat=m-1:=by omega
  refine aw_cond eE (fun hb=> ?_) (fun hb=> ?_)
  ·have hb':xs.getD (m-1) 0=0:=by simpa using hb
   refine xG ?_
   refine aw_stop ⟨m-1,by simp only [id];omega,eB,zZ,by omega,fun j hj=> ?_⟩
   by_cases hjm:j=m-1
   ·rw [hjm];exact hb'
   ·exact hz j om
  ·have hb':xs.getD (m-1) 0≠0:=by simpa using hb
   have hm0:((m:Int)==0)=false:=by simp;omega
   refine xG ?_
   refine aw_cond eE (fun hb=> ?_) (fun hb=> ?_)
   ·rw [hm0] at hb;cases hb
   ·refine xG ?_
    refine aw_buildSlice (xs:=[]) (cells:=[]) rfl rfl rfl ty_e_ws (by rw [envP,ty_z_u32];rfl) rfl om om (by simp) rfl fun g hg=> ?_
    simp only [go_sem,Nat.reduceEqDiff,reduceIte]
    refine xG ?_
    refine aw_append rfl rfl rfl ty_e_ws ty_z_u32 rfl om eE eE om eE .row (fun _ _=>rfl) h0 (by unfold maxLen;omega) om eE fun g' hg'=> ?_
    simp only [go_sem,Nat.reduceEqDiff,reduceIte]
    refine xGT hC ?_
    refine .one (.c ?_)
    rw [hend (.inr hb')]
    refine ler_oslws eE om (by simp;omega) (fun j hj=> ?_)
    simp only [appF,Nat.not_lt_zero,if_false,Nat.sub_zero,Nat.zero_add]
    rw [getD_take hj]
 ·have hm0:m=0:=by omega
  subst hm0
  have hd:decide (((0:Nat):Int)>0)=false:=by simp
  apply aw_seq
  apply aw_seq
  refine aw_rp true (by simp only [go_sem,Nat.reduceEqDiff,reduceIte,hd]<;>rfl) (by(try simp only [inRange])<;>and_intros<;>first|exact True.intro|omega|trivial) rfl ?_
  refine aw_cond eE (fun hb=> ?_) (fun _=> ?_)
  ·cases hb
  refine xG ?_
  refine aw_cond eE (fun _=> ?_) (fun hb=> ?_)
  ·refine xGT hC ?_
   refine .one (.c ?_)
   rw [hend (.inl rfl)]
   exact .nils
  ·cases hb
end Go.Proofs.YteehccacfedolaaGreat
namespace Go.Proofs.YteehccacfedolaaGreat
open Go.AI Go.PN
attribute [local irreducible] aw Fa Fh DrK
theorem add_fa (xs ys:List Nat) (hx:∀x∈xs,x<4294967296) (hy:∀x∈ys,x<4294967296) (hlx:xs.length≤68719476736) (hly:ys.length≤68719476736):
  Fa Tryz.prog 187 [.c (ws false xs),.c (ws false ys)] (.c (ws true (words (val xs+val ys)))):=by
 refine fa_of_body Tryz.func187 rfl rfl (by simp [Tryz.ntmps187]) fun C hC=> ?_
 simp only [initS,Nat.reduceAdd]
 refine xG ?_
 have hmx:(if(ys.length:Int)>xs.length then(ys.length:Int) else xs.length)+1=((max xs.length ys.length+1:Nat):Int):=by split<;>omega
 rw [hmx]
 generalize hn:max xs.length ys.length+1=n
 refine aw_make (n:=n) (c:=n) rfl rfl rfl ty_e_ws ty_z_u32 rfl om eE eE rfl rfl om om om fun g hg=> ?_
 rw [make_wf n]
 refine xSG ?_
 refine aw_lp (fun x:Nat×Nat×List Nat=>[(0,.c (ws false xs)),(1,.c (ws false ys)),(5,.c (.osl g 1 0 n)),(6,.c (.int .u64 x.2.1)),(16,.c (.int .i64 n)),(17,.c (.int .i64 x.1))]) (fun x=>[(g,.cells 166 n (wf x.2.2))])
  (fun x=>x.1≤n∧x.2.1≤1∧x.2.2.length=n∧(∀y∈x.2.2,y<4294967296)∧val (x.2.2.take x.1)+4294967296^x.1*x.2.1=val (xs.take x.1)+val (ys.take x.1)) (fun x=>n-x.1) (0,0,List.replicate n 0) eB zZ
  ⟨Nat.zero_le _,Nat.zero_le _,by simp,replicate_lt n,by simp [val]⟩ ?_
 rintro ⟨i,c,zs⟩ ⟨hi,hc,hzl,hz,hv⟩
 dsimp only at hi hc hzl hz hv⊢
 refine xG ?_
 refine aw_cond eE (fun hb=> ?_) (fun hb=> ?_)
 ·have hin:i<n:=by simpa using hb
  have hxi:=getD_lt hx i
  have hyi:=getD_lt hy i
  refine xG ?_
  refine aw_callq (word_fa xs i hx) rfl rfl rfl eL ?_
  refine xSG ?_
  refine aw_callq (word_fa ys i hy) rfl rfl rfl eL ?_
  refine xSG ?_
  have ew:wrapZ .u32 ((c:Int)+(((xs.getD i 0:Nat):Int)+((ys.getD i 0:Nat):Int)))=(((c+(xs.getD i 0+ys.getD i 0))%4294967296:Nat):Int):=by rw [wrapZ_eq,IntKind.wrap_u32];omega
  rw [ew]
  refine xW ?_
  refine xS ?_
  rw [updF_wf om]
  refine xG ?_
  refine aw_stop ⟨(i+1,(c+(xs.getD i 0+ys.getD i 0))/4294967296,zs.set i ((c+(xs.getD i 0+ys.getD i 0))%4294967296)),by simp only;omega,eB,zZ,by simp only;omega,by simp only;omega,by simpa using hzl,set_lt hz om,add_step om hv⟩
 ·have hin:i=n:=by have:¬((i:Int)<n):=by simpa using hb
                   omega
  subst hin
  refine xG ?_
  refine aw_callq (trim_fa zs hz om) rfl rfl rfl (by refine xS ?_;exact .c (lec_oslws eE om om (fun j _=>by rw [Nat.zero_add];rfl))) ?_
  refine xSGT hC ?_
  rw [add_end hx hy om (by rw [hzl];exact hv)]
  exact .one (.c ler_ws)
end Go.Proofs.YteehccacfedolaaGreat
