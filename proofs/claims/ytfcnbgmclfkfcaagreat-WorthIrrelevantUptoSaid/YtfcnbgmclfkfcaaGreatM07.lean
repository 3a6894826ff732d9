/- Parts of one proof, laid by a program. -/
import Derived.Test.YtfcnbgmclfkfcaaGreatM00
import Derived.Test.YtfcnbgmclfkfcaaGreatM06
import Derived.Test.YtfcnbgmclfkfcaaGreatProg
import Derived.KernelRfl
set_option linter.unusedSimpArgs false
set_option linter.unusedVariables false
namespace Go.AI
def Has0 (FP h:Heap):Prop:=∀p∈FP,p∈h
structure After (l:List Oper) (res:Nat→AV) (σ0:Sl) (seen:Nat→Prop) (σ:Sl):Prop where
 yes:∀j o d,seen j→l[j]?=some o→o.dst=some d→σ.get d=res j
 no:∀t,(∀j o,seen j→l[j]?=some o→o.dst≠some t)→σ.get t=σ0.get t
def depsOk (o:Oper) (seen:List Nat):Bool:=o.after.all fun e=> !Region.binds .any e||seen.contains e.on
theorem deps_mem {o:Oper} {seen:List Nat} (h:depsOk o seen=true) {e:Edge} (he:e∈o.after) (hb:Region.binds .any e=true):e.on∈seen:=by
 unfold depsOk at h
 rw [Array.all_eq_true'] at h
 have:=h e he
 rw [hb] at this
 simpa using this
def cwGo (l:List Oper):List Nat→List Nat→List Nat→List (Nat×Nat)→Bool
 |_,_,_,[]=>true
 |seen,pn,fr,(i,b)::cs=>(match l[i]? with
  |none=>false
  |some o=> !(seen.contains i)&&depsOk o seen&&(pn.all fun p=>edgeT l 12 o p)&&(b !=2||seen.all fun p=>fr.contains p||edgeT l 12 o p))&&cwGo l (i::seen) (if b=0∨b=3 then pn else i::pn) (if b=3 then i::fr else fr) cs
section
variable {E : Env} {K : List It} {l : List Oper} {FP : Heap} {σ σ' : Sl} {h : Heap} {o : Oper}
def Flt (E:Env) (FP:Heap) (l:List Oper) (σ:Sl) (o:Oper) (r:AV):Prop:=dstOk E.N o.dst=true∧∀h,Has0 FP h→Calm E h l σ o r
def Pin (E:Env) (l:List Oper) (σ:Sl) (h:Heap) (o:Oper) (R:AV→Heap→Prop):Prop:=
 ∀(σ':Sl) (K:List It),(∀t∈looks l o,σ'.get t=σ.get t)→aw E (.ops l [o]::.stop (fun σ2 h2=>∃r,R r h2∧σ2=σ'.setO o.dst r)::K) σ' h
inductive CW (E:Env) (l:List Oper) (K:List It):Heap→List (Nat×Nat)→Sl→Heap→Prop
 |nil {FP:Heap} {σ:Sl} {h:Heap}:aw E K σ h→CW E l K FP [] σ h
 |flt {FP:Heap} {i:Nat} {cs:List (Nat×Nat)} {o:Oper} {r:AV} {σ:Sl} {h:Heap}:l[i]?=some o→Flt E FP l σ o r→CW E l K FP cs (σ.setO o.dst r) h→CW E l K FP ((i,0)::cs) σ h
 |fre {FP:Heap} {i:Nat} {cs:List (Nat×Nat)} {o:Oper} {r:AV} {σ:Sl} {h:Heap}:l[i]?=some o→Flt E [] l σ o r→CW E l K FP cs (σ.setO o.dst r) h→CW E l K FP ((i,3)::cs) σ h
 |pin {FP FP':Heap} {i m:Nat} {cs:List (Nat×Nat)} {o:Oper} {R:AV→Heap→Prop} {σ:Sl} {h:Heap}:l[i]?=some o→(m=2∨m=1∧FP'=FP)→Pin E l σ h o R→(∀r h',R r h'→Has0 FP' h')→(∀r h',R r h'→CW E l K FP' cs (σ.setO o.dst r) h')→CW E l K FP ((i,m)::cs) σ h
theorem cwGo_new {cs:List (Nat×Nat)}:∀{seen pn fr:List Nat},cwGo l seen pn fr cs=true→∀i∈cs.map (·.1),i∉seen:=by
 induction cs with
 |nil=>intro seen pn fr _ i hi;cases hi
 |cons c cs ih=>
  intro seen pn fr hg i hi
  obtain⟨c,b⟩:=c
  simp only [cwGo,Bool.and_eq_true] at hg
  obtain⟨h1,h2⟩:=hg
  simp only [List.map_cons,List.mem_cons] at hi
  rcases hi with rfl|hi
  ·split at h1
   ·cases h1
   ·simp only [Bool.and_eq_true,Bool.not_eq_true'] at h1
    have:=h1.1.1.1
    simpa using this
  ·have:=ih h2 i hi
   exact fun hm=>this (List.mem_cons_of_mem _ hm)
theorem cwGo_pin {p:Nat} {cs:List (Nat×Nat)}:∀{seen pn fr:List Nat},cwGo l seen pn fr cs=true→p∈pn→∀i∈cs.map (·.1),∃o,l[i]?=some o∧edgeT l 12 o p=true:=by
 induction cs with
 |nil=>intro seen pn fr _ _ i hi;cases hi
 |cons c cs ih=>
  intro seen pn fr hg hp i hi
  obtain⟨c,b⟩:=c
  simp only [cwGo,Bool.and_eq_true] at hg
  obtain⟨h1,h2⟩:=hg
  simp only [List.map_cons,List.mem_cons] at hi
  rcases hi with rfl|hi
  ·split at h1
   ·cases h1
   ·rename_i o ho
    simp only [Bool.and_eq_true] at h1
    exact⟨o,ho,List.all_eq_true.1 h1.1.2 p hp⟩
  ·refine ih h2 ?_ i hi
   split
   ·exact hp
   ·exact List.mem_cons_of_mem _ hp
structure DInv (E:Env) (l:List Oper) (K:List It) (FP:Heap) (σ0:Sl) (listed:Array Bool) (σa:Sl) (h:Heap) (seen pn fr:List Nat) (cs:List (Nat×Nat)) (σc:Sl) (res:Nat→AV):Prop where
 size:listed.size=l.length
 hcl:∀i o,l[i]?=some o→listed.getD i false=true→∀e∈o.after,Region.binds .any e=true→listed.getD e.on false=true
 go:cwGo l seen pn fr cs=true
 frs:∀i∈fr,i∈seen
 all:∀i,i<l.length→i∈seen∨i∈cs.map (·.1)
 cw:CW E l K FP cs σc h
 fp:Has0 FP h
 closed:∀j∈seen,∀o,l[j]?=some o→∀e∈o.after,Region.binds .any e=true→e.on∈seen
 aft:After l res σ0 (· ∈seen) σc
 pend:∀i∈seen,listed.getD i false=false→∃(seen':List Nat) (σi:Sl) (o:Oper),l[i]?=some o∧(∀j∈seen',j∈seen)∧i∉seen'∧(∀j∈seen',∀o,l[j]?=some o→∀e∈o.after,Region.binds .any e=true→e.on∈seen')∧
  (∀e∈o.after,Region.binds .any e=true→e.on∈seen')∧After l res σ0 (· ∈seen') σi∧Flt E FP l σi o (res i)∧(i∈fr→Flt E [] l σi o (res i))
 pins:∀p∈pn,listed.getD p false=true
 act:After l res σ0 (fun j=>listed.getD j false=true) σa
 sub:∀i,i<l.length→listed.getD i false=true→i∈seen
theorem looks_same (hok:lexOk l=true) {res:Nat→AV} {σ0 σa σi:Sl} {listed:Array Bool} {seen:List Nat} {i:Nat} (ho:l[i]?=some o) (hcl:∀i o,l[i]?=some o→listed.getD i false=true→∀e∈o.after,Region.binds .any e=true→listed.getD e.on false=true)
 (hni:i∉seen) (hli:listed.getD i false=false) (hcs:∀j∈seen,∀o,l[j]?=some o→∀e∈o.after,Region.binds .any e=true→e.on∈seen) (hds:∀e∈o.after,Region.binds .any e=true→e.on∈seen)
 (hrd:∀e∈o.after,Region.binds .any e=true→listed.getD e.on false=true) (a:After l res σ0 (fun j=>listed.getD j false=true) σa) (b:After l res σ0 (· ∈seen) σi):∀t∈looks l o,σa.get t=σi.get t:=by
 intro t ht
 by_cases hex:∃j p,j∈seen∧l[j]?=some p∧p.dst=some t
 ·obtain⟨j,p,hj,hp,hd⟩:=hex
  rw [b.yes j p t hj hp hd]
  have hne:j≠i:=fun e=>hni (e▸hj)
  obtain⟨e1,e2⟩:=(lex_pair hok ho hp hd).1 ht
  rcases Nat.lt_or_gt_of_ne hne with hlt|hgt
  ·obtain⟨e,he,hon,hb⟩:=edge_mem (e1 hlt)
   exact a.yes j p t (by rw [←hon];exact hrd e he hb) hp hd
  ·obtain⟨e,he,hon,hb⟩:=edge_mem (e2 hgt)
   exact absurd (by rw [←hon];exact hcs j hj p hp e he hb) hni
 ·rw [b.no t (fun j p hj hp hd=>hex ⟨j,p,hj,hp,hd⟩)]
  refine a.no t fun j p hj hp hd=> ?_
  have hj':listed.getD j false=true:=hj
  have hne:j≠i:=fun e=>by subst e;rw [hli] at hj';cases hj'
  obtain⟨e1,e2⟩:=(lex_pair hok ho hp hd).1 ht
  rcases Nat.lt_or_gt_of_ne hne with hlt|hgt
  ·obtain⟨e,he,hon,hb⟩:=edge_mem (e1 hlt)
   exact hex ⟨j,p,by rw [←hon];exact hds e he hb,hp,hd⟩
  ·obtain⟨e,he,hon,hb⟩:=edge_mem (e2 hgt)
   have:=hcl j p hp hj' e he hb
   rw [hon,hli] at this
   cases this
theorem After.set (hok:lexOk l=true) {res:Nat→AV} {σ0:Sl} {seen:Nat→Prop} {i:Nat} {r:AV} (a:After l res σ0 seen σ) (ho:l[i]?=some o) (hn:¬seen i) (hr:res i=r):After l res σ0 (fun j=>j=i∨seen j) (σ.setO o.dst r):=by
 refine⟨fun j p d hj hp hd=> ?_,fun t ht=> ?_⟩
 ·rw [setO_get]
  rcases hj with rfl|hj
  ·rw [ho] at hp
   injection hp with hp
   subst hp
   rw [if_pos hd,hr]
  ·have hne:j≠i:=fun e=>hn (e▸hj)
   rw [if_neg ((lex_pair hok ho hp hd).2 hne)]
   exact a.yes j p d hj hp hd
 ·rw [setO_get,if_neg (ht i o (.inl rfl) ho)]
  exact a.no t fun j p hj hp=>ht j p (.inr hj) hp
theorem After.congr {res res':Nat→AV} {σ0:Sl} {seen seen':Nat→Prop} (a:After l res σ0 seen σ) (h1:∀j,j<l.length→(seen' j↔seen j)) (h2:∀j,seen j→res' j=res j):After l res' σ0 seen' σ:=by
 have hlt:∀{j:Nat} {o:Oper},l[j]?=some o→j<l.length:=fun h=>(List.getElem?_eq_some_iff.1 h).1
 refine⟨fun j p d hj hp hd=> ?_,fun t ht=>a.no t fun j p hj hp=>ht j p ((h1 j (hlt hp)).2 hj) hp⟩
 have hj':=(h1 j (hlt hp)).1 hj
 rw [h2 j hj']
 exact a.yes j p d hj' hp hd
theorem Flt.wide {r:AV} (hf:Flt E [] l σ o r):Flt E FP l σ o r:=⟨hf.1,fun h _=>hf.2 h (fun _ hm=>absurd hm List.not_mem_nil)⟩
theorem DInv.adv (hok:lexOk l=true) {σ0 σa σc:Sl} {listed:Array Bool} {seen pn:List Nat} {i:Nat} {cs:List (Nat×Nat)} {res:Nat→AV} {fr:List Nat} {b:Nat} (hb:b=0∨b=3) (v:DInv E l K FP σ0 listed σa h seen pn fr ((i,b)::cs) σc res):
 ∃fr' σc' res',DInv E l K FP σ0 listed σa h (i::seen) pn fr' cs σc' res':=by
 obtain⟨size,hcl,go,frs,all,cw,fp,closed,aft,pend,pins,act,sub⟩:=v
 have hni:i∉seen:=cwGo_new go i (by simp)
 have hfr:i∉fr:=fun hm=>hni (frs i hm)
 obtain⟨o,r,ho,hf,hf3,k⟩:∃o r,l[i]?=some o∧Flt E FP l σc o r∧(b=3→Flt E [] l σc o r)∧CW E l K FP cs (σc.setO o.dst r) h:=by
  cases cw with
  |pin _ hm=>exact absurd hm om
  |flt ho hf k=>exact⟨_,_,ho,hf,fun e=>by omega,k⟩
  |fre ho hf k=>exact⟨_,_,ho,hf.wide,fun _=>hf,k⟩
 have hlt:i<l.length:=(List.getElem?_eq_some_iff.1 ho).1
 have hli:listed.getD i false=false:=by
  cases hb:listed.getD i false with
  |false=>rfl
  |true=>exact absurd (sub i hlt hb) hni
 simp only [cwGo,ho,Bool.and_eq_true] at go
 obtain⟨⟨⟨⟨_,g2⟩,_⟩,_⟩,g4⟩:=go
 rw [if_pos hb] at g4
 let res':Nat→AV:=fun j=>if j=i then r else res j
 have hres:∀j,j≠i→res' j=res j:=fun j hj=>if_neg hj
 have hresi:res' i=r:=if_pos rfl
 have hdeps:∀e∈o.after,Region.binds .any e=true→e.on∈seen:=fun e he hb=>deps_mem g2 he hb
 have hclosed':∀j∈i::seen,∀o,l[j]?=some o→∀e∈o.after,Region.binds .any e=true→e.on∈i::seen:=fun j hj p hp e he hb=>by
  rcases List.mem_cons.1 hj with rfl|hj
  ·rw [ho] at hp;injection hp with hp;subst hp
   exact List.mem_cons_of_mem _ (hdeps e he hb)
  ·exact List.mem_cons_of_mem _ (closed j hj p hp e he hb)
 have aft':After l res' σ0 (· ∈seen) σc:=aft.congr (fun _ _=>Iff.rfl) fun j hj=>hres j fun e=>hni (e▸hj)
 have hfr':∀j∈(if b=3 then i::fr else fr),(j=i∧b=3)∨j∈fr:=fun j hj=>by
  split at hj
  ·rename_i e
   rcases List.mem_cons.1 hj with h|h
   ·exact .inl ⟨h,e⟩
   ·exact .inr h
  ·exact .inr hj
 refine⟨if b=3 then i::fr else fr,σc.setO o.dst r,res',size,hcl,g4,fun j hj=> ?_,fun j hj=> ?_,k,fp,hclosed',?_,fun j hj hl=> ?_,pins,?_,fun j hj hl=>List.mem_cons_of_mem _ (sub j hj hl)⟩
 ·rcases hfr' j hj with ⟨h,_⟩|h
  ·rw [h];exact List.mem_cons_self ..
  ·exact List.mem_cons_of_mem _ (frs j h)
 ·rcases all j hj with hm|hm
  ·exact .inl (List.mem_cons_of_mem _ hm)
  ·simp only [List.map_cons,List.mem_cons] at hm
   rcases hm with rfl|hm
   ·exact .inl (List.mem_cons_self ..)
   ·exact .inr hm
 ·exact(aft'.set hok ho hni hresi).congr (fun j _=>List.mem_cons) fun _ _=>rfl
 ·rcases List.mem_cons.1 hj with rfl|hj
  ·exact⟨seen,σc,o,ho,fun q hq=>List.mem_cons_of_mem _ hq,hni,closed,hdeps,aft',by rw [hresi];exact hf,fun hm=>by
    rw [hresi]
    rcases hfr' _ hm with ⟨_,e⟩|e
    ·exact hf3 e
    ·exact absurd e hfr⟩
  ·obtain⟨seen',σi,p,hp,h1,h2,h3,h4,h5,h6,h7⟩:=pend j hj hl
   exact⟨seen',σi,p,hp,fun q hq=>List.mem_cons_of_mem _ (h1 q hq),h2,h3,h4,h5.congr (fun _ _=>Iff.rfl) fun q hq=>hres q fun e=>hni (e▸h1 q hq),by rw [hres j fun e=>hni (e▸hj)];exact h6,fun hm=>by
    rw [hres j fun e=>hni (e▸hj)]
    rcases hfr' _ hm with ⟨e,_⟩|e
    ·exact absurd (e▸hj) hni
    ·exact h7 e⟩
 ·exact act.congr (fun _ _=>Iff.rfl) fun j hj=>hres j fun e=>by subst e;rw [hli] at hj;cases hj
theorem list_step {listed:Array Bool} {i:Nat} (hs:listed.size=l.length) (hi:i<l.length) {o:Oper} (ho:l[i]?=some o) (hcl:∀i o,l[i]?=some o→listed.getD i false=true→∀e∈o.after,Region.binds .any e=true→listed.getD e.on false=true)
 (hrd:∀e∈o.after,Region.binds .any e=true→listed.getD e.on false=true):∀j p,l[j]?=some p→(listed.setIfInBounds i true).getD j false=true→∀e∈p.after,Region.binds .any e=true→(listed.setIfInBounds i true).getD e.on false=true:=by
 intro j p hp hj e he hb
 rw [getD_set om] at hj⊢
 by_cases hei:e.on=i
 ·rw [if_pos hei]
 ·rw [if_neg hei]
  by_cases hji:j=i
  ·subst hji
   rw [ho] at hp;injection hp with hp;subst hp
   exact hrd e he hb
  ·rw [if_neg hji] at hj
   exact hcl j p hp hj e he hb
theorem draw_cw (hok:lexOk l=true) {σ0:Sl}:∀(u:Nat) (FP:Heap) (listed:Array Bool) (σa:Sl) (h:Heap) (a:Act) (w:World),unl (fun j=>listed.getD j false) l.length=u→(∃seen pn fr cs σc res,DInv E l K FP σ0 listed σa h seen pn fr cs σc res)→St E.N E.C σa h a w→wpAny E.P .any l.toArray (exW E K) u listed a w:=by
 intro u
 induction u with
 |zero=>
  rintro FP listed σa h a w hu ⟨seen,pn,fr,cs,σc,res,v⟩ st
  have hall:=unl_zero l.length hu
  refine⟨?_,?_⟩
  ·rw [List.eq_nil_iff_forall_not_mem]
   intro j hj
   obtain⟨h1,h2,_⟩:=(mem_ready v.size).1 hj
   rw [hall j h1] at h2
   cases h2
  ·obtain⟨size,hcl,go,frs,all,cw,fp,closed,aft,pend,pins,act,sub⟩:=v
   have hcs:cs=[]:=by
    cases cs with
    |nil=>rfl
    |cons c cs=>
     have hni:=cwGo_new go c.1 (by simp)
     have:c.1<l.length:=by
      obtain⟨c,b⟩:=c
      simp only [cwGo,Bool.and_eq_true] at go
      have g1:=go.1
      split at g1
      ·cases g1
      ·rename_i o ho
       exact(List.getElem?_eq_some_iff.1 ho).1
     exact absurd (sub _ this (hall _ this)) hni
   subst hcs
   cases cw with
   |nil k=>
   refine k a w (st.weak (fun t=>.inr ?_) (List.Sublist.refl _))
   by_cases hex:∃j p,j<l.length∧l[j]?=some p∧p.dst=some t
   ·obtain⟨j,p,hj,hp,hd⟩:=hex
    rw [aft.yes j p t (sub j hj (hall j hj)) hp hd,act.yes j p t (hall j hj) hp hd]
   ·have hno:∀j (p:Oper),l[j]?=some p→p.dst≠some t:=fun j p hp hd=>hex ⟨j,p,(List.getElem?_eq_some_iff.1 hp).1,hp,hd⟩
    rw [aft.no t fun j p _ hp=>hno j p hp,act.no t fun j p _ hp=>hno j p hp]
 |succ u ih=>
  rintro FP listed σa h a w hu ⟨seen,pn,fr,cs,σc,res,v⟩ st
  obtain⟨j0,hj0,hj1,hj2⟩:=unl_pos (L:=fun j=>listed.getD j false) l.length om
  have hready:j0∈Region.ready .any l.toArray listed:=(mem_ready v.size).2 ⟨hj0,hj1,fun o ho e he hb=>hj2 _ (lex_back hok ho he hb)⟩
  refine⟨fun e=>by rw [e] at hready;simp at hready,fun i hi=> ?_⟩
  obtain⟨h1,h2,h3⟩:=(mem_ready v.size).1 hi
  have ho:l[i]?=some l[i]:=List.getElem?_eq_getElem h1
  have hrd:=h3 _ ho
  have hun:unl (fun j=>(listed.setIfInBounds i true).getD j false) l.length=u:=by
   have hfun:(fun j=>(listed.setIfInBounds i true).getD j false)=fun j=>if j=i then true else listed.getD j false:=funext fun j=>getD_set (by rw [v.size];exact h1)
   rw [hfun]
   have:=unl_set (L:=fun j=>listed.getD j false) l.length h1 h2
   omega
  clear hready hj0 hj1 hj2 j0
  have key:∀(n:Nat) (seen pn fr:List Nat) (cs:List (Nat×Nat)) (σc:Sl) (res:Nat→AV),cs.length=n→DInv E l K FP σ0 listed σa h seen pn fr cs σc res→wpOp E.P l.toArray (exW E K) i (wpAny E.P .any l.toArray (exW E K) u (listed.setIfInBounds i true)) a w:=by
   intro n
   induction n with
   |zero=>
    intro seen pn fr cs σc res hn v
    have hcs:cs=[]:=List.eq_nil_of_length_eq_zero hn
    subst hcs
    have his:i∈seen:=(v.all i h1).resolve_right (by simp)
    obtain⟨seen',σi,o,ho',q1,q2,q3,q4,q5,q6,_⟩:=v.pend i his h2
    rw [ho] at ho'
    injection ho' with ho'
    subst ho'
    have hsame:=looks_same hok ho v.hcl q2 h2 q3 q4 hrd v.act q5
    have hc:=(q6.2 h v.fp).2 σa a w (exW E K) hsame st
    have hnext:∀a' w',St E.N E.C (σa.setO l[i].dst (res i)) h a' w'→wpAny E.P .any l.toArray (exW E K) u (listed.setIfInBounds i true) a' w':=fun a' w' st'=>by
     refine ih FP _ _ h a' w' hun ⟨seen,pn,fr,[],σc,res,by simpa using v.size,list_step v.size h1 ho v.hcl hrd,v.go,v.frs,v.all,v.cw,v.fp,v.closed,v.aft,fun j hj hl=> ?_,fun p hp=> ?_,?_,fun j hj hl=> ?_⟩ st'
     ·rw [getD_set (by have:=v.size;omega)] at hl
      split at hl
      ·cases hl
      ·exact v.pend j hj hl
     ·rw [getD_set (by have:=v.size;omega)]
      split
      ·rfl
      ·exact v.pins p hp
     ·refine(v.act.set hok ho (by rw [h2];simp) rfl).congr (fun j _=> ?_) fun _ _=>rfl
      rw [getD_set (by have:=v.size;omega)]
      by_cases hji:j=i<;>simp [hji]
     ·rw [getD_set (by have:=v.size;omega)] at hl
      split at hl
      ·rename_i e;rw [e];exact his
      ·exact v.sub j hj hl
    unfold wpOp
    rw [show l.toArray[i]?=some l[i] from by simp [h1]]
    simp only
    split
    ·rename_i hw
     rw [if_pos hw] at hc
     exact .inl (Oper.wp_mono hnext hc)
    ·rename_i hw
     rw [if_neg hw] at hc
     have st2:=st.put q6.1 (r:=.tup []) (v:=undef) ⟨[],rfl,trivial⟩
     rw [←hc] at st2
     exact hnext _ _ st2
   |succ n ihn=>
    intro seen pn fr cs σc res hn v
    by_cases his:i∈seen
    ·obtain⟨seen',σi,o,ho',q1,q2,q3,q4,q5,q6,_⟩:=v.pend i his h2
     rw [ho] at ho'
     injection ho' with ho'
     subst ho'
     have hsame:=looks_same hok ho v.hcl q2 h2 q3 q4 hrd v.act q5
     have hc:=(q6.2 h v.fp).2 σa a w (exW E K) hsame st
     have hnext:∀a' w',St E.N E.C (σa.setO l[i].dst (res i)) h a' w'→wpAny E.P .any l.toArray (exW E K) u (listed.setIfInBounds i true) a' w':=fun a' w' st'=>by
      refine ih FP _ _ h a' w' hun ⟨seen,pn,fr,cs,σc,res,by simpa using v.size,list_step v.size h1 ho v.hcl hrd,v.go,v.frs,v.all,v.cw,v.fp,v.closed,v.aft,fun j hj hl=> ?_,fun p hp=> ?_,?_,fun j hj hl=> ?_⟩ st'
      ·rw [getD_set (by have:=v.size;omega)] at hl
       split at hl
       ·cases hl
       ·exact v.pend j hj hl
      ·rw [getD_set (by have:=v.size;omega)]
       split
       ·rfl
       ·exact v.pins p hp
      ·refine(v.act.set hok ho (by rw [h2];simp) rfl).congr (fun j _=> ?_) fun _ _=>rfl
       rw [getD_set (by have:=v.size;omega)]
       by_cases hji:j=i<;>simp [hji]
      ·rw [getD_set (by have:=v.size;omega)] at hl
       split at hl
       ·rename_i e;rw [e];exact his
       ·exact v.sub j hj hl
     unfold wpOp
     rw [show l.toArray[i]?=some l[i] from by simp [h1]]
     simp only
     split
     ·rename_i hw
      rw [if_pos hw] at hc
      exact .inl (Oper.wp_mono hnext hc)
     ·rename_i hw
      rw [if_neg hw] at hc
      have st2:=st.put q6.1 (r:=.tup []) (v:=undef) ⟨[],rfl,trivial⟩
      rw [←hc] at st2
      exact hnext _ _ st2
    ·match cs,hn,v with
     |(c,b)::cs,hn,v=>
      by_cases hb:b=0∨b=3
      ·obtain⟨fr',σc',res',v'⟩:=v.adv hok hb
       exact ihn _ _ _ cs _ _ (by simpa using hn) v'
      obtain⟨size,hcl,go,frs,all,cw,fp,closed,aft,pend,pins,act,sub⟩:=v
      cases cw with
      |flt=>exact absurd (.inl rfl) hb
      |fre=>exact absurd (.inr rfl) hb
      | @pin _ FP' _ _ _ o R _ _ hoc hmk hpin kf k=>
      have hcl':c<l.length:=(List.getElem?_eq_some_iff.1 hoc).1
      have hcn:c∉seen:=cwGo_new go c (by simp)
      have hlc:listed.getD c false=false:=by
       cases hb:listed.getD c false with
       |false=>rfl
       |true=>exact absurd (sub c hcl' hb) hcn
      simp only [cwGo,hoc,Bool.and_eq_true] at go
      obtain⟨⟨⟨⟨_,g2⟩,_⟩,g3⟩,g4⟩:=go
      rw [if_neg hb,if_neg (fun e=>hb (.inr e))] at g4
      have g4':cwGo l (c::seen) (c::pn) fr cs=true:=g4
      have hic:i=c:=by
       rcases all i h1 with hm|hm
       ·exact absurd hm his
       ·simp only [List.map_cons,List.mem_cons] at hm
        rcases hm with hm|hm
        ·exact hm
        ·obtain⟨o',ho',he⟩:=cwGo_pin g4' (List.mem_cons_self ..) i hm
         rw [ho] at ho'
         injection ho' with ho'
         subst ho'
         have:=edgeT_listed (L:=fun j=>listed.getD j false) (fun i o hi=>hcl i o hi) 12 l[i] c hrd he
         rw [hlc] at this
         cases this
      subst hic
      rw [ho] at hoc
      injection hoc with hoc
      subst hoc
      have hdeps:∀e∈l[i].after,Region.binds .any e=true→e.on∈seen:=fun e he hb=>deps_mem g2 he hb
      have hsame:=looks_same hok ho hcl hcn h2 closed hdeps hrd act aft
      have kk:=hpin σa K hsame a w st
      have hall:b=2→∀j∈seen,j∈fr∨listed.getD j false=true:=fun hm j hj=>by
       subst hm
       simp only [bne_self_eq_false,Bool.false_or] at g3
       have:=List.all_eq_true.1 g3 j hj
       rw [Bool.or_eq_true] at this
       rcases this with h|h
       ·exact .inl (by simpa using h)
       ·exact .inr (edgeT_listed (L:=fun j=>listed.getD j false) (fun i o hi=>hcl i o hi) 12 l[i] j hrd h)
      have hnext:∀a' w',exW E (.stop (fun σ2 h2=>∃r,R r h2∧σ2=σa.setO l[i].dst r)::K) .normal a' w'→wpAny E.P .any l.toArray (exW E K) u (listed.setIfInBounds i true) a' w':=by
       rintro a' w' ⟨σ2,h',⟨r,hR,rfl⟩,st'⟩
       have fp':=kf r h' hR
       have cw':=k r h' hR
       let res':Nat→AV:=fun j=>if j=i then r else res j
       have hres:∀j,j≠i→res' j=res j:=fun j hj=>if_neg hj
       have hresi:res' i=r:=if_pos rfl
       have aft':After l res' σ0 (· ∈seen) σc:=aft.congr (fun _ _=>Iff.rfl) fun j hj=>hres j fun e=>hcn (e▸hj)
       have act':After l res' σ0 (fun j=>listed.getD j false=true) σa:=act.congr (fun _ _=>Iff.rfl) fun j hj=>hres j fun e=>by subst e;rw [h2] at hj;cases hj
       refine ih FP' _ _ h' a' w' hun ⟨i::seen,i::pn,fr,cs,σc.setO l[i].dst r,res',by simpa using size,list_step size h1 ho hcl hrd,g4',fun j hj=>List.mem_cons_of_mem _ (frs j hj),fun j hj=> ?_,cw',fp',fun j hj p hp e he hb=> ?_,(aft'.set hok ho hcn hresi).congr (fun j _=>List.mem_cons) fun _ _=>rfl,fun j hj hl=> ?_,fun p hp=> ?_,?_,fun j hj hl=> ?_⟩ st'
       ·rcases all j hj with hm|hm
        ·exact .inl (List.mem_cons_of_mem _ hm)
        ·simp only [List.map_cons,List.mem_cons] at hm
         rcases hm with rfl|hm
         ·exact .inl (List.mem_cons_self ..)
         ·exact .inr hm
       ·rcases List.mem_cons.1 hj with rfl|hj
        ·rw [ho] at hp;injection hp with hp;subst hp
         exact List.mem_cons_of_mem _ (hdeps e he hb)
        ·exact List.mem_cons_of_mem _ (closed j hj p hp e he hb)
       ·rw [getD_set om] at hl
        split at hl
        ·cases hl
        ·rename_i hji
         have hj':j∈seen:=(List.mem_cons.1 hj).resolve_left hji
         obtain⟨seen',σi,p,hp,q1,q2,q3,q4,q5,q6,q7⟩:=pend j hj' hl
         rcases hmk with hm2|⟨_,rfl⟩
         ·rcases hall hm2 j hj' with hfr|hl2
          ·exact⟨seen',σi,p,hp,fun q hq=>List.mem_cons_of_mem _ (q1 q hq),q2,q3,q4,q5.congr (fun _ _=>Iff.rfl) fun q hq=>hres q fun e=>hcn (e▸q1 q hq),by rw [hres j hji];exact(q7 hfr).wide,fun hm=>by rw [hres j hji];exact q7 hm⟩
          ·rw [hl2] at hl;cases hl
         ·exact⟨seen',σi,p,hp,fun q hq=>List.mem_cons_of_mem _ (q1 q hq),q2,q3,q4,q5.congr (fun _ _=>Iff.rfl) fun q hq=>hres q fun e=>hcn (e▸q1 q hq),by rw [hres j hji];exact q6,fun hm=>by rw [hres j hji];exact q7 hm⟩
       ·rw [getD_set om]
        split
        ·rfl
        ·rename_i hpi
         exact pins p ((List.mem_cons.1 hp).resolve_left hpi)
       ·refine(act'.set hok ho (by rw [h2];simp) hresi).congr (fun j _=> ?_) fun _ _=>rfl
        rw [getD_set om]
        by_cases hji:j=i<;>simp [hji]
       ·rw [getD_set om] at hl
        split at hl
        ·rename_i e;rw [e];exact List.mem_cons_self ..
        ·exact List.mem_cons_of_mem _ (sub j hj hl)
      have hq:∀e a w,e≠.normal→exW E (.stop (fun σ2 h2=>∃r,R r h2∧σ2=σa.setO l[i].dst r)::K) e a w→exW E K e a w:=fun e a w hne hq=>by
       cases e with
       |normal=>exact absurd rfl hne
       |exit id=>exact hq
       |goto l=>exact hq
       |ret=>exact hq
       |panic c=>exact hq
       |outgrown=>exact hq
      unfold wpOp
      rw [show l.toArray[i]?=some l[i] from by simp [h1]]
      change wpList E.P l.toArray _ [l[i]] a w at kk
      simp only [wpList] at kk
      simp only
      split
      ·rename_i hw
       rw [if_pos hw] at kk
       exact kk.imp (Oper_wp_imp hnext hq) (fun x=>⟨x.1,x.2.elim fun a h=>h.elim fun w h=>⟨a,w,hq _ _ _ (by simp) h⟩⟩)
      ·rename_i hw
       rw [if_neg hw] at kk
       exact hnext _ _ kk
  exact key cs.length seen pn fr cs σc res rfl v
theorem aw_cw {id:Nat} (FP:Heap) (cs:List (Nat×Nat)) (hm:E.P.follows .mixedOrders=true) (hok:(lexOk l&&cwGo l [] [] [] cs&&((List.range l.length).all fun i=>(cs.map (·.1)).contains i))=true) (hFP:Has0 FP h) (k:CW E l K FP cs σ h):
 aw E (.code (.region id l.toArray true)::K) σ h:=fun a w s=>by
 simp only [Bool.and_eq_true] at hok
 obtain⟨⟨hlx,hgo⟩,hall⟩:=hok
 refine wp_region_any hm ?_
 have s':=s.later (Fr.drew (fun _=>False) w (w.drawn+1))
 have e0:∀j,(Array.replicate l.length false).getD j false=false:=fun j=>by
  rw [Array.getD_eq_getD_getElem?]
  simp only [Array.getElem?_replicate]
  split<;>rfl
 have hun:∀m,unl (fun j=>(Array.replicate l.length false).getD j false) m=m:=by
  intro m
  induction m with
  |zero=>rfl
  |succ m ih=>rw [unl,ih,e0];rfl
 have:=draw_cw (E:=E) (K:=K) (σ0:=σ) hlx l.length FP (Array.replicate l.length false) σ h a {w with drawn:=w.drawn+1} (hun _) ⟨[],[],[],cs,σ,fun _=>.c .any,by simp,fun i o _ hl=>(by rw [e0] at hl;cases hl),hgo,fun i hi=>absurd hi List.not_mem_nil,fun i hi=>.inr ?_,k,hFP,fun j hj=>absurd hj List.not_mem_nil,⟨fun j _ _ hj=>absurd hj List.not_mem_nil,fun _ _=>rfl⟩,fun i hi=>absurd hi List.not_mem_nil,fun p hp=>absurd hp List.not_mem_nil,⟨fun j _ _ hj=>(by rw [e0] at hj;cases hj),fun _ _=>rfl⟩,fun i _ hl=>(by rw [e0] at hl;cases hl)⟩ s'
 ·simpa using this
 ·have:=List.all_eq_true.1 hall i (List.mem_range.2 hi)
  simpa using this
theorem Flt.pure {nw:Bool} {q:Prop} {r:AV} (hw:wantA l σ o=some true) (hb:pureOp2 E.P nw FP (ev σ) o.op=some (q,r)) (hq:q) (hd:dstOk E.N o.dst=true):Flt E FP l σ o r:=by
 refine⟨hd,fun h hfp=>⟨hd,fun σ' a w Q hs s=> ?_⟩⟩
 rw [if_pos (s.wanted ((want_same hs).trans hw))]
 obtain⟨v,hrun,hr⟩:=pureOp2_ok (fun _=>rfl) hb hq (Stab E.C h w) w a.eval Stab.mono' (fun x hx=>by rw [←ev_same hx hs];exact ev_rep s x) (fun g o hm=>s.heap g o (hfp _ hm))
 unfold Oper.wp
 rw [hrun o rfl]
 exact s.put hd hr
theorem Flt.skip (hw:wantA l σ o=some false) (hd:dstOk E.N o.dst=true):Flt E FP l σ o (.tup []):=⟨hd,fun _ _=>Calm.skip hw hd⟩
theorem cw_1q {i:Nat} {cs:List (Nat×Nat)} (ho:l[i]?=some o) (hd:dstOk E.N o.dst=true) (k:∀R:Option (Prop×Sl)→Prop,(∀q σ',CW E l K FP cs σ' h→(hq:q:=by(try simp only [inRange])<;>and_intros<;>first|exact True.intro|omega|trivial)→R (some (q,σ')))→R (runOp2 E.P true FP l o σ)):CW E l K FP ((i,0)::cs) σ h:=by
 have:=k (fun x=>x=runOp2 E.P true FP l o σ→CW E l K FP ((i,0)::cs) σ h) (fun q σ' ha hq e=>by
  unfold runOp2 at e
  split at e
  ·rename_i hw
   split at e
   ·rename_i q1 r hp
    injection e with e
    injection e with e1 e2
    subst e1 e2
    exact .flt ho (Flt.pure hw hp hq hd) ha
   ·cases e
  ·rename_i hw
   injection e with e
   injection e with e1 e2
   subst e1 e2
   exact .flt ho (Flt.skip hw hd) ha
  ·cases e)
 exact this rfl
end
end Go.AI
namespace Go.AI
section
variable {E : Env} {K : List It} {l : List Oper} {FP : Heap} {σ σ' : Sl} {h : Heap} {o : Oper} {i : Nat} {cs : List (Nat × Nat)}
theorem wc1 (ho:l[i]?=some o) (hd:dstOk E.N o.dst=true) (k:∀R:Option (Prop×Sl)→Prop,(∀q σ',CW E l K FP cs σ' h→(hq:q:=by(try simp only [inRange])<;>and_intros<;>first|exact True.intro|omega|trivial)→R (some (q,σ')))→R (runOp2 E.P true FP l o σ)):CW E l K FP ((i,0)::cs) σ h:=cw_1q ho hd k
theorem wc2 (k:aw E K σ h):CW E l K FP [] σ h:=.nil k
theorem evs_same {σ':Sl} {xs:List Operand} (hx:∀x∈xs,x∈o.op.operands) (hs:∀t∈looks l o,σ'.get t=σ.get t):xs.map (ev σ')=xs.map (ev σ):=List.map_congr_left fun x h=>ev_same (hx x h) hs
theorem cw_callh {FP':Heap} {m:Nat} {f:FuncId} {xs:List Operand} {ts:Array TypeId} {hc hr:Heap} {args:List AV} {Q:AV→Heap→Prop} (ho:l[i]?=some o) (hf:Fh E.P f hc args Q) (hop:o.op=.call {callee:=.value (.func f),args:=xs.toArray,argTypes:=ts}) (hw:wantA l σ o=some true) (hd:dstOk E.N o.dst=true)
 (hp:h.Perm (hc++hr)) (le:LeA [] (xs.map (ev σ)) args) (hFP:∀r h',Q r h'→Has0 FP' (h'++hr)) (k:∀r h',Q r h'→(∀g∈h'.keys,g∉hr.keys)→CW E l K FP' cs (σ.setO o.dst r) (h'++hr)) (hm:m=2∨m=1∧FP'=FP:=by first|exact .inl rfl|exact .inr ⟨rfl,rfl⟩):CW E l K FP ((i,m)::cs) σ h:=by
 refine .pin ho hm (R:=fun r h2=>∃h',Q r h'∧(∀g∈h'.keys,g∉hr.keys)∧h2=h'++hr) (fun σ' K hs=> ?_) ?_ ?_
 ·have he:xs.map (ev σ')=xs.map (ev σ):=evs_same (fun x hx=>by rw [hop];simp [Op.operands,Call.operands,hx]) hs
  exact aw_callh hf hop ((want_same hs).trans hw) hd hp (by rw [he];exact le) fun r h' hq hfr=>aw_ops_nil (aw_stop ⟨r,⟨h',hq,hfr,rfl⟩,rfl⟩)
 ·rintro r h2 ⟨h',hq,_,rfl⟩;exact hFP r h' hq
 ·rintro r h2 ⟨h',hq,hfr,rfl⟩;exact k r h' hq hfr
theorem cw_store {FP':Heap} {mk t g off m n:Nat} {ty:TypeId} {ag:Bool} {f:Nat→CV} {a x:Operand} {v:AV} {h':Heap} (ho:l[i]?=some o) (hop:o.op=.store t a x) (hw:wantA l σ o=some true) (hd:dstOk E.N o.dst=true) (hdn:o.dst=none) (ha:ev σ a=.c (.optr g off)) (hx:ev σ x=v)
 (hg:h.get g=some (.cells ty m f)) (ht:tSz E.P t=some (ag,n)) (hnt:∀xs,v≠.tup xs) (hs:v.cells.all CV.solid=true) (hlen:v.cells.length=n) (hle:off+n≤m)
 (hh:h.set g (.cells ty m (updF f off v.cells))=h') (hFP:Has0 FP' h') (k:CW E l K FP' cs σ h') (hm:mk=2∨mk=1∧FP'=FP:=by first|exact .inl rfl|exact .inr ⟨rfl,rfl⟩):CW E l K FP ((i,mk)::cs) σ h:=by
 refine .pin ho hm (R:=fun _ h2=>h2=h') (fun σ' K hsm=> ?_) ?_ ?_
 ·exact aw_store hop ((want_same hsm).trans hw) hd hdn ((ev_same (by rw [hop];simp [Op.operands]) hsm).trans ha) ((ev_same (by rw [hop];simp [Op.operands]) hsm).trans hx) hg ht hnt hs hlen hle hh (aw_ops_nil (aw_stop ⟨.c .any,rfl,by rw [hdn];rfl⟩))
 ·rintro _ _ rfl;exact hFP
 ·rintro _ _ rfl;rw [hdn];exact k
theorem cw_alloc {FP':Heap} {m:Nat} {t:TypeId} {z:List CV} (ho:l[i]?=some o) (hop:o.op=.alloc t) (hw:wantA l σ o=some true) (hd:dstOk E.N o.dst=true) (hz:tZero E.P t=some z) (hFP:Has0 FP' h)
 (k:∀g,g∉h.keys→CW E l K FP' cs (σ.setO o.dst (.c (.optr g 0))) ((g,.cells t z.length (ofL z))::h)) (hm:m=2∨m=1∧FP'=FP:=by first|exact .inl rfl|exact .inr ⟨rfl,rfl⟩):CW E l K FP ((i,m)::cs) σ h:=by
 refine .pin ho hm (R:=fun r h2=>∃g,g∉h.keys∧r=.c (.optr g 0)∧h2=(g,.cells t z.length (ofL z))::h) (fun σ' K hs=> ?_) ?_ ?_
 ·exact aw_alloc hop ((want_same hs).trans hw) hd hz fun g hg=>aw_ops_nil (aw_stop ⟨_,⟨g,hg,rfl,rfl⟩,rfl⟩)
 ·rintro r h2 ⟨g,_,_,rfl⟩;exact fun p hp=>List.mem_cons_of_mem _ (hFP p hp)
 ·rintro r h2 ⟨g,hg,rfl,rfl⟩;exact k g hg
theorem Flt.call {f:FuncId} {xs:List Operand} {ts:Array TypeId} {args:List AV} {r:AV} (hf:Fa E.P f args r) (hop:o.op=.call {callee:=.value (.func f),args:=xs.toArray,argTypes:=ts}) (hw:wantA l σ o=some true) (hd:dstOk E.N o.dst=true)
 (le:∀h,Has0 FP h→LeA h (xs.map (ev σ)) args):Flt E FP l σ o r:=⟨hd,fun h hfp=>Calm.call hf hop hw hd (le h hfp)⟩
theorem cw_callq {f:FuncId} {xs:List Operand} {ts:Array TypeId} {args:List AV} {r:AV} (ho:l[i]?=some o) (hf:Fa E.P f args r) (hop:o.op=.call {callee:=.value (.func f),args:=xs.toArray,argTypes:=ts}) (hw:wantA l σ o=some true) (hd:dstOk E.N o.dst=true)
 (le:∀h,Has0 FP h→LeA h (xs.map (ev σ)) args) (k:CW E l K FP cs (σ.setO o.dst r) h):CW E l K FP ((i,0)::cs) σ h:=.flt ho (Flt.call hf hop hw hd le) k
theorem has0_nil {h:Heap}:Has0 [] h:=fun p hp=>absurd hp List.not_mem_nil
theorem has0_cons {p:Nat×AObj} {FP h:Heap} (h1:p∈h) (h2:Has0 FP h):Has0 (p::FP) h:=fun q hq=>by
 rcases List.mem_cons.1 hq with rfl|hq
 ·exact h1
 ·exact h2 q hq
theorem has0_app2 {FP h k:Heap} (h1:Has0 FP k):Has0 FP (h++k):=fun p hp=>List.mem_append_right _ (h1 p hp)
end
end Go.AI
namespace Go.AI
structure Hold (X:Prop):Prop where
 out:X
theorem o0:True:=True.intro
theorem oj {a b:Prop} (x:a) (y:b):a∧b:=⟨x,y⟩
theorem yG {F X G:Prop} (f:F) (x:X) (k:F→Hold X→G:=by intro f x;(repeat first|apply wa1|apply wa2|apply wa3|apply wa4|apply wa5 rfl|apply wa6|apply wa7|(refine wb1 rfl fun R r=>?_;simp only[go_sem,f];with_reducible show R (some _);with_reducible refine r _ _ ?_;clear r R)|apply wa8|(refine wd1 rfl fun R r=>?_;simp only[go_sem,f];with_reducible show R (some _);with_reducible refine r _ _ ?_;clear r R)|apply wc2|(refine wc1 rfl rfl fun R r=>?_;simp only[go_sem,f];with_reducible show R (some _);with_reducible refine r _ _ ?_;clear r R));exact x.out):G:=k f ⟨x⟩
theorem xG {X G:Prop} (x:X) (k:Hold X→G:=by intro x;(repeat first|apply wa1|apply wa2|apply wa3|apply wa4|apply wa5 rfl|apply wa6|apply wa7|(refine wb1 rfl fun R r=>?_;simp only[go_sem];with_reducible show R (some _);with_reducible refine r _ _ ?_;clear r R)|apply wa8|(refine wd1 rfl fun R r=>?_;simp only[go_sem];with_reducible show R (some _);with_reducible refine r _ _ ?_;clear r R)|apply wc2|(refine wc1 rfl rfl fun R r=>?_;simp only[go_sem];with_reducible show R (some _);with_reducible refine r _ _ ?_;clear r R));exact x.out):G:=k ⟨x⟩
theorem yH {F X G:Prop} (f:F) (x:X) (k:F→Hold X→G:=by intro f x;(repeat first|apply wa7|(refine wb1 rfl fun R r=>?_;simp only[go_sem,f];with_reducible show R (some _);with_reducible refine r _ _ ?_;clear r R)|apply wa8|(refine wd1 rfl fun R r=>?_;simp only[go_sem,f];with_reducible show R (some _);with_reducible refine r _ _ ?_;clear r R)|apply wc2|(refine wc1 rfl rfl fun R r=>?_;simp only[go_sem,f];with_reducible show R (some _);with_reducible refine r _ _ ?_;clear r R));exact x.out):G:=k f ⟨x⟩
theorem xH {X G:Prop} (x:X) (k:Hold X→G:=by intro x;(repeat first|apply wa7|(refine wb1 rfl fun R r=>?_;simp only[go_sem];with_reducible show R (some _);with_reducible refine r _ _ ?_;clear r R)|apply wa8|(refine wd1 rfl fun R r=>?_;simp only[go_sem];with_reducible show R (some _);with_reducible refine r _ _ ?_;clear r R)|apply wc2|(refine wc1 rfl rfl fun R r=>?_;simp only[go_sem];with_reducible show R (some _);with_reducible refine r _ _ ?_;clear r R));exact x.out):G:=k ⟨x⟩
theorem yI {F X G:Prop} (f:F) (x:X) (k:F→Hold X→G:=by intro f x;(repeat first|apply wa1|apply wa3|apply wa4|apply wa5 rfl|apply wa6|apply wa7|(refine wb1 rfl fun R r=>?_;simp only[go_sem,f];with_reducible show R (some _);with_reducible refine r _ _ ?_;clear r R)|apply wa8|(refine wd1 rfl fun R r=>?_;simp only[go_sem,f];with_reducible show R (some _);with_reducible refine r _ _ ?_;clear r R)|apply wc2|(refine wc1 rfl rfl fun R r=>?_;simp only[go_sem,f];with_reducible show R (some _);with_reducible refine r _ _ ?_;clear r R));exact x.out):G:=k f ⟨x⟩
theorem xI {X G:Prop} (x:X) (k:Hold X→G:=by intro x;(repeat first|apply wa1|apply wa3|apply wa4|apply wa5 rfl|apply wa6|apply wa7|(refine wb1 rfl fun R r=>?_;simp only[go_sem];with_reducible show R (some _);with_reducible refine r _ _ ?_;clear r R)|apply wa8|(refine wd1 rfl fun R r=>?_;simp only[go_sem];with_reducible show R (some _);with_reducible refine r _ _ ?_;clear r R)|apply wc2|(refine wc1 rfl rfl fun R r=>?_;simp only[go_sem];with_reducible show R (some _);with_reducible refine r _ _ ?_;clear r R));exact x.out):G:=k ⟨x⟩
theorem yO {F X G:Prop} (f:F) (x:X) (k:F→Hold X→G:=by intro f x;(first|(refine wb1 rfl fun R r=>?_;simp only[go_sem,f];with_reducible show R (some _);with_reducible refine r _ _ ?_;clear r R)|(refine wd1 rfl fun R r=>?_;simp only[go_sem,f];with_reducible show R (some _);with_reducible refine r _ _ ?_;clear r R)|apply wc2|(refine wc1 rfl rfl fun R r=>?_;simp only[go_sem,f];with_reducible show R (some _);with_reducible refine r _ _ ?_;clear r R));exact x.out):G:=k f ⟨x⟩
theorem xO {X G:Prop} (x:X) (k:Hold X→G:=by intro x;(first|(refine wb1 rfl fun R r=>?_;simp only[go_sem];with_reducible show R (some _);with_reducible refine r _ _ ?_;clear r R)|(refine wd1 rfl fun R r=>?_;simp only[go_sem];with_reducible show R (some _);with_reducible refine r _ _ ?_;clear r R)|apply wc2|(refine wc1 rfl rfl fun R r=>?_;simp only[go_sem];with_reducible show R (some _);with_reducible refine r _ _ ?_;clear r R));exact x.out):G:=k ⟨x⟩
theorem yS {F X G:Prop} (f:F) (x:X) (k:F→Hold X→G:=by intro f x;(try simp only[go_sem,f]);exact x.out):G:=k f ⟨x⟩
theorem xS {X G:Prop} (x:X) (k:Hold X→G:=by intro x;(try simp only[go_sem]);exact x.out):G:=k ⟨x⟩
theorem yT {F X G C:Prop} (c:C) (f:F) (x:X) (k:C→F→Hold X→G:=by intro c f x;refine aw_retq c rfl fun R r=>?_;simp only[go_sem,f];refine r _ rfl ?_;clear r R;exact x.out):G:=k c f ⟨x⟩
theorem xT {X G C:Prop} (c:C) (x:X) (k:C→Hold X→G:=by intro c x;refine aw_retq c rfl fun R r=>?_;simp only[go_sem];refine r _ rfl ?_;clear r R;exact x.out):G:=k c ⟨x⟩
theorem yU {F X G:Prop} (f:F) (x:X) (k:F→Hold X→G:=by intro f x;refine aw_rethq rfl fun R r=>?_;simp only[go_sem,f];refine r _ rfl ?_;clear r R;exact x.out):G:=k f ⟨x⟩
theorem xU {X G:Prop} (x:X) (k:Hold X→G:=by intro x;refine aw_rethq rfl fun R r=>?_;simp only[go_sem];refine r _ rfl ?_;clear r R;exact x.out):G:=k ⟨x⟩
theorem yV {F X G:Prop} (f:F) (x:X) (k:F→Hold X→G:=by intro f x;refine aw_endhq rfl fun R r=>?_;simp only[go_sem,f];refine r _ rfl ?_;clear r R;exact x.out):G:=k f ⟨x⟩
theorem xV {X G:Prop} (x:X) (k:Hold X→G:=by intro x;refine aw_endhq rfl fun R r=>?_;simp only[go_sem];refine r _ rfl ?_;clear r R;exact x.out):G:=k ⟨x⟩
theorem zE {F P:Prop} (f:F) (k:F→P:=by intro f;simp only[go_sem,f]<;>rfl):P:=k f
theorem eE {P:Prop} (k:P:=by simp only[go_sem]<;>rfl):P:=k
theorem zB {F P:Prop} (f:F) (k:F→P:=by intro f;simp only[go_sem,f]<;>and_intros<;>first|exact True.intro|(with_reducible rfl)|exact c_int om|rfl):P:=k f
theorem eB {P:Prop} (k:P:=by simp only[go_sem]<;>and_intros<;>first|exact True.intro|(with_reducible rfl)|exact c_int om|rfl):P:=k
theorem zZ {α:Type} {l:List α}:l.Sublist l:=List.Sublist.refl l
theorem zL {F P:Prop} (f:F) (k:F→P:=by intro f;first|exact True.intro|simp only[go_sem,f]<;>and_intros<;>first|exact True.intro|exact .c (.refl _)|exact .c wl2|exact .agg (lel_refl _)|exact .agg (by simp only[LeL];and_intros<;>first|exact True.intro|exact .refl _|exact wl2)|exact .c .nils):P:=k f
theorem eL {P:Prop} (k:P:=by first|exact True.intro|simp only[go_sem]<;>and_intros<;>first|exact True.intro|exact .c (.refl _)|exact .c wl2|exact .agg (lel_refl _)|exact .agg (by simp only[LeL];and_intros<;>first|exact True.intro|exact .refl _|exact wl2)|exact .c .nils):P:=k
section
variable {E : Env} {K : List It} {σ : Sl} {h : Heap} {all l rest : List Oper} {o : Oper} {F : Prop}
theorem yC {f:FuncId} {xs:List Operand} {ts:Array TypeId} {args:List AV} {r:AV} {X:Prop} (q:F) (hf:Fa E.P f args r) (x:X) (hop:o.op=.call {callee:=.value (.func f),args:=xs.toArray,argTypes:=ts}:=by exact rfl) (hw:wantA all σ o=some true:=by exact rfl) (hd:dstOk E.N o.dst=true:=by exact rfl)
 (le:F→LeA h (xs.map (ev σ)) args:=by intro f;first|exact True.intro|simp only[go_sem,f]<;>and_intros<;>first|exact True.intro|exact .c (.refl _)|exact .c wl2|exact .agg (lel_refl _)|exact .agg (by simp only[LeL];and_intros<;>first|exact True.intro|exact .refl _|exact wl2)|exact .c .nils) (k:F→Hold X→aw E (.ops all rest::K) (σ.setO o.dst r) h:=by intro f x;(try simp only[go_sem,f]);exact x.out):aw E (.ops all (o::rest)::K) σ h:=aw_callq hf hop hw hd (le q) (k q ⟨x⟩)
theorem xC {f:FuncId} {xs:List Operand} {ts:Array TypeId} {args:List AV} {r:AV} {X:Prop} (hf:Fa E.P f args r) (x:X) (hop:o.op=.call {callee:=.value (.func f),args:=xs.toArray,argTypes:=ts}:=by exact rfl) (hw:wantA all σ o=some true:=by exact rfl) (hd:dstOk E.N o.dst=true:=by exact rfl)
 (le:LeA h (xs.map (ev σ)) args:=by first|exact True.intro|simp only[go_sem]<;>and_intros<;>first|exact True.intro|exact .c (.refl _)|exact .c wl2|exact .agg (lel_refl _)|exact .agg (by simp only[LeL];and_intros<;>first|exact True.intro|exact .refl _|exact wl2)|exact .c .nils) (k:Hold X→aw E (.ops all rest::K) (σ.setO o.dst r) h:=by intro x;(try simp only[go_sem]);exact x.out):aw E (.ops all (o::rest)::K) σ h:=aw_callq hf hop hw hd le (k ⟨x⟩)
theorem yD {f:FuncId} {xs:List Operand} {ts:Array TypeId} {args:List AV} {r:AV} {n:Nat} {X:Prop} (q:F) (hf:Fa E.P f args r) (x:X) (hop:o.op=.call {callee:=.value (.func f),args:=xs.toArray,argTypes:=ts}:=by exact rfl) (hw:wantA l σ o=some true:=by exact rfl) (hd:dstOk E.N o.dst=true:=by exact rfl)
 (le:F→LeA h (xs.map (ev σ)) args:=by intro f;first|exact True.intro|simp only[go_sem,f]<;>and_intros<;>first|exact True.intro|exact .c (.refl _)|exact .c wl2|exact .agg (lel_refl _)|exact .agg (by simp only[LeL];and_intros<;>first|exact True.intro|exact .refl _|exact wl2)|exact .c .nils) (k:F→Hold X→DrK E h l K n rest (σ.setO o.dst r):=by intro f x;(try simp only[go_sem,f]);exact x.out):DrK E h l K (n+1) (o::rest) σ:=drk_call hf hop hw hd (le q) (k q ⟨x⟩)
theorem xD {f:FuncId} {xs:List Operand} {ts:Array TypeId} {args:List AV} {r:AV} {n:Nat} {X:Prop} (hf:Fa E.P f args r) (x:X) (hop:o.op=.call {callee:=.value (.func f),args:=xs.toArray,argTypes:=ts}:=by exact rfl) (hw:wantA l σ o=some true:=by exact rfl) (hd:dstOk E.N o.dst=true:=by exact rfl)
 (le:LeA h (xs.map (ev σ)) args:=by first|exact True.intro|simp only[go_sem]<;>and_intros<;>first|exact True.intro|exact .c (.refl _)|exact .c wl2|exact .agg (lel_refl _)|exact .agg (by simp only[LeL];and_intros<;>first|exact True.intro|exact .refl _|exact wl2)|exact .c .nils) (k:Hold X→DrK E h l K n rest (σ.setO o.dst r):=by intro x;(try simp only[go_sem]);exact x.out):DrK E h l K (n+1) (o::rest) σ:=drk_call hf hop hw hd le (k ⟨x⟩)
theorem yB {t:TypeId} {y:Operand} {v:AV} {X N:Nat→Prop} (q:F) (x:∀g,N g→X g) (hop:o.op=.box t y:=by exact rfl) (hw:wantA all σ o=some true:=by exact rfl) (hd:dstOk E.N o.dst=true:=by exact rfl) (hx:F→ev σ y=v:=by intro f;simp only[go_sem,f]<;>rfl) (hnt:∀xs,v≠.tup xs:=by exact fun _ e=>by cases e) (hs:v.cells.all CV.solid=true:=by first|exact rfl|exact solid_gs3)
 (hn:∀g,g∉h.keys→N g:=by intro g h;replace h:=Heap.ne_of h;(first|dsimp only [Heap.ne,gh] at h|dsimp only [Heap.ne] at h|skip);exact h) (k:F→∀g,N g→Hold (X g)→aw E (.ops all rest::K) (σ.setO o.dst (.c (.optr g 0))) ((g,.cells t v.cells.length (ofL v.cells))::h):=by intro f g e x;(try simp only[go_sem,f,e]);exact x.out):aw E (.ops all (o::rest)::K) σ h:=
 aw_box hop hw hd (hx q) hnt hs fun g hg=>k q g (hn g hg) ⟨x g (hn g hg)⟩
theorem xB {t:TypeId} {y:Operand} {v:AV} {X N:Nat→Prop} (x:∀g,N g→X g) (hop:o.op=.box t y:=by exact rfl) (hw:wantA all σ o=some true:=by exact rfl) (hd:dstOk E.N o.dst=true:=by exact rfl) (hx:ev σ y=v:=by simp only[go_sem]<;>rfl) (hnt:∀xs,v≠.tup xs:=by exact fun _ e=>by cases e) (hs:v.cells.all CV.solid=true:=by first|exact rfl|exact solid_gs3)
 (hn:∀g,g∉h.keys→N g:=by intro g h;replace h:=Heap.ne_of h;(first|dsimp only [Heap.ne,gh] at h|dsimp only [Heap.ne] at h|skip);exact h) (k:∀g,N g→Hold (X g)→aw E (.ops all rest::K) (σ.setO o.dst (.c (.optr g 0))) ((g,.cells t v.cells.length (ofL v.cells))::h):=by intro g e x;(try simp only[go_sem,e]);exact x.out):aw E (.ops all (o::rest)::K) σ h:=
 aw_box hop hw hd hx hnt hs fun g hg=>k g (hn g hg) ⟨x g (hn g hg)⟩
theorem yA {t:TypeId} {z:List CV} {X N:Nat→Prop} (q:F) (x:∀g,N g→X g) (hop:o.op=.alloc t:=by exact rfl) (hw:wantA all σ o=some true:=by exact rfl) (hd:dstOk E.N o.dst=true:=by exact rfl) (hz:F→tZero E.P t=some z:=by intro f;simp only[go_sem,f]<;>rfl)
 (hn:∀g,g∉h.keys→N g:=by intro g h;replace h:=Heap.ne_of h;(first|dsimp only [Heap.ne,gh] at h|dsimp only [Heap.ne] at h|skip);exact h) (k:F→∀g,N g→Hold (X g)→aw E (.ops all rest::K) (σ.setO o.dst (.c (.optr g 0))) ((g,.cells t z.length (ofL z))::h):=by intro f g e x;(try simp only[go_sem,f,e]);exact x.out):aw E (.ops all (o::rest)::K) σ h:=
 aw_alloc hop hw hd (hz q) fun g hg=>k q g (hn g hg) ⟨x g (hn g hg)⟩
theorem xA {t:TypeId} {z:List CV} {X N:Nat→Prop} (x:∀g,N g→X g) (hop:o.op=.alloc t:=by exact rfl) (hw:wantA all σ o=some true:=by exact rfl) (hd:dstOk E.N o.dst=true:=by exact rfl) (hz:tZero E.P t=some z:=by simp only[go_sem]<;>rfl)
 (hn:∀g,g∉h.keys→N g:=by intro g h;replace h:=Heap.ne_of h;(first|dsimp only [Heap.ne,gh] at h|dsimp only [Heap.ne] at h|skip);exact h) (k:∀g,N g→Hold (X g)→aw E (.ops all rest::K) (σ.setO o.dst (.c (.optr g 0))) ((g,.cells t z.length (ofL z))::h):=by intro g e x;(try simp only[go_sem,e]);exact x.out):aw E (.ops all (o::rest)::K) σ h:=
 aw_alloc hop hw hd hz fun g hg=>k g (hn g hg) ⟨x g (hn g hg)⟩
theorem yW {t g off m n:Nat} {ty:TypeId} {ag:Bool} {fc:Nat→CV} {a y:Operand} {v:AV} {h':Heap} (q:F) (k:aw E (.ops all rest::K) σ h') (hop:o.op=.store t a y:=by exact rfl) (hw:wantA all σ o=some true:=by exact rfl) (hd:dstOk E.N o.dst=true:=by exact rfl) (hdn:o.dst=none:=by exact rfl) (ha:F→ev σ a=.c (.optr g off):=by intro f;simp only[go_sem,f]<;>rfl) (hx:F→ev σ y=v:=by intro f;simp only[go_sem,f]<;>rfl)
 (hg:F→h.get g=some (.cells ty m fc):=by intro f;simp only[go_sem,f]<;>rfl) (ht:F→tSz E.P t=some (ag,n):=by intro f;simp only[go_sem,f]<;>rfl) (hnt:∀xs,v≠.tup xs:=by exact fun _ e=>by cases e) (hs:v.cells.all CV.solid=true:=by first|rfl|exact solid_gs3) (hlen:v.cells.length=n:=by rfl) (hle:off+n≤m:=by first|omega|simp)
 (hh:h.set g (.cells ty m (updF fc off v.cells))=h':=by exact rfl):aw E (.ops all (o::rest)::K) σ h:=aw_store hop hw hd hdn (ha q) (hx q) (hg q) (ht q) hnt hs hlen hle hh k
theorem xW {t g off m n:Nat} {ty:TypeId} {ag:Bool} {fc:Nat→CV} {a y:Operand} {v:AV} {h':Heap} (k:aw E (.ops all rest::K) σ h') (hop:o.op=.store t a y:=by exact rfl) (hw:wantA all σ o=some true:=by exact rfl) (hd:dstOk E.N o.dst=true:=by exact rfl) (hdn:o.dst=none:=by exact rfl) (ha:ev σ a=.c (.optr g off):=by simp only[go_sem]<;>rfl) (hx:ev σ y=v:=by simp only[go_sem]<;>rfl)
 (hg:h.get g=some (.cells ty m fc):=by simp only[go_sem]<;>rfl) (ht:tSz E.P t=some (ag,n):=by simp only[go_sem]<;>rfl) (hnt:∀xs,v≠.tup xs:=by exact fun _ e=>by cases e) (hs:v.cells.all CV.solid=true:=by first|rfl|exact solid_gs3) (hlen:v.cells.length=n:=by rfl) (hle:off+n≤m:=by first|omega|simp)
 (hh:h.set g (.cells ty m (updF fc off v.cells))=h':=by exact rfl):aw E (.ops all (o::rest)::K) σ h:=aw_store hop hw hd hdn ha hx hg ht hnt hs hlen hle hh k
theorem yF {t:Nat} {y z:Code} {b:Bool} (q:F) (k1:b=true→aw E (.code y::K) σ h) (k2:b=false→aw E (.code z::K) σ h) (hb:F→σ.get t=.c (.bool b):=by intro f;simp only[go_sem,f]<;>rfl):aw E (.code (.cond (.tmp t) y z)::K) σ h:=aw_cond (hb q) k1 k2
theorem xF {t:Nat} {y z:Code} {b:Bool} (k1:b=true→aw E (.code y::K) σ h) (k2:b=false→aw E (.code z::K) σ h) (hb:σ.get t=.c (.bool b):=by simp only[go_sem]<;>rfl):aw E (.code (.cond (.tmp t) y z)::K) σ h:=aw_cond hb k1 k2
theorem yP {t:Nat} {y z:Code} (q:F) (k:aw E (.code y::K) σ h) (hb:F→σ.get t=.c (.bool true):=by intro f;simp only[go_sem,f]<;>rfl):aw E (.code (.cond (.tmp t) y z)::K) σ h:=aw_condT (hb q) k
theorem xP {t:Nat} {y z:Code} (k:aw E (.code y::K) σ h) (hb:σ.get t=.c (.bool true):=by simp only[go_sem]<;>rfl):aw E (.code (.cond (.tmp t) y z)::K) σ h:=aw_condT hb k
theorem yN {t:Nat} {y z:Code} (q:F) (k:aw E (.code z::K) σ h) (hb:F→σ.get t=.c (.bool false):=by intro f;simp only[go_sem,f]<;>rfl):aw E (.code (.cond (.tmp t) y z)::K) σ h:=aw_condF (hb q) k
theorem xN {t:Nat} {y z:Code} (k:aw E (.code z::K) σ h) (hb:σ.get t=.c (.bool false):=by simp only[go_sem]<;>rfl):aw E (.code (.cond (.tmp t) y z)::K) σ h:=aw_condF hb k
end
end Go.AI
namespace Go.Proofs.YtfcnbgmclfkfcaaGreat
open Go.AI
@[go_sem] theorem ty_e_ws:tElem Tryz.prog 28=some (130,1,4):=by kernel_rfl
@[go_sem] theorem ty_s_u32:tSz Tryz.prog 130=some (false,1):=by kernel_rfl
@[go_sem] theorem ty_z_u32:tZero Tryz.prog 130=some [.int .u32 0]:=by kernel_rfl
@[go_sem] theorem ty_i_u32:tInt Tryz.prog 130=some .u32:=by kernel_rfl
@[go_sem] theorem ty_i_u64:tInt Tryz.prog 170=some .u64:=by kernel_rfl
@[go_sem] theorem ty_i_int:tInt Tryz.prog 3=some .i64:=by kernel_rfl
@[go_sem] theorem ty_b_bool:tBool Tryz.prog 4=true:=by kernel_rfl
@[go_sem] theorem ty_i_err:tInt Tryz.prog 51=some .i64:=by kernel_rfl
@[go_sem] theorem ty_f_err:tIfc Tryz.prog 32=true:=by kernel_rfl
@[go_sem] theorem ty_mixed:Tryz.prog.follows .mixedOrders=true:=by kernel_rfl
end Go.Proofs.YtfcnbgmclfkfcaaGreat
namespace Go.AI
theorem xGT {X G C:Prop} (c:C) (x:X) (k:C→Hold X→G:=by intro c x;refine xG ?_;refine xT c ?_;exact x.out):G:=k c ⟨x⟩
theorem xGU {X G:Prop} (x:X) (k:Hold X→G:=by intro x;refine xG ?_;refine xU ?_;exact x.out):G:=k ⟨x⟩
theorem xSG {X G:Prop} (x:X) (k:Hold X→G:=by intro x;refine xS ?_;refine xG ?_;exact x.out):G:=k ⟨x⟩
theorem xSGT {X G C:Prop} (c:C) (x:X) (k:C→Hold X→G:=by intro c x;refine xS ?_;refine xG ?_;refine xT c ?_;exact x.out):G:=k c ⟨x⟩
theorem xSGU {X G:Prop} (x:X) (k:Hold X→G:=by intro x;refine xS ?_;refine xG ?_;refine xU ?_;exact x.out):G:=k ⟨x⟩
theorem yGNG {F X G:Prop} (f:F) (x:X) (k:F→Hold X→G:=by intro f x;refine yG f ?_;refine yN f ?_;refine yG f ?_;exact x.out):G:=k f ⟨x⟩
theorem yGPG {F X G:Prop} (f:F) (x:X) (k:F→Hold X→G:=by intro f x;refine yG f ?_;refine yP f ?_;refine yG f ?_;exact x.out):G:=k f ⟨x⟩
theorem yGPGT {F X G C:Prop} (c:C) (f:F) (x:X) (k:C→F→Hold X→G:=by intro c f x;refine yG f ?_;refine yP f ?_;refine yG f ?_;refine yT c f ?_;exact x.out):G:=k c f ⟨x⟩
theorem yGPGU {F X G:Prop} (f:F) (x:X) (k:F→Hold X→G:=by intro f x;refine yG f ?_;refine yP f ?_;refine yG f ?_;refine yU f ?_;exact x.out):G:=k f ⟨x⟩
theorem yGT {F X G C:Prop} (c:C) (f:F) (x:X) (k:C→F→Hold X→G:=by intro c f x;refine yG f ?_;refine yT c f ?_;exact x.out):G:=k c f ⟨x⟩
theorem yGWS {F X G:Prop} (f:F) (x:X) (k:F→Hold X→G:=by intro f x;refine yG f ?_;refine yW f ?_;refine yS f ?_;exact x.out):G:=k f ⟨x⟩
theorem yGWSG {F X G:Prop} (f:F) (x:X) (k:F→Hold X→G:=by intro f x;refine yG f ?_;refine yW f ?_;refine yS f ?_;refine yG f ?_;exact x.out):G:=k f ⟨x⟩
theorem yGWSGNG {F X G:Prop} (f:F) (x:X) (k:F→Hold X→G:=by intro f x;refine yG f ?_;refine yW f ?_;refine yS f ?_;refine yG f ?_;refine yN f ?_;refine yG f ?_;exact x.out):G:=k f ⟨x⟩
theorem yGWSGT {F X G C:Prop} (c:C) (f:F) (x:X) (k:C→F→Hold X→G:=by intro c f x;refine yG f ?_;refine yW f ?_;refine yS f ?_;refine yG f ?_;refine yT c f ?_;exact x.out):G:=k c f ⟨x⟩
theorem ySG {F X G:Prop} (f:F) (x:X) (k:F→Hold X→G:=by intro f x;refine yS f ?_;refine yG f ?_;exact x.out):G:=k f ⟨x⟩
theorem ySGNG {F X G:Prop} (f:F) (x:X) (k:F→Hold X→G:=by intro f x;refine yS f ?_;refine yG f ?_;refine yN f ?_;refine yG f ?_;exact x.out):G:=k f ⟨x⟩
theorem ySGNGNG {F X G:Prop} (f:F) (x:X) (k:F→Hold X→G:=by intro f x;refine yS f ?_;refine yG f ?_;refine yN f ?_;refine yG f ?_;refine yN f ?_;refine yG f ?_;exact x.out):G:=k f ⟨x⟩
theorem ySGPG {F X G:Prop} (f:F) (x:X) (k:F→Hold X→G:=by intro f x;refine yS f ?_;refine yG f ?_;refine yP f ?_;refine yG f ?_;exact x.out):G:=k f ⟨x⟩
theorem ySGT {F X G C:Prop} (c:C) (f:F) (x:X) (k:C→F→Hold X→G:=by intro c f x;refine yS f ?_;refine yG f ?_;refine yT c f ?_;exact x.out):G:=k c f ⟨x⟩
theorem ySGWS {F X G:Prop} (f:F) (x:X) (k:F→Hold X→G:=by intro f x;refine yS f ?_;refine yG f ?_;refine yW f ?_;refine yS f ?_;exact x.out):G:=k f ⟨x⟩
theorem ySGWSG {F X G:Prop} (f:F) (x:X) (k:F→Hold X→G:=by intro f x;refine yS f ?_;refine yG f ?_;refine yW f ?_;refine yS f ?_;refine yG f ?_;exact x.out):G:=k f ⟨x⟩
end Go.AI
