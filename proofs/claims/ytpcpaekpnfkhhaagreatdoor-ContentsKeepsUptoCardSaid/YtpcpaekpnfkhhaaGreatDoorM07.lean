/- Parts of one proof, laid by a program. -/
import Derived.Test.YtpcpaekpnfkhhaaGreatDoorM00
import Derived.Test.YtpcpaekpnfkhhaaGreatDoorM06
import Derived.Shelf.SlSortCmp.WholeK
import Derived.Lib.Bytealg
import Derived.Shelf.Sort.Plain
set_option linter.unusedSimpArgs false
set_option linter.unusedVariables false
set_option maxRecDepth 100000
set_option maxHeartbeats 12800000
namespace Go.PN
open Go.AI
section
variable {α : Type} [DecidableEq α]
def stGet (a:α):List (α×Int)→Int
 |[]=>0
 |p::st=>if a=p.1 then p.2 else stGet a st
def stSet (a:α) (v:Int):List (α×Int)→List (α×Int)
 |[]=>[]
 |p::st=>if a=p.1 then(p.1,v)::st else p::stSet a v st
def goD (f:List (α×Int)→α→Bool×List (α×Int)):List α→List (α×Int)→Bool×List (α×Int)
 |[],st=>(false,st)
 |x::l,st=>if(f st x).1=true then f st x else goD f l (f st x).2
def walkD (leaf:α→Bool) (succ:α→List α):Nat→List (α×Int)→α→Bool×List (α×Int)
 |0,st,_=>(false,st)
 |n+1,st,t=>if leaf t=true then(false,st) else if stGet t st=1 then(true,st) else if stGet t st=2 then(false,st) else
  let r:=goD (walkD leaf succ n) (succ t) (st++[(t,1)])
  if r.1=true then r else(false,stSet t 2 r.2)
theorem stGet_set (a b:α) (v:Int):∀st:List (α×Int),stGet b (stSet a v st)=if b=a∧a∈st.map (·.1) then v else stGet b st
 |[]=>by simp [stSet,stGet]
 |p::st=>by
  have ih:=stGet_set a b v st
  unfold stSet
  by_cases h:a=p.1
  ·rw [if_pos h]
   show(if b=p.1 then v else stGet b st)=(if b=a∧a∈p.1::st.map (·.1) then v else(if b=p.1 then p.2 else stGet b st))
   by_cases hb:b=p.1
   ·rw [if_pos hb,if_pos ⟨hb.trans h.symm,by rw [h];exact List.mem_cons_self⟩]
   ·rw [if_neg hb,if_neg (fun z=>hb (z.1.trans h)),if_neg hb]
  ·rw [if_neg h]
   show(if b=p.1 then p.2 else stGet b (stSet a v st))=(if b=a∧a∈p.1::st.map (·.1) then v else(if b=p.1 then p.2 else stGet b st))
   by_cases hb:b=p.1
   ·rw [if_pos hb,if_neg (fun z=>h (z.1.symm.trans hb)),if_pos hb]
   ·rw [if_neg hb,if_neg hb,ih]
    have:(a∈p.1::st.map (·.1))↔a∈st.map (·.1):=by
     rw [List.mem_cons];exact⟨fun z=>z.elim (fun e=>absurd e h) id,.inr⟩
    simp only [this]
theorem stGet_app (a b:α) (v:Int):∀st:List (α×Int),a∉st.map (·.1)→stGet b (st++[(a,v)])=if b=a then v else stGet b st
 |[],_=>by simp [stGet]
 |p::st,h=>by
  have h1:a≠p.1:=fun e=>h (by rw [e];exact List.mem_cons_self)
  have ih:=stGet_app a b v st fun z=>h (List.mem_cons_of_mem _ z)
  show(if b=p.1 then p.2 else stGet b (st++[(a,v)]))=(if b=a then v else(if b=p.1 then p.2 else stGet b st))
  by_cases hb:b=p.1
  ·rw [if_pos hb,if_pos hb,if_neg (fun e=>h1 (e.symm.trans hb))]
  ·rw [if_neg hb,if_neg hb,ih]
def CycS (nodes:List α) (succ:α→List α):Prop:=∃S:List α,S≠[]∧∀x∈S,x∈nodes∧∃y∈S,y∈succ x
def pathS (succ:α→List α):List α→Prop
 |[]=>True
 |[_]=>True
 |a::b::l=>a∈succ b∧pathS succ (b::l)
omit [DecidableEq α] in
theorem path_cyc {succ:α→List α} {t:α} {l2:List α}:∀(l1:List α) (z:α),pathS succ (l1++t::l2)→(∀h,(l1++t::l2).head?=some h→z∈succ h)→∀x∈l1++[t],∃y∈z::(l1++[t]),y∈succ x
 |[],z,_,hz,x,hx=>by
  have:x=t:=by simpa using hx
  subst this
  exact⟨z,List.mem_cons_self,hz x rfl⟩
 |a::l1,z,hp,hz,x,hx=>by
  rcases List.mem_cons.1 hx with h|h
  ·subst h
   exact⟨z,List.mem_cons_self,hz x rfl⟩
  ·have hp':pathS succ (l1++t::l2)∧∀h,(l1++t::l2).head?=some h→a∈succ h:=by
    cases l1 with
    |nil=>
     cases l2 with
     |nil=>exact⟨trivial,fun h e=>by simp at e;subst e;exact hp.1⟩
     |cons c l2=>exact⟨hp.2,fun h e=>by simp at e;subst e;exact hp.1⟩
    |cons c l1=>exact⟨hp.2,fun h e=>by simp at e;subst e;exact hp.1⟩
   obtain⟨y,hy,hys⟩:=path_cyc l1 a hp'.1 hp'.2 x h
   exact⟨y,List.mem_cons_of_mem _ hy,hys⟩
structure DInv (leaf:α→Bool) (succ:α→List α) (nodes:List α) (st:List (α×Int)) (stk fin:List α):Prop where
 nd:(st.map (·.1)).Nodup
 sub:∀a∈st.map (·.1),a∈nodes
 key:∀a,a∈st.map (·.1)↔a∈stk∨a∈fin
 gray:∀a,stGet a st=1↔a∈stk
 black:∀a,stGet a st=2↔a∈fin
 path:pathS succ stk
 leafS:∀a∈stk,leaf a=false
 fd:fin.Nodup
 ord:∀l1 b l2,fin=l1++b::l2→∀x∈succ b,leaf x=true∨x∈l1
def DOut (leaf:α→Bool) (succ:α→List α) (nodes:List α) (st:List (α×Int)) (stk fin:List α) (r:Bool×List (α×Int)) (P:List α→Prop):Prop:=
 (r.1=true→CycS nodes succ)∧(r.1=false→∃fin',DInv leaf succ nodes r.2 stk fin'∧(∀a∈fin,a∈fin')∧st.length≤r.2.length∧P fin')
theorem go_ok {leaf:α→Bool} {succ:α→List α} {nodes stk:List α} {f:List (α×Int)→α→Bool×List (α×Int)} {k:Nat}
  (hf:∀st fin x,DInv leaf succ nodes st stk fin→k≤st.length→(leaf x=true∨x∈nodes)→(∀h,stk.head?=some h→x∈succ h)→DOut leaf succ nodes st stk fin (f st x) (fun fin'=>leaf x=true∨x∈fin')):
  ∀(l:List α) (st:List (α×Int)) (fin:List α),DInv leaf succ nodes st stk fin→k≤st.length→(∀x∈l,leaf x=true∨x∈nodes)→(∀x∈l,∀h,stk.head?=some h→x∈succ h)→DOut leaf succ nodes st stk fin (goD f l st) (fun fin'=>∀x∈l,leaf x=true∨x∈fin')
 |[],st,fin,hi,_,_,_=>⟨fun h=>(by cases h),fun _=>⟨fin,hi,fun _ h=>h,Nat.le_refl _,fun x hx=>(by cases hx)⟩⟩
 |x::l,st,fin,hi,hk,hl,hs=>by
  obtain⟨h1,h2⟩:=hf st fin x hi hk (hl x List.mem_cons_self) (hs x List.mem_cons_self)
  unfold goD
  by_cases hr:(f st x).1=true
  ·rw [if_pos hr]
   exact⟨h1,fun h=>by rw [hr] at h;cases h⟩
  ·rw [if_neg hr]
   obtain⟨fin1,i1,m1,l1,p1⟩:=h2 (by simpa using hr)
   obtain⟨g1,g2⟩:=go_ok hf l (f st x).2 fin1 i1 (Nat.le_trans hk l1) (fun y hy=>hl y (List.mem_cons_of_mem _ hy)) (fun y hy=>hs y (List.mem_cons_of_mem _ hy))
   refine⟨g1,fun h=> ?_⟩
   obtain⟨fin2,i2,m2,l2,p2⟩:=g2 h
   refine⟨fin2,i2,fun a ha=>m2 a (m1 a ha),Nat.le_trans l1 l2,fun y hy=> ?_⟩
   rcases List.mem_cons.1 hy with e|e
   ·subst e
    exact p1.elim .inl fun z=>.inr (m2 _ z)
   ·exact p2 y e
theorem nodup_len:∀{l n:List α},l.Nodup→(∀a∈l,a∈n)→l.length≤n.length
 |[],_,_,_=>Nat.zero_le _
 |a::l,n,hd,hs=>by
  have⟨h1,h2⟩:=List.nodup_cons.1 hd
  have ha:=hs a List.mem_cons_self
  have:=nodup_len (l:=l) (n:=n.erase a) h2 fun b hb=>(List.mem_erase_of_ne (fun e:b=a=>h1 (by rw [←e];exact hb))).2 (hs b (List.mem_cons_of_mem _ hb))
  rw [List.length_erase_of_mem ha] at this
  have hp:=List.length_pos_of_mem ha
  rw [List.length_cons]
  omega
theorem stSet_keys (a:α) (v:Int):∀st:List (α×Int),(stSet a v st).map (·.1)=st.map (·.1)
 |[]=>rfl
 |p::st=>by
  unfold stSet
  split
  ·rfl
  ·rw [List.map_cons,List.map_cons,stSet_keys a v st]
omit [DecidableEq α] in
theorem snoc_split {fin l1 l2:List α} {t b:α} (h:fin++[t]=l1++b::l2):(b=t∧l1=fin)∨∃l3,fin=l1++b::l3:=by
 rcases List.eq_nil_or_concat l2 with e|⟨l3,c,e⟩
 ·subst e
  have:=List.append_inj' h rfl
  exact .inl ⟨(List.cons.inj this.2).1.symm,this.1.symm⟩
 ·subst e
  have h':fin++[t]=(l1++b::l3)++[c]:=by rw [h];simp
  exact .inr ⟨l3,(List.append_inj' h' rfl).1⟩
theorem DInv.push {leaf:α→Bool} {succ:α→List α} {nodes:List α} {st:List (α×Int)} {stk fin:List α} {t:α} (hi:DInv leaf succ nodes st stk fin) (hl:¬leaf t=true) (htn:t∈nodes) (htk:t∉st.map (·.1)) (htF:t∉fin) (hh:∀h,stk.head?=some h→t∈succ h):DInv leaf succ nodes (st++[(t,1)]) (t::stk) fin:=by
 refine⟨?_,?_,?_,?_,?_,?_,?_,hi.fd,hi.ord⟩
 ·rw [List.map_append]
  exact List.nodup_append.2 ⟨hi.nd,by simp,fun a ha b hb e=>by simp at hb;exact htk (by rw [←hb,←e];exact ha)⟩
 ·intro a ha
  rw [List.map_append] at ha
  rcases List.mem_append.1 ha with h|h
  ·exact hi.sub a h
  ·rw [List.mem_singleton.1 h];exact htn
 ·intro a
  rw [List.map_append,List.mem_append,hi.key a,List.mem_cons]
  simp only [List.map_cons,List.map_nil,List.mem_singleton]
  exact⟨fun z=>z.elim (fun w=>w.elim (fun u=>.inl (.inr u)) .inr) fun w=>.inl (.inl w),fun z=>z.elim (fun w=>w.elim .inr fun u=>.inl (.inl u)) fun w=>.inl (.inr w)⟩
 ·intro a
  rw [stGet_app t a 1 st htk,List.mem_cons]
  by_cases e:a=t
  ·rw [if_pos e];exact⟨fun _=>.inl e,fun _=>rfl⟩
  ·rw [if_neg e,hi.gray a];exact⟨.inr,fun z=>z.resolve_left e⟩
 ·intro a
  rw [stGet_app t a 1 st htk]
  by_cases e:a=t
  ·rw [if_pos e];exact⟨fun z=>absurd z (by decide),fun z=>absurd (e▸z) htF⟩
  ·rw [if_neg e,hi.black a]
 ·cases stk with
  |nil=>trivial
  |cons b l=>exact⟨hh b rfl,hi.path⟩
 ·intro a ha
  rcases List.mem_cons.1 ha with h|h
  ·rw [h];simpa using hl
  ·exact hi.leafS a h
theorem walk_ok {leaf:α→Bool} {succ:α→List α} {nodes:List α} (hnl:∀t∈nodes,leaf t=false) (hcl:∀t∈nodes,∀x∈succ t,leaf x=true∨x∈nodes):∀(n:Nat) (st:List (α×Int)) (stk fin:List α) (t:α),DInv leaf succ nodes st stk fin→nodes.length<n+st.length→(leaf t=true∨t∈nodes)→(∀h,stk.head?=some h→t∈succ h)→DOut leaf succ nodes st stk fin (walkD leaf succ n st t) (fun fin'=>leaf t=true∨t∈fin')
 |0,st,stk,fin,t,hi,hn,_,_=>by
  have:=nodup_len hi.nd hi.sub
  rw [List.length_map] at this
  omega
 |n+1,st,stk,fin,t,hi,hn,ht,hh=>by
  unfold walkD
  by_cases hl:leaf t=true
  ·rw [if_pos hl]
   exact⟨fun h=>(by cases h),fun _=>⟨fin,hi,fun _ h=>h,Nat.le_refl _,.inl hl⟩⟩
  rw [if_neg hl]
  have htn:t∈nodes:=ht.resolve_left hl
  by_cases h1:stGet t st=1
  ·rw [if_pos h1]
   refine⟨fun _=> ?_,fun h=>(by cases h)⟩
   obtain⟨l1,l2,hs⟩:=List.append_of_mem ((hi.gray t).1 h1)
   have hp:=hi.path
   rw [hs] at hp hh
   have hc:=path_cyc l1 t hp hh
   refine⟨l1++[t],by simp,fun x hx=>⟨hi.sub x ((hi.key x).2 (.inl ?_)),?_⟩⟩
   ·rw [hs]
    rcases List.mem_append.1 hx with h|h
    ·exact List.mem_append_left _ h
    ·rw [List.mem_singleton.1 h];simp
   ·obtain⟨y,hy,hys⟩:=hc x hx
    refine⟨y,?_,hys⟩
    rcases List.mem_cons.1 hy with h|h
    ·rw [h];simp
    ·exact h
  rw [if_neg h1]
  by_cases h2:stGet t st=2
  ·rw [if_pos h2]
   exact⟨fun h=>(by cases h),fun _=>⟨fin,hi,fun _ h=>h,Nat.le_refl _,.inr ((hi.black t).1 h2)⟩⟩
  rw [if_neg h2]
  have htk:t∉st.map (·.1):=fun h=>((hi.key t).1 h).elim (fun z=>h1 ((hi.gray t).2 z)) fun z=>h2 ((hi.black t).2 z)
  have htS:t∉stk:=fun z=>h1 ((hi.gray t).2 z)
  have htF:t∉fin:=fun z=>h2 ((hi.black t).2 z)
  have hi2:=hi.push hl htn htk htF hh
  obtain⟨g1,g2⟩:=go_ok (f:=walkD leaf succ n) (k:=st.length+1) (stk:=t::stk) (nodes:=nodes) (fun st' fin' x i' hk' hx hs'=>walk_ok hnl hcl n st' (t::stk) fin' x i' om hx hs') (succ t) (st++[(t,1)]) fin hi2 (by rw [List.length_append];exact Nat.le_refl _) (hcl t htn) (fun x hx h e=>by simp at e;subst e;exact hx)
  dsimp only
  by_cases hr:(goD (walkD leaf succ n) (succ t) (st++[(t,1)])).1=true
  ·rw [if_pos hr]
   exact⟨g1,fun h=>by rw [hr] at h;cases h⟩
  rw [if_neg hr]
  obtain⟨fin1,i1,m1,l1,p1⟩:=g2 (by simpa using hr)
  generalize goD (walkD leaf succ n) (succ t) (st++[(t,1)])=r at*
  refine⟨fun h=>(by cases h),fun _=>⟨fin1++[t],?_,fun a ha=>List.mem_append_left _ (m1 a ha),?_,.inr (by simp)⟩⟩
  ·have htk1:t∈r.2.map (·.1):=(i1.key t).2 (.inl List.mem_cons_self)
   have ht1:stGet t r.2=1:=(i1.gray t).2 List.mem_cons_self
   have htF1:t∉fin1:=fun z=>by have:=(i1.black t).2 z;rw [ht1] at this;cases this
   refine⟨?_,?_,?_,?_,?_,?_,fun a ha=>i1.leafS a (List.mem_cons_of_mem _ ha),List.nodup_append.2 ⟨i1.fd,by simp,fun a ha b hb e=>by simp at hb;exact htF1 (by rw [←hb,←e];exact ha)⟩,?_⟩
   ·rw [stSet_keys];exact i1.nd
   ·rw [stSet_keys];exact i1.sub
   ·intro a
    rw [stSet_keys,i1.key a,List.mem_cons,List.mem_append,List.mem_singleton]
    exact⟨fun z=>z.elim (fun w=>w.elim (fun u=>.inr (.inr u)) .inl) fun w=>.inr (.inl w),fun z=>z.elim (fun w=>.inl (.inr w)) fun w=>w.elim .inr fun u=>.inl (.inl u)⟩
   ·intro a
    rw [stGet_set]
    by_cases e:a=t
    ·rw [if_pos ⟨e,htk1⟩];exact⟨fun z=>absurd z (by decide),fun z=>absurd (e▸z) htS⟩
    ·rw [if_neg (fun z=>e z.1),i1.gray a,List.mem_cons];exact⟨fun z=>z.resolve_left e,.inr⟩
   ·intro a
    rw [stGet_set,List.mem_append,List.mem_singleton]
    by_cases e:a=t
    ·rw [if_pos ⟨e,htk1⟩];exact⟨fun _=>.inr e,fun _=>rfl⟩
    ·rw [if_neg (fun z=>e z.1),i1.black a];exact⟨.inl,fun z=>z.resolve_right e⟩
   ·have hp:=i1.path
    cases stk with
    |nil=>trivial
    |cons b l=>exact hp.2
   ·intro a1 b a2 hs x hx
    rcases snoc_split hs with ⟨e1,e2⟩|⟨a3,e⟩
    ·subst e1 e2
     exact p1 x hx
    ·exact i1.ord a1 b a3 e x hx
  ·have:(stSet t 2 r.2).length=r.2.length:=by rw [←List.length_map (·.1),stSet_keys,List.length_map]
   rw [List.length_append] at l1
   dsimp only
   omega
end
end Go.PN
namespace Go.PN
open Go.AI
section
variable {α : Type} [DecidableEq α]
theorem dinv_nil {leaf:α→Bool} {succ:α→List α} {nodes:List α}:DInv leaf succ nodes [] [] []:=
 ⟨List.nodup_nil,fun _ h=>(by cases h),fun a=>(by simp),fun a=>(by simp [stGet]),fun a=>(by simp [stGet]),trivial,fun _ h=>(by cases h),List.nodup_nil,fun l1 b l2 h=>(by simp at h)⟩
theorem idx_lt {l:List α} {a:α}:∀{l1 l2:List α},l=l1++a::l2→a∉l1→∀x∈l1,l.idxOf x<l.idxOf a:=by
 intro l1 l2 h hn x hx
 subst h
 rw [List.idxOf_append,List.idxOf_append,if_pos hx,if_neg hn]
 have:=List.idxOf_lt_length_iff.2 hx
 omega
end
end Go.PN
namespace Go.PN
open Go.AI
def resK (m:MdD) (k:Nat) (n:BS):Nat:=if bAt n 0=64 then(pgI m (n.drop 1)+1).toNat else k
def resN (m:MdD) (n:BS):BS:=if bAt n 0=64 then(m.pages.getD (pgI m (n.drop 1)).toNat pg0).top else n
def resA (m:MdD) (k:Nat) (n:BS):Int×Int×Int:=if evI m n≥0 then(0,0,evI m n) else if hsI m n≥0 then(1,0,hsI m n) else(2,(k:Int)-1,gtI (gtsK m k) n)
def resP (m:MdD) (k:Nat) (n:BS):Int×Int×Int:=resA m (resK m k n) (resN m n)
abbrev thA (t:Int×Int×Int):AV:=.agg [.int .i64 t.1,.int .i64 t.2.1,.int .i64 t.2.2]
end Go.PN
namespace Go.PN
open Go.AI
abbrev Th:=Int×Int×Int
def gtOf (m:MdD) (t:Th):GtD:=(gtsK m (t.2.1+1).toNat).getD t.2.2.toNat gt0
def leafT (t:Th):Bool:=decide (t.1≠2)
def nodesK (m:MdD) (k:Nat):List Th:=(List.range (gtsK m k).length).map fun(i:Nat)=>((2:Int),(k:Int)-1,(i:Int))
def nodesF (m:MdD) (k:Nat):Nat→List Th
 |0=>[]
 |n+1=>nodesK m k++nodesF m (k+1) n
def nodesT (m:MdD):List Th:=nodesF m 0 (m.pages.length+1)
theorem mem_nodesK {m:MdD} {k:Nat} {t:Th}:t∈nodesK m k↔∃i:Nat,i<(gtsK m k).length∧t=(2,(k:Int)-1,(i:Int)):=by
 unfold nodesK
 rw [List.mem_map]
 exact⟨fun⟨i,h1,h2⟩=>⟨i,List.mem_range.1 h1,h2.symm⟩,fun⟨i,h1,h2⟩=>⟨i,List.mem_range.2 h1,h2.symm⟩⟩
theorem mem_nodesF {m:MdD} {t:Th}:∀{n k:Nat},t∈nodesF m k n↔∃j i:Nat,k≤j∧j<k+n∧i<(gtsK m j).length∧t=(2,(j:Int)-1,(i:Int))
 |0,k=>⟨fun h=>(by cases h),fun⟨j,i,h1,h2,_⟩=>om⟩
 |n+1,k=>by
  show t∈nodesK m k++nodesF m (k+1) n↔_
  rw [List.mem_append,mem_nodesK,mem_nodesF]
  constructor
  ·rintro (⟨i,h1,h2⟩|⟨j,i,h1,h2,h3,h4⟩)
   ·exact⟨k,i,Nat.le_refl _,by omega,h1,h2⟩
   ·exact⟨j,i,by omega,by omega,h3,h4⟩
  ·rintro ⟨j,i,h1,h2,h3,h4⟩
   by_cases e:j=k
   ·subst e;exact .inl ⟨i,h3,h4⟩
   ·exact .inr ⟨j,i,by omega,by omega,h3,h4⟩
theorem mem_nodesT {m:MdD} {t:Th}:t∈nodesT m↔∃j i:Nat,j≤m.pages.length∧i<(gtsK m j).length∧t=(2,(j:Int)-1,(i:Int)):=by
 unfold nodesT
 rw [mem_nodesF]
 exact⟨fun⟨j,i,_,h2,h3⟩=>⟨j,i,by omega,h3⟩,fun⟨j,i,h2,h3⟩=>⟨j,i,by omega,by omega,h3⟩⟩
def sucT (m:MdD) (t:Th):List Th:=(gtOf m t).inputs.map (resP m (t.2.1+1).toNat)
def walkT (m:MdD):Nat→List (Th×Int)→Th→Bool×List (Th×Int):=walkD leafT (sucT m)
def cycB (m:MdD):Bool:=(goD (walkT m ((nodesT m).length+1)) (nodesT m) []).1
def InOk (m:MdD) (k:Nat) (n:BS):Prop:=0<n.length∧(bAt n 0=64→0≤pgI m (n.drop 1))∧(leafT (resP m k n)=true∨resP m k n∈nodesT m)
def InsOk (m:MdD):Prop:=∀k,k≤m.pages.length→∀i,i<(gtsK m k).length→∀n∈((gtsK m k).getD i gt0).inputs,InOk m k n
theorem leaf_nodes {m:MdD}:∀t∈nodesT m,leafT t=false:=fun t h=>by
 obtain⟨j,i,_,_,rfl⟩:=mem_nodesT.1 h
 rfl
theorem suc_nodes {m:MdD} (h:InsOk m):∀t∈nodesT m,∀x∈sucT m t,leafT x=true∨x∈nodesT m:=fun t ht x hx=>by
 obtain⟨j,i,h1,h2,rfl⟩:=mem_nodesT.1 ht
 have e:sucT m (2,(j:Int)-1,(i:Int))=((gtsK m j).getD i gt0).inputs.map (resP m j):=by
  unfold sucT gtOf
  dsimp only
  rw [show((j:Int)-1+1).toNat=j from by omega,Int.toNat_natCast]
 rw [e] at hx
 obtain⟨n,hn,rfl⟩:=List.mem_map.1 hx
 exact(h j h1 i h2 n hn).2.2
variable {α σ : Type}
theorem orC_0 {a b:Int}:orC a b=0↔a=0∧b=0:=by
 unfold orC
 split
 ·rename_i h;exact⟨fun e=>⟨h,e⟩,fun e=>e.2⟩
 ·rename_i h;exact⟨fun e=>absurd e h,fun e=>absurd e.1 h⟩
theorem frst_0 {f:Nat→α→Int} (d:α):∀{l:List α} {i:Nat},frst f l i=0→∀j,j<l.length→f (i+j) (l.getD j d)=0
 |x::l,i,h,j,hj=>by
  unfold frst at h
  split at h
  ·rename_i h0
   cases j with
   |zero=>simpa using h0
   |succ j=>
    have:=frst_0 d h j (by simpa using hj)
    rw [show i+(j+1)=i+1+j from by omega]
    simpa using this
  ·rename_i h0;exact absurd h h0
theorem frsS_0 {f:Nat→α→σ→Int×σ} (d:α):∀{l:List α} {i:Nat} {s:σ},(frsS f l i s).1=0→∀j,j<l.length→∃s,(f (i+j) (l.getD j d) s).1=0
 |x::l,i,s,h,j,hj=>by
  unfold frsS at h
  split at h
  ·rename_i h0
   cases j with
   |zero=>exact⟨s,by simpa using h0⟩
   |succ j=>
    obtain⟨s',h'⟩:=frsS_0 d h j (by simpa using hj)
    refine⟨s',?_⟩
    rw [show i+(j+1)=i+1+j from by omega]
    simpa using h'
  ·rename_i h0;exact absurd h h0
theorem frsN_0 {f:Nat→σ→Int×σ}:∀{n i:Nat} {s:σ},(frsN f n i s).1=0→∀j,j<n→∃s,(f (i+j) s).1=0
 |n+1,i,s,h,j,hj=>by
  unfold frsN at h
  split at h
  ·rename_i h0
   cases j with
   |zero=>exact⟨s,h0⟩
   |succ j=>
    obtain⟨s',h'⟩:=frsN_0 h j om
    refine⟨s',?_⟩
    rw [show i+(j+1)=i+1+j from by omega]
    exact h'
  ·rename_i h0;exact absurd h h0
theorem fidx_get {p:α→Bool} (d:α):∀{l:List α},0≤fidx p l→∃i:Nat,fidx p l=i∧i<l.length∧p (l.getD i d)=true
 |[],h=>absurd (show(0:Int)≤ -1 from h) (by decide)
 |x::l,h=>by
  unfold fidx at h⊢
  by_cases h0:p x=true
  ·rw [if_pos h0]
   exact⟨0,rfl,by simp,by simpa using h0⟩
  ·rw [if_neg h0] at h⊢
   by_cases h1:fidx p l<0
   ·rw [if_pos h1] at h;omega
   ·rw [if_neg h1]
    obtain⟨i,h2,h3,h4⟩:=fidx_get (p:=p) d (l:=l) om
    exact⟨i+1,by omega,by simpa using h3,by simpa using h4⟩
structure MdC (m:MdD):Prop where
 ev:∀i,i<m.events.length→nameOk (m.events.getD i ev0).name=true
 hs:∀i,i<m.houses.length→nameOk (m.houses.getD i hs0).name=true
 gt:∀k,k≤m.pages.length→∀i,i<(gtsK m k).length→gtC m k i ((gtsK m k).getD i gt0)=0
 inp:∀k,k≤m.pages.length→∀i,i<(gtsK m k).length→∀n∈((gtsK m k).getD i gt0).inputs,isInp m k n=true
 tp:∀k,k<m.pages.length→0≤gtI (m.pages.getD k pg0).gates (m.pages.getD k pg0).top∨0≤evI m (m.pages.getD k pg0).top
 top:isInp m 0 m.top=true
theorem mcode0_ok {m:MdD} (h:mcode0 m=0):MdC m:=by
 unfold mcode0 at h
 obtain⟨_,h⟩:=orC_0.1 h
 obtain⟨h1,h⟩:=orC_0.1 h
 obtain⟨_,h⟩:=orC_0.1 h
 obtain⟨h3,h⟩:=orC_0.1 h
 obtain⟨h4,h⟩:=orC_0.1 h
 obtain⟨h5,_⟩:=orC_0.1 h
 unfold evhC at h1
 split at h1
 ·cases h1
 obtain⟨h1,h2⟩:=orC_0.1 h1
 split at h2
 ·cases h2
 refine⟨fun i hi=> ?_,fun i hi=> ?_,fun k hk i hi=> ?_,fun k hk i hi n hn=> ?_,fun k hk=> ?_,?_⟩
 ·have:=frst_0 ev0 h1 i hi
  unfold evC at this
  split at this
  ·cases this
  ·rename_i e;simpa using e
 ·have:=frst_0 hs0 h2 i hi
  unfold hsC at this
  split at this
  ·cases this
  ·rename_i e;simpa using e
 ·obtain⟨_,hg⟩:=frsN_0 h3 k om
  rw [Nat.zero_add] at hg
  have:=frst_0 gt0 (show frst (gtC m k) (gtsK m k) 0=0 from hg) i hi
  rwa [Nat.zero_add] at this
 ·obtain⟨s,hg⟩:=frsN_0 h4 k om
  rw [Nat.zero_add] at hg
  unfold inP at hg
  split at hg
  ·rename_i e
   obtain⟨s2,h6⟩:=frsS_0 gt0 e i hi
   obtain⟨j,hj,rfl⟩:=List.getElem_of_mem hn
   obtain⟨s3,h7⟩:=frsS_0 ([]:BS) (show(frsS (inI m k ((gtsK m k).getD i gt0)) ((gtsK m k).getD i gt0).inputs 0 s2).1=0 from h6) j hj
   rw [Nat.zero_add,show((gtsK m k).getD i gt0).inputs.getD j []=((gtsK m k).getD i gt0).inputs[j] from by rw [List.getD_eq_getElem?_getD,List.getElem?_eq_getElem hj];rfl] at h7
   unfold inI at h7
   split at h7
   ·cases h7
   ·rename_i e;simpa using e
  ·rename_i e;exact absurd hg e
 ·obtain⟨s,hg⟩:=frsN_0 h4 (k+1) om
  rw [Nat.zero_add] at hg
  unfold inP at hg
  split at hg
  ·dsimp only [tpC] at hg
   split at hg
   ·cases hg
   ·rename_i e;omega
  ·rename_i e;exact absurd hg e
 ·split at h5
  ·assumption
  ·cases h5
theorem name_pos {s:BS} (h:nameOk s=true):0<s.length:=by
 unfold nameOk at h
 simp only [Bool.and_eq_true,decide_eq_true_eq] at h
 exact h.1.1.1
theorem resA_ok {m:MdD} {k:Nat} {n:BS} (hk:k≤m.pages.length) (h:0≤evI m n∨0≤hsI m n∨0≤gtI (gtsK m k) n):leafT (resA m k n)=true∨resA m k n∈nodesT m:=by
 unfold resA
 by_cases h1:evI m n≥0
 ·rw [if_pos h1];exact .inl rfl
 ·rw [if_neg h1]
  by_cases h2:hsI m n≥0
  ·rw [if_pos h2];exact .inl rfl
  ·rw [if_neg h2]
   have h3:0≤gtI (gtsK m k) n:=by omega
   obtain⟨i,h4,h5,_⟩:=fidx_get gt0 h3
   exact .inr (mem_nodesT.2 ⟨k,i,hk,h5,by rw [show gtI (gtsK m k) n=i from h4]⟩)
theorem InOk_of {m:MdD} (h:MdC m) {k:Nat} (hk:k≤m.pages.length) {n:BS} (hi:isInp m k n=true):InOk m k n:=by
 unfold isInp at hi
 by_cases h0:0<n.length∧bAt n 0=64
 ·rw [if_pos h0] at hi
  have hp:0≤pgI m (n.drop 1):=by simpa using hi
  obtain⟨q,h4,h5,_⟩:=fidx_get pg0 hp
  refine⟨h0.1,fun _=>hp,?_⟩
  unfold resP resK resN
  rw [if_pos h0.2,if_pos h0.2,show pgI m (n.drop 1)=q from h4,show((q:Int)+1).toNat=q+1 from by omega,Int.toNat_natCast]
  refine resA_ok om ?_
  rcases h.tp q h5 with e|e
  ·exact .inr (.inr e)
  ·exact .inl e
 ·rw [if_neg h0] at hi
  simp only [Bool.or_eq_true,decide_eq_true_eq] at hi
  have hp:0<n.length:=by
   cases n with
   |cons=>simp
   |nil=>
    exfalso
    rcases hi with (hi|hi)|hi
    ·obtain⟨i,_,h5,h6⟩:=fidx_get ev0 hi
     have:=name_pos (h.ev i h5)
     rw [show(m.events.getD i ev0).name=[] from by simpa using h6] at this
     cases this
    ·obtain⟨i,_,h5,h6⟩:=fidx_get hs0 hi
     have:=name_pos (h.hs i h5)
     rw [show(m.houses.getD i hs0).name=[] from by simpa using h6] at this
     cases this
    ·obtain⟨i,_,h5,h6⟩:=fidx_get gt0 hi
     have h7:=h.gt k hk i h5
     have e:((gtsK m k).getD i gt0).name=[]:=by simpa using h6
     unfold gtC at h7
     split at h7
     ·cases h7
     ·rename_i h8
      have:=name_pos (s:=((gtsK m k).getD i gt0).name) (by simpa using h8)
      rw [e] at this
      cases this
  have h64:¬bAt n 0=64:=fun e=>h0 ⟨hp,e⟩
  refine⟨hp,fun e=>absurd e h64,?_⟩
  unfold resP resK resN
  rw [if_neg h64,if_neg h64]
  refine resA_ok hk ?_
  rcases hi with (hi|hi)|hi
  ·exact .inl hi
  ·exact .inr (.inl hi)
  ·exact .inr (.inr hi)
theorem ins_ok {m:MdD} (h:MdC m):InsOk m:=fun k hk i hi n hn=>InOk_of h hk (h.inp k hk i hi n hn)
end Go.PN
namespace Go.PN
open Go.AI
variable {α : Type}
theorem fidx_le {p:α→Bool}:∀{l:List α} {i:Nat} (h:i<l.length),p l[i]=true→0≤fidx p l∧fidx p l≤i
 |x::l,i,h,hp=>by
  unfold fidx
  by_cases h0:p x=true
  ·rw [if_pos h0];exact⟨by omega,by omega⟩
  ·rw [if_neg h0]
   cases i with
   |zero=>exact absurd hp h0
   |succ i=>
    obtain⟨a,b⟩:=fidx_le (p:=p) (l:=l) (i:=i) (by simpa using h) (by simpa using hp)
    rw [if_neg om]
    omega
theorem fidx_here {p:α→Bool}:∀{l:List α},0≤fidx p l→∃i,∃h:i<l.length,fidx p l=(i:Int)∧p l[i]=true
 |[],h=>absurd (show(0:Int)≤ -1 from h) (by decide)
 |x::l,h=>by
  unfold fidx at h⊢
  by_cases h0:p x=true
  ·rw [if_pos h0];exact⟨0,by simp,rfl,h0⟩
  ·rw [if_neg h0] at h⊢
   by_cases h1:fidx p l<0
   ·rw [if_pos h1] at h;omega
   ·rw [if_neg h1]
    obtain⟨i,h2,h3,h4⟩:=fidx_here (p:=p) (l:=l) om
    exact⟨i+1,by simpa using h2,by omega,by simpa using h4⟩
theorem fidx_name (f:α→BS) (l:List α) (n:BS):0≤fidx (fun x=>f x==n) l↔n∈l.map f:=by
 constructor
 ·intro h
  obtain⟨i,hi,_,h2⟩:=fidx_here h
  exact List.mem_map.2 ⟨l[i],List.getElem_mem hi,by simpa using h2⟩
 ·intro h
  obtain⟨x,hx,rfl⟩:=List.mem_map.1 h
  obtain⟨i,hi,rfl⟩:=List.getElem_of_mem hx
  exact(fidx_le (p:=fun x=>f x==f l[i]) hi (by simp)).1
theorem fidx_nd (f:α→BS) (l:List α):(∀j (h:j<l.length),¬fidx (fun x=>f x==f l[j]) l<(j:Int))↔(l.map f).Nodup:=by
 rw [List.nodup_iff_pairwise_ne,List.pairwise_iff_getElem]
 constructor
 ·intro h i j hi hj hij e
  rw [List.length_map] at hi hj
  rw [List.getElem_map,List.getElem_map] at e
  have:=(fidx_le (p:=fun x=>f x==f l[j]) hi (by rw [e];simp)).2
  exact h j hj om
 ·intro h j hj hlt
  have h0:=(fidx_le (p:=fun x=>f x==f l[j]) hj (by simp)).1
  obtain⟨i,hi,h1,h2⟩:=fidx_here h0
  have:=h i j (by rw [List.length_map];exact hi) (by rw [List.length_map];exact hj) om
  rw [List.getElem_map,List.getElem_map] at this
  exact this (by simpa using h2)
theorem frst_iff {f:Nat→α→Int}:∀(l:List α) (i:Nat),frst f l i=0↔∀j (h:j<l.length),f (i+j) l[j]=0
 |[],i=>⟨fun _ j h=>absurd h (by simp),fun _=>rfl⟩
 |x::l,i=>by
  have ih:=frst_iff (f:=f) l (i+1)
  unfold frst
  constructor
  ·intro h j hj
   split at h
   ·rename_i h0
    cases j with
    |zero=>exact h0
    |succ j=>
     have:=(ih.1 h) j (by simpa using hj)
     rw [show i+(j+1)=i+1+j from by omega]
     exact this
   ·rename_i h0;exact absurd h h0
  ·intro h
   rw [if_pos (show f i x=0 from h 0 (by simp))]
   refine ih.2 fun j hj=> ?_
   have:=h (j+1) (by simpa using hj)
   rw [show i+(j+1)=i+1+j from by omega] at this
   exact this
theorem frsS_iff {f:Nat→α→List BS→Int×List BS} {A:Nat→α→Prop} {g:α→List BS} (hf:∀i x s,s.Nodup→(((f i x s).1=0↔A i x∧(s++g x).Nodup)∧((f i x s).1=0→(f i x s).2=s++g x))):∀(l:List α) (i:Nat) (s:List BS),s.Nodup→(((frsS f l i s).1=0↔(∀j (h:j<l.length),A (i+j) l[j])∧(s++l.flatMap g).Nodup)∧((frsS f l i s).1=0→(frsS f l i s).2=s++l.flatMap g))
 |[],i,s,hs=>⟨⟨fun _=>⟨fun j h=>absurd h (by simp),by simpa using hs⟩,fun _=>rfl⟩,fun _=>by simp [frsS]⟩
 |x::l,i,s,hs=>by
  obtain⟨h1,h2⟩:=hf i x s hs
  by_cases h0:(f i x s).1=0
  ·have hn:=h1.1 h0
   have e:=h2 h0
   obtain⟨i1,i2⟩:=frsS_iff hf l (i+1) (s++g x) hn.2
   have hu:frsS f (x::l) i s=frsS f l (i+1) (s++g x):=by
    show(if(f i x s).1=0 then frsS f l (i+1) (f i x s).2 else f i x s)=_
    rw [if_pos h0,e]
   rw [hu,List.flatMap_cons,←List.append_assoc]
   refine⟨i1.trans ⟨fun h=>⟨fun j hj=> ?_,h.2⟩,fun h=>⟨fun j hj=> ?_,h.2⟩⟩,i2⟩
   ·cases j with
    |zero=>exact hn.1
    |succ j=>
     have:=h.1 j (by simpa using hj)
     rw [show i+(j+1)=i+1+j from by omega]
     exact this
   ·have:=h.1 (j+1) (by simpa using hj)
    rw [show i+(j+1)=i+1+j from by omega] at this
    exact this
  ·have hu:frsS f (x::l) i s=f i x s:=by
    show(if(f i x s).1=0 then frsS f l (i+1) (f i x s).2 else f i x s)=_
    rw [if_neg h0]
   rw [hu]
   refine⟨⟨fun h=>absurd h h0,fun h=> ?_⟩,fun h=>absurd h h0⟩
   refine h1.2 ⟨h.1 0 (by simp),?_⟩
   have h3:=h.2
   rw [List.flatMap_cons,←List.append_assoc] at h3
   exact(List.nodup_append.1 h3).1
theorem frsN_iff {f:Nat→List BS→Int×List BS} {A:Nat→Prop} {g:Nat→List BS} (hf:∀i s,s.Nodup→(((f i s).1=0↔A i∧(s++g i).Nodup)∧((f i s).1=0→(f i s).2=s++g i))):∀(n i:Nat) (s:List BS),s.Nodup→((frsN f n i s).1=0↔(∀j,j<n→A (i+j))∧(s++(List.range' i n).flatMap g).Nodup)
 |0,i,s,hs=>⟨fun _=>⟨fun j h=>absurd h (by simp),by simpa using hs⟩,fun _=>rfl⟩
 |n+1,i,s,hs=>by
  obtain⟨h1,h2⟩:=hf i s hs
  rw [List.range'_succ,List.flatMap_cons,←List.append_assoc]
  by_cases h0:(f i s).1=0
  ·have hn:=h1.1 h0
   have i1:=frsN_iff hf n (i+1) (s++g i) hn.2
   have hu:frsN f (n+1) i s=frsN f n (i+1) (s++g i):=by
    show(if(f i s).1=0 then frsN f n (i+1) (f i s).2 else f i s)=_
    rw [if_pos h0,h2 h0]
   rw [hu]
   refine i1.trans ⟨fun h=>⟨fun j hj=> ?_,h.2⟩,fun h=>⟨fun j hj=> ?_,h.2⟩⟩
   ·cases j with
    |zero=>exact hn.1
    |succ j=>
     have:=h.1 j om
     rw [show i+(j+1)=i+1+j from by omega]
     exact this
   ·have:=h.1 (j+1) om
    rw [show i+(j+1)=i+1+j from by omega] at this
    exact this
  ·have hu:frsN f (n+1) i s=f i s:=by
    show(if(f i s).1=0 then frsN f n (i+1) (f i s).2 else f i s)=_
    rw [if_neg h0]
   rw [hu]
   refine⟨fun h=>absurd h h0,fun h=> ?_⟩
   exact h1.2 ⟨h.1 0 om,(List.nodup_append.1 h.2).1⟩
abbrev evN (m:MdD):List BS:=m.events.map EvD.name
abbrev hsN (m:MdD):List BS:=m.houses.map HsD.name
abbrev pgN (m:MdD):List BS:=m.pages.map PgD.name
abbrev gnN (L:List GtD):List BS:=L.map GtD.name
def InN (m:MdD) (L:List GtD) (i:BS):Prop:=(0<i.length∧bAt i 0=64)∧i.drop 1∈pgN m∨¬(0<i.length∧bAt i 0=64)∧(i∈evN m∨i∈hsN m∨i∈gnN L)
def spOf (x:GtD):List BS:=if x.kind=7 then x.inputs else []
def GtA (m:MdD) (L:List GtD) (x:GtD):Prop:=nameOk x.name=true∧x.name∉evN m∧x.name∉hsN m∧shpC x=0∧(∀i∈x.inputs,InN m L i)∧(x.kind=7→∀i∈x.inputs,i∈evN m)∧(x.kind=8→∀i∈x.inputs.drop 1,i∈evN m)
def GsA (m:MdD) (L:List GtD):Prop:=(gnN L).Nodup∧∀x∈L,GtA m L x
def EvA (x:EvD):Prop:=nameOk x.name=true∧x.p.prob=true∧rateB x.fail=true∧rateB x.rep=true∧0≤x.cost∧x.cost≤1073741824
def GrA (m:MdD) (x:GrD):Prop:=nameOk x.name=true∧(x.kind=0∨x.kind=1)∧(2≤(x.members.length:Int)∧(x.members.length:Int)≤(if x.kind=1 then 4 else 24)∧(x.factors.length:Int)=(if x.kind=1 then(x.members.length:Int)-1 else 1))∧(∀n∈x.members,n∈evN m)∧x.factors.all RD.prob=true
def PhA (m:MdD) (x:PhD):Prop:=nameOk x.name=true∧InN m m.gates x.top∧(∀v∈x.values,v.event∈evN m∧v.p.prob=true)∧(x.values.map VlD.event).Nodup
structure Good (m:MdD):Prop where
 nm:nameOk m.name=true
 evl:m.events.length≤24
 ev:∀x∈m.events,EvA x
 evn:(evN m).Nodup
 hsl:m.houses.length≤16
 hs:∀x∈m.houses,nameOk x.name=true∧x.name∉evN m
 hsn:(hsN m).Nodup
 pgl:m.pages.length≤8
 gtl:gtN m≤64
 pg:∀x∈m.pages,nameOk x.name=true∧GsA m x.gates∧(x.top∈gnN x.gates∨x.top∈evN m)
 pgn:(pgN m).Nodup
 gt:GsA m m.gates
 sp:((m.gates++m.pages.flatMap PgD.gates).flatMap spOf).Nodup
 tp:InN m m.gates m.top
 grl:m.groups.length≤8
 gr:∀x∈m.groups,GrA m x
 grn:(m.groups.map GrD.name).Nodup
 grm:(m.groups.flatMap GrD.members).Nodup
 phl:m.phases.length≤6
 ph:∀x∈m.phases,PhA m x
 phn:(m.phases.map PhD.name).Nodup
theorem evI_mem (m:MdD) (n:BS):evI m n<0↔n∉evN m:=by
 rw [←fidx_name EvD.name m.events n];exact⟨fun h=>by unfold evI at h;omega,fun h=>by unfold evI;omega⟩
theorem hsI_mem (m:MdD) (n:BS):hsI m n<0↔n∉hsN m:=by
 rw [←fidx_name HsD.name m.houses n];exact⟨fun h=>by unfold hsI at h;omega,fun h=>by unfold hsI;omega⟩
theorem gtI_mem (L:List GtD) (n:BS):gtI L n<0↔n∉gnN L:=by
 rw [←fidx_name GtD.name L n];exact⟨fun h=>by unfold gtI at h;omega,fun h=>by unfold gtI;omega⟩
theorem pgI_mem (m:MdD) (n:BS):pgI m n<0↔n∉pgN m:=by
 rw [←fidx_name PgD.name m.pages n];exact⟨fun h=>by unfold pgI at h;omega,fun h=>by unfold pgI;omega⟩
theorem isInp_N (m:MdD) (k:Nat) (i:BS):isInp m k i=true↔InN m (gtsK m k) i:=by
 have e1:=evI_mem m i
 have e2:=hsI_mem m i
 have e3:=gtI_mem (gtsK m k) i
 have e4:=pgI_mem m (i.drop 1)
 unfold isInp InN
 by_cases h:0<i.length∧bAt i 0=64
 ·rw [if_pos h]
  simp only [decide_eq_true_eq]
  constructor
  ·intro z;exact .inl ⟨h,Classical.byContradiction fun y=>by have:=e4.2 y;omega⟩
  ·rintro (⟨_,z⟩|⟨z,_⟩)
   ·exact Classical.byContradiction fun y=>e4.1 om z
   ·exact absurd h z
 ·rw [if_neg h]
  simp only [Bool.or_eq_true,decide_eq_true_eq]
  constructor
  ·rintro ((z|z)|z)
   ·exact .inr ⟨h,.inl (Classical.byContradiction fun y=>by have:=e1.2 y;omega)⟩
   ·exact .inr ⟨h,.inr (.inl (Classical.byContradiction fun y=>by have:=e2.2 y;omega))⟩
   ·exact .inr ⟨h,.inr (.inr (Classical.byContradiction fun y=>by have:=e3.2 y;omega))⟩
  ·rintro (⟨z,_⟩|⟨_,z|z|z⟩)
   ·exact absurd z h
   ·exact .inl (.inl (Classical.byContradiction fun y=>e1.1 om z))
   ·exact .inl (.inr (Classical.byContradiction fun y=>e2.1 om z))
   ·exact .inr (Classical.byContradiction fun y=>e3.1 om z)
end Go.PN
namespace Go.PN
open Go.AI
variable {α β : Type}
theorem ite0 {c:Prop} [Decidable c] {k a:Int} (hk:k≠0):(if c then k else a)=0↔¬c∧a=0:=by
 by_cases h:c
 ·rw [if_pos h];exact⟨fun e=>absurd e hk,fun e=>absurd h e.1⟩
 ·rw [if_neg h];exact⟨fun e=>⟨h,e⟩,fun e=>e.2⟩
theorem all_mem {P:α→Prop} {l:List α}:(∀j (h:j<l.length),P l[j])↔∀x∈l,P x:=by
 constructor
 ·intro h x hx
  obtain⟨i,hi,rfl⟩:=List.getElem_of_mem hx
  exact h i hi
 ·exact fun h j hj=>h _ (List.getElem_mem hj)
theorem evC_0 (m:MdD):frst (evC m) m.events 0=0↔(∀x∈m.events,EvA x)∧(evN m).Nodup:=by
 rw [frst_iff,←fidx_nd EvD.name,←all_mem]
 have h:∀(j:Nat) (x:EvD),evC m j x=0↔EvA x∧¬evI m x.name<j:=fun j x=>by
  unfold evC EvA
  rw [ite0 (by decide),ite0 (by decide),ite0 (by decide)]
  simp only [Bool.not_eq_false,not_or,Int.not_lt]
  constructor
  ·rintro ⟨a,b,⟨c,d,e,f,g⟩,_⟩;exact⟨⟨a,c,d,e,f,by omega⟩,by omega⟩
  ·rintro ⟨⟨a,c,d,e,f,g⟩,b⟩;exact⟨a,by omega,⟨c,d,e,f,by omega⟩,trivial⟩
 constructor
 ·exact fun z=>⟨fun j hj=>((h _ _).1 (z j hj)).1,fun j hj=>by have:=((h _ _).1 (z j hj)).2;rw [Nat.zero_add] at this;exact this⟩
 ·rintro ⟨a,b⟩ j hj
  exact(h _ _).2 ⟨a j hj,by rw [Nat.zero_add];exact b j hj⟩
theorem hsC_0 (m:MdD):frst (hsC m) m.houses 0=0↔(∀x∈m.houses,nameOk x.name=true∧x.name∉evN m)∧(hsN m).Nodup:=by
 rw [frst_iff,←fidx_nd HsD.name,←all_mem]
 have h:∀(j:Nat) (x:HsD),hsC m j x=0↔(nameOk x.name=true∧x.name∉evN m)∧¬hsI m x.name<j:=fun j x=>by
  have:=evI_mem m x.name
  unfold hsC
  rw [ite0 (by decide),ite0 (by decide),←this]
  simp only [Bool.not_eq_false,not_or]
  constructor
  ·rintro ⟨a,⟨b,c⟩,_⟩;exact⟨⟨a,by omega⟩,c⟩
  ·rintro ⟨⟨a,b⟩,c⟩;exact⟨a,⟨by omega,c⟩,trivial⟩
 constructor
 ·exact fun z=>⟨fun j hj=>((h _ _).1 (z j hj)).1,fun j hj=>by have:=((h _ _).1 (z j hj)).2;rw [Nat.zero_add] at this;exact this⟩
 ·rintro ⟨a,b⟩ j hj
  exact(h _ _).2 ⟨a j hj,by rw [Nat.zero_add];exact b j hj⟩
theorem pgC_0 (m:MdD):frst (pgC m) m.pages 0=0↔(∀x∈m.pages,nameOk x.name=true)∧(pgN m).Nodup:=by
 rw [frst_iff,←fidx_nd PgD.name,←all_mem]
 have h:∀(j:Nat) (x:PgD),pgC m j x=0↔nameOk x.name=true∧¬pgI m x.name<j:=fun j x=>by
  unfold pgC
  rw [ite0 (by decide),ite0 (by decide)]
  simp only [Bool.not_eq_false]
  exact⟨fun z=>⟨z.1,z.2.1⟩,fun z=>⟨z.1,z.2,trivial⟩⟩
 constructor
 ·exact fun z=>⟨fun j hj=>((h _ _).1 (z j hj)).1,fun j hj=>by have:=((h _ _).1 (z j hj)).2;rw [Nat.zero_add] at this;exact this⟩
 ·rintro ⟨a,b⟩ j hj
  exact(h _ _).2 ⟨a j hj,by rw [Nat.zero_add];exact b j hj⟩
def Gt1 (m:MdD) (L:List GtD):Prop:=(gnN L).Nodup∧∀x∈L,nameOk x.name=true∧x.name∉evN m∧x.name∉hsN m∧shpC x=0
theorem gtC_0 (m:MdD) (k:Nat):gtsC m k=0↔Gt1 m (gtsK m k):=by
 unfold gtsC Gt1
 rw [frst_iff,←fidx_nd GtD.name,←all_mem]
 have h:∀(j:Nat) (x:GtD),gtC m k j x=0↔(nameOk x.name=true∧x.name∉evN m∧x.name∉hsN m∧shpC x=0)∧¬gtI (gtsK m k) x.name<j:=fun j x=>by
  have e1:=evI_mem m x.name
  have e2:=hsI_mem m x.name
  unfold gtC
  rw [ite0 (by decide),ite0 (by decide),←e1,←e2]
  simp only [Bool.not_eq_false,not_or]
  constructor
  ·rintro ⟨a,⟨b,c,d⟩,e⟩;exact⟨⟨a,by omega,by omega,e⟩,d⟩
  ·rintro ⟨⟨a,b,c,e⟩,d⟩;exact⟨a,⟨by omega,by omega,d⟩,e⟩
 constructor
 ·exact fun z=>⟨fun j hj=>by have:=((h _ _).1 (z j hj)).2;rw [Nat.zero_add] at this;exact this,fun j hj=>((h _ _).1 (z j hj)).1⟩
 ·rintro ⟨b,a⟩ j hj
  exact(h _ _).2 ⟨a j hj,by rw [Nat.zero_add];exact b j hj⟩
theorem frsN_unit {f:Nat→Unit→Int×Unit}:∀(n i:Nat),(frsN f n i ()).1=0↔∀j,j<n→(f (i+j) ()).1=0
 |0,i=>⟨fun _ j h=>absurd h (by simp),fun _=>rfl⟩
 |n+1,i=>by
  have ih:=frsN_unit (f:=f) n (i+1)
  have hu:frsN f (n+1) i ()=if(f i ()).1=0 then frsN f n (i+1) () else f i ():=rfl
  rw [hu]
  constructor
  ·intro h j hj
   split at h
   ·rename_i h0
    cases j with
    |zero=>exact h0
    |succ j=>
     have:=(ih.1 h) j om
     rw [show i+(j+1)=i+1+j from by omega]
     exact this
   ·rename_i h0;exact absurd h h0
  ·intro h
   rw [if_pos (show(f i ()).1=0 from h 0 om)]
   refine ih.2 fun j hj=> ?_
   have:=h (j+1) om
   rw [show i+(j+1)=i+1+j from by omega] at this
   exact this
theorem gtsK_all (m:MdD) (Q:List GtD→Prop):(∀k,k≤m.pages.length→Q (gtsK m k))↔Q m.gates∧∀x∈m.pages,Q x.gates:=by
 have e:∀k (h:k<m.pages.length),gtsK m (k+1)=m.pages[k].gates:=fun k h=>by
  show(m.pages.getD k pg0).gates=_
  rw [List.getD_eq_getElem?_getD,List.getElem?_eq_getElem h];rfl
 constructor
 ·intro h
  refine⟨h 0 (Nat.zero_le _),fun x hx=> ?_⟩
  obtain⟨i,hi,rfl⟩:=List.getElem_of_mem hx
  rw [←e i hi]
  exact h (i+1) om
 ·rintro ⟨a,b⟩ k hk
  cases k with
  |zero=>exact a
  |succ k=>rw [e k om];exact b _ (List.getElem_mem _)
theorem gts_0 (m:MdD):(frsN (fun k (_:Unit)=>(gtsC m k,())) (m.pages.length+1) 0 ()).1=0↔Gt1 m m.gates∧∀x∈m.pages,Gt1 m x.gates:=by
 rw [frsN_unit,←gtsK_all m (Gt1 m)]
 constructor
 ·intro h k hk
  have:=h k om
  rw [Nat.zero_add] at this
  exact(gtC_0 m k).1 this
 ·intro h j hj
  rw [Nat.zero_add]
  exact(gtC_0 m j).2 (h j om)
def Gt2 (m:MdD) (L:List GtD) (x:GtD):Prop:=(∀i∈x.inputs,InN m L i)∧(x.kind=7→∀i∈x.inputs,i∈evN m)∧(x.kind=8→∀i∈x.inputs.drop 1,i∈evN m)
theorem app_one {s:List BS} (hs:s.Nodup) (i:BS):(s++[i]).Nodup↔s.contains i=false:=by
 rw [List.nodup_append]
 constructor
 ·rintro ⟨_,_,h⟩
  rw [Bool.eq_false_iff]
  intro e
  exact h i (List.contains_iff_mem.1 e) i (by simp) rfl
 ·intro h
  refine⟨hs,by simp,fun a ha b hb e=> ?_⟩
  rw [List.mem_singleton] at hb
  subst hb e
  rw [List.contains_iff_mem.2 ha] at h
  cases h
theorem inI_iff (m:MdD) (k:Nat) (x:GtD) (j:Nat) (i:BS) (s:List BS) (hs:s.Nodup):
  ((inI m k x j i s).1=0↔(isInp m k i=true∧¬(mustE x j=true∧evI m i<0))∧(s++(if x.kind=7 then [i] else [])).Nodup)∧((inI m k x j i s).1=0→(inI m k x j i s).2=s++(if x.kind=7 then [i] else [])):=by
 unfold inI
 by_cases h1:isInp m k i=false
 ·rw [if_pos h1]
  exact⟨⟨fun e=>absurd e (by dsimp only;decide),fun e=>absurd e.1.1 (by rw [h1];simp)⟩,fun e=>absurd e (by dsimp only;decide)⟩
 rw [if_neg h1]
 by_cases h2:mustE x j=true∧evI m i<0
 ·rw [if_pos h2]
  exact⟨⟨fun e=>absurd e (by dsimp only;decide),fun e=>absurd h2 e.1.2⟩,fun e=>absurd e (by dsimp only;decide)⟩
 rw [if_neg h2]
 by_cases h3:x.kind=7
 ·rw [if_pos h3,if_pos h3,app_one hs]
  by_cases h4:s.contains i=true
  ·rw [if_pos h4]
   exact⟨⟨fun e=>absurd e (by dsimp only;decide),fun e=>absurd e.2 (by rw [h4];simp)⟩,fun e=>absurd e (by dsimp only;decide)⟩
  ·rw [if_neg h4]
   exact⟨⟨fun _=>⟨⟨by simpa using h1,h2⟩,by simpa using h4⟩,fun _=>rfl⟩,fun _=>rfl⟩
 ·rw [if_neg h3,if_neg h3,List.append_nil]
  exact⟨⟨fun _=>⟨⟨by simpa using h1,h2⟩,hs⟩,fun _=>rfl⟩,fun _=>rfl⟩
theorem sp_flat (x:GtD):(x.inputs.flatMap fun i=>if x.kind=7 then [i] else [])=spOf x:=by
 unfold spOf
 split
 ·induction x.inputs with
  |nil=>rfl
  |cons a l ih=>rw [List.flatMap_cons,ih];rfl
 ·induction x.inputs with
  |nil=>rfl
  |cons a l ih=>rw [List.flatMap_cons,ih];rfl
theorem must_0 (m:MdD) (k:Nat) (x:GtD):(∀j (h:j<x.inputs.length),isInp m k x.inputs[j]=true∧¬(mustE x j=true∧evI m x.inputs[j]<0))↔Gt2 m (gtsK m k) x:=by
 have hm:∀j,mustE x j=true↔x.kind=7∨x.kind=8∧0<j:=fun j=>by unfold mustE;simp
 have hn:∀i,(¬evI m i<0)↔i∈evN m:=fun i=>by rw [evI_mem];exact Classical.not_not
 constructor
 ·intro h
  refine⟨fun i hi=> ?_,fun h7 i hi=> ?_,fun h8 i hi=> ?_⟩
  ·obtain⟨j,hj,rfl⟩:=List.getElem_of_mem hi
   exact(isInp_N m k _).1 (h j hj).1
  ·obtain⟨j,hj,rfl⟩:=List.getElem_of_mem hi
   exact(hn _).1 fun z=>(h j hj).2 ⟨(hm j).2 (.inl h7),z⟩
  ·obtain⟨j,hj,rfl⟩:=List.getElem_of_mem hi
   rw [List.length_drop] at hj
   rw [List.getElem_drop]
   exact(hn _).1 fun z=>(h (1+j) om).2 ⟨(hm _).2 (.inr ⟨h8,by omega⟩),z⟩
 ·rintro ⟨a,b,c⟩ j hj
  refine⟨(isInp_N m k _).2 (a _ (List.getElem_mem hj)),fun⟨z1,z2⟩=> ?_⟩
  rcases(hm j).1 z1 with h7|⟨h8,h0⟩
  ·exact(hn _).2 (b h7 _ (List.getElem_mem hj)) z2
  ·have:x.inputs[j]∈x.inputs.drop 1:=by
    rw [List.mem_drop_iff_getElem]
    exact⟨j-1,by omega,by congr 1;omega⟩
   exact(hn _).2 (c h8 _ this) z2
theorem inP_iff (m:MdD) (k:Nat) (s:List BS) (hs:s.Nodup):((inP m k s).1=0↔((∀x∈gtsK m k,Gt2 m (gtsK m k) x)∧tpC m k=0)∧(s++(gtsK m k).flatMap spOf).Nodup)∧((inP m k s).1=0→(inP m k s).2=s++(gtsK m k).flatMap spOf):=by
 have h1:=frsS_iff (f:=inG m k) (A:=fun _ x=>Gt2 m (gtsK m k) x) (g:=spOf) (fun i x s hs=>by
  have h:=frsS_iff (f:=inI m k x) (A:=fun j i=>isInp m k i=true∧¬(mustE x j=true∧evI m i<0)) (g:=fun i=>if x.kind=7 then [i] else []) (fun j i s hs=>inI_iff m k x j i s hs) x.inputs 0 s hs
  rw [sp_flat] at h
  have e:(∀j (h:j<x.inputs.length),isInp m k x.inputs[j]=true∧¬(mustE x (0+j)=true∧evI m x.inputs[j]<0))↔Gt2 m (gtsK m k) x:=by
   rw [←must_0]
   simp only [Nat.zero_add]
  rw [e] at h
  exact h) (gtsK m k) 0 s hs
 rw [all_mem (P:=fun x=>Gt2 m (gtsK m k) x)] at h1
 obtain⟨h1,h2⟩:=h1
 unfold inP
 by_cases h0:(frsS (inG m k) (gtsK m k) 0 s).1=0
 ·rw [if_pos h0]
  have h3:=h1.1 h0
  refine⟨⟨fun e=>⟨⟨h3.1,e⟩,h3.2⟩,fun e=>e.1.2⟩,fun _=>h2 h0⟩
 ·rw [if_neg h0]
  exact⟨⟨fun e=>absurd e h0,fun e=>h1.2 ⟨e.1.1,e.2⟩⟩,fun e=>absurd e h0⟩
theorem flat_congr {f g:α→List β}:∀{l:List α},(∀x∈l,f x=g x)→l.flatMap f=l.flatMap g
 |[],_=>rfl
 |x::l,h=>by
  rw [List.flatMap_cons,List.flatMap_cons,h x List.mem_cons_self,flat_congr fun y hy=>h y (List.mem_cons_of_mem _ hy)]
theorem range_getD (F:α→List β) (d:α) (l:List α):(List.range' 1 l.length).flatMap (fun k=>F (l.getD (k-1) d))=l.flatMap F:=by
 have e:(List.range' 1 l.length).map (fun k=>l.getD (k-1) d)=l:=by
  refine List.ext_getElem (by simp) fun i h1 h2=> ?_
  rw [List.getElem_map,List.getElem_range',List.getD_eq_getElem?_getD,show 1+1*i-1=i from by omega,List.getElem?_eq_getElem h2];rfl
 conv=>rhs;rw [←e]
 rw [List.flatMap_map]
theorem gtsK_flat (F:GtD→List β) (m:MdD):(List.range' 0 (m.pages.length+1)).flatMap (fun k=>(gtsK m k).flatMap F)=(m.gates++m.pages.flatMap PgD.gates).flatMap F:=by
 rw [List.range'_succ,List.flatMap_cons,List.flatMap_append]
 congr 1
 rw [List.flatMap_assoc,←range_getD (fun x:PgD=>x.gates.flatMap F) pg0 m.pages]
 refine flat_congr fun k hk=> ?_
 rw [List.mem_range'] at hk
 obtain⟨i,_,rfl⟩:=hk
 rw [show 0+1+1*i=i+1 from by omega,show i+1-1=i from rfl]
 rfl
theorem inN_0 (m:MdD):(frsN (inP m) (m.pages.length+1) 0 []).1=0↔((∀x∈m.gates,Gt2 m m.gates x)∧∀p∈m.pages,(∀x∈p.gates,Gt2 m p.gates x)∧(p.top∈gnN p.gates∨p.top∈evN m))∧((m.gates++m.pages.flatMap PgD.gates).flatMap spOf).Nodup:=by
 have h:=frsN_iff (f:=inP m) (A:=fun k=>(∀x∈gtsK m k,Gt2 m (gtsK m k) x)∧tpC m k=0) (g:=fun k=>(gtsK m k).flatMap spOf) (fun k s hs=>inP_iff m k s hs) (m.pages.length+1) 0 [] List.nodup_nil
 rw [List.nil_append,gtsK_flat] at h
 rw [h]
 refine and_congr ?_ Iff.rfl
 have ht:∀k (h:k<m.pages.length),tpC m (k+1)=0↔(m.pages[k].top∈gnN m.pages[k].gates∨m.pages[k].top∈evN m):=fun k h=>by
  have e:m.pages.getD k pg0=m.pages[k]:=by rw [List.getD_eq_getElem?_getD,List.getElem?_eq_getElem h];rfl
  show(if _ then(5:Int) else 0)=0↔_
  rw [e,ite0 (by decide),gtI_mem,evI_mem,Classical.not_and_iff_not_or_not,Classical.not_not,Classical.not_not]
  exact⟨fun z=>z.1,fun z=>⟨z,rfl⟩⟩
 constructor
 ·intro h
  refine⟨by have:=(h 0 om).1;exact this,fun p hp=> ?_⟩
  obtain⟨i,hi,rfl⟩:=List.getElem_of_mem hp
  have h1:=h (i+1) om
  rw [Nat.zero_add] at h1
  have e:gtsK m (i+1)=m.pages[i].gates:=by
   show(m.pages.getD i pg0).gates=_
   rw [List.getD_eq_getElem?_getD,List.getElem?_eq_getElem hi];rfl
  rw [e] at h1
  exact⟨h1.1,(ht i hi).1 h1.2⟩
 ·rintro ⟨a,b⟩ j hj
  rw [Nat.zero_add]
  cases j with
  |zero=>exact⟨a,rfl⟩
  |succ j=>
   have hi:j<m.pages.length:=by omega
   have e:gtsK m (j+1)=m.pages[j].gates:=by
    show(m.pages.getD j pg0).gates=_
    rw [List.getD_eq_getElem?_getD,List.getElem?_eq_getElem hi];rfl
   obtain⟨c,d⟩:=b _ (List.getElem_mem hi)
   rw [e]
   exact⟨c,(ht j hi).2 d⟩
theorem meC_iff (m:MdD) (j:Nat) (n:BS) (s:List BS) (hs:s.Nodup):((meC m j n s).1=0↔n∈evN m∧(s++[n]).Nodup)∧((meC m j n s).1=0→(meC m j n s).2=s++[n]):=by
 unfold meC
 rw [app_one hs]
 by_cases h1:evI m n<0
 ·rw [if_pos h1]
  exact⟨⟨fun e=>absurd e (by dsimp only;decide),fun e=>absurd e.1 ((evI_mem m n).1 h1)⟩,fun e=>absurd e (by dsimp only;decide)⟩
 rw [if_neg h1]
 have h2:n∈evN m:=Classical.byContradiction fun z=>h1 ((evI_mem m n).2 z)
 by_cases h4:s.contains n=true
 ·rw [if_pos h4]
  exact⟨⟨fun e=>absurd e (by dsimp only;decide),fun e=>absurd e.2 (by rw [h4];simp)⟩,fun e=>absurd e (by dsimp only;decide)⟩
 ·rw [if_neg h4]
  exact⟨⟨fun _=>⟨h2,by simpa using h4⟩,fun _=>rfl⟩,fun _=>rfl⟩
theorem flat_one (l:List α):(l.flatMap fun x=>[x])=l:=by
 induction l with
 |nil=>rfl
 |cons a l ih=>rw [List.flatMap_cons,ih];rfl
theorem grC_iff (m:MdD) (i:Nat) (x:GrD) (s:List BS) (hs:s.Nodup):((grC m i x s).1=0↔(GrA m x∧¬fidx (fun y:GrD=>y.name==x.name) m.groups<i)∧(s++x.members).Nodup)∧((grC m i x s).1=0→(grC m i x s).2=s++x.members):=by
 have hm:=frsS_iff (f:=meC m) (A:=fun _ n=>n∈evN m) (g:=fun n=>[n]) (fun j n s hs=>meC_iff m j n s hs) x.members 0 s hs
 rw [flat_one,all_mem (P:=fun n=>n∈evN m)] at hm
 obtain⟨m1,m2⟩:=hm
 have no:∀{c:Int} {p:List BS} {q:Prop},c≠0→(¬q)→(((c,p).1=0↔q)∧((c,p).1=0→(c,p).2=s++x.members)):=fun hc hq=>⟨⟨fun e=>absurd e hc,fun e=>absurd e hq⟩,fun e=>absurd e hc⟩
 unfold grC
 by_cases h1:nameOk x.name=false
 ·rw [if_pos h1]
  exact no (by decide) fun z=>by have:=z.1.1.1;rw [h1] at this;cases this
 rw [if_neg h1]
 by_cases h2:fidx (fun y:GrD=>y.name==x.name) m.groups<i
 ·rw [if_pos h2]
  exact no (by decide) fun z=>z.1.2 h2
 rw [if_neg h2]
 by_cases h3:x.kind≠0∧x.kind≠1
 ·rw [if_pos h3]
  exact no (by decide) fun z=>by have:=z.1.1.2.1;omega
 rw [if_neg h3]
 by_cases h4:(x.members.length:Int)<2∨(x.members.length:Int)>(if x.kind=1 then 4 else 24)∨(x.factors.length:Int)≠(if x.kind=1 then(x.members.length:Int)-1 else 1)
 ·rw [if_pos h4]
  exact no (by decide) fun z=>by
   obtain⟨a,b,c⟩:=z.1.1.2.2.1
   rcases h4 with h4|h4|h4
   ·omega
   ·omega
   ·exact h4 c
 rw [if_neg h4]
 by_cases h5:(frsS (meC m) x.members 0 s).1≠0
 ·rw [if_pos h5]
  exact⟨⟨fun e=>absurd e h5,fun e=>m1.2 ⟨e.1.1.2.2.2.1,e.2⟩⟩,fun e=>absurd e h5⟩
 rw [if_neg h5]
 have h5':(frsS (meC m) x.members 0 s).1=0:=by omega
 have h6:=m1.1 h5'
 by_cases h7:x.factors.all RD.prob=false
 ·rw [if_pos h7]
  exact no (by decide) fun z=>by have:=z.1.1.2.2.2.2;rw [h7] at this;cases this
 rw [if_neg h7]
 simp only [not_or,Int.not_lt,Classical.not_not] at h4
 refine⟨⟨fun _=>⟨⟨⟨by simpa using h1,by omega,⟨h4.1,by omega,h4.2.2⟩,h6.1,by simpa using h7⟩,h2⟩,h6.2⟩,fun _=>rfl⟩,fun _=>m2 h5'⟩
theorem grs_0 (m:MdD):grsC m=0↔m.groups.length≤8∧(∀x∈m.groups,GrA m x)∧(m.groups.map GrD.name).Nodup∧(m.groups.flatMap GrD.members).Nodup:=by
 unfold grsC
 rw [ite0 (by decide)]
 have h:=(frsS_iff (f:=grC m) (A:=fun i x=>GrA m x∧¬fidx (fun y:GrD=>y.name==x.name) m.groups<i) (g:=GrD.members) (fun i x s hs=>grC_iff m i x s hs) m.groups 0 [] List.nodup_nil).1
 rw [h,List.nil_append,←fidx_nd GrD.name,←all_mem (P:=fun x=>GrA m x)]
 simp only [Nat.zero_add]
 constructor
 ·rintro ⟨a,b,c⟩;exact⟨by omega,fun j hj=>(b j hj).1,fun j hj=>(b j hj).2,c⟩
 ·rintro ⟨a,b,c,d⟩;exact⟨by omega,fun j hj=>⟨b j hj,c j hj⟩,d⟩
theorem vls_0 (m:MdD) (x:PhD):frst (vlC m x) x.values 0=0↔(∀v∈x.values,v.event∈evN m∧v.p.prob=true)∧(x.values.map VlD.event).Nodup:=by
 rw [frst_iff,←fidx_nd VlD.event,←all_mem]
 have h:∀(j:Nat) (v:VlD),vlC m x j v=0↔(v.event∈evN m∧v.p.prob=true)∧¬fidx (fun y:VlD=>y.event==v.event) x.values<j:=fun j v=>by
  unfold vlC
  rw [ite0 (by decide),ite0 (by decide),ite0 (by decide),evI_mem,Classical.not_not]
  simp only [Bool.not_eq_false]
  exact⟨fun z=>⟨⟨z.1,z.2.2.1⟩,z.2.1⟩,fun z=>⟨z.1.1,z.2,z.1.2,trivial⟩⟩
 constructor
 ·exact fun z=>⟨fun j hj=>((h _ _).1 (z j hj)).1,fun j hj=>by have:=((h _ _).1 (z j hj)).2;rw [Nat.zero_add] at this;exact this⟩
 ·rintro ⟨a,b⟩ j hj
  exact(h _ _).2 ⟨a j hj,by rw [Nat.zero_add];exact b j hj⟩
theorem phs_0 (m:MdD):phsC m=0↔m.phases.length≤6∧(∀x∈m.phases,PhA m x)∧(m.phases.map PhD.name).Nodup:=by
 unfold phsC
 rw [ite0 (by decide),frst_iff,←fidx_nd PhD.name,←all_mem]
 have h:∀(j:Nat) (x:PhD),phC m j x=0↔PhA m x∧¬fidx (fun y:PhD=>y.name==x.name) m.phases<j:=fun j x=>by
  unfold phC PhA
  have e:=isInp_N m 0 x.top
  rw [ite0 (by decide),ite0 (by decide),ite0 (by decide),vls_0]
  simp only [Bool.not_eq_false]
  rw [e]
  exact⟨fun z=>⟨⟨z.1,z.2.2.1,z.2.2.2.1,z.2.2.2.2⟩,z.2.1⟩,fun z=>⟨z.1.1,z.2,z.1.2.1,z.1.2.2.1,z.1.2.2.2⟩⟩
 constructor
 ·rintro ⟨a,z⟩
  exact⟨by omega,fun j hj=>((h _ _).1 (z j hj)).1,fun j hj=>by have:=((h _ _).1 (z j hj)).2;rw [Nat.zero_add] at this;exact this⟩
 ·rintro ⟨c,a,b⟩
  exact⟨by omega,fun j hj=>(h _ _).2 ⟨a j hj,by rw [Nat.zero_add];exact b j hj⟩⟩
theorem good_iff (m:MdD):mcode0 m=0↔Good m:=by
 unfold mcode0 evhC pgsC
 rw [orC_0,orC_0,orC_0,orC_0,orC_0,orC_0,orC_0,ite0 (c:=m.events.length>24) (k:=4) (by decide),orC_0,ite0 (c:=m.houses.length>16) (k:=4) (by decide),ite0 (c:=m.pages.length>8∨gtN m>64) (k:=4) (by decide),evC_0,hsC_0,pgC_0,gts_0,inN_0,grs_0,phs_0]
 have et:=isInp_N m 0 m.top
 constructor
 ·rintro ⟨a1,⟨a2,⟨a3,a4⟩,a5,a6,a7⟩,⟨a8,a9,a10⟩,⟨a11,a12⟩,⟨⟨a13,a14⟩,a15⟩,a16,⟨a17,a18,a19,a20⟩,a21,a22,a23⟩
  have t1:nameOk m.name=true:=by
   by_cases z:nameOk m.name=true
   ·exact z
   ·rw [if_neg z] at a1;cases a1
  have t2:isInp m 0 m.top=true:=by
   by_cases z:isInp m 0 m.top=true
   ·exact z
   ·rw [if_neg z] at a16;cases a16
  refine⟨t1,by omega,a3,a4,by omega,a6,a7,by omega,by omega,fun x hx=>⟨a9 x hx,⟨(a12 x hx).1,fun g hg=> ?_⟩,(a14 x hx).2⟩,a10,⟨a11.1,fun g hg=> ?_⟩,a15,et.1 t2,a17,a18,a19,a20,a21,a22,a23⟩
  ·obtain⟨b1,b2,b3,b4⟩:=(a12 x hx).2 g hg
   exact⟨b1,b2,b3,b4,(a14 x hx).1 g hg⟩
  ·obtain⟨b1,b2,b3,b4⟩:=a11.2 g hg
   exact⟨b1,b2,b3,b4,a13 g hg⟩
 ·intro h
  have g1:∀{L:List GtD},GsA m L→Gt1 m L:=fun z=>⟨z.1,fun x hx=>⟨(z.2 x hx).1,(z.2 x hx).2.1,(z.2 x hx).2.2.1,(z.2 x hx).2.2.2.1⟩⟩
  have g2:∀{L:List GtD},GsA m L→∀x∈L,Gt2 m L x:=fun z x hx=>(z.2 x hx).2.2.2.2
  have:=h.evl
  have:=h.hsl
  have:=h.pgl
  have:=h.gtl
  refine⟨if_pos h.nm,⟨by omega,⟨h.ev,h.evn⟩,by omega,h.hs,h.hsn⟩,⟨by omega,fun x hx=>(h.pg x hx).1,h.pgn⟩,⟨g1 h.gt,fun x hx=>g1 (h.pg x hx).2.1⟩,⟨⟨g2 h.gt,fun x hx=>⟨g2 (h.pg x hx).2.1,(h.pg x hx).2.2⟩⟩,h.sp⟩,if_pos (et.2 h.tp),⟨h.grl,h.gr,h.grn,h.grm⟩,h.phl,h.ph,h.phn⟩
end Go.PN
namespace Go.PN
open Go.AI
variable {α β : Type}
abbrev ltB:BS→BS→Bool:=Go.Op.bytesLess
theorem ltB_irr:∀a:BS,ltB a a=false
 |[]=>rfl
 |x::a=>by
  show(decide (x<x)||(x==x&&ltB a a))=false
  rw [ltB_irr a];simp
theorem ltB_tot:∀{a b:BS},ltB a b=false→ltB b a=false→a=b
 |[],[],_,_=>rfl
 |[],_::_,h,_=>by cases h
 |_::_,[],_,h=>by cases h
 |x::a,y::b,h1,h2=>by
  replace h1:(decide (x<y)||(x==y&&ltB a b))=false:=h1
  replace h2:(decide (y<x)||(y==x&&ltB b a))=false:=h2
  simp only [Bool.or_eq_false_iff,decide_eq_false_iff_not,Bool.and_eq_false_iff,beq_eq_false_iff_ne] at h1 h2
  have hxy:x=y:=by
   apply UInt8.toNat_inj.1
   have a1:¬x.toNat<y.toNat:=h1.1
   have a2:¬y.toNat<x.toNat:=h2.1
   omega
  subst hxy
  rw [ltB_tot (h1.2.resolve_left fun z=>z rfl) (h2.2.resolve_left fun z=>z rfl)]
theorem ltB_trans:∀{a b c:BS},ltB a b=true→ltB b c=true→ltB a c=true
 |_,_,[],_,h=>by cases ‹BS›<;>cases h
 |[],_,_::_,_,_=>rfl
 |_::_,[],_::_,h,_=>by cases h
 |x::a,y::b,z::c,h1,h2=>by
  replace h1:(decide (x<y)||(x==y&&ltB a b))=true:=h1
  replace h2:(decide (y<z)||(y==z&&ltB b c))=true:=h2
  show(decide (x<z)||(x==z&&ltB a c))=true
  simp only [Bool.or_eq_true,decide_eq_true_eq,Bool.and_eq_true,beq_iff_eq] at h1 h2⊢
  rcases h1 with h1|⟨rfl,h1⟩<;>rcases h2 with h2|⟨rfl,h2⟩
  ·left
   have a1:x.toNat<y.toNat:=h1
   have a2:y.toNat<z.toNat:=h2
   show x.toNat<z.toNat
   omega
  ·exact .inl h1
  ·exact .inl h2
  ·exact .inr ⟨rfl,ltB_trans h1 h2⟩
theorem ltB_asym {a b:BS} (h:ltB a b=true):ltB b a=false:=by
 rw [Bool.eq_false_iff]
 intro e
 have:=ltB_trans h e
 rw [ltB_irr] at this
 cases this
theorem leB_trans {a b c:BS} (h1:ltB b a=false) (h2:ltB c b=false):ltB c a=false:=by
 rw [Bool.eq_false_iff]
 intro e
 by_cases h:ltB b c=true
 ·have:=ltB_trans h e
  rw [h1] at this;cases this
 ·have e2:=ltB_tot (by simpa using h) h2
  subst e2
  rw [h1] at e;cases e
def insK (f:α→BS) (x:α) (l:List α):List α:=(l.reverse.dropWhile fun y=>ltB (f x) (f y)).reverse++x::(l.reverse.takeWhile fun y=>ltB (f x) (f y)).reverse
def sortK (f:α→BS) (l:List α):List α:=l.foldl (fun a x=>insK f x a) []
def SrtK (f:α→BS) (l:List α):Prop:=l.Pairwise fun a b=>ltB (f b) (f a)=false
theorem insK_perm (f:α→BS) (x:α) (l:List α):(insK f x l).Perm (x::l):=by
 unfold insK
 refine List.perm_middle.trans (.cons _ ?_)
 have h:=List.takeWhile_append_dropWhile (p:=fun y=>ltB (f x) (f y)) (l:=l.reverse)
 have h2:(l.reverse.dropWhile fun y=>ltB (f x) (f y)).reverse++(l.reverse.takeWhile fun y=>ltB (f x) (f y)).reverse=l:=by
  rw [←List.reverse_append,h,List.reverse_reverse]
 rw [h2]
theorem dropW_head {p:α→Bool}:∀{l:List α} {a:α} {r:List α},l.dropWhile p=a::r→p a=false
 |[],_,_,h=>by cases h
 |x::l,a,r,h=>by
  rw [List.dropWhile_cons] at h
  split at h
  ·exact dropW_head h
  ·rename_i e
   injection h with h1 h2
   subst h1
   simpa using e
theorem insK_srt {f:α→BS} (x:α) {l:List α} (h:SrtK f l):SrtK f (insK f x l):=by
 have h2:(l.reverse.dropWhile fun y=>ltB (f x) (f y)).reverse++(l.reverse.takeWhile fun y=>ltB (f x) (f y)).reverse=l:=by
  rw [←List.reverse_append,List.takeWhile_append_dropWhile,List.reverse_reverse]
 have ht:∀y∈l.reverse.takeWhile fun y=>ltB (f x) (f y),ltB (f x) (f y)=true:=fun y hy=>by
  have:=List.all_takeWhile (p:=fun y=>ltB (f x) (f y)) (l:=l.reverse)
  exact List.all_eq_true.1 this y hy
 have hd:∀a r,(l.reverse.dropWhile fun y=>ltB (f x) (f y))=a::r→ltB (f x) (f a)=false:=fun a r e=>dropW_head (p:=fun y=>ltB (f x) (f y)) e
 unfold insK SrtK
 unfold SrtK at h
 rw [←h2,List.pairwise_append] at h
 generalize (l.reverse.dropWhile fun y=>ltB (f x) (f y))=D at*
 generalize (l.reverse.takeWhile fun y=>ltB (f x) (f y))=T at*
 obtain⟨h3,h4,h5⟩:=h
 have hD:∀a∈D.reverse,ltB (f x) (f a)=false:=fun a ha=>by
  cases D with
  |nil=>cases ha
  |cons b r=>
   have hb:=hd b r rfl
   rw [List.reverse_cons,List.pairwise_append] at h3
   rw [List.reverse_cons,List.mem_append] at ha
   rcases ha with ha|ha
   ·exact leB_trans (h3.2.2 a ha b (by simp)) hb
   ·rw [List.mem_singleton] at ha;rw [ha];exact hb
 rw [List.pairwise_append]
 refine⟨h3,List.pairwise_cons.2 ⟨fun y hy=>ltB_asym (ht y (List.mem_reverse.1 hy)),h4⟩,fun a ha b hb=> ?_⟩
 rcases List.mem_cons.1 hb with rfl|hb
 ·exact hD a ha
 ·exact h5 a ha b hb
theorem fold_perm (f:α→BS):∀(l a:List α),(l.foldl (fun a x=>insK f x a) a).Perm (a++l)
 |[],a=>by rw [List.append_nil];exact .refl _
 |x::l,a=>by
  rw [List.foldl_cons]
  refine(fold_perm f l _).trans ?_
  refine((insK_perm f x a).append_right l).trans ?_
  exact(List.perm_middle (a:=x) (l₁:=a) (l₂:=l)).symm
theorem sortK_perm (f:α→BS) (l:List α):(sortK f l).Perm l:=by
 have:=fold_perm f l []
 rwa [List.nil_append] at this
theorem fold_srt (f:α→BS):∀(l a:List α),SrtK f a→SrtK f (l.foldl (fun a x=>insK f x a) a)
 |[],_,h=>h
 |x::l,a,h=>fold_srt f l _ (insK_srt x h)
theorem sortK_srt (f:α→BS) (l:List α):SrtK f (sortK f l):=fold_srt f l [] .nil
theorem srt_uniq {f:α→BS}:∀{l l':List α},l.Perm l'→SrtK f l→SrtK f l'→(∀x∈l,∀y∈l,f x=f y→x=y)→l=l'
 |[],l',hp,_,_,_=>(List.nil_perm.1 hp).symm
 |x::l,[],hp,_,_,_=>absurd hp.length_eq (by simp)
 |x::l,y::l',hp,h1,h2,hi=>by
  have hxy:x=y:=by
   have hx:x∈y::l':=hp.mem_iff.1 List.mem_cons_self
   have hy:y∈x::l:=hp.mem_iff.2 List.mem_cons_self
   rcases List.mem_cons.1 hx with e|hx
   ·exact e
   rcases List.mem_cons.1 hy with e|hy
   ·exact e.symm
   exact hi x List.mem_cons_self y (List.mem_cons_of_mem _ hy) (ltB_tot ((List.pairwise_cons.1 h2).1 x hx) ((List.pairwise_cons.1 h1).1 y hy))
  subst hxy
  rw [srt_uniq ((List.perm_cons x).1 hp) (List.pairwise_cons.1 h1).2 (List.pairwise_cons.1 h2).2 fun a ha b hb=>hi a (List.mem_cons_of_mem _ ha) b (List.mem_cons_of_mem _ hb)]
theorem nd_inj {f:α→BS} {l:List α} (h:(l.map f).Nodup):∀x∈l,∀y∈l,f x=f y→x=y:=fun x hx y hy e=>by
 obtain⟨i,hi,rfl⟩:=List.getElem_of_mem hx
 obtain⟨j,hj,rfl⟩:=List.getElem_of_mem hy
 have:i=j:=by
  exact(List.getElem_inj (xs:=l.map f) (i:=i) (j:=j) (h₀:=by simpa using hi) (h₁:=by simpa using hj) h).1 (by rw [List.getElem_map,List.getElem_map];exact e)
 subst this;rfl
theorem sort_uniq {f:α→BS} {l l':List α} (hp:l'.Perm l) (hs:SrtK f l') (h:(l.map f).Nodup):l'=sortK f l:=
 srt_uniq (hp.trans (sortK_perm f l).symm) hs (sortK_srt f l) (nd_inj ((hp.map f).nodup_iff.2 h))
theorem sort_id {l l':List BS} (hp:l'.Perm l) (hs:SrtK id l'):l'=sortK id l:=
 srt_uniq (hp.trans (sortK_perm id l).symm) hs (sortK_srt id l) fun _ _ _ _ e=>e
theorem sort_of_perm {f:α→BS} {l l':List α} (hp:l'.Perm l) (h:(l.map f).Nodup):sortK f l'=sortK f l:=sort_uniq ((sortK_perm f l').trans hp) (sortK_srt f l') h
theorem sort_id_perm {l l':List BS} (hp:l'.Perm l):sortK id l'=sortK id l:=sort_id ((sortK_perm id l').trans hp) (sortK_srt id l')
abbrev freeK (k:Int):Prop:=k=0∨k=1∨k=2∨k=4
def normI (k:Int) (l:List BS):List BS:=if freeK k then sortK id l else if k=8 then l.take 1++sortK id (l.drop 1) else l
def normG (g:GtD):GtD:={g with inputs:=normI g.kind g.inputs}
def normL (l:List GtD):List GtD:=sortK GtD.name (l.map normG)
def normP (x:PgD):PgD:=⟨x.name,x.top,normL x.gates⟩
def normR (x:GrD):GrD:=⟨x.name,x.kind,sortK id x.members,x.factors⟩
def normH (x:PhD):PhD:=⟨x.name,x.top,sortK VlD.event x.values⟩
def normM (m:MdD):MdD:=⟨m.name,m.top,sortK EvD.name m.events,sortK HsD.name m.houses,normL m.gates,sortK PgD.name (m.pages.map normP),sortK GrD.name (m.groups.map normR),m.phases.map normH⟩
def turnI (k:Int) (l:List BS):List BS:=if freeK k then l.reverse else if k=8 then l.take 1++(l.drop 1).reverse else l
def turnG (g:GtD):GtD:={g with inputs:=turnI g.kind g.inputs}
def turnL (l:List GtD):List GtD:=(l.map turnG).reverse
def turnP (x:PgD):PgD:=⟨x.name,x.top,turnL x.gates⟩
def turnR (x:GrD):GrD:=⟨x.name,x.kind,x.members.reverse,x.factors⟩
def turnH (x:PhD):PhD:=⟨x.name,x.top,x.values.reverse⟩
def turnM (m:MdD):MdD:=⟨m.name,m.top,m.events.reverse,m.houses.reverse,turnL m.gates,(m.pages.map turnP).reverse,(m.groups.map turnR).reverse,m.phases.map turnH⟩
end Go.PN
namespace Go.PN
open Go.AI
theorem cmp_lt:∀(a b:BS),decide (Go.Lib.compareBytes a b<0)=ltB a b
 |[],[]=>rfl
 |[],_::_=>rfl
 |_::_,[]=>rfl
 |x::a,y::b=>by
  show decide ((if x<y then(-1:Int) else if y<x then 1 else Go.Lib.compareBytes a b)<0)=(decide (x<y)||(x==y&&ltB a b))
  by_cases h1:x<y
  ·rw [if_pos h1,decide_eq_true h1];rfl
  ·rw [if_neg h1,decide_eq_false h1,Bool.false_or]
   by_cases h2:y<x
   ·rw [if_pos h2]
    have:(x==y)=false:=beq_eq_false_iff_ne.2 fun e=>by subst e;exact h1 h2
    rw [this];rfl
   ·rw [if_neg h2,cmp_lt a b]
    have:x=y:=by
     apply UInt8.toNat_inj.1
     have a1:¬x.toNat<y.toNat:=h1
     have a2:¬y.toNat<x.toNat:=h2
     omega
    subst this
    simp
theorem perm_lift {α β:Type} {f:α→β}:∀{l:List α} {m:List β},(l.map f).Perm m→∃l':List α,l'.Perm l∧l'.map f=m:=by
 intro l m h
 generalize hx:l.map f=x at h
 induction h generalizing l with
 |nil=>exact⟨l,.refl _,hx⟩
 |cons a _ ih=>
  cases l with
  |nil=>cases hx
  |cons b l=>
   injection hx with h1 h2
   obtain⟨l',p,e⟩:=ih h2
   exact⟨b::l',.cons b p,by rw [List.map_cons,h1,e]⟩
 |swap a b r=>
  match l,hx with
  |c::d::l,hx=>
   simp only [List.map_cons,List.cons.injEq] at hx
   obtain⟨h1,h2,h3⟩:=hx
   exact⟨d::c::l,.swap c d l,by rw [List.map_cons,List.map_cons,h1,h2,h3]⟩
 |trans _ _ ih1 ih2=>
  obtain⟨l1,p1,e1⟩:=ih1 hx
  obtain⟨l2,p2,e2⟩:=ih2 e1
  exact⟨l2,p2.trans p1,e2⟩
end Go.PN
namespace Go.AI
open Go.PN Go.Sort Go.Shelf Go.Proofs
structure SEl (k:Nat) where
 nm:BS
 vs:List Value
 len:vs.length+1=k
 one:∀v∈vs,v.oneCell'=true
abbrev SEl.enc {k:Nat} (x:SEl k):List Value:=.string (sB x.nm)::x.vs
def SEl.cf {k:Nat} (x y:SEl k):Int:=Go.Lib.compareBytes x.nm y.nm
theorem SEl.lt {k:Nat} (x y:SEl k):ltOf SEl.cf x y=ltB x.nm y.nm:=cmp_lt x.nm y.nm
theorem SEl.swo {k:Nat}:SWO (ltOf (SEl.cf (k:=k))) where
 irrefl x:=by rw [SEl.lt];exact ltB_irr _
 trans x y z h1 h2:=by rw [SEl.lt] at*;exact ltB_trans h1 h2
 ntrans x y z h1 h2:=by rw [SEl.lt] at*;exact leB_trans h2 h1
def CmpNm (P:Program) (f:FuncId) (k:Nat):Prop:=∀x y:SEl k,Fa P f [.agg (.str (sB x.nm)::x.vs.map .raw),.agg (.str (sB y.nm)::y.vs.map .raw)] (.c (.int .i64 (Go.Lib.compareBytes x.nm y.nm)))
theorem rawL_rep' (S:Bool→Nat→Prop) (w:World):∀l:List Value,RepL S w (l.map CV.raw) l
 |[]=>trivial
 |_::l=>⟨rfl,rawL_rep' S w l⟩
theorem CmpNm.lays {P:Program} {f:FuncId} {k:Nat} [Inhabited (SEl k)] (h:CmpNm P f k) (blk off size:Nat) (w:World):CmpLays P f #[] (SEl.enc (k:=k)) k SEl.cf blk off size w:=by
 intro m os dk _ x y
 refine((h x y).2 (fun _ _=>False) _ [.agg (SEl.enc x).toArray,.agg (SEl.enc y).toArray] (fun _ h=>h) (fun _ _ h=>h.elim) ⟨⟨_,rfl,rfl,rawL_rep' _ _ _⟩,⟨_,rfl,rfl,rawL_rep' _ _ _⟩,trivial⟩).mono ?_
 rintro e w' ⟨v,rfl,hr,hfr⟩
 have hv:v=.int .i64 (Go.Lib.compareBytes x.nm y.nm):=hr
 exact⟨by rw [hv];rfl,fr_grow hfr⟩
theorem swk_heap {w:World} {g:Nat} {cs:Array Value} {ty:TypeId} {fr:Nat×Nat} (hb:w.heap[g]?=some (.cells cs ty fr)) (m:Nat) (F:Array Value) (os:Array Obj):
  (grow (putRow id (Sort.ahead w m) g 0 F) os).heap[g]?=some (.cells (putCells id 0 F cs) ty fr)∧(∀b,b<w.heap.size→b≠g→(grow (putRow id (Sort.ahead w m) g 0 F) os).heap[b]?=w.heap[b]?)∧w.heap.size≤(grow (putRow id (Sort.ahead w m) g 0 F) os).heap.size:=by
 have hg:g<w.heap.size:=(Array.getElem?_eq_some_iff.1 hb).1
 have hsz:(putRow id (Sort.ahead w m) g 0 F).heap.size=w.heap.size:=by simp [putRow,mapBlock,Sort.ahead]
 refine⟨?_,fun b hbs hne=> ?_,?_⟩
 ·rw [heap_grow_old _ _ (by rw [hsz];exact hg)]
  simp only [putRow,mapBlock,Sort.ahead,Array.getElem?_modify,if_true,hb,Option.map_some]
  rfl
 ·rw [heap_grow_old _ _ (by rw [hsz];exact hbs)]
  simp only [putRow,mapBlock,Sort.ahead,Array.getElem?_modify]
  rw [if_neg (fun e=>hne e.symm)]
 ·rw [size_grow,hsz]
  omega
theorem ofL_nth:∀{l:List CV} {j:Nat} (h:j<l.length),ofL l j=l[j]
 |_::_,0,_=>rfl
 |_::l,j+1,h=>ofL_nth (l:=l) (by simpa using h)
theorem repL_one' {S:Bool→Nat→Prop} {w:World}:∀{cs:List CV} {us:List Value},RepL S w cs us→cs.all CV.solid=true→∀u∈us,u.oneCell'=true
 |[],[],_,_,u,hu=>by cases hu
 |c::cs,v::us,hr,hs,u,hu=>by
  rw [List.all_cons,Bool.and_eq_true] at hs
  rcases List.mem_cons.1 hu with rfl|hu
  ·exact solid_one hs.1 hr.1
  ·exact repL_one' hr.2 hs.2 u hu
 |[],_::_,hr,_,_,_=>hr.elim
 |_::_,[],hr,_,_,_=>hr.elim
theorem sel_of {S:Bool→Nat→Prop} {w:World} {k:Nat} (hk0:0<k) {cx r:List CV} {n:BS} (hcx:cx=.str (sB n)::r) (hlen:r.length+1=k) (hsol:r.all CV.solid=true) {cell:Nat→Option Value} (hcell:∀q,q<k→∃u,cell q=some u∧RepC S w (ofL cx q) u):
  ∃e:SEl k,e.nm=n∧RepL S w cx e.enc∧∀q,q<k→cell q=e.enc[q]?:=by
 have key:∀(l:List CV) (o:Nat),(∀q,q<l.length→∃u,cell (o+q)=some u∧RepC S w (ofL l q) u)→∃us:List Value,RepL S w l us∧∀q,q<l.length→cell (o+q)=us[q]?:=fun l=>by
  induction l with
  |nil=>intro o _;exact⟨[],trivial,fun q hq=>absurd hq (Nat.not_lt_zero q)⟩
  |cons a l ih=>
   intro o h
   obtain⟨u,hu,hru⟩:=h 0 (by simp)
   obtain⟨us,h1,h2⟩:=ih (o+1) fun q hq=>by
    obtain⟨u,hu,hru⟩:=h (q+1) (by simpa using hq)
    exact⟨u,by rw [←hu];congr 1;omega,hru⟩
   refine⟨u::us,⟨hru,h1⟩,fun q hq=> ?_⟩
   cases q with
   |zero=>exact hu
   |succ q=>
    have:=h2 q (by simpa using hq)
    rw [←show o+1+q=o+(q+1) from by omega,this];rfl
 subst hcx
 obtain⟨us,h1,h2⟩:=key (.str (sB n)::r) 0 fun q hq=>by
  obtain⟨u,hu,hru⟩:=hcell q (by rw [List.length_cons,hlen] at hq;exact hq)
  exact⟨u,by rw [Nat.zero_add];exact hu,hru⟩
 cases us with
 |nil=>exact h1.elim
 |cons u us=>
  obtain⟨hu,hr⟩:=h1
  have hu':u=.string (sB n):=hu
  subst hu'
  exact⟨⟨n,us,by rw [RepL.length hr];exact hlen,repL_one' hr hsol⟩,rfl,⟨hu,hr⟩,fun q hq=>by
   have:=h2 q (by rw [List.length_cons,hlen];exact hq)
   rw [Nat.zero_add] at this
   exact this⟩
theorem sortK_fh {P:Program} {ρ:Ren} (L:SlLaysF0.n6 P ρ) {α:Type} {k:Nat} (hk0:0<k) (aE:∀w,(isAgg (ρ.t 24)).run P w=.ok true w) (zE:∀w,(Go.sizeOf (ρ.t 24)).run P w=.ok k w) {fs cf:FuncId} (hfs:ρ.f 6=fs) (hcal:Callable P fs) (hcmp:CmpNm P cf k)
  (ty:TypeId) (c:α→List CV) (d0:α) (key:α→BS) (hc:∀x,∃r,c x=.str (sB (key x))::r∧r.length+1=k∧r.all CV.solid=true) (xs:List α) (hl:xs.length<4611686018427387904) (g:Nat):
  Fh P fs [(g,.cells ty (xs.length*k) (lf k c d0 xs))] [.c (.osl g k 0 xs.length),.c (.raw (.func (.func cf) #[] #[]))] (fun x h=>x=.tup []∧∃ys:List α,ys.Perm xs∧SrtK key ys∧h=[(g,.cells ty (xs.length*k) (lf k c d0 ys))]):=by
 refine⟨hcal,fun C vs hC hnd ho hr=> ?_⟩
 match vs,hr with
 |[v1,v2],⟨h1,h2,_⟩=>
  obtain⟨c',rfl,hnc,hcm,_⟩:∃c',v1=.slice (some ⟨g,0,none⟩) xs.length c'∧xs.length≤c'∧c'≤maxLen∧Has C.w0 g (0+c'*k):=h1
  obtain rfl:v2=.func (.func cf) #[] #[]:=h2
  obtain⟨cs,hb,hcs,hj⟩:=ho g _ (List.mem_singleton.2 rfl)
  have hgl:g<C.w0.heap.size:=(Array.getElem?_eq_some_iff.1 hb).1
  have hel:∀i:Fin xs.length,∃e:SEl k,e.nm=key xs[i]∧RepL C.S0 C.w0 (c xs[i]) e.enc∧∀q,q<k→cs[i.val*k+q]?=e.enc[q]?:=fun i=>by
   obtain⟨r,hcx,hlen,hsol⟩:=hc xs[i]
   have hcell:∀q,q<k→∃u,cs[i.val*k+q]?=some u∧RepC C.S0 C.w0 (ofL (c xs[i]) q) u:=fun q hq=>by
    have hlt:i.val*k+q<xs.length*k:=by
     have h3:(i.val+1)*k≤xs.length*k:=Nat.mul_le_mul_right k i.isLt
     rw [Nat.add_mul] at h3
     omega
    obtain⟨u,hu,hru⟩:=hj _ hlt
    refine⟨u,hu,?_⟩
    have e:lf k c d0 xs (i.val*k+q)=ofL (c xs[i]) q:=by
     rw [lf_at hq,List.getD_eq_getElem?_getD,List.getElem?_eq_getElem i.isLt];rfl
    rw [←e];exact hru
   exact sel_of hk0 hcx hlen hsol hcell
  obtain⟨E,hE⟩:=Classical.skolem.1 hel
  let d:Array (SEl k):=Array.ofFn E
  have hds:d.size=xs.length:=by simp [d]
  have hinh:Inhabited (SEl k):=⟨⟨[],List.replicate (k-1) (.bool false),by simp;omega,fun v hv=>by rw [List.mem_replicate] at hv;rw [hv.2];rfl⟩⟩
  have hH:HoldsK SEl.enc k C.w0 g 0 d:=fun j hjl=>by
   rw [size_flatK,hds] at hjl
   have hq:j%k<k:=Nat.mod_lt _ hk0
   have hi:j/k<xs.length:=(Nat.div_lt_iff_lt_mul hk0).2 hjl
   have hjk:j/k*k+j%k=j:=by rw [Nat.mul_comm];exact Nat.div_add_mod j k
   have hdj:d[j/k]! =E ⟨j/k,hi⟩:=by
    rw [getElem!_pos d (j/k) (by rw [hds];exact hi)]
    simp [d]
   have h3:=(hE ⟨j/k,hi⟩).2.2 (j%k) hq
   rw [show(⟨j/k,hi⟩:Fin xs.length).val=j/k from rfl,hjk] at h3
   have hlen:(E ⟨j/k,hi⟩).enc.length=k:=(E ⟨j/k,hi⟩).len
   rw [get_flatK SEl.enc k d j (by rw [hds];exact hjl),hdj,id]
   refine⟨?_,?_⟩
   ·unfold World.cell?
    simp only [hb,Option.isSome_none,Bool.false_eq_true,if_false,Nat.zero_add]
    rw [h3,getElem!_pos _ (j%k) (by rw [hlen];exact hq),List.getElem?_eq_getElem (by rw [hlen];exact hq)]
   ·unfold World.frozen?
    simp only [hb]
    simp
  have eg:∀args w,(callFunc cf args).run P w=.ok (.enter cf args) w:=fun args w=>(hcmp hinh.default hinh.default).1.run args w
  have hcon:=AnyQ.slices_SortFunc L k aE zE SEl.enc (fun x=>x.len) (fun x v hv=>by rcases List.mem_cons.1 hv with rfl|hv;rfl;exact x.one v hv) SEl.cf SEl.swo cf #[] g 0 c' d C.w0 eg (hcmp.lays g 0 d.size C.w0) hH hgl (by rw [hds];exact hl)
  rw [hds,hfs] at hcon
  refine hcon.mono ?_
  rintro e w' ⟨rfl,d',n,os,hp,hs,rfl⟩
  obtain⟨hp1,_,hp3⟩:=hp
  have hd's:d'.size=xs.length:=by rw [hp1,hds]
  have hpl:d'.toList.Perm d.toList:=by
   rw [←hds] at hp3
   have e1:d'.extract 0 d.size=d':=by rw [←hp1];exact Array.extract_size
   have e2:d.extract 0 d.size=d:=Array.extract_size
   rw [e1,e2] at hp3
   exact hp3
  obtain⟨D,hD⟩:∃D:List (α×SEl k),D=(List.finRange xs.length).map fun i=>(xs[i],E i):=⟨_,rfl⟩
  have hD1:D.map Prod.fst=xs:=by
   rw [hD,List.map_map]
   refine List.ext_getElem (by simp) fun i h1 h2=> ?_
   simp
  have hD2:D.map Prod.snd=d.toList:=by
   rw [hD,List.map_map]
   refine List.ext_getElem (by simp [d]) fun i h1 h2=> ?_
   simp [d]
  have hDp:∀p∈D,p.2.nm=key p.1∧RepL C.S0 C.w0 (c p.1) p.2.enc:=fun p hp=>by
   rw [hD] at hp
   obtain⟨i,_,rfl⟩:=List.mem_map.1 hp
   exact⟨(hE i).1,(hE i).2.1⟩
  obtain⟨D',pD,eD⟩:=perm_lift (f:=Prod.snd) (l:=D) (m:=d'.toList) (by rw [hD2];exact hpl.symm)
  have hys:(D'.map Prod.fst).Perm xs:=by
   have:=pD.map Prod.fst
   rwa [hD1] at this
  have hD'l:D'.length=xs.length:=by rw [←hys.length_eq,List.length_map]
  have hget:∀i,i<xs.length→∃p,p∈D'∧(D'.map Prod.fst).getD i d0=p.1∧d'[i]! =p.2:=fun i hi=>by
   have hi':i<D'.length:=by rw [hD'l];exact hi
   refine⟨D'[i],List.getElem_mem hi',?_,?_⟩
   ·rw [List.getD_eq_getElem?_getD,List.getElem?_map,List.getElem?_eq_getElem hi'];rfl
   ·rw [getElem!_pos d' i (by rw [hd's];exact hi),←Array.getElem_toList]
    have:d'.toList=D'.map Prod.snd:=eD.symm
    simp only [this,List.getElem_map]
  have hsrt:SrtK key (D'.map Prod.fst):=by
   unfold SrtK
   rw [List.pairwise_iff_getElem]
   intro i j hi hj hij
   rw [List.length_map,hD'l] at hi hj
   obtain⟨p,hp,p1,p2⟩:=hget i hi
   obtain⟨q,hq,q1,q2⟩:=hget j hj
   have h1:=hs i j (Nat.zero_le _) hij om
   rw [SEl.lt,p2,q2,(hDp p (pD.mem_iff.1 hp)).1,(hDp q (pD.mem_iff.1 hq)).1] at h1
   rw [List.getD_eq_getElem?_getD,List.getElem?_eq_getElem (by rw [List.length_map,hD'l];exact hi)] at p1
   rw [List.getD_eq_getElem?_getD,List.getElem?_eq_getElem (by rw [List.length_map,hD'l];exact hj)] at q1
   have p1:(D'.map Prod.fst)[i]'(by rw [List.length_map,hD'l];exact hi)=p.1:=p1
   have q1:(D'.map Prod.fst)[j]'(by rw [List.length_map,hD'l];exact hj)=q.1:=q1
   rw [p1,q1];exact h1
  obtain⟨q1,q2,q3⟩:=swk_heap hb n (flatK SEl.enc k d') os
  have hlen:(putCells id 0 (flatK SEl.enc k d') cs).size=cs.size:=by simp [putCells]
  have hap:∀t b,C.S0 t b→b≠g:=fun t b hS e=>C.apart t b hS ((hC b).2 (by simp [Heap.keys,e]))
  have hfr:Fr C.own0 C.w0 (sortWorldK SEl.enc k C.w0 g 0 n d' os):=by
   refine⟨rfl,rfl,rfl,q3,?_,fun b hbs hno=>q2 b hbs (fun e=>hno ((hC b).2 (by simp [Heap.keys,e]))),fun g' m' hh=> ?_⟩
   ·show C.w0.drawn≤C.w0.drawn+n
    omega
   ·by_cases e:g'=g
    ·subst e
     obtain⟨cs',ty',⟨fr,hc'⟩,hs'⟩:=hh
     rw [hb] at hc'
     injection hc' with hc'
     injection hc' with e1 e2 e3
     subst e1
     exact⟨_,_,⟨_,q1⟩,by rw [hlen];exact hs'⟩
    ·have hl:=hh.lt
     obtain⟨cs',ty',⟨fr,hc'⟩,hs'⟩:=hh
     exact⟨cs',ty',⟨fr,(q2 g' hl e).trans hc'⟩,hs'⟩
  have kp:Keeps C.S0 (Stab C [(g,.cells ty (xs.length*k) (lf k c d0 (D'.map Prod.fst)))] (sortWorldK SEl.enc k C.w0 g 0 n d' os)) C.w0 (sortWorldK SEl.enc k C.w0 g 0 n d' os):=
   ⟨fun t b hS=>⟨.inl hS,Nat.lt_of_lt_of_le (C.lt t b hS) q3,fun hm=>hap t b hS (by simpa [Heap.keys] using hm)⟩,fun t b hS=>q2 b (C.lt t b hS) (hap t b hS),hfr.has⟩
  refine⟨.tuple #[],.tup [],[(g,.cells ty (xs.length*k) (lf k c d0 (D'.map Prod.fst)))],rfl,⟨rfl,D'.map Prod.fst,hys,hsrt,rfl⟩,by simp [Heap.keys],fun g' hg'=> ?_,⟨[],rfl,trivial⟩,fun g' o' hm'=> ?_,hfr⟩
  ·simp only [Heap.keys,List.map_cons,List.map_nil,List.mem_singleton] at hg'
   subst hg'
   exact .inl ((hC _).2 (by simp [Heap.keys]))
  ·rw [List.mem_singleton] at hm'
   injection hm' with e1 e2
   subst e1 e2
   refine⟨putCells id 0 (flatK SEl.enc k d') cs,q1,by rw [hlen];exact hcs,fun j hjl=> ?_⟩
   have hq:j%k<k:=Nat.mod_lt _ hk0
   have hi:j/k<xs.length:=(Nat.div_lt_iff_lt_mul hk0).2 hjl
   obtain⟨p,hp,p1,p2⟩:=hget _ hi
   have hjc:j<cs.size:=Nat.lt_of_lt_of_le hjl hcs
   have hle:p.2.enc.length=k:=p.2.len
   refine⟨p.2.enc[j%k]'(by rw [hle];exact hq),?_,RepC.keep kp ?_⟩
   ·unfold putCells
    rw [Array.getElem?_mapIdx,Array.getElem?_eq_getElem hjc,Option.map_some,if_pos ⟨Nat.zero_le _,by rw [size_flatK,hd's];omega⟩,Nat.sub_zero,get_flatK SEl.enc k d' j (by rw [hd's];exact hjl),p2,getElem!_pos _ (j%k) (by rw [hle];exact hq)]
    rfl
   ·show RepC C.S0 C.w0 (ofL (c ((D'.map Prod.fst).getD (j/k) d0)) (j%k)) _
    rw [p1]
    have hR:=(hDp p (pD.mem_iff.1 hp)).2
    have hcl:(c p.1).length=k:=by rw [←RepL.length hR,hle]
    obtain⟨u,hu,hru⟩:=RepL.get hR (j%k) ((c p.1)[j%k]'(by rw [hcl];exact hq)) (List.getElem?_eq_getElem (by rw [hcl];exact hq))
    rw [List.getElem?_eq_getElem (by rw [hle];exact hq)] at hu
    injection hu with hu
    rw [ofL_nth (l:=c p.1) (j:=j%k) (by rw [hcl];exact hq),hu]
    exact hru
end Go.AI
namespace Go.PN
open Go.AI
theorem lex_ltB:∀(a b:List UInt8),a<b↔ltB a b=true
 |[],[]=>⟨fun h=>absurd h (List.not_lt_nil _),fun h=>by cases h⟩
 |[],_::_=>⟨fun _=>rfl,fun _=>List.nil_lt_cons _ _⟩
 |_::_,[]=>⟨fun h=>absurd h (List.not_lt_nil _),fun h=>by cases h⟩
 |x::a,y::b=>by
  rw [List.cons_lt_cons_iff,lex_ltB a b]
  show _↔(decide (x<y)||(x==y&&ltB a b))=true
  simp
theorem le_ltB (a b:List UInt8):decide (a≤b)= !ltB b a:=by
 have h:a≤b↔¬b<a:=Iff.rfl
 rw [Bool.eq_iff_iff,decide_eq_true_eq,h,lex_ltB]
 simp
theorem merge_sort (ss:List BS):(ss.mergeSort fun x y=>decide (x≤y))=sortK id ss:=by
 refine sort_id (List.mergeSort_perm ss _) ?_
 unfold SrtK
 have h:=List.pairwise_mergeSort (le:=fun x y:BS=>decide (x≤y)) (fun a b c h1 h2=>by
  rw [le_ltB] at*
  simp only [Bool.not_eq_true'] at*
  exact leB_trans h1 h2) (fun a b=>by
  rw [le_ltB,le_ltB]
  by_cases h:ltB b a=true
  ·rw [h,ltB_asym h];rfl
  ·rw [Bool.not_eq_true] at h;rw [h];rfl) ss
 refine h.imp fun {a b} h=> ?_
 rw [le_ltB] at h
 simpa using h
end Go.PN
namespace Go.AI
open Go.PN Go.Sort Go.Shelf Go.Proofs
theorem sw_heap' {α:Type} [Inhabited α] {enc:α→Value} {w:World} {g off:Nat} {cs:Array Value} {ty:TypeId} {fr:Nat×Nat} (hb:w.heap[g]?=some (.cells cs ty fr)) (m:Nat) (F:Array α) (os:Array Obj):
  (grow (putRow enc (Sort.ahead w m) g off F) os).heap[g]?=some (.cells (putCells enc off F cs) ty fr)∧(∀b,b<w.heap.size→b≠g→(grow (putRow enc (Sort.ahead w m) g off F) os).heap[b]?=w.heap[b]?)∧w.heap.size≤(grow (putRow enc (Sort.ahead w m) g off F) os).heap.size:=by
 have hg:g<w.heap.size:=(Array.getElem?_eq_some_iff.1 hb).1
 have hsz:(putRow enc (Sort.ahead w m) g off F).heap.size=w.heap.size:=by simp [putRow,mapBlock,Sort.ahead]
 refine⟨?_,fun b hbs hne=> ?_,?_⟩
 ·rw [heap_grow_old _ _ (by rw [hsz];exact hg)]
  simp only [putRow,mapBlock,Sort.ahead,Array.getElem?_modify,if_true,hb,Option.map_some]
  rfl
 ·rw [heap_grow_old _ _ (by rw [hsz];exact hbs)]
  simp only [putRow,mapBlock,Sort.ahead,Array.getElem?_modify]
  rw [if_neg (fun e=>hne e.symm)]
 ·rw [size_grow,hsz]
  omega
theorem sortStr_fh {P:Program} {ρ:Ren} (L:Lays.n190 P ρ) {fs:FuncId} (hfs:ρ.f 190=fs) (hcal:Callable P fs) (ty:TypeId) (pre xs:List BS) (hl:xs.length<4611686018427387904) (g:Nat):
  Fh P fs [(g,.cells ty (pre.length+xs.length) (strsF (pre++xs)))] [.c (.osl g 1 pre.length xs.length)] (fun x h=>x=.tup []∧h=[(g,.cells ty (pre.length+xs.length) (strsF (pre++sortK id xs)))]):=by
 refine⟨hcal,fun C vs hC hnd ho hr=> ?_⟩
 match vs,hr with
 |[v1],⟨h1,_⟩=>
  obtain⟨c',rfl,hnc,hcm,_⟩:∃c',v1=.slice (some ⟨g,pre.length,none⟩) xs.length c'∧xs.length≤c'∧c'≤maxLen∧Has C.w0 g (pre.length+c'*1):=h1
  obtain⟨cs,hb,hcs,hj⟩:=ho g _ (List.mem_singleton.2 rfl)
  have hgl:g<C.w0.heap.size:=(Array.getElem?_eq_some_iff.1 hb).1
  have hcell:∀j,j<pre.length+xs.length→cs[j]?=some (.string (sB ((pre++xs).getD j []))):=fun j hj2=>by
   obtain⟨u,hu,hru⟩:=hj j hj2
   rw [strsF_0] at hru
   have:u=.string (sB ((pre++xs).getD j [])):=hru
   rw [hu,this]
  have hH:Holds encStr C.w0 g pre.length xs.toArray:=fun j hjl=>by
   have hjl:j<xs.length:=by simpa using hjl
   refine⟨?_,?_⟩
   ·unfold World.cell?
    simp only [hb,Option.isSome_none,Bool.false_eq_true,if_false]
    rw [hcell _ om,List.getD_eq_getElem?_getD,List.getElem?_append_right om,Nat.add_sub_cancel_left,List.getElem?_eq_getElem hjl,getElem!_pos xs.toArray j (by simpa using hjl)]
    rfl
   ·unfold World.frozen?
    simp only [hb]
    simp
  have hcon:=Any.slices_Sort_string L g pre.length c' xs C.w0 hH hgl hl
  rw [hfs] at hcon
  refine hcon.mono ?_
  rintro e w' ⟨rfl,n,os,rfl⟩
  rw [merge_sort]
  have hsl:(sortK id xs).length=xs.length:=(sortK_perm id xs).length_eq
  obtain⟨q1,q2,q3⟩:=sw_heap' (enc:=encStr) (off:=pre.length) hb n (sortK id xs).toArray os
  have hlen:(putCells encStr pre.length (sortK id xs).toArray cs).size=cs.size:=by simp [putCells]
  have hap:∀t b,C.S0 t b→b≠g:=fun t b hS e=>C.apart t b hS ((hC b).2 (by simp [Heap.keys,e]))
  have hfr:Fr C.own0 C.w0 (grow (putRow encStr (Sort.ahead C.w0 n) g pre.length (sortK id xs).toArray) os):=by
   refine⟨rfl,rfl,rfl,q3,?_,fun b hbs hno=>q2 b hbs (fun e=>hno ((hC b).2 (by simp [Heap.keys,e]))),fun g' m' hh=> ?_⟩
   ·show C.w0.drawn≤C.w0.drawn+n
    omega
   ·by_cases e:g'=g
    ·subst e
     obtain⟨cs',ty',⟨fr,hc'⟩,hs'⟩:=hh
     rw [hb] at hc'
     injection hc' with hc'
     injection hc' with e1 e2 e3
     subst e1
     exact⟨_,_,⟨_,q1⟩,by rw [hlen];exact hs'⟩
    ·have hl:=hh.lt
     obtain⟨cs',ty',⟨fr,hc'⟩,hs'⟩:=hh
     exact⟨cs',ty',⟨fr,(q2 g' hl e).trans hc'⟩,hs'⟩
  refine⟨.tuple #[],.tup [],[(g,.cells ty (pre.length+xs.length) (strsF (pre++sortK id xs)))],rfl,⟨rfl,rfl⟩,by simp [Heap.keys],fun g' hg'=> ?_,⟨[],rfl,trivial⟩,fun g' o' hm'=> ?_,hfr⟩
  ·simp only [Heap.keys,List.map_cons,List.map_nil,List.mem_singleton] at hg'
   subst hg'
   exact .inl ((hC _).2 (by simp [Heap.keys]))
  ·rw [List.mem_singleton] at hm'
   injection hm' with e1 e2
   subst e1 e2
   refine⟨putCells encStr pre.length (sortK id xs).toArray cs,q1,by rw [hlen];exact hcs,fun j hjl=>⟨.string (sB ((pre++sortK id xs).getD j [])),?_,?_⟩⟩
   ·have hjc:j<cs.size:=Nat.lt_of_lt_of_le hjl hcs
    unfold putCells
    rw [Array.getElem?_mapIdx,Array.getElem?_eq_getElem hjc,Option.map_some]
    by_cases hp:pre.length≤j
    ·rw [if_pos ⟨hp,by simp [hsl];omega⟩,getElem!_pos (sortK id xs).toArray (j-pre.length) (by simp [hsl];omega),List.getD_eq_getElem?_getD,List.getElem?_append_right hp,List.getElem?_eq_getElem (by rw [hsl];omega)]
     rfl
    ·rw [if_neg (fun z=>hp z.1)]
     have h2:=hcell j hjl
     rw [Array.getElem?_eq_getElem hjc] at h2
     rw [h2,List.getD_eq_getElem?_getD,List.getElem?_append_left om,List.getD_eq_getElem?_getD,List.getElem?_append_left om]
   ·show RepC _ _ (strsF _ j) _
    rw [strsF_0]
    rfl
end Go.AI
namespace Go.AI
theorem aw_condFz {E:Env} {K:List It} {σ:Sl} {h:Heap} {x y:Code} (k:aw E (.code y::K) σ h):aw E (.code (.cond (.const (.bool false)) x y)::K) σ h:=fun a w s=>wp_cond_split (t:=false) rfl (fun e=>by cases e) (fun _=>k a w s)
end Go.AI
namespace Go.Proofs.YtpcpaekpnfkhhaaGreatDoor
open Go.AI Go.PN
attribute [local irreducible] aw Fa Fh DrK
theorem len64Z0_fa:Fa Tryz.prog 165 [.c (.int .u64 0)] (.c (.int .i64 0)):=by
 refine fa_of_body Tryz.func165 rfl rfl (by simp [Tryz.ntmps165]) fun C hC=> ?_
 simp only [initS,Nat.reduceAdd]
 refine xG ?_
 refine xN ?_
 refine xG ?_
 refine xN ?_
 refine xG ?_
 refine xN ?_
 refine xG ?_
 have w0:wrapZ .u8 (0:Int)=((0:Nat):Int):=by rw [wrapZ_eq];rfl
 refine yS w0 ?_
 refine aw_idx (i:=0) rfl rfl rfl ty_str rfl (zE w0) (by decide+kernel) om ?_
 refine ySG w0 ?_
 refine yT hC w0 ?_
 exact .one (.c (ler_int rfl))
theorem lenZ0_fa:Fa Tryz.prog 99 [.c (.int .u64 0)] (.c (.int .i64 0)):=by
 refine fa_of_body Tryz.func99 rfl rfl (by simp [Tryz.ntmps99]) fun C hC=> ?_
 simp only [initS,Nat.reduceAdd]
 refine xG ?_
 refine aw_condFz ?_
 refine xG ?_
 refine xC (len64Z0_fa) ?_
 refine xGT hC ?_
 exact .one (.c (ler_int rfl))
theorem insZHs_fh (cf:Value):Fh Tryz.prog 156 [] [.c .nils,.c (.int .i64 0),.c (.int .i64 0),.c (.raw cf)] (fun x h=>x=.tup []∧h=[]):=by
 refine fh_of_body Tryz.func156 rfl rfl (by simp [Tryz.ntmps156]) fun C hC=> ?_
 simp only [initS,Nat.reduceAdd]
 refine xG ?_
 refine aw_lp (fun _:Unit=>[(8,.c (.int .i64 1)),(2,.c (.int .i64 0))]) (fun _=>[]) (fun _=>(0:Nat)=0) (fun _=>0) () eB zZ rfl ?_
 rintro _ _
 refine xGNGV ?_
 exact⟨rfl,rfl⟩
theorem pdqZHs_fh (cf:Value):Fh Tryz.prog 98 [] [.c .nils,.c (.int .i64 0),.c (.int .i64 0),.c (.int .i64 0),.c (.raw cf)] (fun x h=>x=.tup []∧h=[]):=by
 refine fh_of_body Tryz.func98 rfl rfl (by simp [Tryz.ntmps98]) fun C hC=> ?_
 simp only [initS,Nat.reduceAdd]
 refine xG ?_
 refine aw_lp (fun _:Unit=>[(0,.c .nils),(1,.c (.int .i64 0)),(2,.c (.int .i64 0)),(4,.c (.raw cf))]) (fun _=>[]) (fun _=>(0:Nat)=0) (fun _=>0) () eB zZ rfl ?_
 rintro _ _
 refine xGPG ?_
 refine aw_callh (hc:=[]) (hr:=[]) (insZHs_fh cf) rfl rfl rfl (.refl _) eL ?_
 rintro _ _ ⟨rfl,rfl⟩ _
 refine xSGU ?_
 exact⟨rfl,rfl⟩
theorem sortZHs_fh (cf:Value):Fh Tryz.prog 42 [] [.c .nils,.c (.raw cf)] (fun x h=>x=.tup []∧h=[]):=by
 have w0:wrapZ .u64 (0:Int)=0:=by rw [wrapZ_eq];rfl
 refine fh_of_body Tryz.func42 rfl rfl (by simp [Tryz.ntmps42]) fun C hC=> ?_
 simp only [initS,Nat.reduceAdd]
 refine yG w0 ?_
 refine yC w0 (lenZ0_fa) ?_
 refine yG w0 ?_
 refine aw_callh (hc:=[]) (hr:=[]) (pdqZHs_fh cf) rfl rfl rfl (.refl _) (zL w0) ?_
 rintro _ _ ⟨rfl,rfl⟩ _
 refine ySGV w0 ?_
 exact⟨rfl,rfl⟩
theorem insZEv_fh (cf:Value):Fh Tryz.prog 167 [] [.c .nils,.c (.int .i64 0),.c (.int .i64 0),.c (.raw cf)] (fun x h=>x=.tup []∧h=[]):=by
 refine fh_of_body Tryz.func167 rfl rfl (by simp [Tryz.ntmps167]) fun C hC=> ?_
 simp only [initS,Nat.reduceAdd]
 refine xG ?_
 refine aw_lp (fun _:Unit=>[(8,.c (.int .i64 1)),(2,.c (.int .i64 0))]) (fun _=>[]) (fun _=>(0:Nat)=0) (fun _=>0) () eB zZ rfl ?_
 rintro _ _
 refine xGNGV ?_
 exact⟨rfl,rfl⟩
theorem pdqZEv_fh (cf:Value):Fh Tryz.prog 102 [] [.c .nils,.c (.int .i64 0),.c (.int .i64 0),.c (.int .i64 0),.c (.raw cf)] (fun x h=>x=.tup []∧h=[]):=by
 refine fh_of_body Tryz.func102 rfl rfl (by simp [Tryz.ntmps102]) fun C hC=> ?_
 simp only [initS,Nat.reduceAdd]
 refine xG ?_
 refine aw_lp (fun _:Unit=>[(0,.c .nils),(1,.c (.int .i64 0)),(2,.c (.int .i64 0)),(4,.c (.raw cf))]) (fun _=>[]) (fun _=>(0:Nat)=0) (fun _=>0) () eB zZ rfl ?_
 rintro _ _
 refine xGPG ?_
 refine aw_callh (hc:=[]) (hr:=[]) (insZEv_fh cf) rfl rfl rfl (.refl _) eL ?_
 rintro _ _ ⟨rfl,rfl⟩ _
 refine xSGU ?_
 exact⟨rfl,rfl⟩
theorem sortZEv_fh (cf:Value):Fh Tryz.prog 46 [] [.c .nils,.c (.raw cf)] (fun x h=>x=.tup []∧h=[]):=by
 have w0:wrapZ .u64 (0:Int)=0:=by rw [wrapZ_eq];rfl
 refine fh_of_body Tryz.func46 rfl rfl (by simp [Tryz.ntmps46]) fun C hC=> ?_
 simp only [initS,Nat.reduceAdd]
 refine yG w0 ?_
 refine yC w0 (lenZ0_fa) ?_
 refine yG w0 ?_
 refine aw_callh (hc:=[]) (hr:=[]) (pdqZEv_fh cf) rfl rfl rfl (.refl _) (zL w0) ?_
 rintro _ _ ⟨rfl,rfl⟩ _
 refine ySGV w0 ?_
 exact⟨rfl,rfl⟩
theorem insZPg_fh (cf:Value):Fh Tryz.prog 175 [] [.c .nils,.c (.int .i64 0),.c (.int .i64 0),.c (.raw cf)] (fun x h=>x=.tup []∧h=[]):=by
 refine fh_of_body Tryz.func175 rfl rfl (by simp [Tryz.ntmps175]) fun C hC=> ?_
 simp only [initS,Nat.reduceAdd]
 refine xG ?_
 refine aw_lp (fun _:Unit=>[(8,.c (.int .i64 1)),(2,.c (.int .i64 0))]) (fun _=>[]) (fun _=>(0:Nat)=0) (fun _=>0) () eB zZ rfl ?_
 rintro _ _
 refine xGNGV ?_
 exact⟨rfl,rfl⟩
theorem pdqZPg_fh (cf:Value):Fh Tryz.prog 103 [] [.c .nils,.c (.int .i64 0),.c (.int .i64 0),.c (.int .i64 0),.c (.raw cf)] (fun x h=>x=.tup []∧h=[]):=by
 refine fh_of_body Tryz.func103 rfl rfl (by simp [Tryz.ntmps103]) fun C hC=> ?_
 simp only [initS,Nat.reduceAdd]
 refine xG ?_
 refine aw_lp (fun _:Unit=>[(0,.c .nils),(1,.c (.int .i64 0)),(2,.c (.int .i64 0)),(4,.c (.raw cf))]) (fun _=>[]) (fun _=>(0:Nat)=0) (fun _=>0) () eB zZ rfl ?_
 rintro _ _
 refine xGPG ?_
 refine aw_callh (hc:=[]) (hr:=[]) (insZPg_fh cf) rfl rfl rfl (.refl _) eL ?_
 rintro _ _ ⟨rfl,rfl⟩ _
 refine xSGU ?_
 exact⟨rfl,rfl⟩
theorem sortZPg_fh (cf:Value):Fh Tryz.prog 48 [] [.c .nils,.c (.raw cf)] (fun x h=>x=.tup []∧h=[]):=by
 have w0:wrapZ .u64 (0:Int)=0:=by rw [wrapZ_eq];rfl
 refine fh_of_body Tryz.func48 rfl rfl (by simp [Tryz.ntmps48]) fun C hC=> ?_
 simp only [initS,Nat.reduceAdd]
 refine yG w0 ?_
 refine yC w0 (lenZ0_fa) ?_
 refine yG w0 ?_
 refine aw_callh (hc:=[]) (hr:=[]) (pdqZPg_fh cf) rfl rfl rfl (.refl _) (zL w0) ?_
 rintro _ _ ⟨rfl,rfl⟩ _
 refine ySGV w0 ?_
 exact⟨rfl,rfl⟩
theorem insZGr_fh (cf:Value):Fh Tryz.prog 192 [] [.c .nils,.c (.int .i64 0),.c (.int .i64 0),.c (.raw cf)] (fun x h=>x=.tup []∧h=[]):=by
 refine fh_of_body Tryz.func192 rfl rfl (by simp [Tryz.ntmps192]) fun C hC=> ?_
 simp only [initS,Nat.reduceAdd]
 refine xG ?_
 refine aw_lp (fun _:Unit=>[(8,.c (.int .i64 1)),(2,.c (.int .i64 0))]) (fun _=>[]) (fun _=>(0:Nat)=0) (fun _=>0) () eB zZ rfl ?_
 rintro _ _
 refine xGNGV ?_
 exact⟨rfl,rfl⟩
theorem pdqZGr_fh (cf:Value):Fh Tryz.prog 105 [] [.c .nils,.c (.int .i64 0),.c (.int .i64 0),.c (.int .i64 0),.c (.raw cf)] (fun x h=>x=.tup []∧h=[]):=by
 refine fh_of_body Tryz.func105 rfl rfl (by simp [Tryz.ntmps105]) fun C hC=> ?_
 simp only [initS,Nat.reduceAdd]
 refine xG ?_
 refine aw_lp (fun _:Unit=>[(0,.c .nils),(1,.c (.int .i64 0)),(2,.c (.int .i64 0)),(4,.c (.raw cf))]) (fun _=>[]) (fun _=>(0:Nat)=0) (fun _=>0) () eB zZ rfl ?_
 rintro _ _
 refine xGPG ?_
 refine aw_callh (hc:=[]) (hr:=[]) (insZGr_fh cf) rfl rfl rfl (.refl _) eL ?_
 rintro _ _ ⟨rfl,rfl⟩ _
 refine xSGU ?_
 exact⟨rfl,rfl⟩
theorem sortZGr_fh (cf:Value):Fh Tryz.prog 52 [] [.c .nils,.c (.raw cf)] (fun x h=>x=.tup []∧h=[]):=by
 have w0:wrapZ .u64 (0:Int)=0:=by rw [wrapZ_eq];rfl
 refine fh_of_body Tryz.func52 rfl rfl (by simp [Tryz.ntmps52]) fun C hC=> ?_
 simp only [initS,Nat.reduceAdd]
 refine yG w0 ?_
 refine yC w0 (lenZ0_fa) ?_
 refine yG w0 ?_
 refine aw_callh (hc:=[]) (hr:=[]) (pdqZGr_fh cf) rfl rfl rfl (.refl _) (zL w0) ?_
 rintro _ _ ⟨rfl,rfl⟩ _
 refine ySGV w0 ?_
 exact⟨rfl,rfl⟩
theorem insZVl_fh (cf:Value):Fh Tryz.prog 200 [] [.c .nils,.c (.int .i64 0),.c (.int .i64 0),.c (.raw cf)] (fun x h=>x=.tup []∧h=[]):=by
 refine fh_of_body Tryz.func200 rfl rfl (by simp [Tryz.ntmps200]) fun C hC=> ?_
 simp only [initS,Nat.reduceAdd]
 refine xG ?_
 refine aw_lp (fun _:Unit=>[(8,.c (.int .i64 1)),(2,.c (.int .i64 0))]) (fun _=>[]) (fun _=>(0:Nat)=0) (fun _=>0) () eB zZ rfl ?_
 rintro _ _
 refine xGNGV ?_
 exact⟨rfl,rfl⟩
theorem pdqZVl_fh (cf:Value):Fh Tryz.prog 106 [] [.c .nils,.c (.int .i64 0),.c (.int .i64 0),.c (.int .i64 0),.c (.raw cf)] (fun x h=>x=.tup []∧h=[]):=by
 refine fh_of_body Tryz.func106 rfl rfl (by simp [Tryz.ntmps106]) fun C hC=> ?_
 simp only [initS,Nat.reduceAdd]
 refine xG ?_
 refine aw_lp (fun _:Unit=>[(0,.c .nils),(1,.c (.int .i64 0)),(2,.c (.int .i64 0)),(4,.c (.raw cf))]) (fun _=>[]) (fun _=>(0:Nat)=0) (fun _=>0) () eB zZ rfl ?_
 rintro _ _
 refine xGPG ?_
 refine aw_callh (hc:=[]) (hr:=[]) (insZVl_fh cf) rfl rfl rfl (.refl _) eL ?_
 rintro _ _ ⟨rfl,rfl⟩ _
 refine xSGU ?_
 exact⟨rfl,rfl⟩
theorem sortZVl_fh (cf:Value):Fh Tryz.prog 54 [] [.c .nils,.c (.raw cf)] (fun x h=>x=.tup []∧h=[]):=by
 have w0:wrapZ .u64 (0:Int)=0:=by rw [wrapZ_eq];rfl
 refine fh_of_body Tryz.func54 rfl rfl (by simp [Tryz.ntmps54]) fun C hC=> ?_
 simp only [initS,Nat.reduceAdd]
 refine yG w0 ?_
 refine yC w0 (lenZ0_fa) ?_
 refine yG w0 ?_
 refine aw_callh (hc:=[]) (hr:=[]) (pdqZVl_fh cf) rfl rfl rfl (.refl _) (zL w0) ?_
 rintro _ _ ⟨rfl,rfl⟩ _
 refine ySGV w0 ?_
 exact⟨rfl,rfl⟩
theorem insZGt_fh (cf:Value):Fh Tryz.prog 255 [] [.c .nils,.c (.int .i64 0),.c (.int .i64 0),.c (.raw cf)] (fun x h=>x=.tup []∧h=[]):=by
 refine fh_of_body Tryz.func255 rfl rfl (by simp [Tryz.ntmps255]) fun C hC=> ?_
 simp only [initS,Nat.reduceAdd]
 refine xG ?_
 refine aw_lp (fun _:Unit=>[(8,.c (.int .i64 1)),(2,.c (.int .i64 0))]) (fun _=>[]) (fun _=>(0:Nat)=0) (fun _=>0) () eB zZ rfl ?_
 rintro _ _
 refine xGNGV ?_
 exact⟨rfl,rfl⟩
theorem pdqZGt_fh (cf:Value):Fh Tryz.prog 155 [] [.c .nils,.c (.int .i64 0),.c (.int .i64 0),.c (.int .i64 0),.c (.raw cf)] (fun x h=>x=.tup []∧h=[]):=by
 refine fh_of_body Tryz.func155 rfl rfl (by simp [Tryz.ntmps155]) fun C hC=> ?_
 simp only [initS,Nat.reduceAdd]
 refine xG ?_
 refine aw_lp (fun _:Unit=>[(0,.c .nils),(1,.c (.int .i64 0)),(2,.c (.int .i64 0)),(4,.c (.raw cf))]) (fun _=>[]) (fun _=>(0:Nat)=0) (fun _=>0) () eB zZ rfl ?_
 rintro _ _
 refine xGPG ?_
 refine aw_callh (hc:=[]) (hr:=[]) (insZGt_fh cf) rfl rfl rfl (.refl _) eL ?_
 rintro _ _ ⟨rfl,rfl⟩ _
 refine xSGU ?_
 exact⟨rfl,rfl⟩
theorem sortZGt_fh (cf:Value):Fh Tryz.prog 96 [] [.c .nils,.c (.raw cf)] (fun x h=>x=.tup []∧h=[]):=by
 have w0:wrapZ .u64 (0:Int)=0:=by rw [wrapZ_eq];rfl
 refine fh_of_body Tryz.func96 rfl rfl (by simp [Tryz.ntmps96]) fun C hC=> ?_
 simp only [initS,Nat.reduceAdd]
 refine yG w0 ?_
 refine yC w0 (lenZ0_fa) ?_
 refine yG w0 ?_
 refine aw_callh (hc:=[]) (hr:=[]) (pdqZGt_fh cf) rfl rfl rfl (.refl _) (zL w0) ?_
 rintro _ _ ⟨rfl,rfl⟩ _
 refine ySGV w0 ?_
 exact⟨rfl,rfl⟩
theorem insZSt_fh:Fh Tryz.prog 183 [] [.c .nils,.c (.int .i64 0),.c (.int .i64 0)] (fun x h=>x=.tup []∧h=[]):=by
 refine fh_of_body Tryz.func183 rfl rfl (by simp [Tryz.ntmps183]) fun C hC=> ?_
 simp only [initS,Nat.reduceAdd]
 refine xG ?_
 refine aw_lp (fun _:Unit=>[(6,.c (.int .i64 1)),(2,.c (.int .i64 0))]) (fun _=>[]) (fun _=>(0:Nat)=0) (fun _=>0) () eB zZ rfl ?_
 rintro _ _
 refine xGNGV ?_
 exact⟨rfl,rfl⟩
theorem pdqZSt_fh:Fh Tryz.prog 104 [] [.c .nils,.c (.int .i64 0),.c (.int .i64 0),.c (.int .i64 0)] (fun x h=>x=.tup []∧h=[]):=by
 refine fh_of_body Tryz.func104 rfl rfl (by simp [Tryz.ntmps104]) fun C hC=> ?_
 simp only [initS,Nat.reduceAdd]
 refine xG ?_
 refine aw_lp (fun _:Unit=>[(0,.c .nils),(1,.c (.int .i64 0)),(2,.c (.int .i64 0))]) (fun _=>[]) (fun _=>(0:Nat)=0) (fun _=>0) () eB zZ rfl ?_
 rintro _ _
 refine xGPG ?_
 refine aw_callh (hc:=[]) (hr:=[]) (insZSt_fh) rfl rfl rfl (.refl _) eL ?_
 rintro _ _ ⟨rfl,rfl⟩ _
 refine xSGU ?_
 exact⟨rfl,rfl⟩
theorem sortZSt_fh:Fh Tryz.prog 51 [] [.c .nils] (fun x h=>x=.tup []∧h=[]):=by
 have w0:wrapZ .u64 (0:Int)=0:=by rw [wrapZ_eq];rfl
 refine fh_of_body Tryz.func51 rfl rfl (by simp [Tryz.ntmps51]) fun C hC=> ?_
 simp only [initS,Nat.reduceAdd]
 refine yG w0 ?_
 refine yC w0 (lenZ0_fa) ?_
 refine yG w0 ?_
 refine aw_callh (hc:=[]) (hr:=[]) (pdqZSt_fh) rfl rfl rfl (.refl _) (zL w0) ?_
 rintro _ _ ⟨rfl,rfl⟩ _
 refine ySGV w0 ?_
 exact⟨rfl,rfl⟩
end Go.Proofs.YtpcpaekpnfkhhaaGreatDoor
namespace Go.PN
open Go.AI
def decB (n:Nat):BS:=if h:n<10 then [UInt8.ofNat (48+n)] else decB (n/10)++[UInt8.ofNat (48+n%10)]
termination_by n
decreasing_by omega
theorem decB_lt {n:Nat} (h:n<10):decB n=[UInt8.ofNat (48+n)]:=by rw [decB,dif_pos h]
theorem decB_ge {n:Nat} (h:10≤n):decB n=decB (n/10)++[UInt8.ofNat (48+n%10)]:=by rw [decB,dif_neg om]
theorem d48 {n:Nat} (h:n<10):(UInt8.ofNat (48+n)).toNat=48+n:=by
 rw [UInt8.toNat_ofNat'];exact Nat.mod_eq_of_lt (Nat.lt_of_lt_of_le (show 48+n<58 by omega) (by decide))
abbrev dgB (b:UInt8):Bool:=isDig b.toNat
theorem d48_dig {n:Nat} (h:n<10):dgB (UInt8.ofNat (48+n))=true:=by
 show isDig _=true
 rw [d48 h]
 unfold isDig
 simp;omega
theorem natB_snoc (a:BS) (x:UInt8):natB (a++[x])=natB a*10+(x.toNat-48):=by unfold natB;rw [List.foldl_append];rfl
theorem decB_ok:∀(k n:Nat),n≤k→natB (decB n)=n∧0<(decB n).length∧(decB n).all dgB=true∧(n≠0→(decB n).headD 0≠48)
 |k,n,hk=>by
  by_cases h:n<10
  ·rw [decB_lt h]
   refine⟨?_,by simp,?_,fun h0=> ?_⟩
   ·show 0*10+((UInt8.ofNat (48+n)).toNat-48)=n
    rw [d48 h];omega
   ·rw [List.all_cons,d48_dig h];rfl
   ·show UInt8.ofNat (48+n)≠48
    intro e
    have:=congrArg UInt8.toNat e
    rw [d48 h] at this
    have:48+n=48:=this
    omega
  ·match k,hk with
   |0,hk=>omega
   |k+1,hk=>
    obtain⟨i1,i2,i3,i4⟩:=decB_ok k (n/10) om
    have hm:=Nat.mod_lt n (show 0<10 by decide)
    rw [decB_ge om]
    refine⟨?_,by rw [List.length_append];omega,?_,fun _=> ?_⟩
    ·rw [natB_snoc,i1,d48 hm];omega
    ·rw [List.all_append,i3,List.all_cons,d48_dig hm];rfl
    ·have:=i4 om
     cases hd:decB (n/10) with
     |nil=>rw [hd] at i2;simp at i2
     |cons a l=>rw [hd] at this;exact this
theorem decB_nat (n:Nat):natB (decB n)=n:=(decB_ok n n (Nat.le_refl _)).1
theorem decB_pos (n:Nat):0<(decB n).length:=(decB_ok n n (Nat.le_refl _)).2.1
theorem decB_dig (n:Nat):(decB n).all dgB=true:=(decB_ok n n (Nat.le_refl _)).2.2.1
theorem natB_pos:∀(k:Nat) (l:BS),l.length≤k→l≠[]→l.all dgB=true→l.headD 0≠48→0<natB l
 |0,l,hl,h0,_,_=>absurd (List.length_eq_zero_iff.1 om) h0
 |k+1,l,hl,h0,hd,hh=>by
  obtain⟨a,x,rfl⟩:∃a x,l=a++[x]:=⟨_,_,(List.dropLast_concat_getLast h0).symm⟩
  rw [natB_snoc]
  cases a with
  |nil=>
   have hx:dgB x=true:=by simpa using hd
   have hx2:x≠48:=hh
   have hx3:isDig x.toNat=true:=hx
   unfold isDig at hx3
   have h4:x.toNat≠48:=fun e=>hx2 (UInt8.toNat_inj.1 e)
   simp at hx3
   omega
  |cons c a=>
   have hd2:(c::a).all dgB=true:=by rw [List.all_append] at hd;simp only [Bool.and_eq_true] at hd;exact hd.1
   have:=natB_pos k (c::a) (by rw [List.length_append] at hl;simpa using hl) (by simp) hd2 hh
   omega
theorem decB_uniq:∀(k:Nat) (l:BS),l.length≤k→l≠[]→l.all dgB=true→l.headD 0≠48→l=decB (natB l)
 |0,l,hl,h0,_,_=>absurd (List.length_eq_zero_iff.1 om) h0
 |k+1,l,hl,h0,hd,hh=>by
  obtain⟨a,x,rfl⟩:∃a x,l=a++[x]:=⟨_,_,(List.dropLast_concat_getLast h0).symm⟩
  have hx:isDig x.toNat=true:=by
   rw [List.all_append,Bool.and_eq_true] at hd
   have h2:=hd.2
   rw [List.all_cons,Bool.and_eq_true] at h2
   exact h2.1
  unfold isDig at hx
  simp at hx
  have hxe:∀m,m=x.toNat-48→UInt8.ofNat (48+m)=x:=fun m hm=>by
   apply UInt8.toNat_inj.1
   rw [d48 om];omega
  rw [natB_snoc]
  cases a with
  |nil=>
   rw [decB_lt (by show 0*10+_<10;omega)]
   show [x]=_
   rw [hxe (natB []*10+(x.toNat-48)) (by show 0*10+_=_;omega)]
  |cons c a=>
   have hd2:(c::a).all dgB=true:=by rw [List.all_append] at hd;simp only [Bool.and_eq_true] at hd;exact hd.1
   have h1:=natB_pos (a.length+1) (c::a) (by simp) (by simp) hd2 hh
   have ih:=decB_uniq k (c::a) (by rw [List.length_append] at hl;simpa using hl) (by simp) hd2 hh
   generalize hN:natB (c::a)=N at*
   rw [decB_ge om,show(N*10+(x.toNat-48))/10=N from by omega,hxe _ om,←ih]
theorem decB_one {l:BS} (h0:l≠[]) (hd:l.all dgB=true) (hh:l.headD 0≠48):l=decB (natB l):=decB_uniq l.length l (Nat.le_refl _) h0 hd hh
end Go.PN
namespace Go.PN
def nineL (n:Nat):List UInt8:=(List.range 9).map fun q=>UInt8.ofNat (48+n/10^(8-q)%10)
theorem nineL_len (n:Nat):(nineL n).length=9:=by simp [nineL]
def grps (n:Nat):List (List UInt8):=if h:n=0 then [] else nineL (n%1000000000)::grps (n/1000000000)
termination_by n
decreasing_by omega
theorem grps_zero:grps 0=[]:=by rw [grps];simp
theorem grps_cons {n:Nat} (h:n≠0):grps n=nineL (n%1000000000)::grps (n/1000000000):=by rw [grps];simp [h]
theorem grps_len:∀(M n:Nat),n<536870912^M→(grps n).length≤M
 |0,n,h=>by
  have:n=0:=by simpa using h
  subst this
  rw [grps_zero];simp
 |M+1,n,h=>by
  by_cases h0:n=0
  ·subst h0;rw [grps_zero];simp
  ·rw [grps_cons h0,List.length_cons]
   have:=grps_len M (n/1000000000) (by
    rw [Nat.pow_succ] at h
    generalize 536870912^M=K at*
    omega)
   omega
theorem grps_nine:∀(M n:Nat),n≤M→∀g∈grps n,g.length=9
 |0,n,h,g,hg=>by
  have:n=0:=by omega
  subst this
  rw [grps_zero] at hg;cases hg
 |M+1,n,h,g,hg=>by
  by_cases h0:n=0
  ·subst h0;rw [grps_zero] at hg;cases hg
  ·rw [grps_cons h0,List.mem_cons] at hg
   rcases hg with rfl|hg
   ·exact nineL_len _
   ·exact grps_nine M _ om g hg
theorem grps_bound {xs:List Nat} (hx:∀x∈xs,x<4294967296):(grps (val xs)).length≤2*xs.length:=by
 refine grps_len _ _ (Nat.lt_of_lt_of_le (val_lt xs hx) ?_)
 rw [Nat.pow_mul]
 exact Nat.pow_le_pow_left (by decide) _
def catTo (G:List (List UInt8)):Nat→List UInt8
 |0=>[]
 |i+1=>catTo G i++G.getD (G.length-1-i) []
theorem catTo_len {G:List (List UInt8)} (h:∀g∈G,g.length=9):∀i,i≤G.length→(catTo G i).length=9*i
 |0,_=>rfl
 |i+1,hi=>by
  have h1:=catTo_len h i om
  have h2:(G.getD (G.length-1-i) []).length=9:=by
   rw [List.getD_eq_getElem?_getD,List.getElem?_eq_getElem om]
   exact h _ (List.getElem_mem _)
  rw [catTo,List.length_append,h1,h2];omega
def txtN (n:Nat):List UInt8:=if((catTo (grps n) (grps n).length).dropWhile (·==48))==[] then [48] else(catTo (grps n) (grps n).length).dropWhile (·==48)
theorem txtN_len {xs:List Nat} (hx:∀x∈xs,x<4294967296):(txtN (val xs)).length≤18*xs.length+1:=by
 have h1:=catTo_len (grps_nine _ (val xs) (Nat.le_refl _)) (grps (val xs)).length (Nat.le_refl _)
 have h2:=grps_bound hx
 have h3:=(List.dropWhile_sublist (·==(48:UInt8)) (l:=catTo (grps (val xs)) (grps (val xs)).length)).length_le
 unfold txtN
 split
 ·simp
 ·omega
def rtxt (r:RD):List UInt8:=(if r.ps then [45]++txtN r.pn else txtN r.pn)++(if r.pd=1 then [] else [47]++txtN r.pd)
theorem txtN_le {n L:Nat} (h:(words n).length≤L):(txtN n).length≤18*L+1:=by
 have:=txtN_len (words_lt n)
 rw [val_words] at this
 omega
theorem rtxt_len {r:RD} {L:Nat} (hL:1≤L) (h:r.wf L):(rtxt r).length≤36*L+4:=by
 obtain⟨h1,h2⟩:=RD.p_len h hL
 have h3:=txtN_le h1
 have h4:=txtN_le h2
 unfold rtxt
 split<;>split<;>simp<;>omega
end Go.PN
namespace Go.PN
open Go.AI
theorem natB_fold:∀(b:BS) (n:Nat),b.foldl (fun n b=>n*10+(b.toNat-48)) n=n*10^b.length+natB b
 |[],n=>by simp [natB]
 |x::b,n=>by
  have h1:=natB_fold b (n*10+(x.toNat-48))
  have h2:=natB_fold b (0*10+(x.toNat-48))
  have h3:natB (x::b)=b.foldl (fun n b=>n*10+(b.toNat-48)) (0*10+(x.toNat-48)):=rfl
  rw [List.foldl_cons,h1,h3,h2,List.length_cons,Nat.pow_succ,Nat.add_mul,Nat.mul_assoc,Nat.mul_comm 10,Nat.zero_mul,Nat.zero_add]
  omega
theorem natB_appD (a b:BS):natB (a++b)=natB a*10^b.length+natB b:=by
 have:natB (a++b)=b.foldl (fun n b=>n*10+(b.toNat-48)) (natB a):=by unfold natB;rw [List.foldl_append]
 rw [this,natB_fold]
theorem nine_dig (n:Nat):(nineL n).all dgB=true:=by
 unfold nineL
 rw [List.all_map,List.all_eq_true]
 intro q _
 exact d48_dig (Nat.mod_lt _ (by decide))
theorem nine_nat {n:Nat} (h:n<1000000000):natB (nineL n)=n:=by
 have e:nineL n=[UInt8.ofNat (48+n/100000000%10),UInt8.ofNat (48+n/10000000%10),UInt8.ofNat (48+n/1000000%10),UInt8.ofNat (48+n/100000%10),UInt8.ofNat (48+n/10000%10),UInt8.ofNat (48+n/1000%10),UInt8.ofNat (48+n/100%10),UInt8.ofNat (48+n/10%10),UInt8.ofNat (48+n/1%10)]:=rfl
 have t:∀k,(UInt8.ofNat (48+k%10)).toNat-48=k%10:=fun k=>by rw [d48 (Nat.mod_lt _ (by decide))];omega
 rw [e]
 unfold natB
 simp only [List.foldl_cons,List.foldl_nil,t]
 omega
theorem cat_cons (g:BS) (G:List BS):∀i,i≤G.length→catTo (g::G) i=catTo G i
 |0,_=>rfl
 |i+1,hi=>by
  rw [catTo,catTo,cat_cons g G i om]
  congr 1
  rw [List.length_cons,show G.length+1-1-i=(G.length-1-i)+1 from by omega]
  rfl
theorem cat_all (g:BS) (G:List BS):catTo (g::G) (g::G).length=catTo G G.length++g:=by
 rw [List.length_cons,catTo,cat_cons g G _ (Nat.le_refl _)]
 congr 1
 rw [List.length_cons,show G.length+1-1-G.length=0 from by omega]
 rfl
theorem cat_nat:∀(k n:Nat),n≤k→natB (catTo (grps n) (grps n).length)=n∧(catTo (grps n) (grps n).length).all dgB=true
 |k,n,hk=>by
  by_cases h0:n=0
  ·subst h0;rw [grps_zero];exact⟨rfl,rfl⟩
  ·match k,hk with
   |0,hk=>omega
   |k+1,hk=>
    obtain⟨i1,i2⟩:=cat_nat k (n/1000000000) om
    rw [grps_cons h0,cat_all]
    refine⟨?_,by rw [List.all_append,i2,nine_dig];rfl⟩
    rw [natB_appD,i1,nine_nat (Nat.mod_lt _ (by decide)),nineL_len]
    show n/1000000000*1000000000+_=n
    omega
theorem drop48_nat:∀(l:BS),natB (l.dropWhile (·==48))=natB l
 |[]=>rfl
 |x::l=>by
  rw [List.dropWhile_cons]
  split
  ·rename_i h
   have hx:x=48:=by simpa using h
   subst hx
   exact drop48_nat l
  ·rfl
theorem drop48_dig:∀{l:BS},l.all dgB=true→(l.dropWhile (·==48)).all dgB=true
 |[],_=>rfl
 |x::l,h=>by
  rw [List.dropWhile_cons]
  split
  ·exact drop48_dig (by rw [List.all_cons] at h;simp only [Bool.and_eq_true] at h;exact h.2)
  ·exact h
theorem drop48_head:∀{l:BS},l.dropWhile (·==48)≠[]→(l.dropWhile (·==48)).headD 0≠48
 |[],h=>absurd rfl h
 |x::l,h=>by
  rw [List.dropWhile_cons] at h⊢
  split
  ·rename_i e;rw [if_pos e] at h;exact drop48_head h
  ·rename_i e;simpa using e
theorem txtN_dec (n:Nat):txtN n=decB n:=by
 obtain⟨h1,h2⟩:=cat_nat n n (Nat.le_refl _)
 unfold txtN
 generalize catTo (grps n) (grps n).length=D at*
 have h3:=drop48_nat D
 have h4:=drop48_dig h2
 have h5:=drop48_head (l:=D)
 generalize D.dropWhile (·==48)=E at*
 split
 ·rename_i e
  have:E=[]:=by simpa using e
  subst this
  have:n=0:=by rw [←h1,←h3];rfl
  subst this
  rw [decB_lt (by decide)];rfl
 ·rename_i e
  have e:E≠[]:=by simpa using e
  have:=decB_one e h4 (h5 e)
  rw [h3,h1] at this
  exact this
end Go.PN
namespace Go.PN
open Go.AI
def joinW:List BS→BS
 |[]=>[]
 |x::l=>x++l.flatMap fun y=>32::y
def lineW (l:List BS):BS:=joinW l++[59]
abbrev kNone:BS:=[110,111,110,101]
def kindW (k:Int):BS:=if k<0∨k≥9 then kNone else [kAnd,kOr,kVote,kNot,kXor,kInhibit,kPand,kSpare,kDepend].getD k.toNat []
def itoaB (k:Int):BS:=if k<0 then 45::decB k.natAbs else decB k.natAbs
def gateW (g:GtD):List BS:=kGate::g.name::kindW g.kind::((if g.kind=2 then [itoaB g.k] else if g.kind=7 then [rtxt g.dorm] else [])++g.inputs)
def gateX (g:GtD):BS:=lineW (gateW g)
def partW (w:BS) (r:RD):List BS:=if signQ r.q=0 then [] else [w,rtxt r]
def evW (x:EvD):List BS:=kEvent::x.name::(partW kP x.p++partW kFail x.fail++partW kRepair x.rep++partW kCost (rd (x.cost:Rat)))
def evX (x:EvD):BS:=lineW (evW x)++[10]
def hsX (x:HsD):BS:=lineW [kHouse,x.name,if x.on then kOn else kOff]++[10]
def gtX (ind:BS) (g:GtD):BS:=ind++gateX g++[10]
def headX (k name top:BS):BS:=k++32::(name++32::(kTop++32::(top++[32,123,10])))
def pgX (x:PgD):BS:=headX kPage x.name x.top++x.gates.flatMap (gtX [32,32])++[125,10]
def grW (x:GrD):List BS:=kGroup::x.name::(if x.kind=1 then kGreek else kBeta)::(x.factors.map rtxt++kColon::x.members)
def grX (x:GrD):BS:=lineW (grW x)++[10]
def vlX (v:VlD):BS:=[32,32]++lineW [v.event,rtxt v.p]++[10]
def phX (x:PhD):BS:=headX kPhase x.name x.top++x.values.flatMap vlX++[125,10]
def textX (m:MdD):BS:=lineW [kModel,m.name]++10::(m.events.flatMap evX++(m.houses.flatMap hsX++(m.gates.flatMap (gtX [])++(m.pages.flatMap pgX++(m.groups.flatMap grX++(m.phases.flatMap phX++(lineW [kTop,m.top]++[10])))))))
def longR (r:RD):Bool:=decide ((rtxt r).length>100)
def longE (x:EvD):Bool:=longR x.p||longR x.fail||longR x.rep
def longG (l:List GtD):Bool:=l.any fun g=>longR g.dorm
def longX (m:MdD):Bool:=m.events.any longE||longG m.gates||m.pages.any (fun p=>longG p.gates)||m.groups.any (fun x=>x.factors.any longR)||m.phases.any fun x=>x.values.any fun v=>longR v.p
def textR (m:MdD):BS×Int:=if longX m=true∨(textX m).length>65536 then([],4) else(textX m,0)
theorem rd_self {r:RD} {L:Nat} (hw:r.wf L) (hv:r.valid=true):rd r.q=r:=by
 by_cases hn:r.num.length=0
 ·have hs:r.some=false:=by simp [RD.some,hn]
  obtain⟨neg,num,den⟩:=r
  have h1:num=[]:=List.length_eq_zero_iff.1 hn
  subst h1
  unfold RD.valid at hv
  by_cases hd:den.length=0
  ·have h2:den=[]:=List.length_eq_zero_iff.1 hd
   subst h2
   have h3:neg=false:=by simpa using hv
   subst h3
   have hq:RD.q ⟨false,[],[]⟩=0:=by unfold RD.q RD.ps RD.pn RD.pd;rw [hs];rfl
   rw [hq]
   unfold rd
   rw [if_pos (by rfl)]
   simp [words_zero]
  ·rw [if_neg (fun h=>hd h.2)] at hv
   simp [plainB] at hv
 ·have hs:r.some=true:=by simp [RD.some,hn,hv]
  obtain⟨s1,s2,s3,s4,s5⟩:=RD.some_spec hw hs
  obtain⟨a1,a2⟩:=mkRat_nd (n:=sgn r.neg (val r.num)) s4
  rw [sgn_abs,s5] at a1 a2
  have hq:r.q=mkRat (sgn r.neg (val r.num)) (val r.den):=by unfold RD.q RD.ps RD.pn RD.pd sq;rw [hs];rfl
  have b1:r.q.num=sgn r.neg (val r.num):=by rw [hq,a1];simp
  have b2:r.q.den=val r.den:=by rw [hq,a2];simp
  have b3:decide (r.q.num<0)=r.neg:=by
   rw [b1];unfold sgn
   cases r.neg<;>simp<;>omega
  have b4:r.q.num≠0:=by
   rw [b1];unfold sgn
   cases r.neg<;>simp<;>omega
  unfold rd
  rw [if_neg b4,b3,b2,b1,sgn_abs,s1,s2]
end Go.PN
