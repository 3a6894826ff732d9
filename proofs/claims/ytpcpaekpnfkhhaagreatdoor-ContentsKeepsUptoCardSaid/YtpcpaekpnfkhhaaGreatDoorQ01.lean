/- Parts of one proof, laid by a program. -/
import Derived.Test.YtpcpaekpnfkhhaaGreatDoorM00
import Derived.Test.YtpcpaekpnfkhhaaGreatDoorM14
import Derived.ShutString
import Derived.Laws.IdiomRangeMap
import Derived.Deep.Draws
set_option linter.unusedSimpArgs false
set_option linter.unusedVariables false
set_option maxRecDepth 100000
set_option maxHeartbeats 12800000
namespace Go.Proofs.YtpcpaekpnfkhhaaGreatDoor
open Go.AI Go.PN Go.ChangeShapes Go.WideShapes Go.RowKit
theorem rdr_nat8 {P:Program} {t:TypeId} (ht:P.underlying t=some (.int .u8)):Rdr P t (fun n:Nat=>[.int .u8 n]) (fun n _=>n≤255):=fun H enc w fuel cs x h=>by
 obtain⟨n,rfl,rfl,hw⟩:=DataW.trod_int ht h
 have hb:0≤n∧n≤255:=by simpa [Lit.wf,IntKind.min,IntKind.max,IntKind.signed,IntKind.bits] using hw
 refine⟨n.toNat,⟨?_,trivial⟩,by omega⟩
 show Value.int .u8 n=Value.int .u8 ((n.toNat:Nat):Int)
 rw [show((n.toNat:Nat):Int)=n from by omega]
end Go.Proofs.YtpcpaekpnfkhhaaGreatDoor
namespace Go.AI
open Go.PN
def ItB (g c:Nat) (seen:List Nat) (o:Obj):Prop:=o=.mapIter (some g) c seen.toArray c
theorem MapB.O {α:Type} {K:α→Value} {kb:List (α×Value×Nat)} {c:Nat} {o:Obj} (h:MapB K kb c o) (hn:(kb.map (·.2.2)).Nodup) (hc:∀p∈kb,p.2.2<c):MapO K (kb.map fun p=>(p.1,p.2.1)) o:=by
 obtain⟨es,h1,h2⟩:=h
 have e3:es.toList.map (·.born)=kb.map (·.2.2):=by
  have:=congrArg (List.map fun x:Value×Value×Nat=>x.2.2) h2
  rw [List.map_map,List.map_map] at this
  exact this
 refine⟨es,c,h1,?_,by rw [e3];exact hn,fun e he=> ?_⟩
 ·have:=congrArg (List.map fun x:Value×Value×Nat=>(x.1,x.2.1)) h2
  rw [List.map_map,List.map_map] at this
  rw [List.map_map]
  exact this
 ·have hm:e.born∈kb.map (·.2.2):=e3▸List.mem_map.2 ⟨e,he,rfl⟩
  obtain⟨p,hp,e4⟩:=List.mem_map.1 hm
  have:=hc p hp
  omega
theorem cst_rep0 {S:Bool→Nat→Prop} {w:World}:∀v:Value,Rep0 S w (cst v) v:=fun v=>by
 have h:=cst_rep S w v
 cases v<;>exact h
end Go.AI
namespace Go.AI
open Go.PN
theorem run_nextB {P:Program} {w:World} {ty:TypeId} {r g since c0:Nat} {seen:Array Nat} {es:Array MapEntry} {clock:Nat} (hr:w.heap[r]?=some (.mapIter (some g) since seen c0)) (hb:w.heap[g]?=some (.map es clock)) (hold:∀x∈es.toList,x.born<since) (hsc:since≤c0):
  ((leftOf es seen).size=0∧(Instr.next (.pointer (some ⟨r,0,none⟩)) false ty).run P w=.ok (.tuple #[.bool false]) w)∨
  ∃e∈(leftOf es seen).toList,∃n:Nat,(Instr.next (.pointer (some ⟨r,0,none⟩)) false ty).run P w=.ok (.tuple #[.bool true,e.key,e.val]) {(w.drewN n) with heap:=w.heap.setIfInBounds r (.mapIter (some g) since (seen.push e.born) clock)}:=by
 simp only [Instr.next,getObj,Sem.run_bind,Sem.run,hr,hb,Result.andThen,next_test_false seen es since c0 hold hsc,Bool.false_eq_true,if_false]
 unfold leftOf
 have hmem:∀x∈(Array.filter (fun e=> !seen.contains e.born) es).toList,x.born<since:=fun x hx=>hold x (by simp at hx⊢;exact hx.1)
 generalize Array.filter (fun e=> !seen.contains e.born) es=L at hmem⊢
 have e1:L.filter (fun x=>decide (x.born<since))=L:=Array.filter_eq_self.2 (fun x hx=>by simpa using hmem x (by simpa using hx))
 have e2:L.filter (fun x=>decide (x.born≥since))= #[]:=by
  rw [Array.filter_eq_empty_iff]
  intro x hx
  have:=hmem x (by simpa using hx)
  simp
  omega
 simp only [e1,e2,Array.append_empty]
 by_cases h0:L.size=0
 ·left
  have:L= #[]:=Array.eq_empty_of_size_eq_zero h0
  subst this
  refine⟨rfl,?_⟩
  simp [choose,Sem.run,Question.forced]
 ·right
  have hne:L.isEmpty=false:=by simp [Array.isEmpty,h0]
  simp only [hne,Bool.false_eq_true,if_false,Array.empty_append,Array.size_map]
  have hch:∃(j n:Nat),j<L.size∧(choose (Question.mapNext L.size)).run P w=.ok j (w.drewN n):=by
   by_cases hf:L.size≤1
   ·exact⟨0,0,by omega,by simp only [choose,Sem.run,Question.forced,hf,decide_true,if_true];rfl⟩
   ·exact⟨_,1,Nat.mod_lt _ om,by
     simp only [choose,Sem.run,Question.forced,decide_eq_true_eq,hf,if_false,Question.cut]
     rfl⟩
  obtain⟨j,n,hj,hrun⟩:=hch
  refine⟨L[j],by simp,n,?_⟩
  have hset:∀o',(setObj r o').run P (w.drewN n)=.ok () {(w.drewN n) with heap:=w.heap.setIfInBounds r o'}:=fun o'=>by
   have:(w.drewN n).heap[r]?=some (.mapIter (some g) since seen c0):=hr
   simp only [setObj,Sem.run,this]
   rfl
  simp only [hrun,Array.getElem?_map,Array.getElem?_eq_getElem hj,Option.map_some,Sem.run_bind,hset,Result.andThen]
  rfl
theorem mapB_born {α:Type} {Kf:α→Value} {kb:List (α×Value×Nat)} {es:List MapEntry} (hes:es.map (fun e=>(e.key,e.val,e.born))=kb.map (fun p=>(Kf p.1,p.2.1,p.2.2))):es.map (·.born)=kb.map (·.2.2):=by
 have:=congrArg (List.map fun x:Value×Value×Nat=>x.2.2) hes
 rw [List.map_map,List.map_map] at this
 exact this
theorem mapB_mem {α:Type} {Kf:α→Value}:∀{kb:List (α×Value×Nat)} {es:List MapEntry},es.map (fun e=>(e.key,e.val,e.born))=kb.map (fun p=>(Kf p.1,p.2.1,p.2.2))→∀e∈es,∃p∈kb,e.key=Kf p.1∧e.val=p.2.1∧e.born=p.2.2
 |[],[],_,e,he=>by cases he
 |[],_::_,h,_,_=>by cases h
 |_::_,[],h,_,_=>by cases h
 |p::kb,e'::es,h,e,he=>by
  simp only [List.map_cons,List.cons.injEq,Prod.mk.injEq] at h
  rcases List.mem_cons.1 he with rfl|he
  ·exact⟨p,List.mem_cons_self,h.1.1,h.1.2.1,h.1.2.2⟩
  ·obtain⟨q,hq,e2⟩:=mapB_mem h.2 e he
   exact⟨q,List.mem_cons_of_mem _ hq,e2⟩
theorem delSpec {α:Type} [DecidableEq α] {K:α→Value} (a:α):∀(kb:List (α×Value×Nat)) (es:List MapEntry) (n i:Nat) (x:Value),es.map (fun e=>(e.key,e.val,e.born))=kb.map (fun p=>(K p.1,p.2.1,p.2.2))→fAsk a (kb.map (·.1)) es n=some (i,x)→∃j,i=n+j∧(es.eraseIdx j).map (fun e=>(e.key,e.val,e.born))=(delB a kb).map (fun p=>(K p.1,p.2.1,p.2.2))
 |[],[],_,_,_,_,h=>by cases h
 |[],_::_,_,_,_,h,_=>by simp at h
 |_::_,[],_,_,_,h,_=>by simp at h
 |p::kb,e::es,n,i,x,h,hf=>by
  simp only [List.map_cons,List.cons.injEq,Prod.mk.injEq] at h
  simp only [List.map_cons,fAsk] at hf
  split at hf
  ·rename_i ha
   injection hf with hf
   injection hf with h1 h2
   refine⟨0,h1.symm,?_⟩
   simp only [delB,if_pos ha,List.eraseIdx_cons_zero]
   exact h.2
  ·rename_i ha
   obtain⟨j,hj,hm⟩:=delSpec a kb es (n+1) i x h.2 hf
   refine⟨j+1,by omega,?_⟩
   simp only [delB,if_neg ha,List.eraseIdx_cons_succ,List.map_cons,hm,h.1.1,h.1.2.1,h.1.2.2]
theorem delNone {α:Type} [DecidableEq α] (a:α):∀(kb:List (α×Value×Nat)) (es:List MapEntry) (n:Nat),es.length=kb.length→fAsk a (kb.map (·.1)) es n=none→delB a kb=kb
 |[],_,_,_,_=>rfl
 |p::kb,[],_,h,_=>by simp at h
 |p::kb,e::es,n,h,hf=>by
  simp only [List.map_cons,fAsk] at hf
  split at hf
  ·cases hf
  ·rename_i ha
   rw [delB,if_neg ha,delNone a kb es (n+1) (by simpa using h) hf]
section
variable {E : Env} {K : List It} {σ σ' : Sl} {h : Heap} {all rest : List Oper} {o : Oper}
theorem aw_genConv {I J:Obj→Prop} {g:Nat} {pre post:Heap} (hIJ:∀o,I o→J o) (k:aw E K σ (pre++(g,.gen J)::post)):aw E K σ (pre++(g,.gen I)::post):=fun a w s=>by
 have hkeys:(pre++(g,AObj.gen J)::post).keys=(pre++(g,AObj.gen I)::post).keys:=by simp [Heap.keys]
 have hst:Stab E.C (pre++(g,AObj.gen J)::post) w=Stab E.C (pre++(g,AObj.gen I)::post) w:=by unfold Stab;rw [hkeys]
 refine k a w ⟨s.size,s.defers,by rw [hst];exact s.slots,fun g' o' hm=> ?_,by rw [hkeys];exact s.nodup,by rw [hkeys];exact s.keys,s.frame⟩
 rw [hst]
 rcases List.mem_append.1 hm with hm|hm
 ·exact s.heap g' o' (List.mem_append.2 (.inl hm))
 ·rcases List.mem_cons.1 hm with e|hm
  ·injection e with e1 e2
   subst e1 e2
   obtain⟨o,h1,h2⟩:=s.heap _ _ (List.mem_append.2 (.inr List.mem_cons_self))
   exact⟨o,h1,hIJ o h2⟩
  ·exact s.heap g' o' (List.mem_append.2 (.inr (List.mem_cons_of_mem _ hm)))
theorem aw_rangeB {α:Type} {Kf:α→Value} {t kt et g:TypeId} {kv:List (α×Value)} {x:Operand} (hop:o.op=.range t x) (hw:wantA all σ o=some true) (hd:dstOk E.N o.dst=true)
  (ht:tMap E.P t=some (kt,et)) (hx:ev σ x=.c (.raw (.map (some g)))) (hg:h.get g=some (.gen (MapO Kf kv)))
  (k:∀gi kb c,gi∉h.keys→kb.map (fun p=>(p.1,p.2.1))=kv→(kb.map (·.2.2)).Nodup→(∀p∈kb,p.2.2<c)→aw E (.ops all rest::K) (σ.setO o.dst (.c (.optr gi 0))) ((gi,.gen (ItB g c []))::h.set g (.gen (MapB Kf kb c)))):
  aw E (.ops all (o::rest)::K) σ h:=fun ac w s=>by
 have h1:=ev_rep s x
 rw [hx] at h1
 have h1':ac.eval x=.map (some g):=h1
 obtain⟨ob,hb,ho⟩:=s.heap g _ (Heap.get_mem hg)
 obtain⟨kb,c,hB,e1,e2,e3⟩:=ho.B
 have s1:=s.setObj hg (Fr.refl _ w) (ob':=.gen (MapB Kf kb c)) ⟨ob,hb,hB⟩
 obtain⟨es,rfl,hes⟩:=hB
 have hnk:w.heap.size∉h.keys:=fun hm=>Nat.lt_irrefl _ (s.klt hm)
 have s2:=(s1.new (w':=w.alloc (.mapIter (some g) c #[] c)) (ob:=.gen (ItB g c [])) rfl (Fr.alloc _ _ _) (by simp) ⟨_,heap_alloc_new w _,rfl⟩).put hd (r:=.c (.optr w.heap.size 0)) (v:=.pointer (some ⟨w.heap.size,0,none⟩)) rfl
 have hk:=k _ kb c hnk e1 e2 e3 _ _ s2
 show wpList _ _ _ _ _ _
 unfold wpList
 rw [if_pos (s.wanted hw)]
 refine .inl ?_
 unfold Oper.wp
 have hrun:(execOp ac.eval o).run E.P w=.ok (.value (.pointer (some ⟨w.heap.size,0,none⟩))) (w.alloc (.mapIter (some g) c #[] c)):=by
  simp only [execOp,hop,Sem.run_bind,h1',run_range_map w t kt et g es c (tMap_spec ht) hb,Result.andThen_ok]
  rfl
 rw [hrun]
 exact hk
theorem aw_nextB {α:Type} {Kf:α→Value} {x:Operand} {gi g c:Nat} {kb:List (α×Value×Nat)} {seen:List Nat} (hop:o.op=.next x false) (hw:wantA all σ o=some true) (hd:dstOk E.N o.dst=true) (hx:ev σ x=.c (.optr gi 0)) (hi:h.get gi=some (.gen (ItB g c seen))) (hg:h.get g=some (.gen (MapB Kf kb c))) (hold:∀p∈kb,p.2.2<c)
  (k0:(∀p∈kb,p.2.2∈seen)→aw E (.ops all rest::K) (σ.setO o.dst (.tup [.c (.bool false)])) h)
  (k1:∀p∈kb,p.2.2∉seen→aw E (.ops all rest::K) (σ.setO o.dst (.tup [.c (.bool true),cst (Kf p.1),cst p.2.1])) (h.set gi (.gen (ItB g c (seen++[p.2.2]))))):
  aw E (.ops all (o::rest)::K) σ h:=fun ac w s=>by
 have h1:=ev_rep s x
 rw [hx] at h1
 have h1':ac.eval x=.pointer (some ⟨gi,0,none⟩):=h1
 obtain⟨ob,hb,es,rfl,hes⟩:=s.heap g _ (Heap.get_mem hg)
 obtain⟨oi,hbi,rfl⟩:=s.heap gi _ (Heap.get_mem hi)
 have hold':∀x∈es.toList,x.born<c:=fun x hx=>by
  obtain⟨p,hp,_,_,e⟩:=mapB_mem hes x hx
  rw [e];exact hold p hp
 have hil:gi<w.heap.size:=(Array.getElem?_eq_some_iff.1 hbi).1
 show wpList _ _ _ _ _ _
 unfold wpList
 rw [if_pos (s.wanted hw)]
 refine .inl ?_
 unfold Oper.wp
 rcases run_nextB (P:=E.P) (ty:=o.type) hbi hb hold' (Nat.le_refl c) with ⟨h0,hrun⟩|⟨e,he,n,hrun⟩
 ·have hall:∀p∈kb,p.2.2∈seen:=fun p hp=>by
   have hm:p.2.2∈es.toList.map (·.born):=by rw [mapB_born hes];exact List.mem_map.2 ⟨p,hp,rfl⟩
   obtain⟨e,he,e2⟩:=List.mem_map.1 hm
   refine Decidable.byContradiction fun hns=> ?_
   have hin:e∈leftOf es seen.toArray:=by
    unfold leftOf
    refine Array.mem_filter.2 ⟨Array.mem_toList_iff.1 he,?_⟩
    rw [e2]
    simpa using hns
   have:=Array.size_pos_of_mem hin
   omega
  have hx1:(execOp ac.eval o).run E.P w=.ok (.value (.tuple #[.bool false])) w:=by
   simp only [execOp,hop,Sem.run_bind,h1',hrun,Result.andThen_ok]
   rfl
  rw [hx1]
  exact k0 hall _ _ (s.put hd ⟨[_],rfl,rfl,trivial⟩)
 ·obtain⟨he1,he2⟩:=mem_left he
  obtain⟨p,hp,e1,e2,e3⟩:=mapB_mem hes e he1
  have hns:p.2.2∉seen:=fun hm=>by
   rw [e3] at he2
   have:seen.toArray.contains p.2.2=true:=by simpa using hm
   rw [this] at he2;cases he2
  have hx1:(execOp ac.eval o).run E.P w=.ok (.value (.tuple #[.bool true,e.key,e.val])) {(w.drewN n) with heap:=w.heap.setIfInBounds gi (.mapIter (some g) c (seen.toArray.push e.born) c)}:=by
   simp only [execOp,hop,Sem.run_bind,h1',hrun,Result.andThen_ok]
   rfl
  rw [hx1]
  have hfr:Fr (fun b=>b=gi) w {(w.drewN n) with heap:=w.heap.setIfInBounds gi (.mapIter (some g) c (seen.toArray.push e.born) c)}:=by
   refine⟨rfl,rfl,rfl,by simp,Nat.le_add_right _ _,fun b _ hne=> ?_,fun g' m hh=> ?_⟩
   ·dsimp only;rw [Array.getElem?_setIfInBounds_ne (fun e=>hne e.symm)]
   ·obtain⟨cs,ty,⟨fr,hc⟩,hs⟩:=hh
    refine⟨cs,ty,⟨fr,?_⟩,hs⟩
    have hne:g'≠gi:=fun e=>by rw [e,hbi] at hc;cases hc
    dsimp only
    rw [Array.getElem?_setIfInBounds_ne (fun e=>hne e.symm)];exact hc
  have s1:=s.setObj hi hfr (ob':=.gen (ItB g c (seen++[p.2.2]))) ⟨_,by dsimp only;rw [Array.getElem?_setIfInBounds_self_of_lt hil],by unfold ItB;rw [e3];simp⟩
  rw [e1,e2]
  exact k1 p hp hns _ _ (s1.put hd ⟨[_,_,_],rfl,rfl,cst_rep0 _,cst_rep0 _,trivial⟩)
theorem aw_entryB {α:Type} {Kf:α→Value} {x:Operand} {gi g c:Nat} {kb:List (α×Value×Nat)} {seen:List Nat} {p:α×Value×Nat} (hop:o.op=.entry x) (hw:wantA all σ o=some true) (hd:dstOk E.N o.dst=true) (hx:ev σ x=.c (.optr gi 0)) (hi:h.get gi=some (.gen (ItB g c (seen++[p.2.2])))) (hg:h.get g=some (.gen (MapB Kf kb c))) (hp:p∈kb) (hn:(kb.map (·.2.2)).Nodup)
  (k:aw E (.ops all rest::K) (σ.setO o.dst (.tup [cst (Kf p.1),cst p.2.1])) h):aw E (.ops all (o::rest)::K) σ h:=by
 refine aw_step hw (fun ac w s=> ?_) k
 have h1:=ev_rep s x
 rw [hx] at h1
 have h1':ac.eval x=.pointer (some ⟨gi,0,none⟩):=h1
 obtain⟨ob,hb,es,rfl,hes⟩:=s.heap g _ (Heap.get_mem hg)
 obtain⟨oi,hbi,rfl⟩:=s.heap gi _ (Heap.get_mem hi)
 have hborn:=mapB_born hes
 obtain⟨e,he,ek,ev',eb⟩:∃e∈es.toList,e.key=Kf p.1∧e.val=p.2.1∧e.born=p.2.2:=by
  have hm:(Kf p.1,p.2.1,p.2.2)∈es.toList.map fun e=>(e.key,e.val,e.born):=by rw [hes];exact List.mem_map.2 ⟨p,hp,rfl⟩
  obtain⟨e,he,e2⟩:=List.mem_map.1 hm
  injection e2 with e2 e3
  injection e3 with e3 e4
  exact⟨e,he,e2,e3,e4⟩
 have hf:es.find? (·.born==p.2.2)=some e:=by
  rw [←Array.find?_toList,←eb]
  exact find_born e es.toList (by rw [hborn];exact hn) he
 have hrun:(Instr.entry (.pointer (some ⟨gi,0,none⟩))).run E.P w=.ok (.tuple #[e.key,e.val]) w:=by
  have hbk:(seen++[p.2.2]).toArray.back?=some p.2.2:=by simp
  simp only [Instr.entry,getObj,Sem.run_bind,Sem.run,hbi,hb,Result.andThen,hbk,bne_self_eq_false,Bool.false_eq_true,if_false,hf]
  rfl
 refine⟨.tuple #[e.key,e.val],w,.inl ?_,s.put hd ⟨[_,_],rfl,ek▸cst_rep0 _,ev'▸cst_rep0 _,trivial⟩⟩
 simp only [execOp,hop,h1',Sem.run_bind,hrun,Result.andThen_ok]
 rfl
theorem aw_delB {α:Type} [DecidableEq α] {Kf:α→Value} {ts:Array TypeId} {t kt et g c:TypeId} {kb:List (α×Value×Nat)} {x ky:Operand} {ck:AV} {a:α} (hop:o.op=.call {callee:=.builtin .delete,args:= #[x,ky],argTypes:=ts}) (hts:ts[0]?=some t) (hw:wantA all σ o=some true) (hd:dstOk E.N o.dst=true)
  (ht:tMap E.P t=some (kt,et)) (hK:KeyOk E.P kt Kf) (hx:ev σ x=.c (.raw (.map (some g)))) (hg:h.get g=some (.gen (MapB Kf kb c))) (hk:ev σ ky=ck) (hka:∀S w u,Rep S w ck u→u=Kf a)
  {h':Heap} (hh:h.set g (.gen (MapB Kf (delB a kb) c))=h') (k:aw E (.ops all rest::K) (σ.setO o.dst (.tup [])) h'):aw E (.ops all (o::rest)::K) σ h:=by
 subst hh
 refine aw_step hw (fun ac w s=> ?_) k
 have h1:=ev_rep s x
 rw [hx] at h1
 have h1':ac.eval x=.map (some g):=h1
 have h2:=ev_rep s ky
 rw [hk] at h2
 have h2':=hka _ _ _ h2
 obtain⟨ob,hb,es,rfl,hes⟩:=s.heap g _ (Heap.get_mem hg)
 have hkeys:es.toList.map (·.key)=(kb.map (·.1)).map Kf:=by
  have:=congrArg (List.map Prod.fst) hes
  rw [List.map_map,List.map_map] at this
  rw [List.map_map]
  exact this
 have hfind:=hK.find a (kb.map (·.1)) es.toList w hkeys
 have hlen:es.toList.length=kb.length:=by
  have:=congrArg List.length hes
  simpa using this
 have hgl:g<w.heap.size:=(Array.getElem?_eq_some_iff.1 hb).1
 have hfr:∀(es':Array MapEntry) (c':Nat),Fr (fun b=>b=g) w {w with heap:=w.heap.setIfInBounds g (.map es' c')}:=fun es' c'=>by
  refine⟨rfl,rfl,rfl,by simp,Nat.le_refl _,fun b _ hne=> ?_,fun g' m hh=> ?_⟩
  ·dsimp only;rw [Array.getElem?_setIfInBounds_ne (fun e=>hne e.symm)]
  ·obtain⟨cs,ty,⟨fr,hc⟩,hs⟩:=hh
   refine⟨cs,ty,⟨fr,?_⟩,hs⟩
   have hne:g'≠g:=fun e=>by rw [e,hb] at hc;cases hc
   dsimp only
   rw [Array.getElem?_setIfInBounds_ne (fun e=>hne e.symm)];exact hc
 have hdel:∃es':Array MapEntry,es'.toList.map (fun e=>(e.key,e.val,e.born))=(delB a kb).map (fun p=>(Kf p.1,p.2.1,p.2.2))∧(Builtin.delete_ ts o.type #[.map (some g),Kf a]).run E.P w=.ok (.tuple #[]) {w with heap:=w.heap.setIfInBounds g (.map es' c)}:=by
  cases hf:fAsk a (kb.map (·.1)) es.toList 0 with
  |none=>
   refine⟨es,?_,?_⟩
   ·rw [delNone a kb es.toList 0 hlen hf];exact hes
   ·unfold Builtin.delete_
    simp only [hts,List.getElem?_toArray,List.getElem?_cons_zero,List.getElem?_cons_succ,Sem.run_bind,run_underlying (tMap_spec ht),Result.andThen_ok,runGet hb,hK.check,hfind,hf,runSet _ hb,Sem.run_pure]
  |some p=>
   obtain⟨i,y⟩:=p
   obtain⟨j,hj,hm⟩:=delSpec (K:=Kf) a kb es.toList 0 i y hes hf
   rw [Nat.zero_add] at hj
   subst hj
   refine⟨es.eraseIdxIfInBounds i,?_,?_⟩
   ·rw [Array.toList_eraseIdxIfInBounds];exact hm
   ·unfold Builtin.delete_
    simp only [hts,List.getElem?_toArray,List.getElem?_cons_zero,List.getElem?_cons_succ,Sem.run_bind,run_underlying (tMap_spec ht),Result.andThen_ok,runGet hb,hK.check,hfind,hf,runSet _ hb,Sem.run_pure]
 obtain⟨es',hes',hrun⟩:=hdel
 refine⟨.tuple #[],_,.inl ?_,(s.setObj hg (hfr es' c) (ob':=.gen (MapB Kf (delB a kb) c)) ⟨_,by dsimp only;rw [Array.getElem?_setIfInBounds_self_of_lt hgl],es',rfl,hes'⟩).put hd ⟨[],rfl,trivial⟩⟩
 simp [execOp,hop,resolve,invoke,Go.builtin,h1',h2',hrun]
end
end Go.AI
namespace Go.PN
open Go.AI
def dropS (t:BS) (es:List EnD):List EnD:=es.filter fun e=>e.1≠t
theorem DropI.seen_lt {t:BS} {kb0 kb:KB} {seen:List Nat} {n:Nat} (h:DropI t kb0 kb seen n):seen.length≤kb0.length:=by
 have:=nodup_len h.nodup h.from'
 simpa using this
end Go.PN
namespace Go.Proofs.YtpcpaekpnfkhhaaGreatDoor
open Go.AI Go.PN
attribute [local irreducible] aw Fa Fh DrK
theorem len_fg (gS gM:Nat) (most:Nat) (es:List EnD) (hne:gS≠gM):
  Fg2 Tryz.prog 23 gS (SO gM most) gM (MO es) [.c (.optr gS 0)] (.c (.int .i64 es.length)) (MO es):=by
 have n1:¬gM=gS:=fun e=>hne e.symm
 have n2:¬gS=gM:=hne
 have hkl:=kv_len es
 unfold Fg2
 refine fh_of_body Tryz.func23 rfl rfl (by simp [Tryz.ntmps23]) fun C hC=> ?_
 simp only [initS,Nat.reduceAdd]
 all_goals try(have Z:=(oj n1 n2);(repeat' first|refine zV Z ?_|refine zH Z (fun hb=>?_) fun hb=>?_|fail);all_goals clear Z)
 refine aw_pok (POk.eqPtr (b:=false) und_sp (zE (oj n1 n2)) (zE (oj n1 n2)) (.inr ⟨gS,rfl,rfl⟩)) rfl rfl ?_
 have J1:=oj n1 n2
 refine yS J1 ?_
 all_goals repeat' first|refine zV J1 ?_|refine zH J1 (fun hb=>?_) fun hb=>?_|fail
 refine aw_pok (POk.lenO (kv:=kvOf es) (Kf:=keySS) ty_smap (zE J1) (zE J1)) rfl rfl ?_
 rw [hkl]
 refine yS J1 ?_
 all_goals repeat' first|refine zV J1 ?_|refine zH J1 (fun hb=>?_) fun hb=>?_|fail
 refine yU J1 ?_
 exact⟨rfl,rfl⟩
end Go.Proofs.YtpcpaekpnfkhhaaGreatDoor
namespace Go.PN
open Go.AI
structure AcD where
 kind:Nat
 model:Nat
 q:BS
 r:BS
abbrev acc (x:AcD):List CV:=[.int .u8 x.kind,.int .u8 x.model,.str (sB x.q),.str (sB x.r)]
structure AcU (n:Nat) (x:AcD):Prop where
 kind:x.kind≤255
 model:x.model≤255
 q:x.q.length≤n
 r:x.r.length≤n
theorem AcU.mono {m n:Nat} {x:AcD} (h:AcU m x) (hm:m≤n):AcU n x:=⟨h.kind,h.model,Nat.le_trans h.q hm,Nat.le_trans h.r hm⟩
end Go.PN
namespace Go.Proofs.YtpcpaekpnfkhhaaGreatDoor
open Go.AI Go.PN Go.ChangeShapes Go.WideShapes Go.RowKit
theorem u8_mono:∀(y:Nat) (m n:Nat),y≤255→m≤n→y≤255:=fun _ _ _ h _=>h
theorem rdrC_act:Rdr Tryz.prog 56 (fun x:AcD=>acc x) (fun x n=>AcU n x):=
 (rdr_structN Tryz.underlying56 (T:=4) (by kernel_rfl) (rdrS_cons 1 (by kernel_rfl) rfl (rdr_nat8 Tryz.underlying5) u8_mono (rdrS_cons 1 (by kernel_rfl) rfl (rdr_nat8 Tryz.underlying5) u8_mono (rdrS_cons 1 (by kernel_rfl) rfl rdrM_str len_mono (rdrS_cons 1 (by kernel_rfl) rfl rdrM_str len_mono rdrS_nil))))).to (fun y=>⟨y.1,y.2.1,y.2.2.1,y.2.2.2.1⟩) (fun _=>rfl) (fun _ _ h=>⟨h.1,h.2.1,h.2.2.1,h.2.2.2.1⟩)
end Go.Proofs.YtpcpaekpnfkhhaaGreatDoor
namespace Go.AI
section
variable {E : Env} {K : List It} {l : List Oper} {FP FP' : Heap} {σ σ' : Sl} {h : Heap} {o : Oper} {i m : Nat} {cs : List (Nat × Nat)}
theorem cw_delB {α:Type} [DecidableEq α] {Kf:α→Value} {ts:Array TypeId} {t kt et g c:TypeId} {kb:List (α×Value×Nat)} {x ky:Operand} {ck:AV} {a:α} (ho:l[i]?=some o) (hop:o.op=.call {callee:=.builtin .delete,args:= #[x,ky],argTypes:=ts}) (hts:ts[0]?=some t) (hw:wantA l σ o=some true) (hd:dstOk E.N o.dst=true)
  (ht:tMap E.P t=some (kt,et)) (hK:KeyOk E.P kt Kf) (hx:ev σ x=.c (.raw (.map (some g)))) (hg:h.get g=some (.gen (MapB Kf kb c))) (hk:ev σ ky=ck) (hka:∀S w u,Rep S w ck u→u=Kf a)
  {h':Heap} (hh:h.set g (.gen (MapB Kf (delB a kb) c))=h') (hFP:Has0 FP' h') (k:CW E l K FP' cs (σ.setO o.dst (.tup [])) h') (hm:m=2∨m=1∧FP'=FP:=by first|exact .inl rfl|exact .inr ⟨rfl,rfl⟩):CW E l K FP ((i,m)::cs) σ h:=by
 refine .pin ho hm (R:=fun x h2=>x=.tup []∧h2=h') (fun σ' K hs=> ?_) ?_ ?_
 ·exact aw_delB hop hts ((want_same hs).trans hw) hd ht hK ((ev_same (by rw [hop];simp [Op.operands,Call.operands]) hs).trans hx) hg ((ev_same (by rw [hop];simp [Op.operands,Call.operands]) hs).trans hk) hka hh (aw_ops_nil (aw_stop ⟨.tup [],⟨rfl,rfl⟩,rfl⟩))
 ·rintro _ _ ⟨_,rfl⟩;exact hFP
 ·rintro _ _ ⟨rfl,rfl⟩;exact k
end
end Go.AI
namespace Go.PN
open Go.AI
theorem kb_fst {es:List EnD} {kb:KB} (h:kb.map (fun p=>(p.1,p.2.1))=kvOf es):kb.map (·.1)=es.map fun e=>(e.1,e.2.1):=by
 have:=congrArg (List.map Prod.fst) h
 unfold kvOf at this
 rw [List.map_map,List.map_map] at this
 exact this
theorem kb_len {es:List EnD} {kb:KB} (h:kb.map (fun p=>(p.1,p.2.1))=kvOf es):kb.length=es.length:=by
 have:=congrArg List.length h
 unfold kvOf at this
 simpa using this
theorem kb_drop (t:BS):∀{es:List EnD} {kb:KB},kb.map (fun p=>(p.1,p.2.1))=kvOf es→(kb.filter fun p=>p.1.1≠t).map (fun p=>(p.1,p.2.1))=kvOf (dropS t es)
 |[],[],_=>rfl
 |[],_::_,h=>by cases h
 |_::_,[],h=>by cases h
 |e::es,p::kb,h=>by
  unfold kvOf at h
  simp only [List.map_cons,List.cons.injEq,Prod.mk.injEq] at h
  have ih:=kb_drop t (es:=es) (kb:=kb) h.2
  have e1:p.1.1=e.1:=congrArg Prod.fst h.1.1
  unfold dropS at ih⊢
  rw [List.filter_cons,List.filter_cons,e1]
  by_cases ht:e.1=t
  ·simp only [ht,ne_eq,not_true_eq_false,decide_false,Bool.false_eq_true,if_false]
   exact ih
  ·simp only [ht,ne_eq,not_false_eq_true,decide_true,if_true]
   rw [List.map_cons,ih]
   unfold kvOf
   rw [List.map_cons,h.1.1,h.1.2]
def dropN (t:BS) (es:List EnD):Nat:=es.length-(dropS t es).length
end Go.PN
namespace Go.Proofs.YtpcpaekpnfkhhaaGreatDoor
open Go.AI Go.PN
attribute [local irreducible] aw Fa Fh DrK
theorem drop_fg (gS gM:Nat) (m:MdD) (ho:MdO m) (most:Nat) (es:List EnD) (hk:KeyN es) (hl:es.length≤1099511627776) (hne:gS≠gM):
  Fg2 Tryz.prog 24 gS (SO gM most) gM (MO es) [.c (.optr gS 0),.agg (mdc true m)] (.tup [.c (.int .i64 (if(cntR m).2=0 then(dropN (cntR m).1 es:Int) else 0)),.c (errA (cntR m).2)]) (MO (if(cntR m).2=0 then dropS (cntR m).1 es else es)):=by
 have f1:=ctext_fa m ho
 have e0:errA 0=.nilI:=if_pos rfl
 have n1:¬gM=gS:=fun e=>hne e.symm
 have n2:¬gS=gM:=hne
 generalize cntR m=C at*
 obtain⟨t,c⟩:=C
 dsimp only at*
 unfold Fg2
 refine fh_of_body Tryz.func24 rfl rfl (by simp [Tryz.ntmps24]) fun C hC=> ?_
 simp only [initS,Nat.reduceAdd]
 all_goals try(have Z:=(oj n1 n2);(repeat' first|refine zV Z ?_|refine zH Z (fun hb=>?_) fun hb=>?_|fail);all_goals clear Z)
 refine yB (oj n1 n2) fun g3 hn_g3=>?_
 all_goals try(have Z:=(oj n1 (oj n2 hn_g3));(repeat' first|refine zV Z ?_|refine zH Z (fun hb=>?_) fun hb=>?_|fail);all_goals clear Z)
 refine aw_pok (POk.eqPtr (b:=false) und_sp (zE (oj n1 (oj n2 hn_g3))) (zE (oj n1 (oj n2 hn_g3))) (.inr ⟨gS,rfl,rfl⟩)) rfl rfl ?_
 have J1:=oj n1 (oj n2 hn_g3)
 refine yS J1 ?_
 by_cases hc:c=0
 ·subst hc
  rw [if_pos rfl,if_pos rfl,e0]
  rw [e0] at f1
  all_goals repeat' first|refine zV J1 ?_|(refine yC2 J1 (f1) ?_)|(refine yD2 J1 (f1) ?_)|refine zH J1 (fun hb=>?_) fun hb=>?_|fail
  refine aw_rangeB (kv:=kvOf es) (Kf:=keySS) rfl rfl rfl ty_smap (zE J1) (zE J1) fun gi kb c0 hn_gi hkv hst hlt=> ?_
  replace hn_gi:=Heap.ne_of hn_gi
  dsimp only [Heap.ne] at hn_gi
  have J2:=oj n1 (oj n2 (oj hn_g3 hn_gi))
  refine yS J2 ?_
  have hkf:=kb_fst hkv
  have hkn:(kb.map (·.1)).Nodup:=by rw [hkf];exact hk
  have hkl:=kb_len hkv
  all_goals repeat' first|refine zV J2 ?_|refine zH J2 (fun hb=>?_) fun hb=>?_|fail
  refine aw_lp (fun x:KB×List Nat×Nat=>[(0,.c (.optr gS 0)),(6,.c (.str (sB t))),(8,.c (.int .i64 x.2.2)),(25,.c (.optr gi 0))]) (fun x=>[(gi,.gen (ItB gM c0 x.2.1)),(gS,SO gM most),(gM,.gen (MapB keySS x.1 c0))]) (fun x=>DropI t kb x.1 x.2.1 x.2.2) (fun x=>kb.length-x.2.1.length) (kb,[],0) (zB J2) ((List.sublist_cons_self _ _).cons_cons _) (DropI.zero t kb) ?_
  rintro ⟨kb',seen,n⟩ hI
  dsimp only at hI⊢
  have hnb:n≤1099511627776:=by have:=hI.len;omega
  all_goals repeat' first|refine zV J2 ?_|refine zH J2 (fun hb=>?_) fun hb=>?_|fail
  refine aw_nextB (g:=gM) (c:=c0) (Kf:=keySS) (kb:=kb') (seen:=seen) rfl rfl rfl (zE J2) (zE J2) (zE J2) (fun p hp=>hlt p (hI.sub.subset hp)) (fun hall=> ?_) (fun p hp hns=> ?_)
  ·refine yS J2 ?_
   all_goals repeat' first|refine zV J2 ?_|refine zH J2 (fun hb=>?_) fun hb=>?_|fail
   have hf:=hI.fin hst hall
   have hd:=kb_drop t hkv
   rw [←hf] at hd
   have hdl:=kb_len hd
   have hn:(n:Int)=(dropN t es:Int):=by
    have:=hI.len
    unfold dropN
    omega
   have hst2:(kb'.map (·.2.2)).Nodup:=hst.sublist (hI.sub.map _)
   have hlt2:∀p∈kb',p.2.2<c0:=fun p hp=>hlt p (hI.sub.subset hp)
   refine aw_genConv (pre:=[_,_]) (J:=MapO keySS (kvOf (dropS t es))) (fun o ho=>by have:=ho.O hst2 hlt2;rwa [hd] at this) ?_
   simp only [List.cons_append,List.nil_append]
   refine aw_keep [(4,.c (.int .i64 n)),(5,.c .nilI)] [(gS,SO gM most),(gM,MO (dropS t es))] (zB J2) (List.sublist_cons_self _ _) ?_
   refine yU J2 ?_
   rw [hn]
   exact⟨rfl,rfl⟩
  ·rw [show cst (keySS p.1)=.agg [.str (sB p.1.1),.str (sB p.1.2)] from rfl]
   refine yS J2 ?_
   all_goals repeat' first|refine zV J2 ?_|refine zH J2 (fun hb=>?_) fun hb=>?_|fail
   refine aw_entryB (g:=gM) (c:=c0) (Kf:=keySS) (kb:=kb') (seen:=seen) (p:=p) rfl rfl rfl (zE J2) (zE J2) (zE J2) hp (hst.sublist (hI.sub.map _)) ?_
   rw [show cst (keySS p.1)=.agg [.str (sB p.1.1),.str (sB p.1.2)] from rfl]
   refine yS J2 ?_
   all_goals repeat' first|refine zV J2 ?_|refine zH J2 (fun hb=>?_) fun hb=>?_|fail
   refine yA J2 fun g9 hn_g9=>?_
   all_goals try(have Z:=(oj n1 (oj n2 (oj hn_g3 (oj hn_gi hn_g9))));(repeat' first|refine zV Z ?_|refine zH Z (fun hb=>?_) fun hb=>?_|fail);all_goals clear Z)
   ·have hx:=hI.del hst hkn hp hns hb
    have hm:=hx.seen_lt
    rw [List.length_append,List.length_singleton] at hm
    refine aw_cw ([(g9,.cells 129 2 (ofL [.str (sB p.1.1),.str (sB p.1.2)])),(gS,SO gM most)]) [(0,0),(1,0),(2,0),(3,0),(4,0),(5,2)] ty_mixed (by kernel_rfl) eI ?_
    have J3:=oj n1 (oj n2 (oj hn_g3 (oj hn_gi hn_g9)))
    refine yG J3 ?_
    refine cw_delB (FP':=[]) (a:=p.1) (Kf:=keySS) (kb:=kb') rfl rfl rfl rfl rfl ty_smap (keySS_ok ty_key) (zE J3) (zE J3) (zE J3) (keySS_rep p.1.1 p.1.2) rfl has0_nil ?_
    refine ySG J3 ?_
    all_goals repeat' first|refine zV J3 ?_|refine zH J3 (fun hb=>?_) fun hb=>?_|fail
    exact aw_stop ⟨(delB p.1 kb',seen++[p.2.2],n+1),by dsimp only;rw [List.length_append,List.length_singleton];omega,(zB J3),List.sublist_cons_self _ _,hx⟩
   ·have hx:=hI.keep hst hp hns hb
    have hm:=hx.seen_lt
    rw [List.length_append,List.length_singleton] at hm
    exact aw_stop ⟨(kb',seen++[p.2.2],n),by dsimp only;rw [List.length_append,List.length_singleton];omega,(zB (oj n1 (oj n2 (oj hn_g3 (oj hn_gi hn_g9))))),List.sublist_cons_self _ _,hx⟩
 ·have hc':(!decide (c=0))=true:=by rw [decide_eq_false hc];rfl
  rw [if_neg hc,if_neg hc]
  all_goals try(have Z:=(oj n1 (oj n2 (oj hn_g3 hc')));(repeat' first|refine zV Z ?_|(refine yC2 Z (f1) ?_)|(refine yD2 Z (f1) ?_)|refine zH Z (fun hb=>?_) fun hb=>?_|fail);all_goals clear Z)
  refine aw_keep [(4,.c (.int .i64 0)),(5,.c (errA c))] [(gS,SO gM most),(gM,MO es)] (zB (oj n1 (oj n2 (oj hn_g3 hc')))) (List.sublist_cons_self _ _) ?_
  refine yU (oj n1 (oj n2 (oj hn_g3 hc'))) ?_
  exact⟨rfl,rfl⟩
end Go.Proofs.YtpcpaekpnfkhhaaGreatDoor
namespace Go.PN
structure LtOk (lt:Int→Int→Bool):Prop where
 irrefl:∀x,lt x x=false
 trans:∀x y z,lt x y=true→lt y z=true→lt x z=true
 total:∀x y,x≠y→lt x y=false→lt y x=true
def AscR (lt:Int→Int→Bool) (g:Nat→Int) (a b:Nat):Prop:=∀i j,a≤i→i<j→j<b→lt (g i) (g j)=true
def MemR (g:Nat→Int) (a b:Nat) (x:Int):Prop:=∃i,a≤i∧i<b∧g i=x
structure ShufR (g h:Nat→Int) (a b:Nat):Prop where
 out:∀i,(i<a∨b≤i)→h i=g i
 mem:∀x,MemR h a b x↔MemR g a b x
theorem ShufR.refl (g:Nat→Int) (a b:Nat):ShufR g g a b:=⟨fun _ _=>rfl,fun _=>Iff.rfl⟩
theorem ShufR.trans {g h k:Nat→Int} {a b:Nat} (p:ShufR g h a b) (q:ShufR h k a b):ShufR g k a b:=
 ⟨fun i hi=>(q.out i hi).trans (p.out i hi),fun x=>(q.mem x).trans (p.mem x)⟩
theorem ShufR.widen {g h:Nat→Int} {a b c d:Nat} (p:ShufR g h a b) (ha:c≤a) (hb:b≤d):ShufR g h c d:=by
 refine⟨fun i hi=>p.out i om,fun x=>⟨?_,?_⟩⟩
 ·rintro ⟨i,h1,h2,h3⟩
  by_cases hin:a≤i∧i<b
  ·obtain⟨j,j1,j2,j3⟩:=(p.mem x).1 ⟨i,hin.1,hin.2,h3⟩
   exact⟨j,by omega,by omega,j3⟩
  ·exact⟨i,h1,h2,by rw [←p.out i om];exact h3⟩
 ·rintro ⟨i,h1,h2,h3⟩
  by_cases hin:a≤i∧i<b
  ·obtain⟨j,j1,j2,j3⟩:=(p.mem x).2 ⟨i,hin.1,hin.2,h3⟩
   exact⟨j,by omega,by omega,j3⟩
  ·exact⟨i,h1,h2,by rw [p.out i om];exact h3⟩
theorem AscR.same {lt:Int→Int→Bool} {g h:Nat→Int} {a b:Nat} (p:AscR lt g a b) (e:∀i,a≤i→i<b→h i=g i):AscR lt h a b:=fun i j h1 h2 h3=>by
 rw [e i h1 om,e j om h3];exact p i j h1 h2 h3
theorem AscR.sub {lt:Int→Int→Bool} {g:Nat→Int} {a b c d:Nat} (p:AscR lt g a b) (h1:a≤c) (h2:d≤b):AscR lt g c d:=fun i j q1 q2 q3=>p i j om q2 om
theorem asc_join {lt:Int→Int→Bool} {g:Nat→Int} {a m b:Nat} (p:AscR lt g a m) (q:AscR lt g m b) (h:∀x y,MemR g a m x→MemR g m b y→lt x y=true):AscR lt g a b:=fun i j h1 h2 h3=>by
 by_cases hi:j<m
 ·exact p i j h1 h2 hi
 ·by_cases hj:m≤i
  ·exact q i j hj h2 h3
  ·exact h _ _ ⟨i,h1,by omega,rfl⟩ ⟨j,by omega,h3,rfl⟩
structure RotR (g h:Nat→Int) (a m b:Nat):Prop where
 lo:∀p,a≤p→p<a+(b-m)→h p=g (m+(p-a))
 hi:∀p,a+(b-m)≤p→p<b→h p=g (a+(p-(a+(b-m))))
 out:∀p,(p<a∨b≤p)→h p=g p
theorem RotR.shuf {g h:Nat→Int} {a m b:Nat} (r:RotR g h a m b) (h1:a≤m) (h2:m≤b):ShufR g h a b:=by
 refine⟨r.out,fun x=>⟨?_,?_⟩⟩
 ·rintro ⟨p,p1,p2,p3⟩
  by_cases hp:p<a+(b-m)
  ·exact⟨m+(p-a),by omega,by omega,by rw [←r.lo p p1 hp];exact p3⟩
  ·exact⟨a+(p-(a+(b-m))),by omega,by omega,by rw [←r.hi p om p2];exact p3⟩
 ·rintro ⟨p,p1,p2,p3⟩
  by_cases hp:p<m
  ·refine⟨a+(b-m)+(p-a),by omega,by omega,?_⟩
   rw [r.hi _ om om,show a+(a+(b-m)+(p-a)-(a+(b-m)))=p from by omega];exact p3
  ·refine⟨a+(p-m),by omega,by omega,?_⟩
   rw [r.lo _ om om,show m+(a+(p-m)-a)=p from by omega];exact p3
structure SymR (lt:Int→Int→Bool) (g:Nat→Int) (a s m e b:Nat):Prop where
 aS:a≤s
 sm:s≤m
 me:m≤e
 eb:e≤b
 left:AscR lt g a m
 right:AscR lt g m b
 low:∀i j,a≤i→i<s→e≤j→j<b→lt (g i) (g j)=true
 high:∀i j,s≤i→i<m→m≤j→j<e→lt (g j) (g i)=true
theorem SymR.parts {lt:Int→Int→Bool} {g h:Nat→Int} {a s m e b:Nat} (q:SymR lt g a s m e b) (r:RotR g h s m e):
  AscR lt h a s∧AscR lt h s (s+(e-m))∧AscR lt h (s+(e-m)) e∧AscR lt h e b∧∀x y,MemR h a (s+(e-m)) x→MemR h (s+(e-m)) b y→lt x y=true:=by
 have q1:=q.aS
 have q2:=q.sm
 have q3:=q.me
 have q4:=q.eb
 have o:∀i,(i<s∨e≤i)→h i=g i:=r.out
 refine⟨(q.left.sub (Nat.le_refl _) q2).same fun i _ hi=>o i (.inl hi),fun i j i1 i2 i3=> ?_,fun i j i1 i2 i3=> ?_,(q.right.sub q3 (Nat.le_refl _)).same fun i hi _=>o i (.inr hi),?_⟩
 ·rw [r.lo i i1 om,r.lo j om i3]
  exact q.right _ _ om om om
 ·rw [r.hi i i1 om,r.hi j om i3]
  exact q.left _ _ om om om
 ·rintro x y ⟨i,i1,i2,rfl⟩ ⟨j,j1,j2,rfl⟩
  by_cases hi:i<s
  ·rw [o i (.inl hi)]
   by_cases hj:j<e
   ·rw [r.hi j j1 hj]
    exact q.left _ _ om om om
   ·rw [o j (.inr om)]
    exact q.low i j i1 hi om j2
  ·rw [r.lo i om i2]
   by_cases hj:j<e
   ·rw [r.hi j j1 hj]
    exact q.high _ _ om om om om
   ·rw [o j (.inr om)]
    exact q.right _ _ om om j2
theorem SymR.done {lt:Int→Int→Bool} {g h k l:Nat→Int} {a s m e b:Nat} (q:SymR lt g a s m e b) (r:RotR g h s m e)
  (k1:ShufR h k a (s+(e-m))) (k2:AscR lt k a (s+(e-m))) (l1:ShufR k l (s+(e-m)) b) (l2:AscR lt l (s+(e-m)) b):ShufR g l a b∧AscR lt l a b:=by
 have q1:=q.aS
 have q2:=q.sm
 have q3:=q.me
 have q4:=q.eb
 obtain⟨_,_,_,_,hx⟩:=q.parts r
 refine⟨((r.shuf q2 q3).widen q1 q4).trans ((k1.widen (Nat.le_refl _) om).trans (l1.widen om (Nat.le_refl _))),?_⟩
 have la:AscR lt l a (s+(e-m)):=k2.same fun i _ hi=>l1.out i (.inl hi)
 refine asc_join la l2 fun x y mx my=>hx x y ?_ ?_
 ·obtain⟨i,i1,i2,i3⟩:=mx
  exact(k1.mem x).1 ⟨i,i1,i2,by rw [←l1.out i (.inl i2)];exact i3⟩
 ·obtain⟨i,i1,i2,i3⟩:=(l1.mem y).1 my
  exact⟨i,i1,i2,by rw [←k1.out i (.inr i1)];exact i3⟩
end Go.PN
namespace Go.PN
theorem RotR.refl (g:Nat→Int) (a b:Nat):RotR g g a b b:=⟨fun p _ h=>by omega,fun p h _=>by rw [show a+(p-(a+(b-b)))=p from by omega],fun _ _=>rfl⟩
structure XchR (g h:Nat→Int) (a b k:Nat):Prop where
 fst:∀p,a≤p→p<a+k→h p=g (b+(p-a))
 snd:∀p,b≤p→p<b+k→h p=g (a+(p-b))
 out:∀p,¬(a≤p∧p<a+k)→¬(b≤p∧p<b+k)→h p=g p
theorem XchR.zero (g:Nat→Int) (a b:Nat):XchR g g a b 0:=⟨fun p h1 h2=>by omega,fun p h1 h2=>by omega,fun _ _ _=>rfl⟩
end Go.PN
namespace Go.AI
open Go.PN
def uF (z:Nat→Int):Nat→CV:=fun j=>.int .u64 (z j)
@[go_sem] theorem uF_at (z:Nat→Int) (j:Nat):uF z j=.int .u64 (z j):=rfl
end Go.AI

namespace Go.PN
open Go.AI
abbrev ltZ (x y:Int):Bool:=decide (x<y)
theorem mem_succ {z:Nat→Int} {i:Nat} {x:Int}:MemR z 0 (i+1) x↔MemR z 0 i x∨x=z i:=by
 unfold MemR
 constructor
 ·rintro ⟨p,p1,p2,p3⟩
  by_cases e:p=i
  ·rw [e] at p3;exact .inr p3.symm
  ·exact .inl ⟨p,p1,by omega,p3⟩
 ·rintro (⟨p,p1,p2,p3⟩|e)
  ·exact⟨p,p1,by omega,p3⟩
  ·exact⟨i,Nat.zero_le _,by omega,e.symm⟩
structure CpI (z y:Nat→Int) (m i:Nat):Prop where
 le:i≤m
 pos:0<i
 asc:AscR ltZ y 0 i
 mem:∀x,MemR y 0 i x↔MemR z 0 m x
 out:∀p,i≤p→y p=z p
 last:y (i-1)=z (m-1)
theorem CpI.same {z y:Nat→Int} {m i:Nat} (h:CpI z y m i) (e:z m=z (m-1)):CpI z y (m+1) i:=by
 refine⟨Nat.le_succ_of_le h.le,h.pos,h.asc,fun x=> ?_,h.out,by rw [h.last,←e];rfl⟩
 rw [mem_succ,h.mem]
 have:=h.le
 have:=h.pos
 constructor
 ·exact .inl
 ·rintro (q|q)
  ·exact q
  ·exact⟨m-1,Nat.zero_le _,by omega,by rw [q,e]⟩
end Go.PN

namespace Go.PN
open Go.AI
structure KeyI (kb L:KB):Prop where
 nodup:(L.map (·.2.2)).Nodup
 sub:∀p∈L,p∈kb
theorem KeyI.zero (kb:KB):KeyI kb []:=⟨List.nodup_nil,fun _ h=>by cases h⟩
theorem KeyI.add {kb L:KB} (h:KeyI kb L) {p:(BS×BS)×Value×Nat} (hp:p∈kb) (hn:p.2.2∉L.map (·.2.2)):KeyI kb (L++[p]):=by
 refine⟨by rw [List.map_append];exact nodup_snoc h.nodup hn,fun q hq=> ?_⟩
 rcases List.mem_append.1 hq with hq|hq
 ·exact h.sub q hq
 ·rw [List.mem_singleton] at hq;exact hq▸hp
theorem KeyI.len {kb L:KB} (h:KeyI kb L):L.length≤kb.length:=by
 have:=nodup_len h.nodup (n:=kb.map (·.2.2)) fun x hx=>by
  obtain⟨p,hp,e⟩:=List.mem_map.1 hx
  exact List.mem_map.2 ⟨p,h.sub p hp,e⟩
 simpa using this
theorem KeyI.fin {kb L:KB} (h:KeyI kb L) (hs:(kb.map (·.2.2)).Nodup) (ha:∀p∈kb,p.2.2∈L.map (·.2.2)):kb.length=L.length∧∀p,p∈L↔p∈kb:=by
 have h2:∀p∈kb,p∈L:=fun p hp=>by
  obtain⟨q,hq,e⟩:=List.mem_map.1 (ha p hp)
  have:=stamp_eq hs (h.sub q hq) hp e
  exact this▸hq
 refine⟨Nat.le_antisymm ?_ h.len,fun p=>⟨h.sub p,h2 p⟩⟩
 have:=nodup_len hs (n:=L.map (·.2.2)) fun x hx=>by
  obtain⟨p,hp,e⟩:=List.mem_map.1 hx
  exact List.mem_map.2 ⟨p,h2 p hp,e⟩
 simpa using this
end Go.PN

namespace Go.AI
section
variable {E : Env} {K : List It} {l : List Oper} {FP FP' : Heap} {σ σ' : Sl} {h : Heap} {o : Oper} {i m : Nat} {cs : List (Nat × Nat)}
theorem cw_cg2 {f:FuncId} {xs:List Operand} {ts:Array TypeId} {g1 g2:Nat} {o1 o2 o2':AObj} {args:List AV} {r:AV} (ho:l[i]?=some o) (hf:Fg2 E.P f g1 o1 g2 o2 args r o2') (hop:o.op=.call {callee:=.value (.func f),args:=xs.toArray,argTypes:=ts}) (hw:wantA l σ o=some true) (hd:dstOk E.N o.dst=true)
  (h1:h.get g1=some o1) (h2:h.get g2=some o2) (hne:g1≠g2) (le:LeA [] (xs.map (ev σ)) args) (hFP:Has0 FP' (h.set g2 o2')) (k:CW E l K FP' cs (σ.setO o.dst r) (h.set g2 o2')) (hm:m=2∨m=1∧FP'=FP:=by first|exact .inl rfl|exact .inr ⟨rfl,rfl⟩):CW E l K FP ((i,m)::cs) σ h:=by
 refine .pin ho hm (R:=fun x h2'=>x=r∧h2'=h.set g2 o2') (fun σ' K hs=> ?_) ?_ ?_
 ·have he:xs.map (ev σ')=xs.map (ev σ):=evs_same (fun x hx=>by rw [hop];simp [Op.operands,Call.operands,hx]) hs
  exact aw_cg2 hf hop ((want_same hs).trans hw) hd h1 h2 hne (by rw [he];exact le) (aw_ops_nil (aw_stop ⟨r,⟨rfl,rfl⟩,rfl⟩))
 ·rintro _ _ ⟨_,rfl⟩;exact hFP
 ·rintro _ _ ⟨rfl,rfl⟩;exact k
end
end Go.AI
namespace Go.PN
open Go.AI
theorem put_ok {m:MdD} {q r:BS} {most:Nat} {es:List EnD} (h:(cntR m).2=0) (hq:q.length≤65536) (hr:r.length≤65536) (hl:es.length≠most∨getS (cntR m).1 q es≠none):putE m q r most es=0∧putM m q r most es=putS (cntR m).1 q r es:=by
 have e:putE m q r most es=0:=by
  unfold putE
  rw [if_neg (fun z=>z h),if_neg om,if_neg]
  rintro ⟨z1,z2⟩
  rcases hl with hl|hl
  ·exact hl z2
  ·exact hl z1
 exact⟨e,by unfold putM;rw [if_pos e]⟩
theorem ne_app (q:BS) (c:UInt8):q≠q++[c]:=fun e=>by
 have:=congrArg List.length e
 rw [List.length_append,List.length_singleton] at this
 omega
end Go.PN
namespace Go.Proofs.YtpcpaekpnfkhhaaGreatDoor
open Go.AI Go.PN
theorem got_ok {m:MdD} {q:BS} {es:List EnD} (h:(cntR m).2=0):gotS m q es=getS (cntR m).1 q es:=if_pos h
theorem put_fg0 (gS gM:Nat) (m:MdD) (ho:MdO m) (h:(cntR m).2=0) (q r:BS) (most:Nat) (es es':List EnD) (hq:q.length≤65536) (hr:r.length≤65536) (hl:es.length≠most∨getS (cntR m).1 q es≠none) (hm:most≤1024) (hes:es.length≤1024) (he:putS (cntR m).1 q r es=es') (hne:gS≠gM):
  Fg2 Tryz.prog 21 gS (SO gM most) gM (MO es) [.c (.optr gS 0),.agg (mdc true m),.c (.str (sB q)),.c (.str (sB r))] (.c .nilI) (MO es'):=by
 have f:=put_fg gS gM m ho q r most es om om om om hne
 obtain⟨e1,e2⟩:=put_ok h hq hr hl
 rw [e1,e2,he] at f
 exact f
theorem get_fg0 (gS gM:Nat) (m:MdD) (ho:MdO m) (h:(cntR m).2=0) (q:BS) (most:Nat) (es:List EnD) (x:Option BS) (hq:q.length≤1099511627776) (he:getS (cntR m).1 q es=x) (hne:gS≠gM):
  Fg2 Tryz.prog 22 gS (SO gM most) gM (MO es) [.c (.optr gS 0),.agg (mdc true m),.c (.str (sB q))] (.tup [.c (.str (sB (x.getD []))),.c (.bool x.isSome),.c .nilI]) (MO es):=by
 have f:=get_fg gS gM m ho q most es hq hne
 rw [got_ok h,he,h] at f
 exact f
theorem drop_fg0 (gS gM:Nat) (m:MdD) (ho:MdO m) (h:(cntR m).2=0) (most:Nat) (es es':List EnD) (n:Nat) (hk:KeyN es) (hl:es.length≤1024) (he:dropS (cntR m).1 es=es') (hn:es.length-es'.length=n) (hne:gS≠gM):
  Fg2 Tryz.prog 24 gS (SO gM most) gM (MO es) [.c (.optr gS 0),.agg (mdc true m)] (.tup [.c (.int .i64 n),.c .nilI]) (MO es'):=by
 have f:=drop_fg gS gM m ho most es hk om hne
 unfold dropN at f
 rw [if_pos h,if_pos h,h,he,hn] at f
 exact f
end Go.Proofs.YtpcpaekpnfkhhaaGreatDoor
namespace Go.PN
open Go.AI
theorem models_2 (a b:MdD):modelsB [a,b]=(lightB a&&lightB b):=by
 unfold modelsB
 simp
theorem mds_2 (a b:MdD):∀j,j<16→ofL (mdc true a++mdc true b) j=mdsF [a,b] j:=fun j hj=>by
 have:=lf_flat (s:=8) (c:=mdc true) (d:=(md0:MdD)) (xs:=[a,b]) (by decide) (fun _ _=>rfl) j hj
 exact this.symm
abbrev kOther:BS:=[111,116,104,101,114]
abbrev kSecond:BS:=[115,101,99,111,110,100]
theorem keep_s {A q r:BS}:putS A q kSecond [(A,q,r),(A,q++[43],kOther)]=[(A,q,kSecond),(A,q++[43],kOther)]:=by
 have h:getS A q [(A,q,r),(A,q++[43],kOther)]=some r:=if_pos rfl
 unfold putS
 rw [h,if_pos (show(some r).isSome=true from rfl)]
 exact if_pos rfl
theorem keep_1 {A q r:BS}:putS A (q++[43]) kOther [(A,q,r)]=[(A,q,r),(A,q++[43],kOther)]:=by
 have h:getS A (q++[43]) [(A,q,r)]=none:=if_neg (fun e=>ne_app q 43 (congrArg Prod.snd e).symm)
 unfold putS
 rw [h];rfl
theorem keep_n {A B q r:BS} (h:A≠B):putS B q kSecond [(A,q,r),(A,q++[43],kOther)]=[(A,q,r),(A,q++[43],kOther),(B,q,kSecond)]:=by
 have h:getS B q [(A,q,r),(A,q++[43],kOther)]=none:=by
  unfold getS
  rw [if_neg (fun e=>h (congrArg Prod.fst e).symm)]
  unfold getS
  rw [if_neg (fun e=>h (congrArg Prod.fst e).symm)]
  rfl
 unfold putS
 rw [h];rfl
theorem get_p {A q r:BS} {es:List EnD}:getS A (q++[43]) ((A,q,r)::(A,q++[43],kOther)::es)=some kOther:=by
 unfold getS
 rw [if_neg (fun e=>ne_app q 43 (congrArg Prod.snd e).symm)]
 exact if_pos rfl
theorem keyN_2 {A q r:BS}:KeyN [(A,q,r),(A,q++[43],kOther)]:=List.nodup_cons.2 ⟨fun h=>by
 rw [List.map_cons,List.map_nil,List.mem_singleton] at h
 exact ne_app q 43 (congrArg Prod.snd h),List.nodup_cons.2 ⟨List.not_mem_nil,List.nodup_nil⟩⟩
theorem keyN_3 {A B q r:BS} (h:A≠B):KeyN [(A,q,r),(A,q++[43],kOther),(B,q,kSecond)]:=by
 refine List.nodup_cons.2 ⟨fun h2=> ?_,List.nodup_cons.2 ⟨fun h2=> ?_,List.nodup_cons.2 ⟨List.not_mem_nil,List.nodup_nil⟩⟩⟩
 ·rw [List.map_cons,List.map_cons,List.map_nil,List.mem_cons,List.mem_singleton] at h2
  rcases h2 with e|e
  ·exact ne_app q 43 (congrArg Prod.snd e)
  ·exact h (congrArg Prod.fst e)
 ·rw [List.map_cons,List.map_nil,List.mem_singleton] at h2
  exact h (congrArg Prod.fst h2)
theorem get_1n {A B q r:BS} (h:A≠B):getS A q [(B,q,r)]=none:=if_neg (fun e=>h (congrArg Prod.fst e))
theorem get_1 {B q r:BS}:getS B q [(B,q,r)]=some r:=if_pos rfl
theorem drop_2 {A q r:BS}:dropS A [(A,q,r),(A,q++[43],kOther)]=[]:=by simp [dropS]
theorem drop_3 {A B q r:BS} (h:A≠B):dropS A [(A,q,r),(A,q++[43],kOther),(B,q,kSecond)]=[(B,q,kSecond)]:=by
 have h2:¬B=A:=fun e=>h e.symm
 simp [dropS,h2]
end Go.PN
namespace Go.Proofs.YtpcpaekpnfkhhaaGreatDoor
open Go.AI Go.PN
attribute [local irreducible] aw Fa Fh DrK
theorem lawCKeeps_fa (a b:MdD) (x:AcD) {n1 n2 n3:Nat} (ua:MdU n1 a) (ub:MdU n2 b) (ux:AcU n3 x) (hn1:n1≤1048576) (hn2:n2≤1048576) (hn3:n3≤1048576):Fa Tryz.prog 5 [.agg (mdc true a),.agg (mdc true b),.agg (acc x)] (.c (.bool true)):=by
 have f0:=awake58_fa
 have hn:1048576≤1048576:=Nat.le_refl _
 replace ua:=ua.mono hn1
 replace ub:=ub.mono hn2
 have uq:x.q.length≤1048576:=Nat.le_trans ux.q hn3
 have ur:x.r.length≤1048576:=Nat.le_trans ux.r hn3
 clear ux hn1 hn2 hn3
 obtain⟨xk,xm,q,r⟩:=x
 dsimp only at uq ur
 have f1:=models_fa [a,b] (n:=1048576) (fun m hm=>by
  simp only [List.mem_cons,List.not_mem_nil,or_false] at hm
  rcases hm with rfl|rfl
  ·exact ua
  ·exact ub) hn (by show 2≤_;decide)
 have hcv:=mds_2 a b
 have e0:errA 0=.nilI:=if_pos rfl
 rw [models_2] at f1
 refine fa_of_body Tryz.func5 rfl rfl (by simp [Tryz.ntmps5]) fun C hC=> ?_
 simp only [initS,Nat.reduceAdd]
 repeat' first|refine zV o0 ?_|refine zH o0 (fun hb=>?_) fun hb=>?_|fail
 refine xB fun g3 hn_g3=>?_
 refine yB hn_g3 fun g4 hn_g4=>?_
 refine yB (oj hn_g3 hn_g4) fun g5 hn_g5=>?_
 all_goals try(have Z:=(oj hn_g3 (oj hn_g4 hn_g5));(repeat' first|refine zV Z ?_|(refine yC2 Z (f0) ?_)|(refine yD2 Z (f0) ?_)|refine zH Z (fun hb=>?_) fun hb=>?_|fail);all_goals clear Z)
 refine aw_buildSlice (xs:=[.tmp 29,.tmp 30]) (cells:=mdc true a++mdc true b) rfl rfl rfl (zE (oj hn_g3 (oj hn_g4 hn_g5))) (by refine yS (oj hn_g3 (oj hn_g4 hn_g5)) ?_;rfl) rfl om om (by intro z hz;simp only [List.mem_cons,List.not_mem_nil,or_false] at hz;rcases hz with rfl|rfl<;>exact⟨rfl,rfl,rfl⟩) rfl fun gl hn_gl=> ?_
 refine aw_convR (f':=mdsF [a,b]) (fun j hj S w u hr=>by rw [←hcv j hj];exact hr) ?_
 replace hn_gl:=Heap.ne_of hn_gl
 dsimp only [Heap.ne] at hn_gl
 have J1:=oj hn_g3 (oj hn_g4 (oj hn_g5 hn_gl))
 refine yS J1 ?_
 by_cases hl:(lightB a&&lightB b)=true
 ·rw [hl] at f1
  rw [Bool.and_eq_true] at hl
  refine aw_callq f1 rfl rfl rfl ⟨.c (le_mds (n:=2) (zE J1)),trivial⟩ ?_
  clear f1 hcv J1
  have oa:=light_o hl.1 ua hn
  have ob:=light_o hl.2 ub hn
  have fS:=csame_fa a b oa ob
  have J2:=oj hn_g3 (oj hn_g4 (oj hn_g5 hn_gl))
  refine yS J2 ?_
  all_goals repeat' first|refine zV J2 ?_|(refine yC2 J2 (f0) ?_)|(refine yD2 J2 (f0) ?_)|refine zH J2 (fun hb=>?_) fun hb=>?_|fail
  ·refine yT hC J2 ?_
   exact .one (.c (.bool _))
  ·refine yT hC J2 ?_
   exact .one (.c (.bool _))
  have bq:q.length≤1000:=Nat.le_of_not_lt (by assumption)
  have br:r.length≤1000:=Nat.le_of_not_lt hb
  clear uq ur hb J2
  by_cases hA:(cntR a).2=0
  ·by_cases hB:(cntR b).2=0
   ·have hg:=mcC_good (cntR_0 oa hA).1
    have oP:=mdO_re (turnM_r a) oa
    have hct:=cnt_turn oa hA
    have hP:(cntR (turnM a)).2=0:=by rw [hct];exact hA
    have hsE:sameE a b=0:=by unfold sameE;rw [if_neg (fun h=>h hA)];exact hB
    have hsC:sameC a b=((cntR a).1==(cntR b).1):=by unfold sameC;rw [decide_eq_true hA,decide_eq_true hB];rfl
    have fU:=turnM_fa a hg (mdN_of oa hg)
    rw [hsE,hsC,e0] at fS
    have bp:(q++[43]).length≤1001:=by rw [List.length_append];show q.length+1≤1001;omega
    have p1:=fun gS gM hne=>put_fg0 gS gM a oa hA q r 3 [] [((cntR a).1,q,r)] om om (.inl (by decide)) (by decide) (by decide) rfl hne
    have p2:=fun gS gM hne=>put_fg0 gS gM a oa hA (q++[43]) kOther 3 [((cntR a).1,q,r)] _ om (by decide) (.inl (by show 1≠3;decide)) (by decide) (by show 1≤1024;decide) keep_1 hne
    by_cases hAB:(cntR a).1=(cntR b).1
    ·have p3:=fun gS gM hne=>put_fg0 gS gM b ob hB q kSecond 3 [((cntR a).1,q,r),((cntR a).1,q++[43],kOther)] [((cntR a).1,q,kSecond),((cntR a).1,q++[43],kOther)] om (by decide) (.inl (by show 2≠3;decide)) (by decide) (by show 2≤1024;decide) (by rw [←hAB];exact keep_s) hne
     have s1:=fun gS gM hne=>get_fg0 gS gM (turnM a) oP hP q 3 [((cntR a).1,q,kSecond),((cntR a).1,q++[43],kOther)] (some kSecond) om (by rw [hct];exact if_pos rfl) hne
     have s2:=fun gS gM hne=>get_fg0 gS gM a oa hA (q++[43]) 3 [((cntR a).1,q,kSecond),((cntR a).1,q++[43],kOther)] (some kOther) om get_p hne
     have s3:∀gS gM,gS≠gM→Fg2 Tryz.prog 23 gS (SO gM 3) gM (MO [((cntR a).1,q,kSecond),((cntR a).1,q++[43],kOther)]) [.c (.optr gS 0)] (.c (.int .i64 2)) (MO [((cntR a).1,q,kSecond),((cntR a).1,q++[43],kOther)]):=fun gS gM hne=>len_fg gS gM 3 [((cntR a).1,q,kSecond),((cntR a).1,q++[43],kOther)] hne
     have hkn:KeyN [((cntR a).1,q,kSecond),((cntR a).1,q++[43],kOther)]:=keyN_2
     have s4:∀gS gM,gS≠gM→Fg2 Tryz.prog 24 gS (SO gM 3) gM (MO [((cntR a).1,q,kSecond),((cntR a).1,q++[43],kOther)]) [.c (.optr gS 0),.agg (mdc true a)] (.tup [.c (.int .i64 2),.c .nilI]) (MO []):=fun gS gM hne=>drop_fg0 gS gM a oa hA 3 [((cntR a).1,q,kSecond),((cntR a).1,q++[43],kOther)] [] 2 hkn (by show 2≤1024;decide) drop_2 rfl hne
     have s5:=fun gS gM hne=>get_fg0 gS gM a oa hA q 3 [] none om rfl hne
     have s6:=fun gS gM hne=>get_fg0 gS gM b ob hB q 3 [] none om rfl hne
     have hs:((cntR a).1==(cntR b).1)=true:=by rw [hAB];exact beq_self_eq_true _
     rw [hs] at fS
     clear hct hsE hsC hs hkn hAB
     generalize (cntR a).1=A at*
     generalize turnM a=ta at*
     dsimp only [Option.getD_some,Option.isSome_some,Option.getD_none,Option.isSome_none] at s1 s2 s5 s6
     all_goals try(have Z:=(oj hn_g3 (oj hn_g4 (oj hn_g5 hn_gl)));(repeat' first|refine zV Z ?_|(refine yC2 Z (fS) ?_)|(refine yD2 Z (fS) ?_)|refine zH Z (fun hb=>?_) fun hb=>?_|fail);all_goals clear Z)
     refine aw_keep [(3,.c (.optr g3 0)),(4,.c (.optr g4 0)),(5,.c (.optr g5 0)),(6,.c (.bool false)),(7,.c (.bool true))] [(g5,.cells 56 4 (ofL (acc ⟨xk,xm,q,r⟩))),mM g4 b,mM g3 a] (zB (oj hn_g3 (oj hn_g4 (oj hn_g5 hn_gl)))) (List.sublist_cons_self _ _) ?_
     refine aw_callh (cnew_fh 3 (by decide) (by decide)) rfl rfl rfl (hr:=[(g5,.cells 56 4 (ofL (acc ⟨xk,xm,q,r⟩))),mM g4 b,mM g3 a]) (.refl _) (zL (oj hn_g3 (oj hn_g4 (oj hn_g5 hn_gl)))) ?_
     rintro _ _ ⟨gS,gM,rfl,rfl⟩ hdis
     have k1:=Heap.ne_of (hdis gS (by simp [Heap.keys]))
     have k2:=Heap.ne_of (hdis gM (by simp [Heap.keys]))
     dsimp only [Heap.ne] at k1 k2
     refine aw_nd fun hnd=> ?_
     have hne:gS≠gM:=by
      simp only [List.cons_append,Heap.keys,List.map_cons,List.nodup_cons,List.mem_cons,not_or] at hnd
      exact hnd.1.1
     clear hnd hdis
     have n1:¬gM=gS:=fun e=>hne e.symm
     have n2:¬gS=gM:=hne
     replace p1:=p1 gS gM hne
     replace p2:=p2 gS gM hne
     replace p3:=p3 gS gM hne
     replace s1:=s1 gS gM hne
     replace s2:=s2 gS gM hne
     replace s3:=s3 gS gM hne
     replace s4:=s4 gS gM hne
     replace s5:=s5 gS gM hne
     replace s6:=s6 gS gM hne
     simp only [List.cons_append,List.nil_append]
     have hbq:∀l:BS,(l==l)=true:=fun l=>beq_self_eq_true l
     have hbf:(false==false)=true:=rfl
     have hbt:(true==true)=true:=rfl
     have J3:=oj hn_g3 (oj hn_g4 (oj hn_g5 (oj hn_gl (oj k1 (oj k2 (oj n1 (oj n2 (oj hbq (oj hbf hbt)))))))))
     refine yS J3 ?_
     all_goals repeat' first|refine zV J3 ?_|(refine zh J3 (p1) ?_)|(refine zh J3 (p2) ?_)|(refine zh J3 (p3) ?_)|refine zH J3 (fun hb=>?_) fun hb=>?_|fail
     refine aw_cw ([mM g3 a,(g5,.cells 56 4 (ofL (acc ⟨xk,xm,q,r⟩)))]) [(0,0),(1,0),(2,0),(3,0),(4,0),(5,2),(6,0),(7,0),(8,0),(9,0),(10,0),(11,0),(12,0)] ty_mixed (by kernel_rfl) eI ?_
     refine yG J3 ?_
     refine cw_callq rfl fU rfl rfl rfl (fun _ _=>(zL J3)) ?_
     refine ySG J3 ?_
     refine cw_cg2 (FP':=[]) rfl s1 rfl rfl rfl (zE J3) (zE J3) hne (zL J3) has0_nil ?_
     refine ySG J3 ?_
     refine aw_keep [(3,.c (.optr g3 0)),(4,.c (.optr g4 0)),(5,.c (.optr g5 0)),(6,.c (.bool false)),(7,.c (.bool true)),(103,.c (.bool true)),(9,.c (.optr gS 0)),(11,.c (.str (sB kSecond))),(12,.c (.bool true)),(13,.c .nilI),(14,.c (.str (sB r)))] [(gS,SO gM 3),(gM,MO [(A,q,kSecond),(A,q++[43],kOther)]),(g5,.cells 56 4 (ofL (acc ⟨xk,xm,q,r⟩))),mM g4 b,mM g3 a] (zB J3) (List.Sublist.refl _) ?_
     all_goals repeat' first|refine zV J3 ?_|(refine zh J3 (s2) ?_)|(refine zh J3 (s3) ?_)|refine zH J3 (fun hb=>?_) fun hb=>?_|fail
     refine aw_keep [(3,.c (.optr g3 0)),(4,.c (.optr g4 0)),(5,.c (.optr g5 0)),(6,.c (.bool false)),(7,.c (.bool true)),(9,.c (.optr gS 0)),(155,.c (.optr gS 0)),(156,.agg (mdc true a))] [(gS,SO gM 3),(gM,MO [(A,q,kSecond),(A,q++[43],kOther)]),(g5,.cells 56 4 (ofL (acc ⟨xk,xm,q,r⟩))),mM g4 b,mM g3 a] (zB J3) (List.Sublist.refl _) ?_
     all_goals repeat' first|refine zV J3 ?_|(refine zh J3 (s4) ?_)|(refine zh J3 (s5) ?_)|(refine zh J3 (s6) ?_)|refine zH J3 (fun hb=>?_) fun hb=>?_|fail
     all_goals first
      |(exfalso;revert hb;decide)
      |(refine yT hC J3 ?_
        exact .one (.c (ler_bool (by simp))))
    ·have p3:=fun gS gM hne=>put_fg0 gS gM b ob hB q kSecond 3 [((cntR a).1,q,r),((cntR a).1,q++[43],kOther)] [((cntR a).1,q,r),((cntR a).1,q++[43],kOther),((cntR b).1,q,kSecond)] om (by decide) (.inl (by show 2≠3;decide)) (by decide) (by show 2≤1024;decide) (keep_n hAB) hne
     have s1:=fun gS gM hne=>get_fg0 gS gM (turnM a) oP hP q 3 [((cntR a).1,q,r),((cntR a).1,q++[43],kOther),((cntR b).1,q,kSecond)] (some r) om (by rw [hct];exact if_pos rfl) hne
     have s2:=fun gS gM hne=>get_fg0 gS gM a oa hA (q++[43]) 3 [((cntR a).1,q,r),((cntR a).1,q++[43],kOther),((cntR b).1,q,kSecond)] (some kOther) om get_p hne
     have s3:∀gS gM,gS≠gM→Fg2 Tryz.prog 23 gS (SO gM 3) gM (MO [((cntR a).1,q,r),((cntR a).1,q++[43],kOther),((cntR b).1,q,kSecond)]) [.c (.optr gS 0)] (.c (.int .i64 3)) (MO [((cntR a).1,q,r),((cntR a).1,q++[43],kOther),((cntR b).1,q,kSecond)]):=fun gS gM hne=>len_fg gS gM 3 [((cntR a).1,q,r),((cntR a).1,q++[43],kOther),((cntR b).1,q,kSecond)] hne
     have hkn:KeyN [((cntR a).1,q,r),((cntR a).1,q++[43],kOther),((cntR b).1,q,kSecond)]:=keyN_3 hAB
     have s4:∀gS gM,gS≠gM→Fg2 Tryz.prog 24 gS (SO gM 3) gM (MO [((cntR a).1,q,r),((cntR a).1,q++[43],kOther),((cntR b).1,q,kSecond)]) [.c (.optr gS 0),.agg (mdc true a)] (.tup [.c (.int .i64 2),.c .nilI]) (MO [((cntR b).1,q,kSecond)]):=fun gS gM hne=>drop_fg0 gS gM a oa hA 3 [((cntR a).1,q,r),((cntR a).1,q++[43],kOther),((cntR b).1,q,kSecond)] [((cntR b).1,q,kSecond)] 2 hkn (by show 3≤1024;decide) (drop_3 hAB) rfl hne
     have s5:=fun gS gM hne=>get_fg0 gS gM a oa hA q 3 [((cntR b).1,q,kSecond)] none om (get_1n hAB) hne
     have s6:=fun gS gM hne=>get_fg0 gS gM b ob hB q 3 [((cntR b).1,q,kSecond)] (some kSecond) om get_1 hne
     have hs:((cntR a).1==(cntR b).1)=false:=beq_eq_false_iff_ne.2 hAB
     rw [hs] at fS
     clear hct hsE hsC hs hkn hAB
     generalize (cntR a).1=A at*
     generalize (cntR b).1=B at*
     generalize turnM a=ta at*
     dsimp only [Option.getD_some,Option.isSome_some,Option.getD_none,Option.isSome_none] at s1 s2 s5 s6
     all_goals try(have Z:=(oj hn_g3 (oj hn_g4 (oj hn_g5 hn_gl)));(repeat' first|refine zV Z ?_|(refine yC2 Z (fS) ?_)|(refine yD2 Z (fS) ?_)|refine zH Z (fun hb=>?_) fun hb=>?_|fail);all_goals clear Z)
     refine aw_keep [(3,.c (.optr g3 0)),(4,.c (.optr g4 0)),(5,.c (.optr g5 0)),(6,.c (.bool false)),(7,.c (.bool false))] [(g5,.cells 56 4 (ofL (acc ⟨xk,xm,q,r⟩))),mM g4 b,mM g3 a] (zB (oj hn_g3 (oj hn_g4 (oj hn_g5 hn_gl)))) (List.sublist_cons_self _ _) ?_
     refine aw_callh (cnew_fh 3 (by decide) (by decide)) rfl rfl rfl (hr:=[(g5,.cells 56 4 (ofL (acc ⟨xk,xm,q,r⟩))),mM g4 b,mM g3 a]) (.refl _) (zL (oj hn_g3 (oj hn_g4 (oj hn_g5 hn_gl)))) ?_
     rintro _ _ ⟨gS,gM,rfl,rfl⟩ hdis
     have k1:=Heap.ne_of (hdis gS (by simp [Heap.keys]))
     have k2:=Heap.ne_of (hdis gM (by simp [Heap.keys]))
     dsimp only [Heap.ne] at k1 k2
     refine aw_nd fun hnd=> ?_
     have hne:gS≠gM:=by
      simp only [List.cons_append,Heap.keys,List.map_cons,List.nodup_cons,List.mem_cons,not_or] at hnd
      exact hnd.1.1
     clear hnd hdis
     have n1:¬gM=gS:=fun e=>hne e.symm
     have n2:¬gS=gM:=hne
     replace p1:=p1 gS gM hne
     replace p2:=p2 gS gM hne
     replace p3:=p3 gS gM hne
     replace s1:=s1 gS gM hne
     replace s2:=s2 gS gM hne
     replace s3:=s3 gS gM hne
     replace s4:=s4 gS gM hne
     replace s5:=s5 gS gM hne
     replace s6:=s6 gS gM hne
     simp only [List.cons_append,List.nil_append]
     have hbq:∀l:BS,(l==l)=true:=fun l=>beq_self_eq_true l
     have hbf:(false==false)=true:=rfl
     have hbt:(true==true)=true:=rfl
     have J4:=oj hn_g3 (oj hn_g4 (oj hn_g5 (oj hn_gl (oj k1 (oj k2 (oj n1 (oj n2 (oj hbq (oj hbf hbt)))))))))
     refine yS J4 ?_
     all_goals repeat' first|refine zV J4 ?_|(refine zh J4 (p1) ?_)|(refine zh J4 (p2) ?_)|(refine zh J4 (p3) ?_)|refine zH J4 (fun hb=>?_) fun hb=>?_|fail
     refine aw_cw ([mM g3 a,(g5,.cells 56 4 (ofL (acc ⟨xk,xm,q,r⟩)))]) [(0,0),(1,0),(2,0),(3,0),(4,0),(5,2),(6,0),(7,0),(8,0),(9,0),(10,0),(11,0),(12,0)] ty_mixed (by kernel_rfl) eI ?_
     refine yG J4 ?_
     refine cw_callq rfl fU rfl rfl rfl (fun _ _=>(zL J4)) ?_
     refine ySG J4 ?_
     refine cw_cg2 (FP':=[]) rfl s1 rfl rfl rfl (zE J4) (zE J4) hne (zL J4) has0_nil ?_
     refine ySG J4 ?_
     refine aw_keep [(3,.c (.optr g3 0)),(4,.c (.optr g4 0)),(5,.c (.optr g5 0)),(6,.c (.bool false)),(7,.c (.bool false)),(103,.c (.bool false)),(9,.c (.optr gS 0)),(11,.c (.str (sB r))),(12,.c (.bool true)),(13,.c .nilI),(14,.c (.str (sB r)))] [(gS,SO gM 3),(gM,MO [(A,q,r),(A,q++[43],kOther),(B,q,kSecond)]),(g5,.cells 56 4 (ofL (acc ⟨xk,xm,q,r⟩))),mM g4 b,mM g3 a] (zB J4) (List.Sublist.refl _) ?_
     all_goals repeat' first|refine zV J4 ?_|(refine zh J4 (s2) ?_)|(refine zh J4 (s3) ?_)|refine zH J4 (fun hb=>?_) fun hb=>?_|fail
     refine aw_keep [(3,.c (.optr g3 0)),(4,.c (.optr g4 0)),(5,.c (.optr g5 0)),(6,.c (.bool false)),(7,.c (.bool false)),(9,.c (.optr gS 0)),(155,.c (.optr gS 0)),(156,.agg (mdc true a))] [(gS,SO gM 3),(gM,MO [(A,q,r),(A,q++[43],kOther),(B,q,kSecond)]),(g5,.cells 56 4 (ofL (acc ⟨xk,xm,q,r⟩))),mM g4 b,mM g3 a] (zB J4) (List.Sublist.refl _) ?_
     all_goals repeat' first|refine zV J4 ?_|(refine zh J4 (s4) ?_)|(refine zh J4 (s5) ?_)|(refine zh J4 (s6) ?_)|refine zH J4 (fun hb=>?_) fun hb=>?_|fail
     all_goals first
      |(exfalso;revert hb;decide)
      |(refine yT hC J4 ?_
        exact .one (.c (ler_bool (by simp))))
   ·have hsE:sameE a b=(cntR b).2:=if_neg (fun h=>h hA)
    have hsC:sameC a b=false:=by unfold sameC;rw [decide_eq_false hB];simp
    rw [hsE,hsC] at fS
    generalize (cntR b).2=c at*
    have hc1:(!decide (c=0))=true:=by rw [decide_eq_false hB];rfl
    all_goals try(have Z:=(oj hn_g3 (oj hn_g4 (oj hn_g5 (oj hn_gl hc1))));(repeat' first|refine zV Z ?_|(refine yC2 Z (fS) ?_)|(refine yD2 Z (fS) ?_)|refine zH Z (fun hb=>?_) fun hb=>?_|fail);all_goals clear Z)
    refine yT hC (oj hn_g3 (oj hn_g4 (oj hn_g5 (oj hn_gl hc1)))) ?_
    exact .one (.c (.bool _))
  ·have hsE:sameE a b=(cntR a).2:=if_pos hA
   have hsC:sameC a b=false:=by unfold sameC;rw [decide_eq_false hA];rfl
   rw [hsE,hsC] at fS
   generalize (cntR a).2=c at*
   have hc1:(!decide (c=0))=true:=by rw [decide_eq_false hA];rfl
   all_goals try(have Z:=(oj hn_g3 (oj hn_g4 (oj hn_g5 (oj hn_gl hc1))));(repeat' first|refine zV Z ?_|(refine yC2 Z (fS) ?_)|(refine yD2 Z (fS) ?_)|refine zH Z (fun hb=>?_) fun hb=>?_|fail);all_goals clear Z)
   refine yT hC (oj hn_g3 (oj hn_g4 (oj hn_g5 (oj hn_gl hc1)))) ?_
   exact .one (.c (.bool _))
 ·have hl':(lightB a&&lightB b)=false:=by simpa using hl
  rw [hl'] at f1
  refine aw_callq f1 rfl rfl rfl ⟨.c (le_mds (n:=2) (zE (oj hn_g3 (oj hn_g4 (oj hn_g5 hn_gl))))),trivial⟩ ?_
  have J5:=oj hn_g3 (oj hn_g4 (oj hn_g5 hn_gl))
  refine yS J5 ?_
  all_goals repeat' first|refine zV J5 ?_|(refine yC2 J5 (f0) ?_)|(refine yD2 J5 (f0) ?_)|refine zH J5 (fun hb=>?_) fun hb=>?_|fail
  refine yT hC J5 ?_
  exact .one (.c (.bool _))
end Go.Proofs.YtpcpaekpnfkhhaaGreatDoor
