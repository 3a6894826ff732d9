/- Parts of one proof, laid by a program. -/
import Derived.Test.YtpcpaekpnfkhhaaGreatDoorM00
import Derived.Test.YtpcpaekpnfkhhaaGreatDoorM14
import Derived.ShutString
import Derived.Laws.IdiomRangeMap
import Derived.Deep.Draws
set_option linter.unusedSimpArgs false
set_option linter.unusedVariables false
set_option maxRecDepth 100000
set_option maxHeartbeats 12800000
namespace Go.AI
open Go.PN
abbrev dns (t:Bool) (ns:List DN):CV:=.row t 3 ns.length (dnsF ns)
abbrev dgc (t:Bool) (d:DG):List CV:=[is t d.order,dns t d.nodes,.int .i64 d.root]
end Go.AI

namespace Go.Proofs.YtpcpaekpnfkhhaaGreatDoor
open Go.AI Go.PN Go.ChangeShapes Go.WideShapes Go.RowKit
section
variable {H : Type} {enc : TypeId × Value → H} {P : Program}
theorem arg_cell {α:Type} {c:α→CV} {B:α→Nat→Prop} {t:TypeId} (hr:Rdr P t (fun y=>[c y]) B) {W:World} {v:Value} {d:DataW H} {p:List MemPlace} (hv:v.cells= #[v]) (h:DataW.Trod enc P W 0 (fun _=>true) true t v d p):
  ∃y,Rep0 (AllB W) W (.c (c y)) v∧B y (Rows.uptoBulk d):=by
 obtain⟨fuel,hf⟩:=h
 rw [hv] at hf
 obtain⟨y,h1,h2⟩:=hr H enc W fuel _ _ hf
 exact⟨y,h1.1,h2⟩
end
theorem rdr_nat8 {P:Program} {t:TypeId} (ht:P.underlying t=some (.int .u8)):Rdr P t (fun n:Nat=>[.int .u8 n]) (fun n _=>n≤255):=fun H enc w fuel cs x h=>by
 obtain⟨n,rfl,rfl,hw⟩:=DataW.trod_int ht h
 have hb:0≤n∧n≤255:=by simpa [Lit.wf,IntKind.min,IntKind.max,IntKind.signed,IntKind.bits] using hw
 refine⟨n.toNat,⟨?_,trivial⟩,by omega⟩
 show Value.int .u8 n=Value.int .u8 ((n.toNat:Nat):Int)
 rw [show((n.toNat:Nat):Int)=n from by omega]
end Go.Proofs.YtpcpaekpnfkhhaaGreatDoor
namespace Go.AI
section
variable {E : Env} {K : List It} {l : List Oper} {FP : Heap} {σ σ' : Sl} {h : Heap} {o : Oper} {i : Nat} {cs : List (Nat × Nat)}
theorem wc3 {i:Nat} {FP:Heap} {cs:List (Nat×Nat)} (ho:l[i]?=some o) (hd:dstOk E.N o.dst=true) (k:∀R:Option (Prop×Sl)→Prop,(∀q σ',CW E l K FP cs σ' h→(hq:q:=by(try simp only [inRange])<;>and_intros<;>first|exact True.intro|omega|trivial)→R (some (q,σ')))→R (runOp2 E.P true [] l o σ)):CW E l K FP ((i,3)::cs) σ h:=by
 have:=k (fun x=>x=runOp2 E.P true [] l o σ→CW E l K FP ((i,3)::cs) σ h) (fun q σ' ha hq e=>by
  unfold runOp2 at e
  split at e
  ·rename_i hw
   split at e
   ·rename_i q1 r hp
    injection e with e
    injection e with e1 e2
    subst e1 e2
    exact .fre ho (Flt.pure hw hp hq hd) ha
   ·cases e
  ·rename_i hw
   injection e with e
   injection e with e1 e2
   subst e1 e2
   exact .fre ho (Flt.skip hw hd) ha
  ·cases e)
 exact this rfl
end
end Go.AI
namespace Go.AI
open Go.PN
def ItB (g c:Nat) (seen:List Nat) (o:Obj):Prop:=o=.mapIter (some g) c seen.toArray c
theorem MapB.O {α:Type} {K:α→Value} {kb:List (α×Value×Nat)} {c:Nat} {o:Obj} (h:MapB K kb c o) (hn:(kb.map (·.2.2)).Nodup) (hc:∀p∈kb,p.2.2<c):MapO K (kb.map fun p=>(p.1,p.2.1)) o:=by
 obtain⟨es,h1,h2⟩:=h
 have e3:es.toList.map (·.born)=kb.map (·.2.2):=by
  have:=congrArg (List.map fun x:Value×Value×Nat=>x.2.2) h2
  rw [List.map_map,List.map_map] at this
  exact this
 refine⟨es,c,h1,?_,by rw [e3];exact hn,fun e he=> ?_⟩
 ·have:=congrArg (List.map fun x:Value×Value×Nat=>(x.1,x.2.1)) h2
  rw [List.map_map,List.map_map] at this
  rw [List.map_map]
  exact this
 ·have hm:e.born∈kb.map (·.2.2):=e3▸List.mem_map.2 ⟨e,he,rfl⟩
  obtain⟨p,hp,e4⟩:=List.mem_map.1 hm
  have:=hc p hp
  omega
theorem cst_rep0 {S:Bool→Nat→Prop} {w:World}:∀v:Value,Rep0 S w (cst v) v:=fun v=>by
 have h:=cst_rep S w v
 cases v<;>exact h
end Go.AI
namespace Go.AI
open Go.PN
theorem run_nextB {P:Program} {w:World} {ty:TypeId} {r g since c0:Nat} {seen:Array Nat} {es:Array MapEntry} {clock:Nat} (hr:w.heap[r]?=some (.mapIter (some g) since seen c0)) (hb:w.heap[g]?=some (.map es clock)) (hold:∀x∈es.toList,x.born<since) (hsc:since≤c0):
  ((leftOf es seen).size=0∧(Instr.next (.pointer (some ⟨r,0,none⟩)) false ty).run P w=.ok (.tuple #[.bool false]) w)∨
  ∃e∈(leftOf es seen).toList,∃n:Nat,(Instr.next (.pointer (some ⟨r,0,none⟩)) false ty).run P w=.ok (.tuple #[.bool true,e.key,e.val]) {(w.drewN n) with heap:=w.heap.setIfInBounds r (.mapIter (some g) since (seen.push e.born) clock)}:=by
 simp only [Instr.next,getObj,Sem.run_bind,Sem.run,hr,hb,Result.andThen,next_test_false seen es since c0 hold hsc,Bool.false_eq_true,if_false]
 unfold leftOf
 have hmem:∀x∈(Array.filter (fun e=> !seen.contains e.born) es).toList,x.born<since:=fun x hx=>hold x (by simp at hx⊢;exact hx.1)
 generalize Array.filter (fun e=> !seen.contains e.born) es=L at hmem⊢
 have e1:L.filter (fun x=>decide (x.born<since))=L:=Array.filter_eq_self.2 (fun x hx=>by simpa using hmem x (by simpa using hx))
 have e2:L.filter (fun x=>decide (x.born≥since))= #[]:=by
  rw [Array.filter_eq_empty_iff]
  intro x hx
  have:=hmem x (by simpa using hx)
  simp
  omega
 simp only [e1,e2,Array.append_empty]
 by_cases h0:L.size=0
 ·left
  have:L= #[]:=Array.eq_empty_of_size_eq_zero h0
  subst this
  refine⟨rfl,?_⟩
  simp [choose,Sem.run,Question.forced]
 ·right
  have hne:L.isEmpty=false:=by simp [Array.isEmpty,h0]
  simp only [hne,Bool.false_eq_true,if_false,Array.empty_append,Array.size_map]
  have hch:∃(j n:Nat),j<L.size∧(choose (Question.mapNext L.size)).run P w=.ok j (w.drewN n):=by
   by_cases hf:L.size≤1
   ·exact⟨0,0,by omega,by simp only [choose,Sem.run,Question.forced,hf,decide_true,if_true];rfl⟩
   ·exact⟨_,1,Nat.mod_lt _ om,by
     simp only [choose,Sem.run,Question.forced,decide_eq_true_eq,hf,if_false,Question.cut]
     rfl⟩
  obtain⟨j,n,hj,hrun⟩:=hch
  refine⟨L[j],by simp,n,?_⟩
  have hset:∀o',(setObj r o').run P (w.drewN n)=.ok () {(w.drewN n) with heap:=w.heap.setIfInBounds r o'}:=fun o'=>by
   have:(w.drewN n).heap[r]?=some (.mapIter (some g) since seen c0):=hr
   simp only [setObj,Sem.run,this]
   rfl
  simp only [hrun,Array.getElem?_map,Array.getElem?_eq_getElem hj,Option.map_some,Sem.run_bind,hset,Result.andThen]
  rfl
theorem mapB_born {α:Type} {Kf:α→Value} {kb:List (α×Value×Nat)} {es:List MapEntry} (hes:es.map (fun e=>(e.key,e.val,e.born))=kb.map (fun p=>(Kf p.1,p.2.1,p.2.2))):es.map (·.born)=kb.map (·.2.2):=by
 have:=congrArg (List.map fun x:Value×Value×Nat=>x.2.2) hes
 rw [List.map_map,List.map_map] at this
 exact this
theorem mapB_mem {α:Type} {Kf:α→Value}:∀{kb:List (α×Value×Nat)} {es:List MapEntry},es.map (fun e=>(e.key,e.val,e.born))=kb.map (fun p=>(Kf p.1,p.2.1,p.2.2))→∀e∈es,∃p∈kb,e.key=Kf p.1∧e.val=p.2.1∧e.born=p.2.2
 |[],[],_,e,he=>by cases he
 |[],_::_,h,_,_=>by cases h
 |_::_,[],h,_,_=>by cases h
 |p::kb,e'::es,h,e,he=>by
  simp only [List.map_cons,List.cons.injEq,Prod.mk.injEq] at h
  rcases List.mem_cons.1 he with rfl|he
  ·exact⟨p,List.mem_cons_self,h.1.1,h.1.2.1,h.1.2.2⟩
  ·obtain⟨q,hq,e2⟩:=mapB_mem h.2 e he
   exact⟨q,List.mem_cons_of_mem _ hq,e2⟩
section
variable {E : Env} {K : List It} {σ σ' : Sl} {h : Heap} {all rest : List Oper} {o : Oper}
theorem aw_genConv {I J:Obj→Prop} {g:Nat} {pre post:Heap} (hIJ:∀o,I o→J o) (k:aw E K σ (pre++(g,.gen J)::post)):aw E K σ (pre++(g,.gen I)::post):=fun a w s=>by
 have hkeys:(pre++(g,AObj.gen J)::post).keys=(pre++(g,AObj.gen I)::post).keys:=by simp [Heap.keys]
 have hst:Stab E.C (pre++(g,AObj.gen J)::post) w=Stab E.C (pre++(g,AObj.gen I)::post) w:=by unfold Stab;rw [hkeys]
 refine k a w ⟨s.size,s.defers,by rw [hst];exact s.slots,fun g' o' hm=> ?_,by rw [hkeys];exact s.nodup,by rw [hkeys];exact s.keys,s.frame⟩
 rw [hst]
 rcases List.mem_append.1 hm with hm|hm
 ·exact s.heap g' o' (List.mem_append.2 (.inl hm))
 ·rcases List.mem_cons.1 hm with e|hm
  ·injection e with e1 e2
   subst e1 e2
   obtain⟨o,h1,h2⟩:=s.heap _ _ (List.mem_append.2 (.inr List.mem_cons_self))
   exact⟨o,h1,hIJ o h2⟩
  ·exact s.heap g' o' (List.mem_append.2 (.inr (List.mem_cons_of_mem _ hm)))
theorem aw_rangeB {α:Type} {Kf:α→Value} {t kt et g:TypeId} {kv:List (α×Value)} {x:Operand} (hop:o.op=.range t x) (hw:wantA all σ o=some true) (hd:dstOk E.N o.dst=true)
  (ht:tMap E.P t=some (kt,et)) (hx:ev σ x=.c (.raw (.map (some g)))) (hg:h.get g=some (.gen (MapO Kf kv)))
  (k:∀gi kb c,gi∉h.keys→kb.map (fun p=>(p.1,p.2.1))=kv→(kb.map (·.2.2)).Nodup→(∀p∈kb,p.2.2<c)→aw E (.ops all rest::K) (σ.setO o.dst (.c (.optr gi 0))) ((gi,.gen (ItB g c []))::h.set g (.gen (MapB Kf kb c)))):
  aw E (.ops all (o::rest)::K) σ h:=fun ac w s=>by
 have h1:=ev_rep s x
 rw [hx] at h1
 have h1':ac.eval x=.map (some g):=h1
 obtain⟨ob,hb,ho⟩:=s.heap g _ (Heap.get_mem hg)
 obtain⟨kb,c,hB,e1,e2,e3⟩:=ho.B
 have s1:=s.setObj hg (Fr.refl _ w) (ob':=.gen (MapB Kf kb c)) ⟨ob,hb,hB⟩
 obtain⟨es,rfl,hes⟩:=hB
 have hnk:w.heap.size∉h.keys:=fun hm=>Nat.lt_irrefl _ (s.klt hm)
 have s2:=(s1.new (w':=w.alloc (.mapIter (some g) c #[] c)) (ob:=.gen (ItB g c [])) rfl (Fr.alloc _ _ _) (by simp) ⟨_,heap_alloc_new w _,rfl⟩).put hd (r:=.c (.optr w.heap.size 0)) (v:=.pointer (some ⟨w.heap.size,0,none⟩)) rfl
 have hk:=k _ kb c hnk e1 e2 e3 _ _ s2
 show wpList _ _ _ _ _ _
 unfold wpList
 rw [if_pos (s.wanted hw)]
 refine .inl ?_
 unfold Oper.wp
 have hrun:(execOp ac.eval o).run E.P w=.ok (.value (.pointer (some ⟨w.heap.size,0,none⟩))) (w.alloc (.mapIter (some g) c #[] c)):=by
  simp only [execOp,hop,Sem.run_bind,h1',run_range_map w t kt et g es c (tMap_spec ht) hb,Result.andThen_ok]
  rfl
 rw [hrun]
 exact hk
theorem aw_nextB {α:Type} {Kf:α→Value} {x:Operand} {gi g c:Nat} {kb:List (α×Value×Nat)} {seen:List Nat} (hop:o.op=.next x false) (hw:wantA all σ o=some true) (hd:dstOk E.N o.dst=true) (hx:ev σ x=.c (.optr gi 0)) (hi:h.get gi=some (.gen (ItB g c seen))) (hg:h.get g=some (.gen (MapB Kf kb c))) (hold:∀p∈kb,p.2.2<c)
  (k0:(∀p∈kb,p.2.2∈seen)→aw E (.ops all rest::K) (σ.setO o.dst (.tup [.c (.bool false)])) h)
  (k1:∀p∈kb,p.2.2∉seen→aw E (.ops all rest::K) (σ.setO o.dst (.tup [.c (.bool true),cst (Kf p.1),cst p.2.1])) (h.set gi (.gen (ItB g c (seen++[p.2.2]))))):
  aw E (.ops all (o::rest)::K) σ h:=fun ac w s=>by
 have h1:=ev_rep s x
 rw [hx] at h1
 have h1':ac.eval x=.pointer (some ⟨gi,0,none⟩):=h1
 obtain⟨ob,hb,es,rfl,hes⟩:=s.heap g _ (Heap.get_mem hg)
 obtain⟨oi,hbi,rfl⟩:=s.heap gi _ (Heap.get_mem hi)
 have hold':∀x∈es.toList,x.born<c:=fun x hx=>by
  obtain⟨p,hp,_,_,e⟩:=mapB_mem hes x hx
  rw [e];exact hold p hp
 have hil:gi<w.heap.size:=(Array.getElem?_eq_some_iff.1 hbi).1
 show wpList _ _ _ _ _ _
 unfold wpList
 rw [if_pos (s.wanted hw)]
 refine .inl ?_
 unfold Oper.wp
 rcases run_nextB (P:=E.P) (ty:=o.type) hbi hb hold' (Nat.le_refl c) with ⟨h0,hrun⟩|⟨e,he,n,hrun⟩
 ·have hall:∀p∈kb,p.2.2∈seen:=fun p hp=>by
   have hm:p.2.2∈es.toList.map (·.born):=by rw [mapB_born hes];exact List.mem_map.2 ⟨p,hp,rfl⟩
   obtain⟨e,he,e2⟩:=List.mem_map.1 hm
   refine Decidable.byContradiction fun hns=> ?_
   have hin:e∈leftOf es seen.toArray:=by
    unfold leftOf
    refine Array.mem_filter.2 ⟨Array.mem_toList_iff.1 he,?_⟩
    rw [e2]
    simpa using hns
   have:=Array.size_pos_of_mem hin
   omega
  have hx1:(execOp ac.eval o).run E.P w=.ok (.value (.tuple #[.bool false])) w:=by
   simp only [execOp,hop,Sem.run_bind,h1',hrun,Result.andThen_ok]
   rfl
  rw [hx1]
  exact k0 hall _ _ (s.put hd ⟨[_],rfl,rfl,trivial⟩)
 ·obtain⟨he1,he2⟩:=mem_left he
  obtain⟨p,hp,e1,e2,e3⟩:=mapB_mem hes e he1
  have hns:p.2.2∉seen:=fun hm=>by
   rw [e3] at he2
   have:seen.toArray.contains p.2.2=true:=by simpa using hm
   rw [this] at he2;cases he2
  have hx1:(execOp ac.eval o).run E.P w=.ok (.value (.tuple #[.bool true,e.key,e.val])) {(w.drewN n) with heap:=w.heap.setIfInBounds gi (.mapIter (some g) c (seen.toArray.push e.born) c)}:=by
   simp only [execOp,hop,Sem.run_bind,h1',hrun,Result.andThen_ok]
   rfl
  rw [hx1]
  have hfr:Fr (fun b=>b=gi) w {(w.drewN n) with heap:=w.heap.setIfInBounds gi (.mapIter (some g) c (seen.toArray.push e.born) c)}:=by
   refine⟨rfl,rfl,rfl,by simp,Nat.le_add_right _ _,fun b _ hne=> ?_,fun g' m hh=> ?_⟩
   ·dsimp only;rw [Array.getElem?_setIfInBounds_ne (fun e=>hne e.symm)]
   ·obtain⟨cs,ty,⟨fr,hc⟩,hs⟩:=hh
    refine⟨cs,ty,⟨fr,?_⟩,hs⟩
    have hne:g'≠gi:=fun e=>by rw [e,hbi] at hc;cases hc
    dsimp only
    rw [Array.getElem?_setIfInBounds_ne (fun e=>hne e.symm)];exact hc
  have s1:=s.setObj hi hfr (ob':=.gen (ItB g c (seen++[p.2.2]))) ⟨_,by dsimp only;rw [Array.getElem?_setIfInBounds_self_of_lt hil],by unfold ItB;rw [e3];simp⟩
  rw [e1,e2]
  exact k1 p hp hns _ _ (s1.put hd ⟨[_,_,_],rfl,rfl,cst_rep0 _,cst_rep0 _,trivial⟩)
theorem aw_entryB {α:Type} {Kf:α→Value} {x:Operand} {gi g c:Nat} {kb:List (α×Value×Nat)} {seen:List Nat} {p:α×Value×Nat} (hop:o.op=.entry x) (hw:wantA all σ o=some true) (hd:dstOk E.N o.dst=true) (hx:ev σ x=.c (.optr gi 0)) (hi:h.get gi=some (.gen (ItB g c (seen++[p.2.2])))) (hg:h.get g=some (.gen (MapB Kf kb c))) (hp:p∈kb) (hn:(kb.map (·.2.2)).Nodup)
  (k:aw E (.ops all rest::K) (σ.setO o.dst (.tup [cst (Kf p.1),cst p.2.1])) h):aw E (.ops all (o::rest)::K) σ h:=by
 refine aw_step hw (fun ac w s=> ?_) k
 have h1:=ev_rep s x
 rw [hx] at h1
 have h1':ac.eval x=.pointer (some ⟨gi,0,none⟩):=h1
 obtain⟨ob,hb,es,rfl,hes⟩:=s.heap g _ (Heap.get_mem hg)
 obtain⟨oi,hbi,rfl⟩:=s.heap gi _ (Heap.get_mem hi)
 have hborn:=mapB_born hes
 obtain⟨e,he,ek,ev',eb⟩:∃e∈es.toList,e.key=Kf p.1∧e.val=p.2.1∧e.born=p.2.2:=by
  have hm:(Kf p.1,p.2.1,p.2.2)∈es.toList.map fun e=>(e.key,e.val,e.born):=by rw [hes];exact List.mem_map.2 ⟨p,hp,rfl⟩
  obtain⟨e,he,e2⟩:=List.mem_map.1 hm
  injection e2 with e2 e3
  injection e3 with e3 e4
  exact⟨e,he,e2,e3,e4⟩
 have hf:es.find? (·.born==p.2.2)=some e:=by
  rw [←Array.find?_toList,←eb]
  exact find_born e es.toList (by rw [hborn];exact hn) he
 have hrun:(Instr.entry (.pointer (some ⟨gi,0,none⟩))).run E.P w=.ok (.tuple #[e.key,e.val]) w:=by
  have hbk:(seen++[p.2.2]).toArray.back?=some p.2.2:=by simp
  simp only [Instr.entry,getObj,Sem.run_bind,Sem.run,hbi,hb,Result.andThen,hbk,bne_self_eq_false,Bool.false_eq_true,if_false,hf]
  rfl
 refine⟨.tuple #[e.key,e.val],w,.inl ?_,s.put hd ⟨[_,_],rfl,ek▸cst_rep0 _,ev'▸cst_rep0 _,trivial⟩⟩
 simp only [execOp,hop,h1',Sem.run_bind,hrun,Result.andThen_ok]
 rfl
end
end Go.AI
namespace Go.Proofs.YtpcpaekpnfkhhaaGreatDoor
open Go.AI Go.PN
attribute [local irreducible] aw Fa Fh DrK
theorem len_fg (gS gM:Nat) (most:Nat) (es:List EnD) (hne:gS≠gM):
  Fg2 Tryz.prog 23 gS (SO gM most) gM (MO es) [.c (.optr gS 0)] (.c (.int .i64 es.length)) (MO es):=by
 have n1:¬gM=gS:=fun e=>hne e.symm
 have n2:¬gS=gM:=hne
 have hkl:=kv_len es
 unfold Fg2
 refine fh_of_body Tryz.func23 rfl rfl (by simp [Tryz.ntmps23]) fun C hC=> ?_
 simp only [initS,Nat.reduceAdd]
 all_goals try(have Z:=(oj n1 n2);(repeat' first|refine zV Z ?_|refine zH Z (fun hb=>?_) fun hb=>?_|fail);all_goals clear Z)
 refine aw_pok (POk.eqPtr (b:=false) und_sp (zE (oj n1 n2)) (zE (oj n1 n2)) (.inr ⟨gS,rfl,rfl⟩)) rfl rfl ?_
 have J1:=oj n1 n2
 refine yS J1 ?_
 all_goals repeat' first|refine zV J1 ?_|refine zH J1 (fun hb=>?_) fun hb=>?_|fail
 refine aw_pok (POk.lenO (kv:=kvOf es) (Kf:=keySS) ty_smap (zE J1) (zE J1)) rfl rfl ?_
 rw [hkl]
 refine yS J1 ?_
 all_goals repeat' first|refine zV J1 ?_|refine zH J1 (fun hb=>?_) fun hb=>?_|fail
 refine yU J1 ?_
 exact⟨rfl,rfl⟩
theorem is_fa (c d:Int) (hd:d≠0):Fa Tryz.prog 25 [.c (errA c),.c (.int .i64 d)] (.c (.bool (decide (c=d)))):=by
 by_cases h:c=0
 ·have e:errA c=.nilI:=by unfold errA errC;rw [if_pos h]
  rw [e,decide_eq_false om]
  refine fa_of_body Tryz.func25 rfl rfl (by simp [Tryz.ntmps25]) fun C hC=> ?_
  simp only [initS,Nat.reduceAdd]
  refine xGT hC ?_
  exact .one (.c (.bool _))
 ·have e:errA c=.ifc 69 (.int .i64 c):=by unfold errA errC;rw [if_neg h]
  rw [e]
  refine fa_of_body Tryz.func25 rfl rfl (by simp [Tryz.ntmps25]) fun C hC=> ?_
  simp only [initS,Nat.reduceAdd]
  refine xGT hC ?_
  exact .one (.c (ler_bool (by by_cases e:c=d<;>simp [e])))
end Go.Proofs.YtpcpaekpnfkhhaaGreatDoor
namespace Go.PN
open Go.AI
theorem kb_fst {es:List EnD} {kb:KB} (h:kb.map (fun p=>(p.1,p.2.1))=kvOf es):kb.map (·.1)=es.map fun e=>(e.1,e.2.1):=by
 have:=congrArg (List.map Prod.fst) h
 unfold kvOf at this
 rw [List.map_map,List.map_map] at this
 exact this
theorem kb_len {es:List EnD} {kb:KB} (h:kb.map (fun p=>(p.1,p.2.1))=kvOf es):kb.length=es.length:=by
 have:=congrArg List.length h
 unfold kvOf at this
 simpa using this
end Go.PN

namespace Go.PN
structure LtOk (lt:Int→Int→Bool):Prop where
 irrefl:∀x,lt x x=false
 trans:∀x y z,lt x y=true→lt y z=true→lt x z=true
 total:∀x y,x≠y→lt x y=false→lt y x=true
def AscR (lt:Int→Int→Bool) (g:Nat→Int) (a b:Nat):Prop:=∀i j,a≤i→i<j→j<b→lt (g i) (g j)=true
def MemR (g:Nat→Int) (a b:Nat) (x:Int):Prop:=∃i,a≤i∧i<b∧g i=x
structure ShufR (g h:Nat→Int) (a b:Nat):Prop where
 out:∀i,(i<a∨b≤i)→h i=g i
 mem:∀x,MemR h a b x↔MemR g a b x
theorem ShufR.refl (g:Nat→Int) (a b:Nat):ShufR g g a b:=⟨fun _ _=>rfl,fun _=>Iff.rfl⟩
theorem ShufR.trans {g h k:Nat→Int} {a b:Nat} (p:ShufR g h a b) (q:ShufR h k a b):ShufR g k a b:=
 ⟨fun i hi=>(q.out i hi).trans (p.out i hi),fun x=>(q.mem x).trans (p.mem x)⟩
theorem ShufR.widen {g h:Nat→Int} {a b c d:Nat} (p:ShufR g h a b) (ha:c≤a) (hb:b≤d):ShufR g h c d:=by
 refine⟨fun i hi=>p.out i om,fun x=>⟨?_,?_⟩⟩
 ·rintro ⟨i,h1,h2,h3⟩
  by_cases hin:a≤i∧i<b
  ·obtain⟨j,j1,j2,j3⟩:=(p.mem x).1 ⟨i,hin.1,hin.2,h3⟩
   exact⟨j,by omega,by omega,j3⟩
  ·exact⟨i,h1,h2,by rw [←p.out i om];exact h3⟩
 ·rintro ⟨i,h1,h2,h3⟩
  by_cases hin:a≤i∧i<b
  ·obtain⟨j,j1,j2,j3⟩:=(p.mem x).2 ⟨i,hin.1,hin.2,h3⟩
   exact⟨j,by omega,by omega,j3⟩
  ·exact⟨i,h1,h2,by rw [p.out i om];exact h3⟩
theorem AscR.same {lt:Int→Int→Bool} {g h:Nat→Int} {a b:Nat} (p:AscR lt g a b) (e:∀i,a≤i→i<b→h i=g i):AscR lt h a b:=fun i j h1 h2 h3=>by
 rw [e i h1 om,e j om h3];exact p i j h1 h2 h3
theorem AscR.sub {lt:Int→Int→Bool} {g:Nat→Int} {a b c d:Nat} (p:AscR lt g a b) (h1:a≤c) (h2:d≤b):AscR lt g c d:=fun i j q1 q2 q3=>p i j om q2 om
theorem asc_join {lt:Int→Int→Bool} {g:Nat→Int} {a m b:Nat} (p:AscR lt g a m) (q:AscR lt g m b) (h:∀x y,MemR g a m x→MemR g m b y→lt x y=true):AscR lt g a b:=fun i j h1 h2 h3=>by
 by_cases hi:j<m
 ·exact p i j h1 h2 hi
 ·by_cases hj:m≤i
  ·exact q i j hj h2 h3
  ·exact h _ _ ⟨i,h1,by omega,rfl⟩ ⟨j,by omega,h3,rfl⟩
structure RotR (g h:Nat→Int) (a m b:Nat):Prop where
 lo:∀p,a≤p→p<a+(b-m)→h p=g (m+(p-a))
 hi:∀p,a+(b-m)≤p→p<b→h p=g (a+(p-(a+(b-m))))
 out:∀p,(p<a∨b≤p)→h p=g p
theorem RotR.shuf {g h:Nat→Int} {a m b:Nat} (r:RotR g h a m b) (h1:a≤m) (h2:m≤b):ShufR g h a b:=by
 refine⟨r.out,fun x=>⟨?_,?_⟩⟩
 ·rintro ⟨p,p1,p2,p3⟩
  by_cases hp:p<a+(b-m)
  ·exact⟨m+(p-a),by omega,by omega,by rw [←r.lo p p1 hp];exact p3⟩
  ·exact⟨a+(p-(a+(b-m))),by omega,by omega,by rw [←r.hi p om p2];exact p3⟩
 ·rintro ⟨p,p1,p2,p3⟩
  by_cases hp:p<m
  ·refine⟨a+(b-m)+(p-a),by omega,by omega,?_⟩
   rw [r.hi _ om om,show a+(a+(b-m)+(p-a)-(a+(b-m)))=p from by omega];exact p3
  ·refine⟨a+(p-m),by omega,by omega,?_⟩
   rw [r.lo _ om om,show m+(a+(p-m)-a)=p from by omega];exact p3
structure SymR (lt:Int→Int→Bool) (g:Nat→Int) (a s m e b:Nat):Prop where
 aS:a≤s
 sm:s≤m
 me:m≤e
 eb:e≤b
 left:AscR lt g a m
 right:AscR lt g m b
 low:∀i j,a≤i→i<s→e≤j→j<b→lt (g i) (g j)=true
 high:∀i j,s≤i→i<m→m≤j→j<e→lt (g j) (g i)=true
theorem SymR.parts {lt:Int→Int→Bool} {g h:Nat→Int} {a s m e b:Nat} (q:SymR lt g a s m e b) (r:RotR g h s m e):
  AscR lt h a s∧AscR lt h s (s+(e-m))∧AscR lt h (s+(e-m)) e∧AscR lt h e b∧∀x y,MemR h a (s+(e-m)) x→MemR h (s+(e-m)) b y→lt x y=true:=by
 have q1:=q.aS
 have q2:=q.sm
 have q3:=q.me
 have q4:=q.eb
 have o:∀i,(i<s∨e≤i)→h i=g i:=r.out
 refine⟨(q.left.sub (Nat.le_refl _) q2).same fun i _ hi=>o i (.inl hi),fun i j i1 i2 i3=> ?_,fun i j i1 i2 i3=> ?_,(q.right.sub q3 (Nat.le_refl _)).same fun i hi _=>o i (.inr hi),?_⟩
 ·rw [r.lo i i1 om,r.lo j om i3]
  exact q.right _ _ om om om
 ·rw [r.hi i i1 om,r.hi j om i3]
  exact q.left _ _ om om om
 ·rintro x y ⟨i,i1,i2,rfl⟩ ⟨j,j1,j2,rfl⟩
  by_cases hi:i<s
  ·rw [o i (.inl hi)]
   by_cases hj:j<e
   ·rw [r.hi j j1 hj]
    exact q.left _ _ om om om
   ·rw [o j (.inr om)]
    exact q.low i j i1 hi om j2
  ·rw [r.lo i om i2]
   by_cases hj:j<e
   ·rw [r.hi j j1 hj]
    exact q.high _ _ om om om om
   ·rw [o j (.inr om)]
    exact q.right _ _ om om j2
theorem SymR.done {lt:Int→Int→Bool} {g h k l:Nat→Int} {a s m e b:Nat} (q:SymR lt g a s m e b) (r:RotR g h s m e)
  (k1:ShufR h k a (s+(e-m))) (k2:AscR lt k a (s+(e-m))) (l1:ShufR k l (s+(e-m)) b) (l2:AscR lt l (s+(e-m)) b):ShufR g l a b∧AscR lt l a b:=by
 have q1:=q.aS
 have q2:=q.sm
 have q3:=q.me
 have q4:=q.eb
 obtain⟨_,_,_,_,hx⟩:=q.parts r
 refine⟨((r.shuf q2 q3).widen q1 q4).trans ((k1.widen (Nat.le_refl _) om).trans (l1.widen om (Nat.le_refl _))),?_⟩
 have la:AscR lt l a (s+(e-m)):=k2.same fun i _ hi=>l1.out i (.inl hi)
 refine asc_join la l2 fun x y mx my=>hx x y ?_ ?_
 ·obtain⟨i,i1,i2,i3⟩:=mx
  exact(k1.mem x).1 ⟨i,i1,i2,by rw [←l1.out i (.inl i2)];exact i3⟩
 ·obtain⟨i,i1,i2,i3⟩:=(l1.mem y).1 my
  exact⟨i,i1,i2,by rw [←k1.out i (.inr i1)];exact i3⟩
end Go.PN
namespace Go.PN
def updR (g:Nat→Int) (i:Nat) (v:Int):Nat→Int:=fun j=>if j=i then v else g j
def swapR (g:Nat→Int) (i j:Nat):Nat→Int:=fun p=>if p=i then g j else if p=j then g i else g p
theorem swap_upd (g:Nat→Int) (i j:Nat):updR (updR g i (g j)) j (g i)=swapR g i j:=by
 funext p
 unfold updR swapR
 by_cases h1:p=j
 ·subst h1
  rw [if_pos rfl]
  by_cases h2:p=i
  ·subst h2;rw [if_pos rfl]
  ·rw [if_neg h2,if_pos rfl]
 ·rw [if_neg h1,if_neg h1]
theorem RotR.refl (g:Nat→Int) (a b:Nat):RotR g g a b b:=⟨fun p _ h=>by omega,fun p h _=>by rw [show a+(p-(a+(b-b)))=p from by omega],fun _ _=>rfl⟩
theorem RotR.refl' (g:Nat→Int) (a b:Nat):RotR g g a a b:=⟨fun p h _=>by rw [show a+(p-a)=p from by omega],fun p h1 h2=>by omega,fun _ _=>rfl⟩
theorem rot_down {g h:Nat→Int} {j i:Nat} (r:RotR g h j i (i+1)) (hj:0<j) (hi:j≤i):RotR g (swapR h j (j-1)) (j-1) i (i+1):=by
 refine⟨fun p h1 h2=> ?_,fun p h1 h2=> ?_,fun p hp=> ?_⟩
 ·have:p=j-1:=by omega
  subst this
  unfold swapR
  rw [if_neg om,if_pos rfl,r.lo j om om]
  congr 1;omega
 ·unfold swapR
  by_cases e:p=j
  ·subst e
   rw [if_pos rfl,r.out (p-1) om]
   congr 1;omega
  ·rw [if_neg e,if_neg om,r.hi p om om]
   congr 1;omega
 ·unfold swapR
  rw [if_neg om,if_neg om,r.out p om]
theorem ins_last {lt:Int→Int→Bool} {g h:Nat→Int} {a j i:Nat} (ha:a≤j) (hj:j≤i) (q:AscR lt g a i) (r:RotR g h j i (i+1)) (h1:∀p,a≤p→p<j→lt (g p) (g i)=true) (h2:∀p,j≤p→p<i→lt (g i) (g p)=true):
  ShufR g h a (i+1)∧AscR lt h a (i+1):=by
 refine⟨(r.shuf hj om).widen ha (Nat.le_refl _),fun x y x1 x2 x3=> ?_⟩
 have v:∀p,a≤p→p<i+1→h p=if p<j then g p else if p=j then g i else g (p-1):=fun p p1 p2=>by
  by_cases e1:p<j
  ·rw [if_pos e1,r.out p (.inl e1)]
  ·rw [if_neg e1]
   by_cases e2:p=j
   ·subst e2
    rw [if_pos rfl,r.lo p om om]
    congr 1;omega
   ·rw [if_neg e2,r.hi p om p2]
    congr 1;omega
 rw [v x x1 om,v y om x3]
 by_cases e1:x<j
 ·rw [if_pos e1]
  by_cases e2:y<j
  ·rw [if_pos e2];exact q x y x1 x2 om
  ·rw [if_neg e2]
   by_cases e3:y=j
   ·rw [if_pos e3];exact h1 x x1 e1
   ·rw [if_neg e3];exact q x (y-1) x1 om om
 ·rw [if_neg e1,if_neg (show¬y<j by omega),if_neg (show¬y=j by omega)]
  by_cases e3:x=j
  ·rw [if_pos e3];exact h2 (y-1) om om
  ·rw [if_neg e3];exact q (x-1) (y-1) om om om
structure XchR (g h:Nat→Int) (a b k:Nat):Prop where
 fst:∀p,a≤p→p<a+k→h p=g (b+(p-a))
 snd:∀p,b≤p→p<b+k→h p=g (a+(p-b))
 out:∀p,¬(a≤p∧p<a+k)→¬(b≤p∧p<b+k)→h p=g p
theorem XchR.zero (g:Nat→Int) (a b:Nat):XchR g g a b 0:=⟨fun p h1 h2=>by omega,fun p h1 h2=>by omega,fun _ _ _=>rfl⟩
end Go.PN
namespace Go.AI
open Go.PN
def uF (z:Nat→Int):Nat→CV:=fun j=>.int .u64 (z j)
@[go_sem] theorem uF_at (z:Nat→Int) (j:Nat):uF z j=.int .u64 (z j):=rfl
theorem updF_uF (z:Nat→Int) (i:Nat) (v:Int):updF (uF z) i [.int .u64 v]=uF (updR z i v):=by
 funext j
 simp only [updF,uF,updR]
 split<;>rfl
end Go.AI
namespace Go.PN
open Go.AI
abbrev leZ (x y:Int):Bool:=decide (x≤y)
end Go.PN
namespace Go.Proofs.YtpcpaekpnfkhhaaGreatDoor
open Go.AI Go.PN
attribute [local irreducible] aw Fa Fh DrK
theorem uless_fa (x y:Int):Fa Tryz.prog 222 [.c (.int .u64 x),.c (.int .u64 y)] (.c (.bool (decide (x<y)))):=by
 have f1:∀x:Int,Fa Tryz.prog 292 [.c (.int .u64 x)] (.c (.bool false)):=fun x=>by
  refine fa_of_body Tryz.func292 rfl rfl (by simp [Tryz.ntmps292]) fun C hC=> ?_
  simp only [initS,Nat.reduceAdd]
  repeat' first|refine zV o0 ?_|refine zH o0 (fun hb=>?_) fun hb=>?_|fail
  refine xT hC ?_
  exact .one (.c (ler_bool (by simp)))
 have g1:=f1 x
 have g2:=f1 y
 refine fa_of_body Tryz.func222 rfl rfl (by simp [Tryz.ntmps222]) fun C hC=> ?_
 simp only [initS,Nat.reduceAdd]
 repeat' first|refine zV o0 ?_|(refine yC2 o0 (g1) ?_)|(refine yD2 o0 (g1) ?_)|(refine yC2 o0 (g2) ?_)|(refine yD2 o0 (g2) ?_)|refine zH o0 (fun hb=>?_) fun hb=>?_|fail
 refine xT hC ?_
 exact .one (.c (.bool _))
theorem uisort_fh (g n:Nat) (a b:Nat) (hab:a≤b) (hbN:b≤n) (hN:n≤1000000) (z:Nat→Int):
  Fh Tryz.prog 216 [(g,.cells 39 n (uF z))] [.c (.osl g 1 0 n),.c (.int .i64 a),.c (.int .i64 b)] (fun r h=>∃y,ShufR z y a b∧AscR leZ y a b∧r=.tup []∧h=[(g,.cells 39 n (uF y))]):=by
 refine fh_of_body Tryz.func216 rfl rfl (by simp [Tryz.ntmps216]) fun C hC=> ?_
 simp only [initS,Nat.reduceAdd]
 refine xG ?_
 refine aw_lp (fun x:Nat×(Nat→Int)=>[(0,.c (.osl g 1 0 n)),(1,.c (.int .i64 a)),(2,.c (.int .i64 b)),(6,.c (.int .i64 x.1))]) (fun x=>[(g,.cells 39 n (uF x.2))])
  (fun x=>a+1≤x.1∧(x.1≤b∨x.1=a+1)∧ShufR z x.2 a x.1∧AscR leZ x.2 a x.1) (fun x=>b-x.1) (a+1,z) eB (List.Sublist.refl _) ⟨Nat.le_refl _,.inr rfl,ShufR.refl _ _ _,fun i j h1 h2 h3=>by omega⟩ ?_
 rintro ⟨i,y⟩ ⟨hi,hib,hsh,has⟩
 dsimp only at hi hib hsh has⊢
 refine xG ?_
 refine xF (fun h1=>?_) fun h1=>?_
 ·have hin:i<b:=dT h1
  have fin:∀(w:Nat→Int) (j:Nat),a≤j→j≤i→RotR y w j i (i+1)→(∀p,j≤p→p<i→leZ (y i) (y p)=true)→(j=a∨leZ (y (j-1)) (y i)=true)→ShufR z w a (i+1)∧AscR leZ w a (i+1):=fun w j j1 j2 r hgt hend=>by
   obtain⟨s1,s2⟩:=ins_last (lt:=leZ) j1 j2 has r (fun p p1 p2=>by
    rcases hend with e|e
    ·omega
    ·rcases Nat.lt_or_ge p (j-1) with h|h
     ·have e1:=of_decide_eq_true (has p (j-1) p1 h om)
      have e2:=of_decide_eq_true e
      exact decide_eq_true (Int.le_trans e1 e2)
     ·rw [show p=j-1 from by omega];exact e) hgt
   exact⟨(hsh.widen (Nat.le_refl _) om).trans s1,s2⟩
  refine xG ?_
  refine aw_lp (fun x:Nat×(Nat→Int)=>[(0,.c (.osl g 1 0 n)),(1,.c (.int .i64 a)),(2,.c (.int .i64 b)),(6,.c (.int .i64 i)),(7,.c (.int .i64 x.1))]) (fun x=>[(g,.cells 39 n (uF x.2))])
   (fun x=>a≤x.1∧x.1≤i∧RotR y x.2 x.1 i (i+1)∧∀p,x.1≤p→p<i→y i<y p) (fun x=>x.1) (i,y) eB (List.Sublist.refl _) ⟨by omega,Nat.le_refl _,RotR.refl' y i (i+1),fun p h1 h2=>by omega⟩ ?_
  rintro ⟨j,w⟩ ⟨j1,j2,hr,hgt⟩
  dsimp only at j1 j2 hr hgt⊢
  have hgt':∀p,j≤p→p<i→leZ (y i) (y p)=true:=fun p p1 p2=>decide_eq_true (Int.le_of_lt (hgt p p1 p2))
  by_cases hj:a<j
  ·have e1:decide ((j:Int)>(a:Int))=true:=decide_eq_true om
   have ex:((j:Int)-1).toNat=j-1:=by omega
   have ew1:w j=y i:=by rw [hr.lo j (Nat.le_refl _) om,show i+(j-j)=i from by omega]
   have ew2:w (j-1)=y (j-1):=hr.out _ (.inl om)
   have f1:=uless_fa (y i) (y (j-1))
   have J1:=oj e1 (oj ex (oj ew1 ew2))
   refine yG J1 ?_
   refine aw_dr 15 ty_mixed (by kernel_rfl) ?_
   all_goals repeat' first|refine zV J1 ?_|(refine yC2 J1 (f1) ?_)|(refine yD2 J1 (f1) ?_)|refine zH J1 (fun hb=>?_) fun hb=>?_|fail
   ·have hb':y i<y (j-1):=by simpa using hb
    refine yG J1 ?_
    refine aw_cw ([(g,.cells 39 n (uF w))]) [(0,0),(1,0),(5,0),(6,0),(7,0),(8,0),(9,0),(10,0),(11,0),(12,0),(13,0),(14,0),(2,3),(3,3),(4,3),(15,2),(16,0),(17,2)] ty_mixed (by kernel_rfl) eI ?_
    refine yG J1 ?_
    iterate 3 (refine wc3 rfl rfl fun R r=> ?_;simp only [go_sem,e1,ex,ew1,ew2];with_reducible show R (some _);with_reducible refine r _ _ ?_;clear r R)
    have J2:=oj e1 (oj ex (oj ew1 ew2))
    refine yS J2 ?_
    refine cw_store (FP':=[]) rfl rfl rfl rfl rfl (zE J2) (zE J2) (zE J2) (zE J2) (fun _ e=>by cases e) rfl rfl (by show j+1≤n;omega) rfl has0_nil ?_
    simp only [AV.cells]
    refine ySG J2 ?_
    refine cw_store (FP':=[]) rfl rfl rfl rfl rfl (zE J2) (zE J2) (zE J2) (zE J2) (fun _ e=>by cases e) rfl rfl (by show(j-1)+1≤n;omega) rfl has0_nil ?_
    simp only [AV.cells]
    rw [updF_uF,updF_uF,show updR (updR w j (y (j-1))) (j-1) (y i)=swapR w j (j-1) from by rw [←swap_upd,ew1,ew2]]
    have J3:=oj e1 (oj ex (oj ew1 ew2))
    refine ySG J3 ?_
    refine aw_stop ⟨(j-1,swapR w j (j-1)),by dsimp only;omega,(zB J3),List.Sublist.refl _,by dsimp only;omega,by dsimp only;omega,rot_down hr om j2,fun p p1 p2=> ?_⟩
    dsimp only at p1 p2⊢
    rcases Nat.lt_or_ge p j with h|h
    ·rw [show p=j-1 from by omega];exact hb'
    ·exact hgt p h p2
   ·have hb':y (j-1)≤y i:=by simpa using hb
    obtain⟨q1,q2⟩:=fin w j j1 j2 hr hgt' (.inr (decide_eq_true hb'))
    have J4:=oj e1 (oj ex (oj ew1 ew2))
    refine yG J4 ?_
    exact aw_stop ⟨(i+1,w),by dsimp only;omega,(zB J4),List.Sublist.refl _,by dsimp only;omega,.inl (by dsimp only;omega),q1,q2⟩
  ·have e1:decide ((j:Int)>(a:Int))=false:=decide_eq_false om
   refine yG e1 ?_
   refine aw_dr 15 ty_mixed (by kernel_rfl) ?_
   repeat' first|refine zV e1 ?_|refine zH e1 (fun hb=>?_) fun hb=>?_|fail
   refine yG e1 ?_
   obtain⟨q1,q2⟩:=fin w j j1 j2 hr hgt' (.inl om)
   exact aw_stop ⟨(i+1,w),by dsimp only;omega,(zB e1),List.Sublist.refl _,by dsimp only;omega,.inl (by dsimp only;omega),q1,q2⟩
 ·have hin:¬i<b:=dF h1
  refine xG ?_
  refine xV ?_
  rcases hib with h|h
  ·have e:i=b:=by omega
   subst e
   exact⟨y,hsh,has,rfl,rfl⟩
  ·have hy:y=z:=by
    funext p
    by_cases hp:p=a
    ·obtain⟨q,q1,q2,q3⟩:=(hsh.mem (z a)).2 ⟨a,Nat.le_refl _,by omega,rfl⟩
     have:q=a:=by omega
     rw [hp,←q3,this]
    ·exact hsh.out p om
   subst hy
   exact⟨y,ShufR.refl _ _ _,fun p q h1 h2 h3=>by omega,rfl,rfl⟩
end Go.Proofs.YtpcpaekpnfkhhaaGreatDoor
namespace Go.AI
open Go.PN
theorem zeroC1 (v:Value) (n:Nat):(Builtin.zeroCells #[v] n).toList=List.replicate n v:=by
 apply List.ext_getElem
 ·simp [Builtin.zeroCells]
 ·intro i h1 h2
  simp [Builtin.zeroCells,Nat.mod_one]
theorem updF_rep (c:CV):∀(n:Nat) (f:Nat→CV) (off:Nat),updF f off (List.replicate n c)=fun j=>if off≤j∧j<off+n then c else f j
 |0,f,off=>by
  funext j
  rw [if_neg om]
  rfl
 |n+1,f,off=>by
  rw [List.replicate_succ]
  show updF (fun j=>if j=off then c else f j) (off+1) (List.replicate n c)=_
  rw [updF_rep c n]
  funext j
  by_cases h:j=off
  ·subst h
   rw [if_neg om,if_pos rfl,if_pos om]
  ·by_cases h2:off+1≤j∧j<off+1+n
   ·rw [if_pos h2,if_pos om]
   ·rw [if_neg h2,if_neg h,if_neg om]
theorem repL_rep {S:Bool→Nat→Prop} {w:World} (k:IntKind) (z:Int):∀n:Nat,RepL S w (List.replicate n (.int k z)) (List.replicate n (.int k z))
 |0=>trivial
 |n+1=>⟨rfl,repL_rep k z n⟩
section
variable {E : Env} {K : List It} {σ σ' : Sl} {h : Heap} {all rest : List Oper} {o : Oper}
theorem aw_condK {x y:Code} (k:aw E (.code y::K) σ h):aw E (.code (.cond (.const (.bool false)) x y)::K) σ h:=fun a w s=>by
 exact wp_cond_split (t:=false) rfl (fun e=>by cases e) (fun _=>k a w s)
theorem aw_clearI {t e g off n m bytes:Nat} {ty:TypeId} {f:Nat→CV} {x:Operand} {ki:IntKind} (hop:o.op=.call {callee:=.builtin .clear,args:= #[x],argTypes:= #[t]}) (hw:wantA all σ o=some true) (hdn:o.dst=none)
  (ht:tElem E.P t=some (e,1,bytes)) (hz:tZ1 E.P e=some (.int ki 0)) (hx:ev σ x=.c (.osl g 1 off (n+1))) (hg:h.get g=some (.cells ty m f)) (hm:off+(n+1)≤m)
  {h':Heap} (hh:h.set g (.cells ty m fun j=>if off≤j∧j<off+(n+1) then .int ki 0 else f j)=h') (k:aw E (.ops all rest::K) σ h'):aw E (.ops all (o::rest)::K) σ h:=by
 subst hh
 refine aw_step hw (fun ac w s=> ?_) k
 have h1:=ev_rep s x
 rw [hx] at h1
 obtain⟨c,h1',hc,hcm,hh⟩:=h1
 obtain⟨hu,inf,hi,hsz,_⟩:=tElem_spec ht
 obtain⟨cs,hb,hn,hj⟩:=s.heap g _ (Heap.get_mem hg)
 obtain⟨w',hrun,hbl,hfr⟩:=run_storeCells (P:=E.P) (List.replicate (n+1) (.int ki 0)) w cs off 0 hb (by simp;omega) (fun u hu=>by rw [List.eq_of_mem_replicate hu];rfl)
 have hex:(execOp ac.eval o).run E.P w=.ok (.value (.tuple #[])) w':=by
  simp [execOp,hop,resolve,invoke,Go.builtin,Builtin.clear_,h1',run_underlying hu,tZ1_run hz,Value.cells,zeroC1,hrun]
 refine⟨.tuple #[],w',.inl hex,?_⟩
 rw [hdn]
 refine s.setObj hg hfr ⟨putL cs (off+0) (List.replicate (n+1) (.int ki 0)),hbl,by rw [putL_size];exact hn,?_⟩
 have hj':∀j,j<m→∃u,cs[j]?=some u∧RepC (Stab E.C (h.set g (.cells ty m fun j=>if off≤j∧j<off+(n+1) then .int ki 0 else f j)) w') w' (f j) u:=fun j hjm=>by
  obtain⟨u,hu,hr⟩:=hj j hjm
  refine⟨u,hu,RepC.keep ⟨fun t b hb=>⟨hb.1,Nat.lt_of_lt_of_le hb.2.1 hfr.size,by rw [Heap.keys_set];exact hb.2.2⟩,fun t b hb=>hfr.block b hb.2.1 (fun e=>hb.2.2 (e▸List.mem_map.2 ⟨_,Heap.get_mem hg,rfl⟩)),hfr.has⟩ hr⟩
 have:=putL_rep (n:=m) (List.replicate (n+1) (CV.int ki 0)) (List.replicate (n+1) (Value.int ki 0)) cs f (off+0) (repL_rep ki 0 (n+1)) hn hj'
 rw [updF_rep,Nat.add_zero] at this
 exact this
end
end Go.AI
namespace Go.Proofs.YtpcpaekpnfkhhaaGreatDoor
open Go.AI Go.PN
attribute [local irreducible] aw Fa Fh DrK
theorem wrap_u64_nat {n:Nat} (h:n<18446744073709551616):wrapZ .u64 (n:Int)=(n:Int):=by
 rw [wrapZ_eq];exact wrap_inRange (k:=.u64) ⟨by omega,by omega⟩
theorem len64s_fa (n:Nat) (h:n<256):Fa Tryz.prog 165 [.c (.int .u64 n)] (.c (.int .i64 (bitlen n:Nat))):=by
 have hb8:=bitlen_le8 n h
 have b1:((n:Int)≥4294967296)=False:=eq_false om
 have b2:((n:Int)≥65536)=False:=eq_false om
 have b3:((n:Int)≥256)=False:=eq_false om
 refine fa_of_body Tryz.func165 rfl rfl (by simp [Tryz.ntmps165]) fun C hC=> ?_
 simp only [initS,Nat.reduceAdd]
 all_goals try(have Z:=(oj b1 (oj b2 b3));(repeat' first|refine zV Z ?_|refine zH Z (fun hb=>?_) fun hb=>?_|fail);all_goals clear Z)
 rw [wrap_u8_nat h]
 refine aw_idx (i:=n) rfl rfl rfl ty_str rfl (zE (oj b1 (oj b2 b3))) (by decide+kernel) om ?_
 have J1:=oj b1 (oj b2 b3)
 refine yS J1 ?_
 all_goals repeat' first|refine zV J1 ?_|refine zH J1 (fun hb=>?_) fun hb=>?_|fail
 refine yT hC J1 ?_
 exact .one (.c (ler_int om))
theorem lens_fa (n:Nat) (h:n<256):Fa Tryz.prog 99 [.c (.int .u64 n)] (.c (.int .i64 (bitlen n:Nat))):=by
 have f1:=len64s_fa n h
 refine fa_of_body Tryz.func99 rfl rfl (by simp [Tryz.ntmps99]) fun C hC=> ?_
 simp only [initS,Nat.reduceAdd]
 repeat' first|refine zV o0 ?_|(refine yC2 o0 (f1) ?_)|(refine yD2 o0 (f1) ?_)|refine zH o0 (fun hb=>?_) fun hb=>?_|fail
 refine aw_condK ?_
 repeat' first|refine zV o0 ?_|(refine yC2 o0 (f1) ?_)|(refine yD2 o0 (f1) ?_)|refine zH o0 (fun hb=>?_) fun hb=>?_|fail
 refine xT hC ?_
 exact .one (.c (ler_int om))
theorem updq_fh (g n:Nat) (hn:n≤12) (z:Nat→Int) (lim:Int):
  Fh Tryz.prog 119 [(g,.cells 39 n (uF z))] [.c (.osl g 1 0 n),.c (.int .i64 0),.c (.int .i64 n),.c (.int .i64 lim)] (fun r h=>∃y,ShufR z y 0 n∧AscR leZ y 0 n∧r=.tup []∧h=[(g,.cells 39 n (uF y))]):=by
 have b1:((n:Int)≤12)=True:=eq_true om
 have b0:(n:Int)-0=n:=Int.sub_zero _
 refine fh_of_body Tryz.func119 rfl rfl (by simp [Tryz.ntmps119]) fun C hC=> ?_
 simp only [initS,Nat.reduceAdd]
 repeat' first|refine zV o0 ?_|refine zH o0 (fun hb=>?_) fun hb=>?_|fail
 refine aw_lp (fun _:Unit=>[(0,.c (.osl g 1 0 n)),(1,.c (.int .i64 0)),(2,.c (.int .i64 n)),(3,.c (.int .i64 lim))]) (fun _=>[(g,.cells 39 n (uF z))]) (fun _=>n≤12) (fun _=>0) () eB zZ hn ?_
 rintro _ _
 all_goals try(have Z:=(oj b1 b0);(repeat' first|refine zV Z ?_|refine zH Z (fun hb=>?_) fun hb=>?_|fail);all_goals clear Z)
 refine aw_callh (uisort_fh g n 0 n om (Nat.le_refl _) om z) rfl rfl rfl (hr:=[]) (.refl _) (zL (oj b1 b0)) ?_
 rintro _ _ ⟨y,y1,y2,rfl,rfl⟩ _
 rw [List.append_nil]
 all_goals try(have Z:=(oj b1 b0);(repeat' first|refine zV Z ?_|refine zH Z (fun hb=>?_) fun hb=>?_|fail);all_goals clear Z)
 refine yU (oj b1 b0) ?_
 exact⟨y,y1,y2,rfl,rfl⟩
theorem usort_fh (g n:Nat) (hn:n≤12) (z:Nat→Int):
  Fh Tryz.prog 71 [(g,.cells 39 n (uF z))] [.c (.osl g 1 0 n)] (fun r h=>∃y,ShufR z y 0 n∧AscR leZ y 0 n∧r=.tup []∧h=[(g,.cells 39 n (uF y))]):=by
 have f1:=lens_fa n om
 refine fh_of_body Tryz.func71 rfl rfl (by simp [Tryz.ntmps71]) fun C hC=> ?_
 simp only [initS,Nat.reduceAdd]
 repeat' first|refine zV o0 ?_|refine zH o0 (fun hb=>?_) fun hb=>?_|fail
 rw [wrap_u64_nat (n:=n) om]
 repeat' first|refine zV o0 ?_|(refine yC2 o0 (f1) ?_)|(refine yD2 o0 (f1) ?_)|refine zH o0 (fun hb=>?_) fun hb=>?_|fail
 refine aw_callh (updq_fh g n hn z _) rfl rfl rfl (hr:=[]) (.refl _) eL ?_
 rintro _ _ ⟨y,y1,y2,rfl,rfl⟩ _
 rw [List.append_nil]
 repeat' first|refine zV o0 ?_|refine zH o0 (fun hb=>?_) fun hb=>?_|fail
 refine xV ?_
 exact⟨y,y1,y2,rfl,rfl⟩
end Go.Proofs.YtpcpaekpnfkhhaaGreatDoor
namespace Go.PN
open Go.AI
abbrev ltZ (x y:Int):Bool:=decide (x<y)
theorem asc_ext {y:Nat→Int} {i:Nat} {v:Int} (h:AscR ltZ y 0 i) (hv:0<i→y (i-1)<v):AscR ltZ (updR y i v) 0 (i+1):=fun p q _ h2 h3=>by
 unfold updR
 by_cases e:q=i
 ·rw [if_pos e,if_neg om]
  have e1:=hv om
  by_cases e2:p=i-1
  ·rw [e2];exact decide_eq_true e1
  ·have:=of_decide_eq_true (h p (i-1) (Nat.zero_le _) om om)
   exact decide_eq_true (Int.lt_trans this e1)
 ·rw [if_neg e,if_neg om]
  exact h p q (Nat.zero_le _) h2 om
theorem mem_ext {y:Nat→Int} {i:Nat} {v x:Int}:MemR (updR y i v) 0 (i+1) x↔MemR y 0 i x∨x=v:=by
 unfold MemR updR
 constructor
 ·rintro ⟨p,p1,p2,p3⟩
  by_cases e:p=i
  ·rw [if_pos e] at p3;exact .inr p3.symm
  ·rw [if_neg e] at p3;exact .inl ⟨p,p1,by omega,p3⟩
 ·rintro (⟨p,p1,p2,p3⟩|e)
  ·exact⟨p,p1,by omega,by rw [if_neg om];exact p3⟩
  ·exact⟨i,Nat.zero_le _,by omega,by rw [if_pos rfl];exact e.symm⟩
theorem mem_succ {z:Nat→Int} {i:Nat} {x:Int}:MemR z 0 (i+1) x↔MemR z 0 i x∨x=z i:=by
 unfold MemR
 constructor
 ·rintro ⟨p,p1,p2,p3⟩
  by_cases e:p=i
  ·rw [e] at p3;exact .inr p3.symm
  ·exact .inl ⟨p,p1,by omega,p3⟩
 ·rintro (⟨p,p1,p2,p3⟩|e)
  ·exact⟨p,p1,by omega,p3⟩
  ·exact⟨i,Nat.zero_le _,by omega,e.symm⟩
structure CpI (z y:Nat→Int) (m i:Nat):Prop where
 le:i≤m
 pos:0<i
 asc:AscR ltZ y 0 i
 mem:∀x,MemR y 0 i x↔MemR z 0 m x
 out:∀p,i≤p→y p=z p
 last:y (i-1)=z (m-1)
theorem CpI.same {z y:Nat→Int} {m i:Nat} (h:CpI z y m i) (e:z m=z (m-1)):CpI z y (m+1) i:=by
 refine⟨Nat.le_succ_of_le h.le,h.pos,h.asc,fun x=> ?_,h.out,by rw [h.last,←e];rfl⟩
 rw [mem_succ,h.mem]
 have:=h.le
 have:=h.pos
 constructor
 ·exact .inl
 ·rintro (q|q)
  ·exact q
  ·exact⟨m-1,Nat.zero_le _,by omega,by rw [q,e]⟩
theorem CpI.more {z y:Nat→Int} {m i:Nat} (h:CpI z y m i) (e:z (m-1)<z m):CpI z (updR y i (z m)) (m+1) (i+1):=by
 refine⟨Nat.succ_le_succ h.le,Nat.succ_pos _,asc_ext h.asc fun _=>by rw [h.last];exact e,fun x=> ?_,fun p hp=> ?_,?_⟩
 ·rw [mem_ext,mem_succ,h.mem]
 ·unfold updR
  rw [if_neg om]
  exact h.out p om
 ·unfold updR
  rw [if_pos om];rfl
theorem asc_next {z:Nat→Int} {i:Nat} (h:AscR ltZ z 0 i) (e:0<i→z (i-1)<z i):AscR ltZ z 0 (i+1):=by
 have h2:=asc_ext h e
 rwa [show updR z i (z i)=z from by funext p;unfold updR;split<;>simp_all] at h2
end Go.PN
namespace Go.Proofs.YtpcpaekpnfkhhaaGreatDoor
open Go.AI Go.PN
attribute [local irreducible] aw Fa Fh DrK
theorem ucompact_fh (g n:Nat) (hn:n≤1000000) (z:Nat→Int) (hz:AscR leZ z 0 n):
  Fh Tryz.prog 72 [(g,.cells 39 n (uF z))] [.c (.osl g 1 0 n)] (fun r h=>∃y k,k≤n∧AscR ltZ y 0 k∧(∀x,MemR y 0 k x↔MemR z 0 n x)∧r=.c (.osl g 1 0 k)∧h=[(g,.cells 39 n (uF y))]):=by
 refine fh_of_body Tryz.func72 rfl rfl (by simp [Tryz.ntmps72]) fun C hC=> ?_
 simp only [initS,Nat.reduceAdd]
 repeat' first|refine zV o0 ?_|refine zH o0 (fun hb=>?_) fun hb=>?_|fail
 ·refine xU ?_
  exact⟨z,n,Nat.le_refl _,fun p q h1 h2 h3=>by omega,fun _=>Iff.rfl,rfl,rfl⟩
 refine aw_lp (fun i:Nat=>[(0,.c (.osl g 1 0 n)),(3,.c (.int .i64 i))]) (fun _=>[(g,.cells 39 n (uF z))]) (fun i=>1≤i∧i≤n∧AscR ltZ z 0 i) (fun i=>n-i) 1 eB zZ ⟨Nat.le_refl _,by omega,fun p q h1 h2 h3=>by omega⟩ ?_
 rintro i ⟨h1,h2,h3⟩
 have ex:((i:Int)-1).toNat=i-1:=by omega
 repeat' first|refine zV ex ?_|refine zH ex (fun hb=>?_) fun hb=>?_|fail
 ·have hin:i<n:=hb
  refine aw_dr 10 ty_mixed (by kernel_rfl) ?_
  repeat' first|refine zV ex ?_|refine zH ex (fun hb=>?_) fun hb=>?_|fail
  ·have he:z i=z (i-1):=hb
   have c0:CpI z z i i:=⟨Nat.le_refl _,by omega,h3,fun _=>Iff.rfl,fun _ _=>rfl,rfl⟩
   have c1:=c0.same he
   refine aw_lp (fun x:Nat×Nat×(Nat→Int)=>[(0,.c (.osl g 1 0 n)),(3,.c (.int .i64 x.2.1)),(4,.c (.osl g 1 i (n-i))),(5,.c (.int .i64 x.1))]) (fun x=>[(g,.cells 39 n (uF x.2.2))]) (fun x=>1≤x.1∧x.1≤n-i∧CpI z x.2.2 (i+x.1) x.2.1∧x.2.1<i+x.1) (fun x=>n-x.1) (1,i,z) (zB ex) zZ ⟨Nat.le_refl _,by show 1≤n-i;omega,c1,by show i<i+1;omega⟩ ?_
   rintro ⟨k,j,y⟩ ⟨k1,k2,cI,kj⟩
   dsimp only at k1 k2 cI kj⊢
   have ek:((k:Int)-1).toNat=k-1:=by omega
   have o1:y (i+k)=z (i+k):=cI.out _ om
   have o2:y (i+(k-1))=z (i+k-1):=by rw [show i+(k-1)=i+k-1 from by omega];exact cI.out _ om
   all_goals try(have Z:=(oj ex (oj ek (oj o1 o2)));(repeat' first|refine zV Z ?_|refine zH Z (fun hb=>?_) fun hb=>?_|fail);all_goals clear Z)
   ·have hkn:k<n-i:=hb
    refine aw_dr 10 ty_mixed (by kernel_rfl) ?_
    all_goals try(have Z:=(oj ex (oj ek (oj o1 o2)));(repeat' first|refine zV Z ?_|refine zH Z (fun hb=>?_) fun hb=>?_|fail);all_goals clear Z)
    ·have hlt:z (i+k-1)<z (i+k):=by
      have:=of_decide_eq_true (hz (i+k-1) (i+k) (Nat.zero_le _) om om)
      omega
     rw [updF_uF]
     exact aw_stop ⟨(k+1,j+1,updR y j (z (i+k))),by dsimp only;omega,(zB (oj ex (oj ek (oj o1 o2)))),zZ,by dsimp only;omega,by dsimp only;omega,cI.more hlt,by dsimp only;omega⟩
    ·exact aw_stop ⟨(k+1,j,y),by dsimp only;omega,(zB (oj ex (oj ek (oj o1 o2)))),zZ,by dsimp only;omega,by dsimp only;omega,cI.same hb,by dsimp only;omega⟩
   ·have hik:i+k=n:=by omega
    rw [hik] at cI
    have jp:=cI.pos
    obtain⟨q,hq⟩:∃q,n-j=q+1:=⟨n-j-1,by omega⟩
    rw [hq]
    refine aw_clearI (n:=q) (off:=j) (ki:=.u64) rfl rfl rfl (by exact tya_e_81) (by kernel_rfl) (zE (oj ex (oj ek (oj o1 o2)))) (zE (oj ex (oj ek (oj o1 o2)))) om rfl ?_
    have J1:=oj ex (oj ek (oj o1 o2))
    refine yS J1 ?_
    rw [show(fun p=>if j≤p∧p<j+(q+1) then CV.int .u64 0 else CV.int .u64 (y p))=uF (fun p=>if j≤p∧p<j+(q+1) then 0 else y p) from by funext p;unfold uF;dsimp only;split<;>rfl]
    all_goals repeat' first|refine zV J1 ?_|refine zH J1 (fun hb=>?_) fun hb=>?_|fail
    refine yU J1 ?_
    have hs:∀p,p<j→(fun p=>if j≤p∧p<j+(q+1) then 0 else y p) p=y p:=fun p hp=>if_neg om
    refine⟨_,j,cI.le,cI.asc.same fun p _ hp=>hs p hp,fun x=> ?_,rfl,rfl⟩
    rw [←cI.mem]
    constructor
    ·rintro ⟨p,p1,p2,p3⟩;exact⟨p,p1,p2,by rw [←p3,hs p p2]⟩
    ·rintro ⟨p,p1,p2,p3⟩;exact⟨p,p1,p2,by rw [hs p p2,p3]⟩
  ·have hlt:z (i-1)<z i:=by
    have:=of_decide_eq_true (hz (i-1) i (Nat.zero_le _) om hin)
    have h9:z i≠z (i-1):=hb
    omega
   exact aw_stop ⟨i+1,by omega,(zB ex),zZ,by omega,by omega,asc_next h3 fun _=>hlt⟩
 ·have e:i=n:=by omega
  subst e
  refine yU ex ?_
  exact⟨z,i,Nat.le_refl _,h3,fun _=>Iff.rfl,rfl,rfl⟩
end Go.Proofs.YtpcpaekpnfkhhaaGreatDoor
namespace Go.PN
open Go.AI
abbrev dgc (d:Int):List CV:=[CV.int .u64 d]
def dgF (L:List Int):Nat→CV:=lf 1 dgc (0:Int) L
theorem dgF_u (L:List Int):dgF L=uF (fun j=>L.getD j 0):=by
 funext j
 show ofL (dgc (L.getD (j/1) 0)) (j%1)=_
 rw [Nat.div_one,Nat.mod_one];rfl
theorem dg_push {L:List Int} {n:Nat} (hn:L.length=n) (v:Int):∀j,j<(n+1)*1→appF (dgF L) (n*1) (ofL [CV.int .u64 v]) j=dgF (L++[v]) j:=lf_push hn v (by decide)
noncomputable def dgL (L:KB):List Int:=L.map fun p=>digP p.1.1
theorem dgL_len (L:KB):(dgL L).length=L.length:=by unfold dgL;rw [List.length_map]
theorem dgL_app (L:KB) (p:(BS×BS)×Value×Nat):dgL (L++[p])=dgL L++[digP p.1.1]:=by unfold dgL;rw [List.map_append];rfl
structure KeyI (kb L:KB):Prop where
 nodup:(L.map (·.2.2)).Nodup
 sub:∀p∈L,p∈kb
theorem KeyI.zero (kb:KB):KeyI kb []:=⟨List.nodup_nil,fun _ h=>by cases h⟩
theorem KeyI.add {kb L:KB} (h:KeyI kb L) {p:(BS×BS)×Value×Nat} (hp:p∈kb) (hn:p.2.2∉L.map (·.2.2)):KeyI kb (L++[p]):=by
 refine⟨by rw [List.map_append];exact nodup_snoc h.nodup hn,fun q hq=> ?_⟩
 rcases List.mem_append.1 hq with hq|hq
 ·exact h.sub q hq
 ·rw [List.mem_singleton] at hq;exact hq▸hp
theorem KeyI.len {kb L:KB} (h:KeyI kb L):L.length≤kb.length:=by
 have:=nodup_len h.nodup (n:=kb.map (·.2.2)) fun x hx=>by
  obtain⟨p,hp,e⟩:=List.mem_map.1 hx
  exact List.mem_map.2 ⟨p,h.sub p hp,e⟩
 simpa using this
theorem KeyI.fin {kb L:KB} (h:KeyI kb L) (hs:(kb.map (·.2.2)).Nodup) (ha:∀p∈kb,p.2.2∈L.map (·.2.2)):kb.length=L.length∧∀p,p∈L↔p∈kb:=by
 have h2:∀p∈kb,p∈L:=fun p hp=>by
  obtain⟨q,hq,e⟩:=List.mem_map.1 (ha p hp)
  have:=stamp_eq hs (h.sub q hq) hp e
  exact this▸hq
 refine⟨Nat.le_antisymm ?_ h.len,fun p=>⟨h.sub p,h2 p⟩⟩
 have:=nodup_len hs (n:=L.map (·.2.2)) fun x hx=>by
  obtain⟨p,hp,e⟩:=List.mem_map.1 hx
  exact List.mem_map.2 ⟨p,h2 p hp,e⟩
 simpa using this
theorem mem_row (L:List Int) (v:Int):MemR (fun j=>L.getD j 0) 0 L.length v↔v∈L:=by
 constructor
 ·rintro ⟨i,_,hi,e⟩
  dsimp only at e
  rw [List.getD_eq_getElem?_getD,List.getElem?_eq_getElem hi] at e
  exact e▸List.getElem_mem hi
 ·intro h
  obtain⟨i,hi,e⟩:=List.mem_iff_getElem.1 h
  exact⟨i,Nat.zero_le _,hi,by dsimp only;rw [List.getD_eq_getElem?_getD,List.getElem?_eq_getElem hi];exact e⟩
theorem kb_text {es:List EnD} {kb:KB} (h:kb.map (fun p=>(p.1,p.2.1))=kvOf es):(∀p∈kb,∃e∈es,e.1=p.1.1)∧∀e∈es,∃p∈kb,p.1.1=e.1:=by
 have hf:=kb_fst h
 refine⟨fun p hp=> ?_,fun e he=> ?_⟩
 ·have hm:p.1∈kb.map (·.1):=List.mem_map.2 ⟨p,hp,rfl⟩
  rw [hf] at hm
  obtain⟨e,he,e2⟩:=List.mem_map.1 hm
  exact⟨e,he,by rw [←e2]⟩
 ·have hm:(e.1,e.2.1)∈es.map fun e=>(e.1,e.2.1):=List.mem_map.2 ⟨e,he,rfl⟩
  rw [←hf] at hm
  obtain⟨p,hp,e2⟩:=List.mem_map.1 hm
  exact⟨p,hp,by rw [e2]⟩
def KeysOf (es:List EnD) (y:Nat→Int) (k:Nat):Prop:=AscR ltZ y 0 k∧∀v,MemR y 0 k v↔∃e∈es,digP e.1=v
end Go.PN
namespace Go.Proofs.YtpcpaekpnfkhhaaGreatDoor
open Go.AI Go.PN
attribute [local irreducible] aw Fa Fh DrK
theorem keys_fh (gS gM:Nat) (most:Nat) (es:List EnD) (h0:0<es.length) (hl:es.length≤12) (ht:∀e∈es,e.1.length≤1099511627776) (hne:gS≠gM):
  Fh Tryz.prog 31 [(gS,SO gM most),(gM,MO es)] [.c (.optr gS 0)] (fun x h=>∃g n k y,k≤n∧KeysOf es y k∧x=.c (.osl g 1 0 k)∧h=[(g,.cells 39 n (uF y)),(gS,SO gM most),(gM,MO es)]):=by
 have n1:¬gM=gS:=fun e=>hne e.symm
 have n2:¬gS=gM:=hne
 refine fh_of_body Tryz.func31 rfl rfl (by simp [Tryz.ntmps31]) fun C hC=> ?_
 simp only [initS,Nat.reduceAdd]
 all_goals try(have Z:=(oj n1 n2);(repeat' first|refine zV Z ?_|refine zH Z (fun hb=>?_) fun hb=>?_|fail);all_goals clear Z)
 refine aw_pok (POk.eqPtr (b:=false) und_sp (zE (oj n1 n2)) (zE (oj n1 n2)) (.inr ⟨gS,rfl,rfl⟩)) rfl rfl ?_
 have J1:=oj n1 n2
 refine yS J1 ?_
 all_goals repeat' first|refine zV J1 ?_|refine zH J1 (fun hb=>?_) fun hb=>?_|fail
 refine aw_rangeB (kv:=kvOf es) (Kf:=keySS) rfl rfl rfl ty_smap (zE J1) (zE J1) fun gi kb c0 hn_gi hkv hst hlt=> ?_
 replace hn_gi:=Heap.ne_of hn_gi
 dsimp only [Heap.ne] at hn_gi
 have J2:=oj n1 (oj n2 hn_gi)
 refine yS J2 ?_
 have hkl:=kb_len hkv
 all_goals repeat' first|refine zV J2 ?_|refine zH J2 (fun hb=>?_) fun hb=>?_|fail
 refine aw_lp (fun x:KB×Option Nat=>[(0,.c (.optr gS 0)),(3,.c (gs x.2 1 x.1.length)),(11,.c (.optr gi 0))]) (fun x=>[(gi,.gen (ItB gM c0 (x.1.map (·.2.2)))),(gS,SO gM most),(gM,.gen (MapB keySS kb c0))]++gh x.2 39 (x.1.length*1) (dgF (dgL x.1))) (fun x=>KeyI kb x.1∧(x.2=none→x.1.length=0)) (fun x=>kb.length-x.1.length) ([],none) (zB J2) zZ ⟨KeyI.zero kb,fun _=>rfl⟩ ?_
 rintro ⟨L,og⟩ ⟨hI,hog⟩
 dsimp only at hI hog⊢
 have hLl:=hI.len
 simp only [List.cons_append,List.nil_append]
 all_goals repeat' first|refine zV J2 ?_|refine zH J2 (fun hb=>?_) fun hb=>?_|fail
 refine aw_nextB (g:=gM) (c:=c0) (Kf:=keySS) (kb:=kb) (seen:=L.map (·.2.2)) rfl rfl rfl (zE J2) (zE J2) (zE J2) hlt (fun hall=> ?_) (fun p hp hns=> ?_)
 ·refine yS J2 ?_
  all_goals repeat' first|refine zV J2 ?_|refine zH J2 (fun hb=>?_) fun hb=>?_|fail
  obtain⟨hlen,hmem⟩:=hI.fin hst hall
  cases og with
  |none=>have:=hog rfl;omega
  |some g=>
   simp only [gs,gh]
   rw [dgF_u]
   refine aw_callh (usort_fh g L.length om _) rfl rfl rfl (hr:=[(gi,.gen (ItB gM c0 (L.map (·.2.2)))),(gS,SO gM most),(gM,.gen (MapB keySS kb c0))]) (List.perm_append_comm (l₁:=[_,_,_])) (zL J2) ?_
   rintro _ _ ⟨y,y1,y2,rfl,rfl⟩ _
   simp only [List.cons_append,List.nil_append]
   refine yS J2 ?_
   all_goals repeat' first|refine zV J2 ?_|refine zH J2 (fun hb=>?_) fun hb=>?_|fail
   refine aw_callh (ucompact_fh g L.length om y y2) rfl rfl rfl (hr:=[(gi,.gen (ItB gM c0 (L.map (·.2.2)))),(gS,SO gM most),(gM,.gen (MapB keySS kb c0))]) (.refl _) (zL J2) ?_
   rintro _ _ ⟨y',k,k1,k2,k3,rfl,rfl⟩ _
   simp only [List.cons_append,List.nil_append]
   refine yS J2 ?_
   all_goals repeat' first|refine zV J2 ?_|refine zH J2 (fun hb=>?_) fun hb=>?_|fail
   refine aw_genConv (pre:=[_,_,_]) (post:=[]) (J:=MapO keySS (kvOf es)) (fun o ho=>by have:=ho.O hst hlt;rwa [hkv] at this) ?_
   simp only [List.cons_append,List.nil_append]
   refine aw_keep [(2,.c (.osl g 1 0 k))] [(g,.cells 39 L.length (uF y')),(gS,SO gM most),(gM,MO es)] (zB J2) ((List.sublist_cons_self _ _).cons_cons _) ?_
   refine yU J2 ?_
   refine⟨g,L.length,k,y',k1,⟨k2,fun v=> ?_⟩,rfl,rfl⟩
   obtain⟨t1,t2⟩:=kb_text hkv
   have hrow:=mem_row (dgL L) v
   rw [dgL_len] at hrow
   rw [k3,y1.mem,hrow]
   unfold dgL
   rw [List.mem_map]
   constructor
   ·rintro ⟨p,hp,e⟩
    obtain⟨e',he',e2⟩:=t1 p ((hmem p).1 hp)
    exact⟨e',he',by rw [e2];exact e⟩
   ·rintro ⟨e',he',e⟩
    obtain⟨p,hp,e2⟩:=t2 e' he'
    exact⟨p,(hmem p).2 hp,by rw [e2];exact e⟩
 ·have hI2:=hI.add hp hns
  have hm:=hI2.len
  obtain⟨e0,he0,ee⟩:=(kb_text hkv).1 p hp
  have hd:=digest_fa p.1.1 (by rw [←ee];exact ht e0 he0)
  rw [List.length_append,List.length_singleton] at hm
  rw [show cst (keySS p.1)=.agg [.str (sB p.1.1),.str (sB p.1.2)] from rfl]
  refine yS J2 ?_
  all_goals repeat' first|refine zV J2 ?_|refine zH J2 (fun hb=>?_) fun hb=>?_|fail
  refine aw_entryB (g:=gM) (c:=c0) (Kf:=keySS) (kb:=kb) (seen:=L.map (·.2.2)) (p:=p) rfl rfl rfl (zE J2) (zE J2) (zE J2) hp hst ?_
  rw [show cst (keySS p.1)=.agg [.str (sB p.1.1),.str (sB p.1.2)] from rfl]
  refine yS J2 ?_
  all_goals repeat' first|refine zV J2 ?_|refine zH J2 (fun hb=>?_) fun hb=>?_|fail
  refine yA J2 fun g4 hn_g4=>?_
  all_goals try(have Z:=(oj n1 (oj n2 (oj hn_gi hn_g4)));(repeat' first|refine zV Z ?_|(refine yC2 Z (hd) ?_)|(refine yD2 Z (hd) ?_)|refine zH Z (fun hb=>?_) fun hb=>?_|fail);all_goals clear Z)
  refine aw_push (pre:=[(g4,.cells 129 2 (ofL [.str (sB p.1.1),.str (sB p.1.2)])),(gi,.gen (ItB gM c0 (L.map (·.2.2)++[p.2.2]))),(gS,SO gM most),(gM,.gen (MapB keySS kb c0))]) rfl rfl rfl rfl rfl rfl rfl (zE (oj n1 (oj n2 (oj hn_gi hn_g4)))) (zE (oj n1 (oj n2 (oj hn_gi hn_g4)))) (by rfl) om om (zE (oj n1 (oj n2 (oj hn_gi hn_g4)))) om (by exact hog) (zE (oj n1 (oj n2 (oj hn_gi hn_g4)))) (by rfl) (by rfl) qb qc om (by exact dg_push (dgL_len L) (digP p.1.1)) fun gq hn_gq=> ?_
  replace hn_gq:=Heap.ne_of hn_gq
  first|dsimp only [Heap.ne,gh] at hn_gq|dsimp only [Heap.ne] at hn_gq|skip
  have J3:=oj n1 (oj n2 (oj hn_gi (oj hn_g4 hn_gq)))
  refine yS J3 ?_
  all_goals repeat' first|refine zV J3 ?_|refine zH J3 (fun hb=>?_) fun hb=>?_|fail
  refine aw_stop ⟨(L++[p],some gq),by dsimp only;rw [List.length_append,List.length_singleton];omega,?_,?_,hI2,fun e=>by cases e⟩
  ·dsimp only
   rw [List.length_append,List.length_singleton]
   exact(zB J3)
  ·dsimp only [gh]
   rw [dgL_app,List.length_append,List.length_singleton,List.map_append]
   simp only [List.cons_append,List.nil_append,Nat.mul_one,List.map_cons,List.map_nil]
   exact List.sublist_cons_self _ _
theorem putNil_fa (m:MdD) (q r:BS):Fa Tryz.prog 21 [.c (.raw (.pointer none)),.agg (mdc true m),.c (.str (sB q)),.c (.str (sB r))] (.c (errA 1)):=by
 refine fa_of_body Tryz.func21 rfl rfl (by simp [Tryz.ntmps21]) fun C hC=> ?_
 simp only [initS,Nat.reduceAdd]
 repeat' first|refine zV o0 ?_|refine zH o0 (fun hb=>?_) fun hb=>?_|fail
 refine xB fun g5 hn_g5=>?_
 repeat' first|refine zV hn_g5 ?_|refine zH hn_g5 (fun hb=>?_) fun hb=>?_|fail
 refine aw_pok (POk.eqPtr (b:=true) und_sp (zE hn_g5) (zE hn_g5) (.inl ⟨rfl,rfl⟩)) rfl rfl ?_
 refine yS hn_g5 ?_
 repeat' first|refine zV hn_g5 ?_|refine zH hn_g5 (fun hb=>?_) fun hb=>?_|fail
 refine yT hC hn_g5 ?_
 exact .one (.c (ler_errE rfl (by decide)))
theorem getNil_fa (m:MdD) (q:BS):Fa Tryz.prog 22 [.c (.raw (.pointer none)),.agg (mdc true m),.c (.str (sB q))] (.tup [.c (.str (sB [])),.c (.bool false),.c (errA 1)]):=by
 refine fa_of_body Tryz.func22 rfl rfl (by simp [Tryz.ntmps22]) fun C hC=> ?_
 simp only [initS,Nat.reduceAdd]
 repeat' first|refine zV o0 ?_|refine zH o0 (fun hb=>?_) fun hb=>?_|fail
 refine xB fun g5 hn_g5=>?_
 repeat' first|refine zV hn_g5 ?_|refine zH hn_g5 (fun hb=>?_) fun hb=>?_|fail
 refine aw_pok (POk.eqPtr (b:=true) und_sp (zE hn_g5) (zE hn_g5) (.inl ⟨rfl,rfl⟩)) rfl rfl ?_
 refine yS hn_g5 ?_
 repeat' first|refine zV hn_g5 ?_|refine zH hn_g5 (fun hb=>?_) fun hb=>?_|fail
 refine yT hC hn_g5 ?_
 exact .tup ⟨.c (.str _),.c (.bool _),.c (ler_errE rfl (by decide)),trivial⟩
theorem dropNil_fa (m:MdD):Fa Tryz.prog 24 [.c (.raw (.pointer none)),.agg (mdc true m)] (.tup [.c (.int .i64 0),.c (errA 1)]):=by
 refine fa_of_body Tryz.func24 rfl rfl (by simp [Tryz.ntmps24]) fun C hC=> ?_
 simp only [initS,Nat.reduceAdd]
 repeat' first|refine zV o0 ?_|refine zH o0 (fun hb=>?_) fun hb=>?_|fail
 refine xB fun g5 hn_g5=>?_
 repeat' first|refine zV hn_g5 ?_|refine zH hn_g5 (fun hb=>?_) fun hb=>?_|fail
 refine aw_pok (POk.eqPtr (b:=true) und_sp (zE hn_g5) (zE hn_g5) (.inl ⟨rfl,rfl⟩)) rfl rfl ?_
 refine yS hn_g5 ?_
 repeat' first|refine zV hn_g5 ?_|refine zH hn_g5 (fun hb=>?_) fun hb=>?_|fail
 refine yT hC hn_g5 ?_
 exact .tup ⟨.c (.int _ _),.c (ler_errE rfl (by decide)),trivial⟩
theorem lenNil_fa:Fa Tryz.prog 23 [.c (.raw (.pointer none))] (.c (.int .i64 0)):=by
 refine fa_of_body Tryz.func23 rfl rfl (by simp [Tryz.ntmps23]) fun C hC=> ?_
 simp only [initS,Nat.reduceAdd]
 repeat' first|refine zV o0 ?_|refine zH o0 (fun hb=>?_) fun hb=>?_|fail
 refine aw_pok (POk.eqPtr (b:=true) und_sp eE eE (.inl ⟨rfl,rfl⟩)) rfl rfl ?_
 refine xS ?_
 repeat' first|refine zV o0 ?_|refine zH o0 (fun hb=>?_) fun hb=>?_|fail
 refine xT hC ?_
 exact .one (.c (.int _ _))
theorem keysNil_fa:Fa Tryz.prog 31 [.c (.raw (.pointer none))] (.c .nils):=by
 refine fa_of_body Tryz.func31 rfl rfl (by simp [Tryz.ntmps31]) fun C hC=> ?_
 simp only [initS,Nat.reduceAdd]
 repeat' first|refine zV o0 ?_|refine zH o0 (fun hb=>?_) fun hb=>?_|fail
 refine aw_pok (POk.eqPtr (b:=true) und_sp eE eE (.inl ⟨rfl,rfl⟩)) rfl rfl ?_
 refine xS ?_
 repeat' first|refine zV o0 ?_|refine zH o0 (fun hb=>?_) fun hb=>?_|fail
 refine xT hC ?_
 exact .one (.c .nils')
end Go.Proofs.YtpcpaekpnfkhhaaGreatDoor
namespace Go.PN
open Go.AI
theorem put_ok {m:MdD} {q r:BS} {most:Nat} {es:List EnD} (h:(cntR m).2=0) (hq:q.length≤65536) (hr:r.length≤65536) (hl:es.length≠most∨getS (cntR m).1 q es≠none):putE m q r most es=0∧putM m q r most es=putS (cntR m).1 q r es:=by
 have e:putE m q r most es=0:=by
  unfold putE
  rw [if_neg (fun z=>z h),if_neg om,if_neg]
  rintro ⟨z1,z2⟩
  rcases hl with hl|hl
  ·exact hl z2
  ·exact hl z1
 exact⟨e,by unfold putM;rw [if_pos e]⟩
end Go.PN
namespace Go.Proofs.YtpcpaekpnfkhhaaGreatDoor
open Go.AI Go.PN
theorem got_ok {m:MdD} {q:BS} {es:List EnD} (h:(cntR m).2=0):gotS m q es=getS (cntR m).1 q es:=if_pos h
theorem put_fg0 (gS gM:Nat) (m:MdD) (ho:MdO m) (h:(cntR m).2=0) (q r:BS) (most:Nat) (es es':List EnD) (hq:q.length≤65536) (hr:r.length≤65536) (hl:es.length≠most∨getS (cntR m).1 q es≠none) (hm:most≤1024) (hes:es.length≤1024) (he:putS (cntR m).1 q r es=es') (hne:gS≠gM):
  Fg2 Tryz.prog 21 gS (SO gM most) gM (MO es) [.c (.optr gS 0),.agg (mdc true m),.c (.str (sB q)),.c (.str (sB r))] (.c .nilI) (MO es'):=by
 have f:=put_fg gS gM m ho q r most es om om om om hne
 obtain⟨e1,e2⟩:=put_ok h hq hr hl
 rw [e1,e2,he] at f
 exact f
theorem get_fg0 (gS gM:Nat) (m:MdD) (ho:MdO m) (h:(cntR m).2=0) (q:BS) (most:Nat) (es:List EnD) (x:Option BS) (hq:q.length≤1099511627776) (he:getS (cntR m).1 q es=x) (hne:gS≠gM):
  Fg2 Tryz.prog 22 gS (SO gM most) gM (MO es) [.c (.optr gS 0),.agg (mdc true m),.c (.str (sB q))] (.tup [.c (.str (sB (x.getD []))),.c (.bool x.isSome),.c .nilI]) (MO es):=by
 have f:=get_fg gS gM m ho q most es hq hne
 rw [got_ok h,he,h] at f
 exact f
end Go.Proofs.YtpcpaekpnfkhhaaGreatDoor
namespace Go.PN
open Go.AI
theorem models_one (a:MdD):modelsB [a]=lightB a:=by
 unfold modelsB
 simp
theorem mds_one (a:MdD):∀j,j<8→ofL (mdc true a) j=mdsF [a] j:=fun j hj=>by
 have:=lf_flat (s:=8) (c:=mdc true) (d:=(md0:MdD)) (xs:=[a]) (by decide) (fun _ _=>rfl) j hj
 show _=lf 8 (mdc true) (md0:MdD) [a] j
 rw [this]
 show _=ofL (mdc true a++[]) j
 rw [List.append_nil]
def fullS (A:BS):Nat→List EnD
 |0=>[]
 |n+1=>fullS A n++[(A,[UInt8.ofNat (97+n)],[120])]
theorem full_len (A:BS):∀n,(fullS A n).length=n
 |0=>rfl
 |n+1=>by rw [fullS,List.length_append,full_len A n];rfl
theorem get_snoc {t q:BS} {e:EnD} (h:(t,q)≠(e.1,e.2.1)):∀es:List EnD,getS t q es=none→getS t q (es++[e])=none
 |[],_=>if_neg h
 |x::es,hn=>by
  rw [getS] at hn
  split at hn
  ·cases hn
  ·rename_i hx
   rw [List.cons_append,getS,if_neg hx]
   exact get_snoc h es hn
theorem full_none (A q:BS):∀n,(∀j,j<n→q≠[UInt8.ofNat (97+j)])→getS A q (fullS A n)=none
 |0,_=>rfl
 |n+1,h=>get_snoc (fun e=>h n (Nat.lt_succ_self n) (congrArg Prod.snd e)) _ (full_none A q n fun j hj=>h j (Nat.lt_succ_of_lt hj))
theorem full_get (A:BS) {n:Nat} (hn:n<4):getS A [UInt8.ofNat (97+n)] (fullS A n)=none:=full_none A _ n fun j hj e=>by
 have h:UInt8.ofNat (97+n)=UInt8.ofNat (97+j):=(List.cons.inj e).1
 have h2:=congrArg UInt8.toNat h
 rw [UInt8.toNat_ofNat',UInt8.toNat_ofNat'] at h2
 omega
theorem full_put (A:BS) {n:Nat} (hn:n<4):putS A [UInt8.ofNat (97+n)] [120] (fullS A n)=fullS A (n+1):=by
 unfold putS
 rw [full_get A hn];rfl
theorem full_z (A:BS) {n:Nat} (hn:n≤4):getS A [122] (fullS A n)=none:=full_none A _ n fun j hj e=>by
 have h:(122:UInt8)=UInt8.ofNat (97+j):=(List.cons.inj e).1
 have h2:=congrArg UInt8.toNat h
 rw [UInt8.toNat_ofNat'] at h2
 have:(122:UInt8).toNat=122:=rfl
 omega
def fullR (A:BS) (n:Nat):List EnD:=putS A [97] [121] (fullS A n)
theorem full_r (A:BS) {n:Nat} (h1:1≤n) (h4:n≤4):getS A [97] (fullS A n)≠none∧(fullR A n).length=n∧getS A [97] (fullR A n)=some [121]∧getS A [122] (fullR A n)=none∧(∀e∈fullR A n,e.1=A)∧fullR A n≠[]:=by
 have e97:UInt8.ofNat 97=97:=rfl
 have h:n=1∨n=2∨n=3∨n=4:=by omega
 rcases h with rfl|rfl|rfl|rfl<;>simp [fullR,fullS,putS,setS,getS]
theorem keys_one {A:BS} {es:List EnD} (h0:es≠[]) (ha:∀e∈es,e.1=A) {y:Nat→Int} {k:Nat} (h:KeysOf es y k):k=1:=by
 obtain⟨h1,h2⟩:=h
 have hd:∀i,i<k→y i=digP A:=fun i hi=>by
  obtain⟨e,he,e2⟩:=(h2 (y i)).1 ⟨i,Nat.zero_le _,hi,rfl⟩
  rw [←e2,ha e he]
 rcases Nat.lt_or_ge k 2 with hk|hk
 ·rcases Nat.eq_zero_or_pos k with hz|hz
  ·subst hz
   cases es with
   |nil=>exact absurd rfl h0
   |cons e es=>
    obtain⟨i,_,hi,_⟩:=(h2 (digP e.1)).2 ⟨e,List.mem_cons_self,rfl⟩
    omega
  ·omega
 ·have:=of_decide_eq_true (h1 0 1 (Nat.le_refl _) om om)
  rw [hd 0 om,hd 1 om] at this
  omega
end Go.PN
namespace Go.Proofs.YtpcpaekpnfkhhaaGreatDoor
open Go.AI Go.PN
attribute [local irreducible] aw Fa Fh DrK
theorem lawCFull_fa (a:MdD) (v:Nat) {n1:Nat} (ua:MdU n1 a) (hn1:n1≤1048576) (hv:v≤255):Fa Tryz.prog 7 [.agg (mdc true a),.c (.int .u8 v)] (.c (.bool true)):=by
 have f0:=awake58_fa
 have hn:1048576≤1048576:=Nat.le_refl _
 replace ua:=ua.mono hn1
 have f1:=models_fa [a] (n:=1048576) (fun m hm=>by
  rw [List.mem_singleton] at hm
  subst hm
  exact ua) hn (by show 1≤_;decide)
 have hcv:=mds_one a
 have e0:errA 0=.nilI:=if_pos rfl
 have e1:errA 1=errA 1:=rfl
 rw [models_one] at f1
 refine fa_of_body Tryz.func7 rfl rfl (by simp [Tryz.ntmps7]) fun C hC=> ?_
 simp only [initS,Nat.reduceAdd]
 repeat' first|refine zV o0 ?_|refine zH o0 (fun hb=>?_) fun hb=>?_|fail
 refine xB fun g2 hn_g2=>?_
 repeat' first|refine zV hn_g2 ?_|(refine yC2 hn_g2 (f0) ?_)|(refine yD2 hn_g2 (f0) ?_)|refine zH hn_g2 (fun hb=>?_) fun hb=>?_|fail
 refine aw_buildSlice (xs:=[.tmp 26]) (cells:=mdc true a) rfl rfl rfl (zE hn_g2) (by refine yS hn_g2 ?_;rfl) rfl om om qd rfl fun gl hn_gl=> ?_
 refine aw_convR (f':=mdsF [a]) (fun j hj S w u hr=>by rw [←hcv j hj];exact hr) ?_
 replace hn_gl:=Heap.ne_of hn_gl
 dsimp only [Heap.ne] at hn_gl
 refine yS (oj hn_g2 hn_gl) ?_
 by_cases hl:lightB a=true
 ·rw [hl] at f1
  refine aw_callq f1 rfl rfl rfl ⟨.c (le_mds (n:=1) (zE (oj hn_g2 hn_gl))),trivial⟩ ?_
  clear f1 hcv
  have oa:=light_o hl ua hn
  have fT:=ctext_fa a oa
  have i1:=getNil_fa a []
  have i2:=dropNil_fa a
  have i3:=putNil_fa a [] []
  have i4:=lenNil_fa
  have i5:=keysNil_fa
  have i6:=is_fa 1 1 (by decide)
  have J1:=oj hn_g2 hn_gl
  refine yS J1 ?_
  all_goals repeat' first|refine zV J1 ?_|refine zH J1 (fun hb=>?_) fun hb=>?_|fail
  refine aw_keep [(2,.c (.optr g2 0)),(1,.c (.int .u8 v)),(5,.c (.raw (.pointer none))),(33,.c (.raw (.pointer none))),(34,.agg (mdc true a))] [mM g2 a] (zB J1) (List.sublist_cons_self _ _) ?_
  have hr4:remZ (v:Int) 4=((v%4:Nat):Int):=rem_nat v 4
  have hw:v%4<4:=Nat.mod_lt _ (by decide)
  generalize v%4=w at*
  obtain⟨mo,hmo⟩:∃mo,mo=1+w:=⟨_,rfl⟩
  have hcast:(1:Int)+(w:Int)=(mo:Int):=by omega
  all_goals try(have Z:=(oj hn_g2 (oj hn_gl (oj hr4 hcast)));(repeat' first|refine zV Z ?_|(refine yC2 Z (i1) ?_)|(refine yD2 Z (i1) ?_)|(refine yC2 Z (i2) ?_)|(refine yD2 Z (i2) ?_)|(refine yC2 Z (i3) ?_)|(refine yD2 Z (i3) ?_)|(refine yC2 Z (i4) ?_)|(refine yD2 Z (i4) ?_)|(refine yC2 Z (i5) ?_)|(refine yD2 Z (i5) ?_)|(refine yC2 Z (i6) ?_)|(refine yD2 Z (i6) ?_)|refine zH Z (fun hb=>?_) fun hb=>?_|fail);all_goals clear Z)
  clear i1 i2 i3 i4 i5 i6 J1
  refine aw_callh (cnew_fh mo om om) rfl rfl rfl (hr:=[mM g2 a]) (.refl _) (zL (oj hn_g2 (oj hn_gl (oj hr4 hcast)))) ?_
  rintro _ _ ⟨gS,gM,rfl,rfl⟩ hdis
  have k1:=Heap.ne_of (hdis gS (by simp [Heap.keys]))
  have k2:=Heap.ne_of (hdis gM (by simp [Heap.keys]))
  dsimp only [Heap.ne] at k1 k2
  refine aw_nd fun hnd=> ?_
  have hne:gS≠gM:=by
   simp only [List.cons_append,Heap.keys,List.map_cons,List.nodup_cons,List.mem_cons,not_or] at hnd
   exact hnd.1.1
  clear hnd hdis
  have n1:¬gM=gS:=fun e=>hne e.symm
  have n2:¬gS=gM:=hne
  simp only [List.cons_append,List.nil_append]
  have J2:=oj hn_g2 (oj hn_gl (oj hr4 (oj hcast (oj k1 (oj k2 (oj n1 n2))))))
  refine yS J2 ?_
  by_cases hA:(cntR a).2=0
  ·rw [hA,e0] at fT
   all_goals repeat' first|refine zV J2 ?_|(refine yC2 J2 (fT) ?_)|(refine yD2 J2 (fT) ?_)|refine zH J2 (fun hb=>?_) fun hb=>?_|fail
   refine aw_keep [(2,.c (.optr g2 0)),(11,.c (.int .i64 mo)),(12,.c (.optr gS 0)),(101,.c (.int .i64 mo)),(102,.c (.int .i64 0))] [(gS,SO gM mo),(gM,MO []),mM g2 a] (zB J2) (List.Sublist.refl _) ?_
   generalize hT:(cntR a).1=A at*
   refine aw_lp (fun i:Nat=>[(2,.c (.optr g2 0)),(11,.c (.int .i64 mo)),(12,.c (.optr gS 0)),(101,.c (.int .i64 mo)),(102,.c (.int .i64 i))]) (fun i=>[(gS,SO gM mo),(gM,MO (fullS A i)),mM g2 a]) (fun i=>i≤mo) (fun i=>mo-i) 0 (zB J2) zZ (Nat.zero_le _) ?_
   intro i hi
   all_goals repeat' first|refine zV J2 ?_|refine zH J2 (fun hb=>?_) fun hb=>?_|fail
   ·have hin:i<mo:=hb
    have hi8:wrapZ .u8 (i:Int)=(i:Int):=wrap_u8_nat om
    have hfl:=full_len A i
    have p1:=put_fg0 gS gM a oa hA [UInt8.ofNat (97+i)] [120] mo (fullS A i) (fullS A (i+1)) (by show 1≤65536;decide) (by decide) (.inl om) om om (by rw [hT];exact full_put A om) hne
    have hby:∀j,j<1→ofL [CV.int .u8 (97+(i:Int))] j=byF [UInt8.ofNat (97+i)] j:=fun j hj=>by
     have:j=0:=by omega
     subst this
     have e:(UInt8.ofNat (97+i)).toNat=97+i:=by rw [UInt8.toNat_ofNat'];omega
     show CV.int .u8 (97+(i:Int))=.int .u8 (((UInt8.ofNat (97+i)).toNat:Nat):Int)
     rw [e]
     rfl
    have J3:=oj hn_g2 (oj hn_gl (oj hr4 (oj hcast (oj k1 (oj k2 (oj n1 (oj n2 hi8)))))))
    refine yS J3 ?_
    all_goals repeat' first|refine zV J3 ?_|refine zH J3 (fun hb=>?_) fun hb=>?_|fail
    refine aw_buildSlice (xs:=[.tmp 109]) (cells:=[.int .u8 (97+(i:Int))]) rfl rfl rfl (zE J3) (by refine yS J3 ?_;rfl) rfl om om qd rfl fun gw hn_gw=> ?_
    replace hn_gw:=Heap.ne_of hn_gw
    dsimp only [Heap.ne] at hn_gw
    have J4:=oj hn_g2 (oj hn_gl (oj hr4 (oj hcast (oj k1 (oj k2 (oj n1 (oj n2 (oj hi8 hn_gw))))))))
    refine yS J4 ?_
    refine aw_pok (POk.bytesStr (el:=5) (m:=1) (f:=ofL [.int .u8 (97+(i:Int))]) (l:=[UInt8.ofNat (97+i)]) (by kernel_rfl) (by kernel_rfl) (by kernel_rfl) (zE J4) (zE J4) (Nat.le_refl 1) hby) rfl rfl ?_
    refine yS J4 ?_
    all_goals repeat' first|refine zV J4 ?_|(refine zh J4 (p1) ?_)|refine zH J4 (fun hb=>?_) fun hb=>?_|fail
    exact aw_stop ⟨i+1,by omega,(zB J4),List.sublist_cons_self _ _,by omega⟩
   ·have him:i=mo:=by omega
    subst him
    obtain⟨r1,r2,r3,r4,r5,r6⟩:=full_r A (n:=i) om om
    have hz:=full_z A (n:=i) om
    have hfl:=full_len A i
    have hAl:A.length≤1099511627776:=by
     obtain⟨c1,c2,c3⟩:=cntR_0 oa hA
     rw [←hT,c3]
     refine Nat.le_trans (text_len_le (good_of (normM_r a) (mcC_good c1)) (by rw [longX_re (normM_r a)];exact c2)) (by decide)
    have q1:=put_fg gS gM a oa [122] [121] i (fullS A i) (by decide) (by decide) om om hne
    have hE:putE a [122] [121] i (fullS A i)=19:=by
     unfold putE
     rw [if_neg (fun z=>z hA),if_neg (by decide),if_pos ⟨by rw [hT];exact hz,hfl⟩]
    have hM:putM a [122] [121] i (fullS A i)=fullS A i:=by unfold putM;rw [hE];rfl
    rw [hE,hM] at q1
    have q2:=len_fg gS gM i (fullS A i) hne
    rw [hfl] at q2
    have q3:=put_fg0 gS gM a oa hA [97] [121] i (fullS A i) (fullR A i) (by decide) (by decide) (.inr (by rw [hT];exact r1)) om om (by rw [hT];rfl) hne
    have q4:=len_fg gS gM i (fullR A i) hne
    rw [r2] at q4
    have q5:=get_fg0 gS gM a oa hA [97] i (fullR A i) (some [121]) (by decide) (by rw [hT];exact r3) hne
    have q6:=get_fg0 gS gM a oa hA [122] i (fullR A i) none (by decide) (by rw [hT];exact r4) hne
    dsimp only [Option.getD_some,Option.isSome_some,Option.getD_none,Option.isSome_none] at q5 q6
    have i19:=is_fa 19 19 (by decide)
    have hbi:((i:Int) !=(i:Int))=false:=by rw [bne_self_eq_false]
    have hbn:(i !=i)=false:=by rw [bne_self_eq_false]
    have hbq:∀l:BS,(l==l)=true:=fun l=>beq_self_eq_true l
    all_goals try(have Z:=(oj hn_g2 (oj hn_gl (oj hr4 (oj hcast (oj k1 (oj k2 (oj n1 (oj n2 (oj hbi (oj hbn hbq))))))))));(repeat' first|refine zV Z ?_|(refine zh Z (q1) ?_)|(refine zh Z (q2) ?_)|(refine zh Z (q3) ?_)|(refine zh Z (q4) ?_)|(refine yC2 Z (i19) ?_)|(refine yD2 Z (i19) ?_)|refine zH Z (fun hb=>?_) fun hb=>?_|fail);all_goals clear Z)
    refine aw_callh (keys_fh gS gM i (fullR A i) om om (fun e he=>by rw [r5 e he];exact hAl) hne) rfl rfl rfl (hr:=[mM g2 a]) (.refl _) (zL (oj hn_g2 (oj hn_gl (oj hr4 (oj hcast (oj k1 (oj k2 (oj n1 (oj n2 (oj hbi (oj hbn hbq))))))))))) ?_
    rintro _ _ ⟨g,n,k,y,hk1,hko,rfl,rfl⟩ _
    obtain rfl:k=1:=keys_one r6 r5 hko
    simp only [List.cons_append,List.nil_append]
    refine aw_keep [(2,.c (.optr g2 0)),(12,.c (.optr gS 0)),(138,.c (.bool false)),(140,.c (.osl g 1 0 1))] [(gS,SO gM i),(gM,MO (fullR A i)),mM g2 a] (zB (oj hn_g2 (oj hn_gl (oj hr4 (oj hcast (oj k1 (oj k2 (oj n1 (oj n2 (oj hbi (oj hbn hbq))))))))))) (List.sublist_cons_self _ _) ?_
    all_goals try(have Z:=(oj hn_g2 (oj hn_gl (oj hr4 (oj hcast (oj k1 (oj k2 (oj n1 (oj n2 (oj hbi (oj hbn hbq))))))))));(repeat' first|refine zV Z ?_|(refine zh Z (q5) ?_)|(refine zh Z (q6) ?_)|refine zH Z (fun hb=>?_) fun hb=>?_|fail);all_goals clear Z)
    refine yT hC (oj hn_g2 (oj hn_gl (oj hr4 (oj hcast (oj k1 (oj k2 (oj n1 (oj n2 (oj hbi (oj hbn hbq)))))))))) ?_
    exact .one (.c (ler_bool (by simp)))
  ·have p1:=put_fg gS gM a oa [] [] mo [] (by decide) (by decide) om (by decide) hne
   have hpE:putE a [] [] mo []=(cntR a).2:=if_pos hA
   have hpM:putM a [] [] mo []=[]:=by unfold putM;rw [hpE,if_neg hA]
   rw [hpE,hpM] at p1
   have p2:Fg2 Tryz.prog 23 gS (SO gM mo) gM (MO []) [.c (.optr gS 0)] (.c (.int .i64 0)) (MO []):=len_fg gS gM mo [] hne
   generalize (cntR a).2=c at*
   have hc1:(!decide (c=0))=true:=by rw [decide_eq_false hA];rfl
   have f3:=num_fa c
   all_goals try(have Z:=(oj hn_g2 (oj hn_gl (oj hr4 (oj hcast (oj k1 (oj k2 (oj n1 (oj n2 hc1))))))));(repeat' first|refine zV Z ?_|(refine yC2 Z (fT) ?_)|(refine yD2 Z (fT) ?_)|(refine yC2 Z (f3) ?_)|(refine yD2 Z (f3) ?_)|(refine zh Z (p1) ?_)|(refine zh Z (p2) ?_)|refine zH Z (fun hb=>?_) fun hb=>?_|fail);all_goals clear Z)
   all_goals first
    |exact absurd rfl hb
    |(refine yT hC (oj hn_g2 (oj hn_gl (oj hr4 (oj hcast (oj k1 (oj k2 (oj n1 (oj n2 hc1)))))))) ?_
      exact .one (.c (ler_bool (by simp))))
 ·have hl':lightB a=false:=by simpa using hl
  rw [hl'] at f1
  refine aw_callq f1 rfl rfl rfl ⟨.c (le_mds (n:=1) (zE (oj hn_g2 hn_gl))),trivial⟩ ?_
  have J5:=oj hn_g2 hn_gl
  refine yS J5 ?_
  all_goals repeat' first|refine zV J5 ?_|(refine yC2 J5 (f0) ?_)|(refine yD2 J5 (f0) ?_)|refine zH J5 (fun hb=>?_) fun hb=>?_|fail
  refine yT hC J5 ?_
  exact .one (.c (.bool _))
end Go.Proofs.YtpcpaekpnfkhhaaGreatDoor
