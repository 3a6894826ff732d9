/- Parts of one proof, laid by a program. -/
import Derived.Test.YtpcpaekpnfkhhaaGreatDoorM00
import Derived.Test.YtpcpaekpnfkhhaaGreatDoorM04
import Derived.MapKept
import Derived.Carry
import Derived.Laws.Cover3
import Derived.Lib.Bytealg
set_option linter.unusedSimpArgs false
set_option linter.unusedVariables false
set_option maxRecDepth 100000
set_option maxHeartbeats 12800000
namespace Go.AI
def fAsk {α:Type} [DecidableEq α] (a:α):List α→List MapEntry→Nat→Option (Nat×Value)
 |k::ks,e::es,i=>if a=k then some (i,e.val) else fAsk a ks es (i+1)
 |_,_,_=>none
structure KeyOk (P:Program) (kt:TypeId) {α:Type} [DecidableEq α] (K:α→Value):Prop where
 check:∀b a w,(Instr.checkKey b 10000 kt (K a)).run P w=.ok () w
 find:∀(a:α) (ks:List α) (es:List MapEntry) w,es.map (·.key)=ks.map K→(Instr.findKey kt (K a) es).run P w=.ok (fAsk a ks es 0) w
section
variable {P : Program}
theorem run_findAsking {α:Type} [DecidableEq α] {K:α→Value} {kt:TypeId} (heq:∀a b w,(Op.equal kt (K a) (K b)).run P w=.ok (decide (a=b)) w) (a:α):∀(ks:List α) (es:List MapEntry) (i:Nat) (w:World),es.map (·.key)=ks.map K→(Instr.findAsking kt (K a) es i).run P w=.ok (fAsk a ks es i) w
 |[],[],i,w,_=>by simp [Instr.findAsking,fAsk]
 |k::ks,e::es,i,w,h=>by
  simp only [List.map_cons,List.cons.injEq] at h
  simp only [Instr.findAsking,fAsk,Sem.run_bind,h.1,heq,Result.andThen_ok]
  by_cases hk:a=k
  ·simp [hk]
  ·simp only [hk,decide_false,Bool.false_eq_true,if_false]
   exact run_findAsking heq a ks es (i+1) w h.2
 |[],e::es,i,w,h=>by simp at h
 |k::ks,[],i,w,h=>by simp at h
def keyZ (ns:List Int):Value:=.agg (ns.map (Value.int .i64)).toArray
theorem run_checkFields {n:Nat} {ns:List Int} (w:World) (b:Bool):∀(fs:List Field) (k:Nat),(fs.zipIdx k).all (fun p=>p.1.name != "_" &&p.1.offset==p.2&&(tInt P p.1.type).isSome)=true→k+fs.length≤ns.length→
  (forIn fs PUnit.unit (fun f (_:PUnit)=>(do
   if f.name≠ "_" then
    let __do_lift←part f.type (ns.map (Value.int .i64)).toArray f.offset
    Instr.checkKey b (n+1) f.type __do_lift
   pure (ForInStep.yield PUnit.unit):Sem (ForInStep PUnit)))).run P w=.ok PUnit.unit w
 |[],k,_,_=>by simp
 |f::fs,k,hf,hk=>by
  simp only [List.zipIdx_cons,List.all_cons,Bool.and_eq_true,bne_iff_ne,ne_eq,beq_iff_eq] at hf
  obtain⟨⟨⟨hn,ho⟩,hi⟩,hr⟩:=hf
  simp only [List.length_cons] at hk
  have hka:k<ns.length:=by omega
  obtain⟨kk,hkk⟩:=Option.isSome_iff_exists.1 hi
  have hu:=tInt_spec hkk
  have hag:(isAgg f.type).run P w=.ok false w:=by simp [isAgg,run_underlying hu]
  have e1:(ns.map (Value.int .i64)).toArray[k]?=some (Value.int .i64 (ns[k])):=by simp [hka]
  have p1:(part f.type (ns.map (Value.int .i64)).toArray f.offset).run P w=.ok (.int .i64 (ns[k])) w:=by
   unfold part
   simp only [Sem.run_bind,hag,Result.andThen_ok,Bool.false_eq_true,if_false,ho,e1,Sem.run_pure]
  have p2:(Instr.checkKey b (n+1) f.type (.int .i64 (ns[k]))).run P w=.ok () w:=by
   simp [Instr.checkKey,run_underlying hu]
  have ih:=run_checkFields (n:=n) (ns:=ns) w b fs (k+1) (by simpa using hr) om
  rw [List.forIn_cons]
  simp only [hn,not_false_eq_true,if_true,Sem.run_bind,p1,p2,Result.andThen_ok,Sem.run_pure,ne_eq]
  exact ih
theorem keyZ_ok {kt n:Nat} (ht:tEqS P kt=some n):KeyOk P kt (fun ns:{l:List Int//l.length=n}=>keyZ ns.1):=by
 have hstr:P.underlying kt=some (.struct (P.fieldsOf kt))∧(P.fieldsOf kt).toList.zipIdx.all (fun p=>p.1.name != "_" &&p.1.offset==p.2&&(tInt P p.1.type).isSome)=true∧(P.fieldsOf kt).size=n:=by
  unfold tEqS at ht
  split at ht
  ·rename_i hc
   simp only [Bool.and_eq_true,Bool.not_eq_true'] at hc
   obtain⟨⟨⟨h1,h2⟩,h3⟩,h4⟩:=hc
   injection ht with ht
   exact⟨isStr_spec h4,h3,ht⟩
  ·cases ht
 obtain⟨hu,hf,hs⟩:=hstr
 have heq:∀(a b:{l:List Int//l.length=n}) (w:World),(Op.equal kt (keyZ a.1) (keyZ b.1)).run P w=.ok (decide (a=b)) w:=fun a b w=>by
  have:=(tEqS_run ht a.2 b.2 w).1
  unfold Op.equal Op.maxDepth keyZ
  rw [this,eqZ_eq]
  congr 1
  rw [Bool.eq_iff_iff];simp [Subtype.ext_iff]
 refine⟨fun b a w=> ?_,fun a ks es w h=> ?_⟩
 ·unfold keyZ
  rw [show(10000:Nat)=9999+1 from rfl,Instr.checkKey]
  simp only [Sem.run_bind,run_underlying hu,Result.andThen_ok]
  rw [←Array.forIn_toList]
  have:=run_checkFields (P:=P) (n:=9998) (ns:=a.1) w b (P.fieldsOf kt).toList 0 hf (by simp [hs,a.2])
  rw [this]
  rfl
 ·unfold Instr.findKey
  simp only [Sem.run_bind,run_underlying hu,Result.andThen_ok]
  cases es with
  |nil=>
   cases ks with
   |nil=>simp [Instr.findNow,fAsk]
   |cons k ks=>simp at h
  |cons e es=>
   have hn:Instr.findNow (.struct (P.fieldsOf kt)) (keyZ a.1) (e::es) 0=none:=by
    simp [Instr.findNow,Instr.sameNow]
   rw [hn]
   exact run_findAsking heq a ks (e::es) 0 w h
def MapI {α:Type} (K:α→Value) (kv:List (α×Value)) (o:Obj):Prop:=∃es c,o=.map es c∧es.toList.map (fun e=>(e.key,e.val))=kv.map (fun p=>(K p.1,p.2))
def kvGet {α:Type} [DecidableEq α] (a:α):List (α×Value)→Option Value
 |[]=>none
 |p::kv=>if a=p.1 then some p.2 else kvGet a kv
theorem fAsk_get {α:Type} [DecidableEq α] {K:α→Value} (a:α):∀(kv:List (α×Value)) (es:List MapEntry) (i:Nat),es.map (fun e=>(e.key,e.val))=kv.map (fun p=>(K p.1,p.2))→(fAsk a (kv.map (·.1)) es i).map (·.2)=kvGet a kv
 |[],[],i,_=>rfl
 |p::kv,e::es,i,h=>by
  simp only [List.map_cons,List.cons.injEq,Prod.mk.injEq] at h
  simp only [List.map_cons,fAsk,kvGet]
  split
  ·simp [h.1.2]
  ·exact fAsk_get a kv es (i+1) h.2
 |[],e::es,i,h=>by simp at h
 |p::kv,[],i,h=>by simp at h
def tMap (P:Program) (t:TypeId):Option (TypeId×TypeId):=match P.underlying t with
 |some (.map k e)=>some (k,e)
 |_=>none
theorem tMap_spec {t k e:TypeId} (h:tMap P t=some (k,e)):P.underlying t=some (.map k e):=by
 unfold tMap at h
 split at h
 ·rename_i hu;simp only [Option.some.injEq,Prod.mk.injEq] at h;rw [hu,h.1,h.2]
 ·cases h
def tZ1 (P:Program) (t:TypeId):Option Value:=match (P.info? t).bind (·.zero) with
 |some (.int k n)=>some (.int k n)
 |some (.bool b)=>some (.bool b)
 |_=>none
theorem tZ1_run {t:TypeId} {z:Value} (h:tZ1 P t=some z) (w:World):(zeroValue t).run P w=.ok z w:=by
 unfold tZ1 at h
 cases hi:P.info? t with
 |none=>simp [hi] at h
 |some i=>
  cases hz:i.zero with
  |none=>simp [hi,hz] at h
  |some v=>
   simp only [hi,hz,Option.bind_some] at h
   split at h
   ·rename_i he;injection he with he;injection h with h;subst h;simp [zeroValue,typeInfo,hi,hz,he]
   ·rename_i he;injection he with he;injection h with h;subst h;simp [zeroValue,typeInfo,hi,hz,he]
   ·cases h
theorem runGet {w:World} {r:Nat} {es:Array MapEntry} {c:Nat} (hb:w.heap[r]?=some (.map es c)):(getObj r).run P w=.ok (.map es c) w:=by simp [getObj,Sem.run,hb]
theorem runSet {w:World} {r:Nat} {es:Array MapEntry} {c:Nat} (o':Obj) (hb:w.heap[r]?=some (.map es c)):(setObj r o').run P w=.ok () {w with heap:=w.heap.setIfInBounds r o'}:=by simp [setObj,Sem.run,hb]
variable {E : Env} {K : List It} {σ σ' : Sl} {h : Heap} {all rest : List Oper} {o : Oper}
theorem aw_makeMap {α:Type} {Kf:α→Value} {t:TypeId} (hop:o.op=.makeMap t none) (hw:wantA all σ o=some true) (hd:dstOk E.N o.dst=true)
  (k:∀g,g∉h.keys→aw E (.ops all rest::K) (σ.setO o.dst (.c (.raw (.map (some g))))) ((g,.gen (MapI Kf []))::h)):aw E (.ops all (o::rest)::K) σ h:=by
 refine aw_new (r:=fun g=>.c (.raw (.map (some g)))) (ob:=.gen (MapI Kf [])) hw hd (fun a w s=> ?_) k
 refine⟨.map (some w.heap.size),w.alloc (.map #[] 0),?_,Fr.alloc _ _ _,by simp,⟨_,heap_alloc_new w _,_,_,rfl,rfl⟩,rfl⟩
 simp only [execOp,hop]
 rfl
theorem aw_lookup {α:Type} [DecidableEq α] {Kf:α→Value} {t kt et g:TypeId} {kv:List (α×Value)} {x ky:Operand} {ck:AV} {a:α} {z:Value} (hop:o.op=.lookup t x ky false) (hw:wantA all σ o=some true) (hd:dstOk E.N o.dst=true)
  (ht:tMap E.P t=some (kt,et)) (hK:KeyOk E.P kt Kf) (hz:tZ1 E.P et=some z) (hx:ev σ x=.c (.raw (.map (some g)))) (hg:h.get g=some (.gen (MapI Kf kv))) (hk:ev σ ky=ck) (hka:∀S w v,Rep S w ck v→v=Kf a)
  (k:aw E (.ops all rest::K) (σ.setO o.dst (.c (cstC ((kvGet a kv).getD z)))) h):aw E (.ops all (o::rest)::K) σ h:=by
 refine aw_step hw (fun ac w s=> ?_) k
 have h1:=ev_rep s x
 rw [hx] at h1
 have h1':ac.eval x=.map (some g):=h1
 have h2:=ev_rep s ky
 rw [hk] at h2
 have h2':=hka _ _ _ h2
 obtain⟨ob,hb,es,c,rfl,hes⟩:=s.heap g _ (Heap.get_mem hg)
 have hkeys:es.toList.map (·.key)=(kv.map (·.1)).map Kf:=by
  have:=congrArg (List.map Prod.fst) hes
  rw [List.map_map,List.map_map] at this
  rw [List.map_map]
  exact this
 have hfind:=hK.find a (kv.map (·.1)) es.toList w hkeys
 have hget:=fAsk_get (K:=Kf) a kv es.toList 0 hes
 refine⟨(kvGet a kv).getD z,w,.inl ?_,s.put hd (cstC_rep _ _ _)⟩
 have hlk:(Instr.lookup t (ac.eval x) (ac.eval ky) false).run E.P w=.ok ((kvGet a kv).getD z) w:=by
  rw [h1',h2']
  unfold Instr.lookup
  simp only [Sem.run_bind,run_underlying (tMap_spec ht),Result.andThen_ok,runGet hb,Sem.run_pure,hK.check,hfind]
  rw [←hget]
  cases hf:fAsk a (kv.map (·.1)) es.toList 0 with
  |none=>simp [tZ1_run hz]
  |some p=>obtain⟨i,v⟩:=p;simp
 simp only [execOp,hop,Sem.run_bind,hlk,Result.andThen_ok]
 rfl
theorem aw_mapNew {α:Type} [DecidableEq α] {Kf:α→Value} {t kt et g:TypeId} {kv:List (α×Value)} {x ky vl:Operand} {ck cv:AV} {a:α} {v:Value} (hop:o.op=.mapUpdate t x ky vl) (hdn:o.dst=none) (hw:wantA all σ o=some true)
  (ht:tMap E.P t=some (kt,et)) (hK:KeyOk E.P kt Kf) (hx:ev σ x=.c (.raw (.map (some g)))) (hg:h.get g=some (.gen (MapI Kf kv))) (hk:ev σ ky=ck) (hka:∀S w u,Rep S w ck u→u=Kf a) (hv:ev σ vl=cv) (hva:∀S w u,Rep S w cv u→u=v)
  (hnew:kvGet a kv=none) {h':Heap} (hh:h.set g (.gen (MapI Kf (kv++[(a,v)])))=h') (k:aw E (.ops all rest::K) σ h'):aw E (.ops all (o::rest)::K) σ h:=by
 subst hh
 refine aw_step hw (fun ac w s=> ?_) k
 have h1:=ev_rep s x
 rw [hx] at h1
 have h1':ac.eval x=.map (some g):=h1
 have h2:=ev_rep s ky
 rw [hk] at h2
 have h2':=hka _ _ _ h2
 have h3:=ev_rep s vl
 rw [hv] at h3
 have h3':=hva _ _ _ h3
 obtain⟨ob,hb,es,c,rfl,hes⟩:=s.heap g _ (Heap.get_mem hg)
 have hkeys:es.toList.map (·.key)=(kv.map (·.1)).map Kf:=by
  have:=congrArg (List.map Prod.fst) hes
  rw [List.map_map,List.map_map] at this
  rw [List.map_map]
  exact this
 have hfind:=hK.find a (kv.map (·.1)) es.toList w hkeys
 have hget:=fAsk_get (K:=Kf) a kv es.toList 0 hes
 have hnone:fAsk a (kv.map (·.1)) es.toList 0=none:=by
  cases hf:fAsk a (kv.map (·.1)) es.toList 0 with
  |none=>rfl
  |some p=>rw [hf,hnew] at hget;cases hget
 have hgl:g<w.heap.size:=(Array.getElem?_eq_some_iff.1 hb).1
 let w':World:={w with heap:=w.heap.setIfInBounds g (.map (es.push {key:=Kf a,val:=v,born:=c}) (c+1))}
 have hrun:(Instr.mapUpdate t (ac.eval x) (ac.eval ky) (ac.eval vl)).run E.P w=.ok () w':=by
  rw [h1',h2',h3']
  unfold Instr.mapUpdate
  simp only [Sem.run_bind,run_underlying (tMap_spec ht),Result.andThen_ok,runGet hb,hK.check,hfind,hnone,runSet _ hb]
  rfl
 refine⟨undef,w',.inr ⟨?_,rfl⟩,?_⟩
 ·simp only [execOp,hop,Sem.run_bind,hrun,Result.andThen_ok]
  rfl
 ·rw [hdn]
  have hfr:Fr (fun b=>b=g) w w':=by
   refine⟨rfl,rfl,rfl,by simp [w'],Nat.le_refl _,fun b _ hne=> ?_,fun g' m hh=> ?_⟩
   ·simp only [w'];rw [Array.getElem?_setIfInBounds_ne (fun e=>hne e.symm)]
   ·obtain⟨cs,ty,⟨fr,hc⟩,hs⟩:=hh
    refine⟨cs,ty,⟨fr,?_⟩,hs⟩
    have hne:g'≠g:=fun e=>by rw [e,hb] at hc;cases hc
    simp only [w']
    rw [Array.getElem?_setIfInBounds_ne (fun e=>hne e.symm)];exact hc
  refine s.setObj hg hfr ⟨_,by simp only [w'];rw [Array.getElem?_setIfInBounds_self_of_lt hgl],_,_,rfl,?_⟩
  simp only [Array.toList_push,List.map_append,List.map_cons,List.map_nil,hes]
end
end Go.AI
namespace Go.AI
section
variable {E : Env} {K : List It} {σ σ' : Sl} {h : Heap} {all rest : List Oper} {o : Oper}
theorem aw_eqnil {t e:TypeId} {t2:TypeId} {x:Operand} {tg:Bool} {s n:Nat} {f:Nat→CV} (hop:o.op=.binOp .eql t x (.const (.slice none 0 0)) t2) (hw:wantA all σ o=some true) (hd:dstOk E.N o.dst=true) (ht:E.P.underlying t=some (.slice e)) (hx:ev σ x=.c (.row tg s n f)) (hs:0<s)
  (k:∀b:Bool,(b=true→n=0)→aw E (.ops all rest::K) (σ.setO o.dst (.c (.bool b))) h):aw E (.ops all (o::rest)::K) σ h:=fun a w st=>by
 have h1:=ev_rep st x
 rw [hx] at h1
 obtain⟨A,c,hv,hc,hn⟩:=h1
 show wpList _ _ _ _ _ _
 unfold wpList
 rw [if_pos (st.wanted hw)]
 refine .inl ?_
 unfold Oper.wp
 have hrun:(execOp a.eval o).run E.P w=.ok (.value (.bool A.isNone)) w:=by
  have e2:a.eval (.const (.slice none 0 0))=.slice none 0 0:=rfl
  have h3:(eqGuard .eql t x (.const (.slice none 0 0)) (.slice A n c) (.slice none 0 0)).run E.P w=.ok () w:=by
   simp [eqGuard]
  have h4:(binOp .eql t (.slice A n c) (.slice none 0 0)).run E.P w=.ok (.bool A.isNone) w:=by
   unfold binOp
   simp [run_equal_slice_nil w t e A n c ht]
  simp only [execOp,hop,hv,e2,Sem.run_bind,h3,h4,Result.andThen_ok]
  rfl
 rw [hrun]
 refine k A.isNone (fun hb=> ?_) _ _ (st.put hd rfl)
 cases A with
 |none=>
  rcases Nat.eq_zero_or_pos n with h0|h0
  ·exact h0
  ·obtain⟨ad,e,_⟩:=hn (Nat.mul_pos h0 hs)
   cases e
 |some a=>cases hb
def ptrs (gs:List Nat):List Value:=gs.map fun g=>.pointer (some ⟨g,0,none⟩)
def fnC (f:FuncId) (gs:List Nat):CV:=.raw (.func (.func f) #[] (ptrs gs).toArray)
theorem aw_makeFunc {f:FuncId} {cs:List Operand} {gs:List Nat} (hop:o.op=.makeFunc (.func f) #[] cs.toArray) (hw:wantA all σ o=some true) (hd:dstOk E.N o.dst=true) (hc:cs.map (ev σ)=gs.map fun g=>.c (.optr g 0))
  (k:aw E (.ops all rest::K) (σ.setO o.dst (.c (fnC f gs))) h):aw E (.ops all (o::rest)::K) σ h:=by
 refine aw_step hw (fun a w s=> ?_) k
 have hev:∀(cs:List Operand) (gs:List Nat),cs.map (ev σ)=gs.map (fun g=>AV.c (.optr g 0))→cs.map a.eval=ptrs gs:=by
  intro cs
  induction cs with
  |nil=>intro gs hg;cases gs with
   |nil=>rfl
   |cons g gs=>cases hg
  |cons x cs ih=>intro gs hg;cases gs with
   |nil=>cases hg
   |cons g gs=>
    simp only [List.map_cons,List.cons.injEq] at hg
    have h1:=ev_rep s x
    rw [hg.1] at h1
    have h1':a.eval x=.pointer (some ⟨g,0,none⟩):=h1
    simp only [List.map_cons,ptrs]
    rw [h1',ih gs hg.2]
    rfl
 refine⟨.func (.func f) #[] (ptrs gs).toArray,w,.inl ?_,s.put hd rfl⟩
 simp only [execOp,hop,Instr.makeFunc,List.map_toArray,hev cs gs hc]
 rfl
theorem RepT.ptrs {S:Bool→Nat→Prop} {w:World}:∀{A:List AV} {vs:List Value} (gs:List Nat),RepT S w A vs→RepT S w (A++gs.map fun g=>.c (.optr g 0)) (vs++AI.ptrs gs)
 |[],[],gs,_=>by
  induction gs with
  |nil=>trivial
  |cons g gs ih=>exact⟨rfl,ih⟩
 |_::_,_::_,gs,h=>⟨h.1,RepT.ptrs gs h.2⟩
 |[],_::_,_,h=>h.elim
 |_::_,[],_,h=>h.elim
theorem aw_callhv {f:FuncId} {x:Operand} {gs:List Nat} {xs:List Operand} {ts:Array TypeId} {hc hr:Heap} {args:List AV} {Q:AV→Heap→Prop} (hf:Fh E.P f hc (args++gs.map fun g=>.c (.optr g 0)) Q) (hop:o.op=.call {callee:=.value x,args:=xs.toArray,argTypes:=ts}) (hw:wantA all σ o=some true) (hd:dstOk E.N o.dst=true) (hx:ev σ x=.c (fnC f gs))
  (hp:h.Perm (hc++hr)) (le:LeA [] (xs.map (ev σ)) args) (k:∀r h',Q r h'→(∀g∈h'.keys,g∉hr.keys)→aw E (.ops all rest::K) (σ.setO o.dst r) (h'++hr)):aw E (.ops all (o::rest)::K) σ h:=fun a w s=>by
 show wpList _ _ _ _ _ _
 unfold wpList
 rw [if_pos (s.wanted hw)]
 refine .inl ?_
 unfold Oper.wp
 have hv:a.eval x=.func (.func f) #[] (ptrs gs).toArray:=by
  have:=ev_rep s x
  rw [hx] at this
  exact this
 have hrun:(execOp a.eval o).run E.P w=.ok (.enter f (xs.map a.eval++ptrs gs).toArray) w:=by
  simp only [execOp,hop,resolve,hv,Deferred.ofValue,invoke,Sem.run_bind]
  have:=hf.1.run (#[]++(Array.map a.eval xs.toArray)++(ptrs gs).toArray) w
  simp only [Sem.run_pure,Result.andThen_ok]
  rw [show((xs.map a.eval++ptrs gs).toArray)=(#[]++(Array.map a.eval xs.toArray)++(ptrs gs).toArray) from by simp]
  exact this
 rw [hrun]
 show Calls _ _ _ _ _
 refine(hf.use s hp (RepT.ptrs gs (LeA.rep0 s le))).mono ?_
 rintro e w' ⟨v,r,h',rfl,hq,hfr,s',hrep⟩
 exact k r h' hq hfr _ _ (s'.put hd hrep)
theorem aw_callqv {f:FuncId} {x:Operand} {xs:List Operand} {ts:Array TypeId} {args:List AV} {r:AV} (hf:Fa E.P f args r) (hop:o.op=.call {callee:=.value x,args:=xs.toArray,argTypes:=ts}) (hw:wantA all σ o=some true) (hd:dstOk E.N o.dst=true) (hx:ev σ x=.c (.raw (.func (.func f) #[] #[])))
  (le:LeA h (xs.map (ev σ)) args) (k:aw E (.ops all rest::K) (σ.setO o.dst r) h):aw E (.ops all (o::rest)::K) σ h:=fun a w s=>by
 show wpList _ _ _ _ _ _
 unfold wpList
 rw [if_pos (s.wanted hw)]
 refine .inl ?_
 unfold Oper.wp
 have hv:a.eval x=.func (.func f) #[] #[]:=by
  have:=ev_rep s x
  rw [hx] at this
  exact this
 have hrun:(execOp a.eval o).run E.P w=.ok (.enter f (xs.map a.eval).toArray) w:=by
  simp only [execOp,hop,resolve,hv,Deferred.ofValue,invoke,Sem.run_bind]
  have:=hf.1.run (#[]++(Array.map a.eval xs.toArray)++ #[]) w
  simp only [Sem.run_pure,Result.andThen_ok]
  rw [show((xs.map a.eval).toArray)=(#[]++(Array.map a.eval xs.toArray)++ #[]) from by simp]
  exact this
 rw [hrun]
 show Calls _ _ _ _ _
 refine(hf.use s le).mono ?_
 rintro e w' ⟨v,rfl,hr,hfr⟩
 exact k _ _ ((s.later hfr).put hd hr)
end
end Go.AI
namespace Go.AI
section
variable {E : Env} {K : List It} {σ σ' : Sl} {h : Heap} {all l rest : List Oper} {o o1 o2 : Oper}
theorem NewX.buildSlice {t e size bytes len:Nat} {xs:List Operand} {cells:List CV} (hop:o.op=.buildSlice t len (enumO 0 xs).toArray) (hw:wantA l σ o=some true) (hd:dstOk E.N o.dst=true) (ht:tElem E.P t=some (e,size,bytes))
  (hz:(tZero E.P e).isSome=true) (hl:xs.length=len) (hsm:len*size≤16777216) (hlm:len≤16777216) (hx:∀x∈xs,(ev σ x).flat=true∧(ev σ x).cells.all CV.solid=true∧(ev σ x).cells.length=size) (hc:(xs.map (ev σ)).flatMap AV.cells=cells) (hops:∀x∈xs,x∈o.op.operands):
  NewX E h l σ o (fun g=>.c (.osl g size 0 len)) (.cells e (len*size) (ofL cells)):=by
 subst hc
 refine NewX.of_run hw hd fun σ' ext a w he s=> ?_
 have hmap:xs.map (ev σ')=xs.map (ev σ):=List.map_congr_left fun x hx'=>he x (hops x hx')
 have hx2:∀x∈xs,(ev σ' x).flat=true∧(ev σ' x).cells.all CV.solid=true∧(ev σ' x).cells.length=size:=fun x hx'=>by rw [he x (hops x hx')];exact hx x hx'
 rw [←hmap]
 obtain⟨hu,inf,hi,hsz,_⟩:=tElem_spec ht
 obtain⟨z,hz'⟩:=Option.isSome_iff_exists.1 hz
 obtain⟨i',zv,hi',hzv,_⟩:=tZero_spec hz'
 rw [hi] at hi'
 injection hi' with hi'
 subst hi'
 obtain⟨hL,hcs⟩:=parts_rep s size xs hx2
 have hnk:w.heap.size∉(ext++h).keys:=fun hm=>Nat.lt_irrefl _ (s.klt hm)
 generalize hvs:xs.map a.eval=vs at hL hcs
 have hlv:vs.length=len:=by rw [←hvs];simpa using hl
 have hfl:(vs.flatMap fun v=>v.cells.toList).length=len*size:=by
  rw [←hlv]
  clear hL hvs hlv
  induction vs with
  |nil=>simp
  |cons v vs ih=>simp only [List.flatMap_cons,List.length_append,List.length_cons,ih (fun x hx=>hcs x (List.mem_cons_of_mem _ hx)),Nat.add_mul];have:=hcs v (by simp);simp [this];omega
 refine⟨.slice (some ⟨w.heap.size,0,none⟩) len len,w.alloc (.cells (vs.flatMap fun v=>v.cells.toList).toArray e),?_,Fr.alloc _ _ _,by simp,?_,?_⟩
 ·have hm:(Array.map (fun x:Nat×Operand=>(x.1,a.eval x.2)) (enumO 0 xs).toArray).toList=enumL 0 vs:=by
   rw [←hvs,←enum_map];simp
  have hfill:∀zc:Array Value,Instr.fill (fun i=>some (i*size,size)) ((Array.range (len*size)).map (fun x=>zc[x%zc.size]!)) (enumL 0 vs)=some (vs.flatMap fun v=>v.cells.toList).toArray:=fun zc=>by
   rw [fill_seq size vs 0 _ hcs (by simp [hlv])]
   rw [Nat.zero_mul,putL_full _ _ (by simp [hfl])]
  simp only [execOp,hop,Instr.buildSlice,Sem.run_bind,run_underlying hu,Result.andThen_ok,sizeOf,typeInfo,Sem.run_pure]
  simp only [run_program,hi,Result.andThen_ok,Sem.run_pure,hsz]
  rw [if_neg om]
  rw [hm]
  by_cases h0:len*size=0
  ·rw [if_pos h0]
   simp only [Sem.run_bind,Sem.run_pure,Result.andThen_ok,hfill]
   rfl
  ·rw [if_neg h0]
   simp only [Sem.run_bind,Sem.run_pure,Result.andThen_ok,zeroValue,typeInfo,run_program,hi,hzv,hfill]
   rfl
 ·have hr:=orep_new (C:=E.C) (w:=w) (ty:=e) (h':=((w.heap.size,AObj.cells e (len*size) (ofL ((xs.map (ev σ')).flatMap AV.cells)))::(ext++h))) (hL.keep (keeps_alloc hnk))
  have hcl:((xs.map (ev σ')).flatMap AV.cells).length=len*size:=by rw [←hL.length,hfl]
  rw [hcl] at hr
  exact hr
 ·exact⟨len,rfl,Nat.le_refl _,by unfold maxLen;omega,(vs.flatMap fun v=>v.cells.toList).toArray,e,⟨_,heap_alloc_new w _⟩,by simp [hfl]⟩
end
end Go.AI
namespace Go.AI
theorem eI {P:Prop} (k:P:=by(repeat' first|exact has0_nil|refine has0_cons ?_ ?_)<;>simp):P:=k
theorem Fh.mono {P:Program} {f:FuncId} {hc:Heap} {args:List AV} {Q Q':AV→Heap→Prop} (hf:Fh P f hc args Q) (h:∀r h',Q r h'→Q' r h'):Fh P f hc args Q':=
 ⟨hf.1,fun C vs h1 h2 h3 h4=>(hf.2 C vs h1 h2 h3 h4).mono (by
  rintro e w ⟨v,r,h',he,hq,rest⟩
  exact⟨v,r,h',he,h _ _ hq,rest⟩)⟩
section
variable {E : Env} {K : List It} {l : List Oper} {FP : Heap} {σ σ' : Sl} {h : Heap} {o : Oper} {i : Nat} {cs : List (Nat × Nat)}
theorem cw_perm {h':Heap} (hp:h.Perm h') (k:CW E l K FP cs σ h'):CW E l K FP cs σ h:=by
 induction cs generalizing σ h h' with
 |nil=>
  cases k with
  |nil k=>exact .nil (aw_perm hp k)
 |cons c cs ih=>
  cases k with
  |flt ho hf k=>exact .flt ho hf (ih hp k)
  |fre ho hf k=>exact .fre ho hf (ih hp k)
  |pin ho hmk hpn hfp k=>exact .pin ho hmk (fun σ' K hs=>aw_perm hp (hpn σ' K hs)) hfp k
theorem NewX.makeMap {α:Type} {Kf:α→Value} {t:TypeId} (hop:o.op=.makeMap t none) (hw:wantA l σ o=some true) (hd:dstOk E.N o.dst=true):NewX E h l σ o (fun g=>.c (.raw (.map (some g)))) (.gen (MapI Kf [])):=by
 refine NewX.of_run hw hd fun σ' ext a w he s=> ?_
 refine⟨.map (some w.heap.size),w.alloc (.map #[] 0),?_,Fr.alloc _ _ _,by simp,⟨_,heap_alloc_new w _,_,_,rfl,rfl⟩,rfl⟩
 simp only [execOp,hop]
 rfl
end
end Go.AI
namespace Go.AI
section
variable {E : Env} {K : List It} {σ σ' : Sl} {h : Heap} {all rest : List Oper} {o : Oper}
theorem aw_convR {g n:Nat} {ty:TypeId} {f f':Nat→CV} {h:Heap} (hf:∀j,j<n→∀S w u,RepC S w (f j) u→RepC S w (f' j) u) (k:aw E K σ ((g,.cells ty n f')::h)):aw E K σ ((g,.cells ty n f)::h):=fun a w s=>by
 refine k a w ⟨s.size,s.defers,s.slots,fun g' o' hm=> ?_,s.nodup,s.keys,s.frame⟩
 rcases List.mem_cons.1 hm with e|hm
 ·injection e with e1 e2
  subst e1 e2
  obtain⟨cs,hb,hc,hj⟩:=s.heap _ _ (List.mem_cons_self ..)
  exact⟨cs,hb,hc,fun j hjl=>by obtain⟨u,hu,hr⟩:=hj j hjl;exact⟨u,hu,hf j hjl _ _ _ hr⟩⟩
 ·exact s.heap g' o' (List.mem_cons_of_mem _ hm)
theorem repC_nil {S:Bool→Nat→Prop} {w:World} {u:Value} {t:Bool} {s:Nat} {f:Nat→CV} (h:RepC S w .nils u):RepC S w (.row t s 0 f) u:=by
 obtain⟨A,hv⟩:=h
 exact⟨A,0,hv,Nat.le_refl _,fun h0=>by simp at h0⟩
theorem Sl.set_set (t:Nat) (u v:AV):∀σ:Sl,(σ.set t u).set t v=σ.set t v
 |[]=>by simp [Sl.set]
 |(t',x)::σ=>by
  simp only [Sl.set]
  by_cases e:t'=t
  ·rw [if_pos e,if_pos e];simp [Sl.set]
  ·rw [if_neg e,if_neg e];simp only [Sl.set,if_neg e];rw [Sl.set_set t u v σ]
theorem aw_frzT {t g s off n m:Nat} {ty:TypeId} {f:Nat→CV} (f':Nat→CV) {σ':Sl} {h':Heap} (ht:σ.get t=.c (.osl g s off n)) (hg:h.get g=some (.cells ty m f)) (hm:off+n*s≤m) (hn:¬E.C.own0 g) (hf:∀j,j<n*s→f (off+j)=f' j) (hσ:σ.set t (.c (.row true s n f'))=σ') (hh:h.del g=h')
  (k:aw E K σ' h'):aw E K σ h:=by
 refine aw_frz ht hg hm hn rfl hh ?_
 refine aw_conv (t:=t) (v:=.c (.row true s n f')) (σ':=σ') (fun S w u hr=> ?_) ?_ k
 ·rw [Sl.get_set,if_pos rfl] at hr
  obtain⟨A,c,hv,hc,hn⟩:=hr
  refine⟨A,c,hv,hc,fun h0=> ?_⟩
  obtain⟨ad,hA,hS,hj⟩:=hn h0
  refine⟨ad,hA,hS,fun j hjl=> ?_⟩
  obtain⟨u,hu,hru⟩:=hj j hjl
  exact⟨u,hu,by rw [←hf j hjl];exact hru⟩
 ·rw [←hσ,Sl.set_set]
theorem aw_rethw {P:Program} {fn:Func} {C:Ctx} {Q:AV→Heap→Prop} {rvs:List ResultVar} (hrs:fn.results=rvs.toArray) {h':Heap} (hsub:h'.Sublist h) (k:∀R:Option AV→Prop,(∀x,flatR x=true→Q x h'→R (some x))→R (resAV P σ h rvs)):
  aw (envOfH P fn C Q) (.code .ret::K) σ h:=by
 have hr:∀x,flatR x=true→Q x h'→some x=resAV P σ h rvs→aw (envOfH P fn C Q) (.code .ret::K) σ h:=fun x hf hq e a w s=>by
  refine wp_ret (exW_ret a w ?_)
  obtain⟨v,hv,hrep⟩:=results_run s hrs e.symm (flatR_spec hf)
  have hks:∀b,b∈h'.keys→b∈h.keys:=fun b hb=>by
   obtain⟨p,hp,e⟩:=List.mem_map.1 hb
   exact List.mem_map.2 ⟨p,hsub.subset hp,e⟩
  have kp:Keeps (Stab C h w) (Stab C h' w) w w:=⟨fun t b hb=>⟨hb.1,hb.2.1,fun hm=>hb.2.2 (hks b hm)⟩,fun _ _ _=>rfl,fun _ _ e=>e⟩
  exact⟨s.defers,v,hv,v,x,h',rfl,hq,(hsub.map _).nodup s.nodup,fun g hg=>s.keys g (hks g hg),hrep.keep kp,fun g o hm=>ORep.keep kp rfl (s.heap g o (hsub.subset hm)),s.frame⟩
 have:=k (fun y=>y=resAV P σ h rvs→aw (envOfH P fn C Q) (.code .ret::K) σ h) hr
 exact this rfl
theorem aw_frzG {gT m s n j0:Nat} {og:Option Nat} {ty tp:TypeId} {f f' fp:Nat→CV} (hf:f j0=gs og s n) (hf':f' j0=.row true s n fp) (hfo:∀j,j<m→j≠j0→f' j=f j) (hog:og=none→n=0) (ho:∀g,og=some g→¬E.C.own0 g)
  (k:aw E K σ ((gT,.cells ty m f')::h)):aw E K σ ((gT,.cells ty m f)::(gh og tp (n*s) fp++h)):=by
 cases og with
 |none=>
  have hn:=hog rfl
  subst hn
  refine aw_convR (f':=f') (fun j hj S w u hr=> ?_) k
  by_cases e:j=j0
  ·subst e
   rw [hf] at hr
   rw [hf']
   exact repC_nil hr
  ·rw [hfo j hj e];exact hr
 |some gP=>
  have ho:=ho gP rfl
  show aw E K σ ((gT,.cells ty m f)::(gP,.cells tp (n*s) fp)::h)
  intro a w st
  refine k a w ?_
  have hnd:=st.nodup
  simp only [Heap.keys,List.map_cons,List.nodup_cons,List.mem_cons,not_or] at hnd
  obtain⟨⟨hTP,hTh⟩,hPh,hh⟩:=hnd
  have hgm:(gP,AObj.cells tp (n*s) fp)∈(gT,AObj.cells ty m f)::(gP,.cells tp (n*s) fp)::h:=List.mem_cons_of_mem _ (List.mem_cons_self ..)
  have hkg:gP∈Heap.keys ((gT,AObj.cells ty m f)::(gP,.cells tp (n*s) fp)::h):=List.mem_map.2 ⟨_,hgm,rfl⟩
  have hks:∀b,b∈Heap.keys ((gT,AObj.cells ty m f')::h)→b∈Heap.keys ((gT,AObj.cells ty m f)::(gP,.cells tp (n*s) fp)::h):=fun b hb=>by
   simp only [Heap.keys,List.map_cons,List.mem_cons] at hb⊢
   exact hb.imp id .inr
  have kp:Keeps (Stab E.C ((gT,.cells ty m f)::(gP,.cells tp (n*s) fp)::h) w) (Stab E.C ((gT,.cells ty m f')::h) w) w w:=⟨fun t b hb=>⟨hb.1,hb.2.1,fun hm=>hb.2.2 (hks b hm)⟩,fun _ _ _=>rfl,fun _ _ e=>e⟩
  refine⟨st.size,st.defers,fun t=>Rep.keep kp (st.slots t),fun g ob hm=> ?_,?_,fun g hg=>st.keys g (hks g hg),st.frame⟩
  ·rcases List.mem_cons.1 hm with e|hm
   ·rw [Prod.mk.injEq] at e
    obtain⟨e1,e2⟩:=e
    rw [e1,e2]
    clear hm e1 e2
    obtain⟨cs,hb,hcs,hj⟩:=st.heap gT _ (List.mem_cons_self ..)
    refine⟨cs,hb,hcs,fun j hjm=> ?_⟩
    obtain⟨u,hu,hr⟩:=hj j hjm
    refine⟨u,hu,?_⟩
    by_cases e:j=j0
    ·subst e
     rw [hf] at hr
     rw [hf']
     obtain⟨c,hv,hc,_,_⟩:=hr
     obtain⟨cs2,hb2,hcs2,hj2⟩:=st.heap gP _ hgm
     refine⟨some ⟨gP,0,none⟩,c,hv,hc,fun _=>⟨⟨gP,0,none⟩,rfl,⟨.inr ((st.keys gP hkg).resolve_left ho),st.klt hkg,?_⟩,fun q hq=> ?_⟩⟩
     ·simp only [Heap.keys,List.map_cons,List.mem_cons,not_or]
      exact⟨fun e=>hTP e.symm,hPh⟩
     ·obtain⟨u2,hu2,hr2⟩:=hj2 q hq
      exact⟨u2,by rw [add_mk,Nat.zero_add,cell_own hb2];exact hu2,hr2.keep kp⟩
    ·rw [hfo j hjm e]
     exact hr.keep kp
   ·exact ORep.keep kp rfl (st.heap g ob (List.mem_cons_of_mem _ (List.mem_cons_of_mem _ hm)))
  ·simp only [Heap.keys,List.map_cons,List.nodup_cons]
   exact⟨hTh,hh⟩
theorem aw_frzGT {t s n n':Nat} {og:Option Nat} {ty:TypeId} {f f':Nat→CV} (hog:og=none→n=0) (hnn:n=n') (ht:σ.get t=.c (gs og s n)) (hn:∀g,og=some g→¬E.C.own0 g) (hf:∀j,j<n*s→f j=f' j) (hσ:σ.set t (.c (.row true s n' f'))=σ') (k:aw E K σ' h):aw E K σ (gh og ty (n*s) f++h):=by
 subst hnn
 cases og with
 |none=>
  have h0:=hog rfl
  subst h0
  refine aw_conv (t:=t) (v:=.c (.row true s 0 f')) (fun S w u hr=> ?_) hσ k
  rw [ht] at hr
  exact repC_nil hr
 |some g=>
  refine aw_frzT (t:=t) (g:=g) (s:=s) (off:=0) (n:=n) (m:=n*s) (ty:=ty) (f:=f) f' ht ?_ om (hn g rfl) (fun j hj=>by rw [Nat.zero_add];exact hf j hj) hσ ?_ k
  ·show Heap.get ((g,_)::h) g=_
   simp [Heap.get]
  ·show Heap.del ((g,_)::h) g=_
   simp [Heap.del]
end
end Go.AI
namespace Go.AI
attribute [go_sem] List.size_toArray Int.reduceBEq Int.reduceBNe Int.reduceLT Int.reduceLE Int.reduceGT Int.reduceGE decide_true decide_false
@[go_sem] theorem cast_add' (a b:Nat):((a+b:Nat):Int)=(a:Int)+(b:Int):=rfl
@[go_sem] theorem cast_one':((1:Nat):Int)=1:=rfl
@[go_sem] theorem cast_zero':((0:Nat):Int)=0:=rfl
@[go_sem] theorem beqNN (a b:Nat):((a:Int)==(b:Int))=(a==b):=by rw [Bool.eq_iff_iff,beq_iff_eq,beq_iff_eq];omega
@[go_sem] theorem beqNL (a k:Nat):((a:Int)==(no_index (OfNat.ofNat k):Int))=(a==OfNat.ofNat k):=beqNN a k
@[go_sem] theorem beqN0 (a:Nat):((a:Int)==0)=(a==0):=beqNN a 0
@[go_sem] theorem beqN1 (a:Nat):((a:Int)==1)=(a==1):=beqNN a 1
@[go_sem] theorem bneNN (a b:Nat):((a:Int) !=(b:Int))=(a !=b):=by unfold bne;rw [beqNN]
@[go_sem] theorem bneNL (a k:Nat):((a:Int) !=(no_index (OfNat.ofNat k):Int))=(a !=OfNat.ofNat k):=bneNN a k
@[go_sem] theorem bneN0 (a:Nat):((a:Int) !=0)=(a !=0):=bneNN a 0
@[go_sem] theorem bneN1 (a:Nat):((a:Int) !=1)=(a !=1):=bneNN a 1
@[go_sem] theorem ltNN (a b:Nat):decide ((a:Int)<(b:Int))=decide (a<b):=by rw [decide_eq_decide];omega
@[go_sem] theorem leNN (a b:Nat):decide ((a:Int)≤(b:Int))=decide (a≤b):=by rw [decide_eq_decide];omega
@[go_sem] theorem ltNL (a k:Nat):decide ((a:Int)<(no_index (OfNat.ofNat k):Int))=decide (a<OfNat.ofNat k):=ltNN a k
@[go_sem] theorem leNL (a k:Nat):decide ((a:Int)≤(no_index (OfNat.ofNat k):Int))=decide (a≤OfNat.ofNat k):=leNN a k
@[go_sem] theorem gtNL (a k:Nat):decide ((a:Int)>(no_index (OfNat.ofNat k):Int))=decide (a>OfNat.ofNat k):=ltNN k a
@[go_sem] theorem geNL (a k:Nat):decide ((a:Int)≥(no_index (OfNat.ofNat k):Int))=decide (a≥OfNat.ofNat k):=leNN k a
@[go_sem] theorem gtN0 (a:Nat):decide ((a:Int)>0)=decide (0<a):=ltNN 0 a
@[go_sem] theorem geNN (a b:Nat):decide ((a:Int)≥(b:Int))=decide (a≥b):=leNN b a
@[go_sem] theorem gtNN (a b:Nat):decide ((a:Int)>(b:Int))=decide (a>b):=ltNN b a
@[go_sem] theorem ltSN (a b:Nat):decide ((a:Int)+1<(b:Int))=decide (a+1<b):=ltNN (a+1) b
@[go_sem] theorem ltN1 (a:Nat):decide ((a:Int)<1)=decide (a<1):=ltNN a 1
@[go_sem] theorem toNat_succ' (a:Nat):((a:Int)+1).toNat=a+1:=rfl
theorem set_ofL (l:List CV) (k:Nat) (c:CV) (h:k<l.length):(fun j=>if j=k then c else ofL l j)=ofL (l.set k c):=by
 funext j
 induction l generalizing k j with
 |nil=>simp at h
 |cons x l ih=>
  cases k with
  |zero=>cases j with
   |zero=>rfl
   |succ j=>rfl
  |succ k=>cases j with
   |zero=>rfl
   |succ j=>
    have:=ih k (by simpa using h) j
    simpa [ofL] using this
@[go_sem] theorem updF_ofLc (l:List CV) (k:Nat) (c:CV) (cs:List CV) (h:k<l.length):updF (ofL l) k (c::cs)=updF (ofL (l.set k c)) (k+1) cs:=by
  show updF (fun j=>if j=k then c else ofL l j) (k+1) cs=_
  rw [set_ofL l k c h]
@[go_sem] theorem updF_ofLn (l:List CV) (k:Nat):updF (ofL l) k []=ofL l:=rfl
theorem Heap.get_perm:∀{h:Heap} {g:Nat} {ob:AObj},h.get g=some ob→h.Perm ((g,ob)::h.del g)
 |[],_,_,e=>by simp [Heap.get] at e
 |(g',x)::h,g,ob,e=>by
  by_cases hg:g'=g
  ·subst hg
   simp [Heap.get] at e
   subst e
   simp [Heap.del]
  ·simp only [Heap.get,if_neg hg] at e
   simp only [Heap.del,if_neg hg]
   exact((Heap.get_perm e).cons _).trans (List.Perm.swap _ _ _)
theorem Heap.set_perm:∀{h:Heap} {g:Nat} {ob ob':AObj},h.get g=some ob→(h.set g ob').Perm ((g,ob')::h.del g)
 |[],_,_,_,e=>by simp [Heap.get] at e
 |(g',x)::h,g,ob,ob',e=>by
  by_cases hg:g'=g
  ·subst hg
   simp [Heap.set,Heap.del]
  ·simp only [Heap.get,if_neg hg] at e
   simp only [Heap.set,Heap.del,if_neg hg]
   exact((Heap.set_perm e).cons _).trans (List.Perm.swap _ _ _)
def Fg (P:Program) (f:FuncId) (g:Nat) (ob:AObj) (args:List AV) (r:AV) (ob':AObj):Prop:=Fh P f [(g,ob)] args fun x h=>x=r∧h=[(g,ob')]
section
variable {E : Env} {K : List It} {σ σ' : Sl} {h : Heap} {all l rest : List Oper} {o : Oper}
theorem aw_cg {f:FuncId} {xs:List Operand} {ts:Array TypeId} {g:Nat} {ob ob':AObj} {args:List AV} {r:AV} (hf:Fg E.P f g ob args r ob') (hop:o.op=.call {callee:=.value (.func f),args:=xs.toArray,argTypes:=ts}) (hw:wantA all σ o=some true) (hd:dstOk E.N o.dst=true)
  (hg:h.get g=some ob) (le:LeA [] (xs.map (ev σ)) args) (k:aw E (.ops all rest::K) (σ.setO o.dst r) (h.set g ob')):aw E (.ops all (o::rest)::K) σ h:=by
 refine aw_callh hf hop hw hd (hr:=h.del g) (Heap.get_perm hg) le ?_
 rintro _ _ ⟨rfl,rfl⟩ _
 exact aw_perm (Heap.set_perm hg).symm k
theorem Calm.pok {r:AV} (hw:wantA l σ o=some true) (hp:POk E.P h (ev σ) o.op r) (hd:dstOk E.N o.dst=true):Calm E h l σ o r:=by
 refine⟨hd,fun σ' a w Q hs s=> ?_⟩
 rw [if_pos (s.wanted ((want_same hs).trans hw))]
 obtain⟨v,hrun,hr⟩:=hp (Stab E.C h w) w a.eval Stab.mono' (fun x hx=>by rw [←ev_same hx hs];exact ev_rep s x) s.heap
 unfold Oper.wp
 rw [hrun o rfl]
 exact s.put hd hr
theorem drk_pok {n:Nat} {r:AV} (hp:POk E.P h (ev σ) o.op r) (hw:wantA l σ o=some true) (hd:dstOk E.N o.dst=true) (k:DrK E h l K n rest (σ.setO o.dst r)):DrK E h l K (n+1) (o::rest) σ:=drk_cons (Calm.pok hw hp hd) k
theorem aw_pok {r:AV} (hp:POk E.P h (ev σ) o.op r) (hw:wantA all σ o=some true) (hd:dstOk E.N o.dst=true) (k:aw E (.ops all rest::K) (σ.setO o.dst r) h):aw E (.ops all (o::rest)::K) σ h:=aw_pure hw hp hd rfl k
theorem cw_pok {FP:Heap} {i:Nat} {cs:List (Nat×Nat)} {r:AV} (ho:l[i]?=some o) (hp:∀h,Has0 FP h→POk E.P h (ev σ) o.op r) (hw:wantA l σ o=some true) (hd:dstOk E.N o.dst=true) (k:CW E l K FP cs (σ.setO o.dst r) h):CW E l K FP ((i,0)::cs) σ h:=
 .flt ho ⟨hd,fun h hfp=>Calm.pok hw (hp h hfp) hd⟩ k
theorem yA1 {F X G:Prop} (f:F) (x:X) (k:F→Hold X→G:=by
 intro f x
 (first|apply wa1|apply wa2|apply wa3|apply wa4|apply wa5 rfl|apply wa6|apply wa7|(refine wb1 rfl fun R r=>?_;simp only[go_sem,f];with_reducible show R (some _);with_reducible refine r _ _ ?_;clear r R)|apply wa8|(refine wd1 rfl fun R r=>?_;simp only[go_sem,f];with_reducible show R (some _);with_reducible refine r _ _ ?_;clear r R))
 (repeat first|apply wa1|apply wa2|apply wa3|apply wa4|apply wa5 rfl|apply wa6|apply wa7|(refine wb1 rfl fun R r=>?_;simp only[go_sem,f];with_reducible show R (some _);with_reducible refine r _ _ ?_;clear r R)|apply wa8|(refine wd1 rfl fun R r=>?_;simp only[go_sem,f];with_reducible show R (some _);with_reducible refine r _ _ ?_;clear r R))
 exact x.out):G:=k f ⟨x⟩
theorem zL2 {F P:Prop} (f:F) (k:F→P:=by intro f;first|exact True.intro|(simp only[go_sem,f]<;>and_intros<;>first|exact True.intro|exact .c (.refl _)|exact .c wl2|exact .agg (lel_refl _)|(refine .agg ?_;simp only[LeL];and_intros<;>first|exact True.intro|exact .refl _|exact wl2|exact .nils)|exact .c .nils)):P:=k f
theorem yC2 {f:FuncId} {xs:List Operand} {ts:Array TypeId} {args:List AV} {r:AV} {X F:Prop} (q:F) (hf:Fa E.P f args r) (x:X) (hop:o.op=.call {callee:=.value (.func f),args:=xs.toArray,argTypes:=ts}:=by exact rfl) (hw:wantA all σ o=some true:=by exact rfl) (hd:dstOk E.N o.dst=true:=by exact rfl)
 (le:F→LeA h (xs.map (ev σ)) args:=by intro f;first|exact True.intro|(simp only[go_sem,f]<;>and_intros<;>first|exact True.intro|exact .c (.refl _)|exact .c wl2|exact .agg (lel_refl _)|(refine .agg ?_;simp only[LeL];and_intros<;>first|exact True.intro|exact .refl _|exact wl2|exact .nils)|exact .c .nils)) (k:F→Hold X→aw E (.ops all rest::K) (σ.setO o.dst r) h:=by intro f x;(try simp only[go_sem,f]);exact x.out):aw E (.ops all (o::rest)::K) σ h:=aw_callq hf hop hw hd (le q) (k q ⟨x⟩)
theorem yD2 {f:FuncId} {xs:List Operand} {ts:Array TypeId} {args:List AV} {r:AV} {n:Nat} {X F:Prop} (q:F) (hf:Fa E.P f args r) (x:X) (hop:o.op=.call {callee:=.value (.func f),args:=xs.toArray,argTypes:=ts}:=by exact rfl) (hw:wantA l σ o=some true:=by exact rfl) (hd:dstOk E.N o.dst=true:=by exact rfl)
 (le:F→LeA h (xs.map (ev σ)) args:=by intro f;first|exact True.intro|(simp only[go_sem,f]<;>and_intros<;>first|exact True.intro|exact .c (.refl _)|exact .c wl2|exact .agg (lel_refl _)|(refine .agg ?_;simp only[LeL];and_intros<;>first|exact True.intro|exact .refl _|exact wl2|exact .nils)|exact .c .nils)) (k:F→Hold X→DrK E h l K n rest (σ.setO o.dst r):=by intro f x;(try simp only[go_sem,f]);exact x.out):DrK E h l K (n+1) (o::rest) σ:=drk_call hf hop hw hd (le q) (k q ⟨x⟩)
end
end Go.AI
namespace Go.PN
def isLet (n:Nat):Bool:=(decide (65≤n)&&decide (n≤90))||(decide (97≤n)&&decide (n≤122))
def isDig (n:Nat):Bool:=decide (48≤n)&&decide (n≤57)
def isIns (n:Nat):Bool:=((isLet n||isDig n)||n==95)||n==46
def isBlk (n:Nat):Bool:=n==32||(n==9||(n==10||n==13))
def isSgn (n:Nat):Bool:=n==123||(n==125||(n==59||(n==58||n==64)))
theorem bAt_lt (l:BS) (i:Nat):bAt l i<256:=UInt8.toNat_lt _
def spanE (p:Nat→Bool) (l:BS) (i:Nat):Nat:=i+((l.drop i).takeWhile fun b=>p b.toNat).length
theorem spanE_out {p:Nat→Bool} {l:BS} {i:Nat} (h:l.length≤i):spanE p l i=i:=by
 unfold spanE
 rw [List.drop_eq_nil_of_le h];rfl
theorem drop_bAt {l:BS} {i:Nat} (h:i<l.length):l.drop i=l[i]::l.drop (i+1):=List.drop_eq_getElem_cons h
theorem bAt_get {l:BS} {i:Nat} (h:i<l.length):bAt l i=l[i].toNat:=by
 unfold bAt
 rw [List.getD_eq_getElem?_getD,List.getElem?_eq_getElem h];rfl
theorem spanE_yes {p:Nat→Bool} {l:BS} {i:Nat} (h:i<l.length) (hp:p (bAt l i)=true):spanE p l i=spanE p l (i+1):=by
 unfold spanE
 rw [drop_bAt h,List.takeWhile_cons_of_pos (by rw [←bAt_get h];exact hp),List.length_cons]
 omega
theorem spanE_no {p:Nat→Bool} {l:BS} {i:Nat} (h:i<l.length) (hp:p (bAt l i)=false):spanE p l i=i:=by
 unfold spanE
 rw [drop_bAt h,List.takeWhile_cons_of_neg (by rw [←bAt_get h,hp];simp)]
 rfl
theorem spanE_in {p:Nat→Bool} {l:BS}:∀(k i:Nat),spanE p l i=i+k→∀j,i≤j→j<i+k→p (bAt l j)=true:=by
 intro k
 induction k with
 |zero=>intro i _ j h1 h2;omega
 |succ k ih=>
  intro i h j h1 h2
  by_cases hi:i<l.length
  ·cases hp:p (bAt l i) with
   |false=>rw [spanE_no hi hp] at h;omega
   |true=>
    by_cases e:j=i
    ·rw [e];exact hp
    ·rw [spanE_yes hi hp] at h
     exact ih (i+1) om j om om
  ·rw [spanE_out om] at h;omega
def numE (l:BS) (i:Nat):Nat:=
 if spanE isDig l i+1<l.length∧(bAt l (spanE isDig l i)=46∨bAt l (spanE isDig l i)=47)∧isDig (bAt l (spanE isDig l i+1))=true then spanE isDig l (spanE isDig l i+1) else spanE isDig l i
structure TK where
 kind:Nat
 text:BS
deriving DecidableEq,Inhabited
inductive Stp where
 |err (c:Int)
 |skip (e:Nat)
 |tok (k e:Nat)
def stepT (l:BS) (i:Nat):Stp:=
 if isBlk (bAt l i) then .skip (i+1)
 else if bAt l i=35 then .skip (spanE (fun b=>b !=10) l i)
 else if isLet (bAt l i) then(if spanE isIns l i-i>24 then .err 5 else .tok 0 (spanE isIns l i))
 else if isDig (bAt l i) then(if numE l i<l.length∧(isIns (bAt l (numE l i))=true∨bAt l (numE l i)=47) then .err 2 else .tok 1 (numE l i))
 else if isSgn (bAt l i) then .tok 2 (i+1)
 else .err 2
def splitT (l:BS):Nat→Nat→List TK→Int×List TK
 |0,_,out=>(0,out)
 |n+1,i,out=>if i<l.length then(match stepT l i with
  |.err c=>(c,[])
  |.skip e=>splitT l n e out
  |.tok k e=>splitT l n e (out++[⟨k,cutS l i e⟩])) else(0,out)
def splitS (l:BS):Int×List TK:=if l.length>65536 then(4,[]) else splitT l l.length 0 []
structure TkOk (t:TK):Prop where
 kind:t.kind≤2
 ne:t.text≠[]
 word:t.kind=0→isLet (bAt t.text 0)=true
 num:t.kind=1→isDig (bAt t.text 0)=true
 sgn:t.kind=2→t.text.length=1∧isSgn (bAt t.text 0)=true
end Go.PN
namespace Go.AI
structure Bq (b:Bool) (p q:Prop):Prop where
 t:b=true→p
 f:b=false→q
theorem bqd {p:Prop} [Decidable p]:Bq (decide p) p (¬p):=⟨of_decide_eq_true,of_decide_eq_false⟩
theorem bqe {α:Type} [BEq α] [LawfulBEq α] {a b:α}:Bq (a==b) (a=b) (a≠b):=⟨fun e=>by simpa using e,fun e=>by simpa using e⟩
theorem bqn {α:Type} [BEq α] [LawfulBEq α] {a b:α}:Bq (a !=b) (a≠b) (a=b):=⟨fun e=>by simpa using e,fun e=>by simpa using e⟩
theorem bqm {α:Type} [BEq α] [LawfulBEq α] {a b:α}:Bq (!(a==b)) (a≠b) (a=b):=⟨fun e=>by simpa using e,fun e=>by simpa using e⟩
theorem bqt {b:Bool}:Bq b (b=true) (b=false):=⟨id,id⟩
theorem bqT:Bq true (true=true) (true=false):=⟨id,id⟩
theorem bqF:Bq false (false=true) (false=false):=⟨id,id⟩
section
variable {E : Env} {K : List It} {σ : Sl} {h : Heap} {all l rest : List Oper} {o : Oper} {F X Y : Prop}
theorem zW {t g off m n:Nat} {ty:TypeId} {ag:Bool} {fc:Nat→CV} {a y:Operand} {v:AV} {h':Heap} (q:F) (x:X) (hop:o.op=.store t a y:=by exact rfl) (hw:wantA all σ o=some true:=by exact rfl) (hd:dstOk E.N o.dst=true:=by exact rfl) (hdn:o.dst=none:=by exact rfl) (ha:F→ev σ a=.c (.optr g off):=by intro f;simp only[go_sem,f]<;>rfl) (hx:F→ev σ y=v:=by intro f;simp only[go_sem,f]<;>rfl)
 (hg:F→h.get g=some (.cells ty m fc):=by intro f;simp only[go_sem,f]<;>rfl) (ht:F→tSz E.P t=some (ag,n):=by intro f;simp only[go_sem,f]<;>rfl) (hnt:∀xs,v≠.tup xs:=by exact fun _ e=>by cases e) (hs:v.cells.all CV.solid=true:=by first|rfl|exact solid_gs3) (hlen:v.cells.length=n:=by rfl) (hle:off+n≤m:=by first|omega|simp)
 (hh:h.set g (.cells ty m (updF fc off v.cells))=h':=by exact rfl) (k:F→Hold X→aw E (.ops all rest::K) σ h':=by intro f x;(try simp only[go_sem,f]);exact x.out):aw E (.ops all (o::rest)::K) σ h:=aw_store hop hw hd hdn (ha q) (hx q) (hg q) (ht q) hnt hs hlen hle hh (k q ⟨x⟩)
theorem zg {f:FuncId} {xs:List Operand} {ts:Array TypeId} {g:Nat} {ob ob':AObj} {args:List AV} {r:AV} (q:F) (hf:Fg E.P f g ob args r ob') (x:X) (hop:o.op=.call {callee:=.value (.func f),args:=xs.toArray,argTypes:=ts}:=by exact rfl) (hw:wantA all σ o=some true:=by exact rfl) (hd:dstOk E.N o.dst=true:=by exact rfl)
 (hg:F→h.get g=some ob:=by intro f;simp only[go_sem,f]<;>rfl) (le:F→LeA [] (xs.map (ev σ)) args:=by intro f;exact zL2 f) (k:F→Hold X→aw E (.ops all rest::K) (σ.setO o.dst r) (h.set g ob'):=by intro f x;(try simp only[go_sem,f]);exact x.out):aw E (.ops all (o::rest)::K) σ h:=aw_cg hf hop hw hd (hg q) (le q) (k q ⟨x⟩)
theorem zC {t:Nat} {y z:Code} {b:Bool} {p1 p2:Prop} (q:F) (k1:p1→aw E (.code y::K) σ h) (k2:p2→aw E (.code z::K) σ h) (hb:F→σ.get t=.c (.bool b):=by intro f;simp only[go_sem,f]<;>rfl) (hp:Bq b p1 p2:=by first|(with_reducible exact bqd)|(with_reducible exact bqe)|(with_reducible exact bqn)|(with_reducible exact bqm)|((fail_if_success (with_reducible exact bqT));(fail_if_success (with_reducible exact bqF));exact bqt)):aw E (.code (.cond (.tmp t) y z)::K) σ h:=
 aw_cond (hb q) (fun e=>k1 (hp.t e)) fun e=>k2 (hp.f e)
theorem zG {t j:Nat} {want b:Bool} {p1 p2:Prop} (q:F) (x:p1→X) (y:p2→Y) (hg:o.guard=some (j,want):=by exact rfl) (hj:(all[j]?).bind (·.dst)=some t:=by exact rfl) (hb:F→σ.get t=.c (.bool b):=by intro f;simp only[go_sem,f]<;>rfl) (hp:Bq b p1 p2:=by first|(with_reducible exact bqd)|(with_reducible exact bqe)|(with_reducible exact bqn)|(with_reducible exact bqm)|((fail_if_success (with_reducible exact bqT));(fail_if_success (with_reducible exact bqF));exact bqt))
 (k1:F→Hold X→aw E (.ops all (o::rest)::K) (σ.set t (.c (.bool true))) h:=by intro f x;(try simp only[go_sem,f]);exact x.out) (k2:F→Hold Y→aw E (.ops all (o::rest)::K) (σ.set t (.c (.bool false))) h:=by intro f x;(try simp only[go_sem,f]);exact x.out):aw E (.ops all (o::rest)::K) σ h:=aw_split t (hb q) (fun e=>k1 q ⟨x (hp.t e)⟩) fun e=>k2 q ⟨y (hp.f e)⟩
theorem zD {t j n:Nat} {want b:Bool} {p1 p2:Prop} (q:F) (x:p1→X) (y:p2→Y) (hg:o.guard=some (j,want):=by exact rfl) (hj:(l[j]?).bind (·.dst)=some t:=by exact rfl) (hb:F→σ.get t=.c (.bool b):=by intro f;simp only[go_sem,f]<;>rfl) (hp:Bq b p1 p2:=by first|(with_reducible exact bqd)|(with_reducible exact bqe)|(with_reducible exact bqn)|(with_reducible exact bqm)|((fail_if_success (with_reducible exact bqT));(fail_if_success (with_reducible exact bqF));exact bqt))
 (k1:F→Hold X→DrK E h l K n (o::rest) (σ.set t (.c (.bool true))):=by intro f x;(try simp only[go_sem,f]);exact x.out) (k2:F→Hold Y→DrK E h l K n (o::rest) (σ.set t (.c (.bool false))):=by intro f x;(try simp only[go_sem,f]);exact x.out):DrK E h l K n (o::rest) σ:=drk_split t (hb q) (fun e=>k1 q ⟨x (hp.t e)⟩) fun e=>k2 q ⟨y (hp.f e)⟩
theorem zV {G:Prop} (f:F) (x:X) (k:F→Hold X→G:=by intro f x;first|exact yA1 f x.out|exact zW f x.out|exact yP f x.out|exact yN f x.out|fail):G:=k f ⟨x⟩
theorem zH {G p q:Prop} (f:F) (x:p→X) (y:q→Y) (k:F→Hold (p→X)→Hold (q→Y)→G:=by intro f x y;first|exact zC f x.out y.out|exact zG f x.out y.out|exact zD f x.out y.out|fail):G:=k f ⟨x⟩ ⟨y⟩
end
end Go.AI
namespace Go.AI
theorem yQ {F A X G:Prop} (f:F) (a:A) (x:X) (k:F→A→Hold X→G:=by intro f a x;first|exact yC2 f a x.out|exact yD2 f a x.out|exact zg f a x.out|fail):G:=k f a ⟨x⟩
theorem zA {F X G:Prop} (f:F) (x:X) (k:F→Hold X→G:=by intro f x;((repeat' first|refine zV f ?_|fail);exact x.out)):G:=k f ⟨x⟩
theorem zA1 {F A X G:Prop} (f:F) (a:A) (x:X) (k:F→A→Hold X→G:=by intro f a x;((repeat' first|refine zV f ?_|refine yQ f a ?_|fail);exact x.out)):G:=k f a ⟨x⟩
theorem zA2 {F A B X G:Prop} (f:F) (a:A) (b:B) (x:X) (k:F→A→B→Hold X→G:=by intro f a b x;((repeat' first|refine zV f ?_|refine yQ f a ?_|refine yQ f b ?_|fail);exact x.out)):G:=k f a b ⟨x⟩
end Go.AI
namespace Go.Proofs.YtpcpaekpnfkhhaaGreatDoor
open Go.AI Go.PN
attribute [local irreducible] aw Fa Fh DrK
theorem tlet_fa (n:Nat):Fa Tryz.prog 133 [.c (.int .u8 n)] (.c (.bool (isLet n))):=by
 refine fa_of_body Tryz.func133 rfl rfl (by simp [Tryz.ntmps133]) fun C hC=> ?_
 simp only [initS,Nat.reduceAdd]
 repeat' first|refine zV o0 ?_|refine zH o0 (fun hb=>?_) fun hb=>?_|fail
 all_goals
  refine xT hC ?_
  exact .one (.c (ler_bool (by rw [Bool.eq_iff_iff];simp [isLet];omega)))
theorem tdig_fa (n:Nat):Fa Tryz.prog 240 [.c (.int .u8 n)] (.c (.bool (isDig n))):=by
 refine fa_of_body Tryz.func240 rfl rfl (by simp [Tryz.ntmps240]) fun C hC=> ?_
 simp only [initS,Nat.reduceAdd]
 repeat' first|refine zV o0 ?_|refine zH o0 (fun hb=>?_) fun hb=>?_|fail
 all_goals
  refine xT hC ?_
  exact .one (.c (ler_bool (by rw [Bool.eq_iff_iff];simp [isDig];omega)))
end Go.Proofs.YtpcpaekpnfkhhaaGreatDoor
namespace Go.PN
def nameB (s:BS):Bool:=decide (0<s.length)&&decide (s.length≤24)&&isLet (bAt s 0)&&decide (spanE isIns s 0=s.length)
end Go.PN
namespace Go.Proofs.YtpcpaekpnfkhhaaGreatDoor
open Go.AI Go.PN
attribute [local irreducible] aw Fa Fh DrK
theorem twend_fa (l:BS) (i:Nat) (hl:l.length≤1099511627776) (hi:i≤l.length):Fa Tryz.prog 134 [.c (.str (sB l)),.c (.int .i64 i)] (.c (.int .i64 (spanE isIns l i:Nat))):=by
 refine fa_of_body Tryz.func134 rfl rfl (by simp [Tryz.ntmps134]) fun C hC=> ?_
 simp only [initS,Nat.reduceAdd]
 refine xG ?_
 generalize hS:spanE isIns l i=S
 refine aw_lp (fun x:Nat=>[(0,.c (.str (sB l))),(1,.c (.int .i64 x))]) (fun _=>[]) (fun x=>x≤l.length∧spanE isIns l x=S) (fun x=>l.length-x) i eB zZ ⟨hi,hS⟩ ?_
 rintro x ⟨hx,hs⟩
 repeat' first|refine zV o0 ?_|(refine yC2 o0 (tlet_fa _) ?_)|(refine yD2 o0 (tlet_fa _) ?_)|(refine yC2 o0 (tdig_fa _) ?_)|(refine yD2 o0 (tdig_fa _) ?_)|refine zH o0 (fun hb=>?_) fun hb=>?_|fail
 all_goals first
  |(refine aw_stop ⟨x+1,by omega,eB,zZ,by omega,?_⟩
    rw [←spanE_yes om (by unfold isIns;simp_all)];exact hs)
  |(refine xT hC ?_
    refine .one (.c (ler_int ?_))
    first
     |(rw [←hs,spanE_out om];done)
     |(rw [←hs,spanE_no om (by unfold isIns;simp_all)]))
theorem tname_fa (l:BS) (hl:l.length≤1099511627776):Fa Tryz.prog 87 [.c (.str (sB l))] (.c (.bool (nameB l))):=by
 have hw:=twend_fa l 0 hl (Nat.zero_le _)
 unfold nameB
 refine fa_of_body Tryz.func87 rfl rfl (by simp [Tryz.ntmps87]) fun C hC=> ?_
 simp only [initS,Nat.reduceAdd]
 repeat' first|refine zV o0 ?_|(refine yC2 o0 (tlet_fa _) ?_)|(refine yD2 o0 (tlet_fa _) ?_)|(refine yC2 o0 (hw) ?_)|(refine yD2 o0 (hw) ?_)|refine zH o0 (fun hb=>?_) fun hb=>?_|fail
 all_goals
  refine xT hC ?_
  refine .one (.c (ler_bool ?_))
  first|(simp_all;done)|(simp_all;omega)|(rw [Bool.eq_iff_iff];simp_all;done)|(rw [Bool.eq_iff_iff];simp_all;omega)
end Go.Proofs.YtpcpaekpnfkhhaaGreatDoor
namespace Go.PN
open Go.AI
structure EvD where
 name:BS
 p:RD
 fail:RD
 rep:RD
 cost:Int
structure HsD where
 name:BS
 on:Bool
structure GtD where
 name:BS
 kind:Int
 k:Int
 inputs:List BS
 dorm:RD
structure PgD where
 name:BS
 top:BS
 gates:List GtD
structure GrD where
 name:BS
 kind:Int
 members:List BS
 factors:List RD
structure VlD where
 event:BS
 p:RD
structure PhD where
 name:BS
 top:BS
 values:List VlD
structure MdD where
 name:BS
 top:BS
 events:List EvD
 houses:List HsD
 gates:List GtD
 pages:List PgD
 groups:List GrD
 phases:List PhD
abbrev ev0:EvD:=⟨[],rd0,rd0,rd0,0⟩
abbrev hs0:HsD:=⟨[],false⟩
abbrev gt0:GtD:=⟨[],0,0,[],rd0⟩
abbrev pg0:PgD:=⟨[],[],[]⟩
abbrev gr0:GrD:=⟨[],0,[],[]⟩
abbrev vl0:VlD:=⟨[],rd0⟩
abbrev ph0:PhD:=⟨[],[],[]⟩
abbrev md0:MdD:=⟨[],[],[],[],[],[],[],[]⟩
abbrev kP:BS:=[112]
abbrev kFail:BS:=[102,97,105,108]
abbrev kRepair:BS:=[114,101,112,97,105,114]
abbrev kCost:BS:=[99,111,115,116]
abbrev kSemi:BS:=[59]
abbrev kAt:BS:=[64]
abbrev kColon:BS:=[58]
abbrev kOpen:BS:=[123]
abbrev kClose:BS:=[125]
abbrev kOn:BS:=[111,110]
abbrev kOff:BS:=[111,102,102]
abbrev kTop:BS:=[116,111,112]
abbrev kGate:BS:=[103,97,116,101]
abbrev kBeta:BS:=[98,101,116,97]
abbrev kGreek:BS:=[103,114,101,101,107]
abbrev kModel:BS:=[109,111,100,101,108]
abbrev kEvent:BS:=[101,118,101,110,116]
abbrev kHouse:BS:=[104,111,117,115,101]
abbrev kPage:BS:=[112,97,103,101]
abbrev kGroup:BS:=[103,114,111,117,112]
abbrev kPhase:BS:=[112,104,97,115,101]
abbrev kAnd:BS:=[97,110,100]
abbrev kOr:BS:=[111,114]
abbrev kVote:BS:=[118,111,116,101]
abbrev kNot:BS:=[110,111,116]
abbrev kXor:BS:=[120,111,114]
abbrev kInhibit:BS:=[105,110,104,105,98,105,116]
abbrev kPand:BS:=[112,97,110,100]
abbrev kSpare:BS:=[115,112,97,114,101]
abbrev kDepend:BS:=[100,101,112,101,110,100]
def natB (s:BS):Nat:=s.foldl (fun n b=>n*10+(b.toNat-48)) 0
def idxB (b:UInt8) (s:BS):Nat:=(s.takeWhile (· !=b)).length
def isNum (s:BS):Bool:=decide (0<s.length)&&isDig (bAt s 0)&&numE s 0==s.length
def valC (s:BS):Int:=if s.length>100 then 4 else if isNum s=false then 2
 else if idxB 47 s<s.length∧natB (s.drop (idxB 47 s+1))=0 then 8 else 0
def valQ (s:BS):Rat:=if idxB 47 s<s.length then(natB (s.take (idxB 47 s)):Rat)/(natB (s.drop (idxB 47 s+1)):Rat)
 else(natB (s.take (idxB 46 s)++s.drop (idxB 46 s+1)):Rat)/((10^(s.drop (idxB 46 s+1)).length:Nat):Rat)
def valR (s:BS):RD:=if valC s=0 then rd (valQ s) else rd0
def intQ (q:Rat):Option Int:=if q.den=1∧ -9223372036854775808≤q.num∧q.num≤9223372036854775807 then some q.num else none
structure PS where
 l:List TK
 e:Int
def failS (c:Int) (s:PS):PS:=if s.e=0 then⟨s.l,c⟩ else s
def kindS (s:PS) (k:Nat):Bool:=decide (s.e=0)&&match s.l with|[]=>false|t::_=>t.kind==k
def isS (s:PS) (w:BS):Bool:=decide (s.e=0)&&match s.l with|[]=>false|t::_=>t.kind !=1&&t.text==w
def hdT (s:PS):BS:=match s.l with|[]=>[]|t::_=>t.text
def takeS (may:Bool) (s:PS):BS×PS:=if s.e=0 then(match s.l with
 |[]=>([],⟨[],20⟩)
 |t::l=>if may then(t.text,⟨l,0⟩) else([],⟨t::l,2⟩)) else([],s)
def expS (w:BS) (s:PS):PS:=(takeS (isS s w) s).2
def wordS (s:PS):BS×PS:=takeS (kindS s 0) s
def numS (s:PS):RD×PS:=let r:=takeS (kindS s 1) s
 if r.2.e=0 then(valR r.1,if valC r.1=0 then r.2 else⟨r.2.l,valC r.1⟩) else(rd0,r.2)
def wholeS (s:PS):Int×PS:=let r:=numS s
 if r.2.e=0 then(match intQ r.1.q with
  |some n=>if 0≤n∧n≤1073741824 then(n,r.2) else(0,⟨r.2.l,3⟩)
  |none=>(0,⟨r.2.l,3⟩)) else(0,r.2)
def inputS (s:PS):BS×PS:=if isS s kAt then(let r:=wordS (expS kAt s);(64::r.1,r.2)) else wordS s
def mS (s:PS):Nat:=if s.e=0 then s.l.length+1 else 0
def loopS {α:Type} (c:PS→Bool) (b:α→PS→α×PS):Nat→α→PS→α×PS
 |0,a,s=>(a,s)
 |n+1,a,s=>if s.e=0∧c s=true then loopS c b n (b a s).1 (b a s).2 else(a,s)
def lpS {α:Type} (c:PS→Bool) (b:α→PS→α×PS) (a:α) (s:PS):α×PS:=loopS c b (mS s) a s
theorem loopS_end {α:Type} {c:PS→Bool} {b:α→PS→α×PS} {n:Nat} {a:α} {s:PS} (h:¬(s.e=0∧c s=true)):loopS c b n a s=(a,s):=by
 cases n with
 |zero=>rfl
 |succ n=>unfold loopS;rw [if_neg h]
theorem loopS_fuel {α:Type} {c:PS→Bool} {b:α→PS→α×PS} (hd:∀a s,s.e=0→c s=true→mS (b a s).2<mS s):∀(n m:Nat) (a:α) (s:PS),mS s≤n→mS s≤m→loopS c b n a s=loopS c b m a s:=by
 intro n
 induction n with
 |zero=>
  intro m a s h1 h2
  have:¬(s.e=0∧c s=true):=fun h=>by unfold mS at h1;rw [if_pos h.1] at h1;omega
  rw [loopS_end this,loopS_end this]
 |succ n ih=>
  intro m a s h1 h2
  by_cases h:s.e=0∧c s=true
  ·have h3:=hd a s h.1 h.2
   cases m with
   |zero=>omega
   |succ m=>
    unfold loopS
    rw [if_pos h,if_pos h]
    exact ih m _ _ om om
  ·rw [loopS_end h,loopS_end h]
theorem lpS_step {α:Type} {c:PS→Bool} {b:α→PS→α×PS} (hd:∀a s,s.e=0→c s=true→mS (b a s).2<mS s) {a:α} {s:PS} (h0:s.e=0) (h1:c s=true):lpS c b a s=lpS c b (b a s).1 (b a s).2:=by
 have h3:=hd a s h0 h1
 unfold lpS
 obtain⟨n,hn⟩:∃n,mS s=n+1:=⟨mS s-1,by omega⟩
 rw [hn]
 show(if _ then _ else _)=_
 rw [if_pos ⟨h0,h1⟩]
 exact loopS_fuel hd _ _ _ _ om (Nat.le_refl _)
theorem lpS_end {α:Type} {c:PS→Bool} {b:α→PS→α×PS} {a:α} {s:PS} (h:¬(s.e=0∧c s=true)):lpS c b a s=(a,s):=loopS_end h
def evB (x:List BS×EvD) (s:PS):(List BS×EvD)×PS:=
 let may:=isS s kP||isS s kFail||isS s kRepair||isS s kCost
 if may&&x.1.contains (hdT s) then(x,failS 6 s) else
 let r:=takeS may s
 if r.1==kP then((r.1::x.1,{x.2 with p:=(numS r.2).1}),(numS r.2).2)
 else if r.1==kFail then((r.1::x.1,{x.2 with fail:=(numS r.2).1}),(numS r.2).2)
 else if r.1==kRepair then((r.1::x.1,{x.2 with rep:=(numS r.2).1}),(numS r.2).2)
 else if r.1==kCost then((r.1::x.1,{x.2 with cost:=(wholeS r.2).1}),(wholeS r.2).2)
 else((r.1::x.1,x.2),r.2)
def eventS (s:PS):EvD×PS:=let r:=wordS s
 let q:=lpS (fun s=> !isS s kSemi) evB ([],{ev0 with name:=r.1}) r.2
 (q.1.2,expS kSemi q.2)
def houseS (s:PS):HsD×PS:=let r:=wordS s
 let q:=takeS (isS r.2 kOn||isS r.2 kOff) r.2
 (⟨r.1,q.1==kOn⟩,expS kSemi q.2)
def gkind (w:BS):Option Int:=if w==kAnd then some 0 else if w==kOr then some 1 else if w==kVote then some 2 else if w==kNot then some 3 else if w==kXor then some 4
 else if w==kInhibit then some 5 else if w==kPand then some 6 else if w==kSpare then some 7 else if w==kDepend then some 8 else none
def inB (x:List BS) (s:PS):List BS×PS:=(x++[(inputS s).1],(inputS s).2)
def gateS (s:PS):GtD×PS:=let r:=wordS s
 let k:=if kindS r.2 0 then gkind (hdT r.2) else none
 let s2:=(takeS k.isSome r.2).2
 let v:=if k=some 2 then wholeS s2 else(0,s2)
 let d:=if k=some 7 then numS v.2 else(rd0,v.2)
 let q:=lpS (fun s=> !isS s kSemi) inB [] d.2
 (⟨r.1,k.getD 0,v.1,q.1,d.1⟩,expS kSemi q.2)
def pgB (x:List GtD) (s:PS):List GtD×PS:=(x++[(gateS (expS kGate s)).1],(gateS (expS kGate s)).2)
def pageS (s:PS):PgD×PS:=let r:=wordS s
 let t:=inputS (expS kTop r.2)
 let q:=lpS (fun s=> !isS s kClose) pgB [] (expS kOpen t.2)
 (⟨r.1,t.1,q.1⟩,expS kClose q.2)
def facB (x:List RD) (s:PS):List RD×PS:=(x++[(numS s).1],(numS s).2)
def memB (x:List BS) (s:PS):List BS×PS:=(x++[(wordS s).1],(wordS s).2)
def groupS (s:PS):GrD×PS:=let r:=wordS s
 let g:=takeS (isS r.2 kBeta||isS r.2 kGreek) r.2
 let f:=lpS (fun s=>kindS s 1) facB [] g.2
 let m:=lpS (fun s=>kindS s 0) memB [] (expS kColon f.2)
 (⟨r.1,if g.1==kGreek then 1 else 0,m.1,f.1⟩,expS kSemi m.2)
def vlB (x:List VlD) (s:PS):List VlD×PS:=let r:=wordS s
 (x++[⟨r.1,(numS r.2).1⟩],expS kSemi (numS r.2).2)
def phaseS (s:PS):PhD×PS:=let r:=wordS s
 let t:=inputS (expS kTop r.2)
 let q:=lpS (fun s=> !isS s kClose) vlB [] (expS kOpen t.2)
 (⟨r.1,t.1,q.1⟩,expS kClose q.2)
def stB (m:MdD) (s:PS):MdD×PS:=
 let r:=takeS (isS s kEvent||isS s kHouse||isS s kGate||isS s kPage||isS s kGroup||isS s kPhase) s
 if r.1==kEvent then({m with events:=m.events++[(eventS r.2).1]},(eventS r.2).2)
 else if r.1==kHouse then({m with houses:=m.houses++[(houseS r.2).1]},(houseS r.2).2)
 else if r.1==kGate then({m with gates:=m.gates++[(gateS r.2).1]},(gateS r.2).2)
 else if r.1==kPage then({m with pages:=m.pages++[(pageS r.2).1]},(pageS r.2).2)
 else if r.1==kGroup then({m with groups:=m.groups++[(groupS r.2).1]},(groupS r.2).2)
 else if r.1==kPhase then({m with phases:=m.phases++[(phaseS r.2).1]},(phaseS r.2).2)
 else(m,r.2)
def endS (s:PS):PS:=if s.e=0∧s.l≠[] then⟨s.l,2⟩ else s
def readS (s:PS):MdD×PS:=let r:=wordS (expS kModel s)
 let q:=lpS (fun s=> !isS s kTop) stB {md0 with name:=r.1} (expS kSemi r.2)
 let t:=inputS (expS kTop q.2)
 ({q.1 with top:=t.1},endS (expS kSemi t.2))
end Go.PN
namespace Go.AI
open Go.PN
structure TX where
 t:TK
 a:Int
 b:Int
 c:Int
abbrev tx0:TX:=⟨⟨0,[]⟩,0,0,0⟩
abbrev stc (r:BS):List CV:=[CV.str (sB r)]
def strsF (l:List BS):Nat→CV:=lf 1 stc ([]:BS) l
@[go_sem] theorem strsF_0 (l:List BS) (i:Nat):strsF l (i)=.str (sB (l.getD i [])):=by have:=lf_at (s:=1) (c:=stc) (d:=([]:BS)) (xs:=l) (i:=i) (k:=0) om;rw [Nat.mul_one,Nat.add_zero] at this;exact this
abbrev strs (t:Bool) (l:List BS):CV:=.row t 1 l.length (strsF l)
theorem strsF_solid (l:List BS) (j:Nat):(strsF l j).solid=true:=by
 obtain⟨i,k,hk,rfl⟩:∃i k,k<1∧j=i*1+k:=⟨j/1,j%1,Nat.mod_lt _ om,by omega⟩
 unfold strsF
 rw [lf_at hk]
 match k,hk with
 |0,_=>rfl
abbrev evc (r:EvD):List CV:=[CV.str (sB r.name),.bool r.p.neg,ws true r.p.num,ws true r.p.den,.bool r.fail.neg,ws true r.fail.num,ws true r.fail.den,.bool r.rep.neg,ws true r.rep.num,ws true r.rep.den,.int .i64 r.cost]
def evsF (l:List EvD):Nat→CV:=lf 11 evc (ev0:EvD) l
@[go_sem] theorem evsF_0 (l:List EvD) (i:Nat):evsF l (i*11)=.str (sB (l.getD i ev0).name):=by have:=lf_at (s:=11) (c:=evc) (d:=(ev0:EvD)) (xs:=l) (i:=i) (k:=0) om;exact this
@[go_sem] theorem evsF_1 (l:List EvD) (i:Nat):evsF l (i*11+1)=.bool (l.getD i ev0).p.neg:=by have:=lf_at (s:=11) (c:=evc) (d:=(ev0:EvD)) (xs:=l) (i:=i) (k:=1) om;exact this
@[go_sem] theorem evsF_2 (l:List EvD) (i:Nat):evsF l (i*11+2)=ws true (l.getD i ev0).p.num:=by have:=lf_at (s:=11) (c:=evc) (d:=(ev0:EvD)) (xs:=l) (i:=i) (k:=2) om;exact this
@[go_sem] theorem evsF_3 (l:List EvD) (i:Nat):evsF l (i*11+3)=ws true (l.getD i ev0).p.den:=by have:=lf_at (s:=11) (c:=evc) (d:=(ev0:EvD)) (xs:=l) (i:=i) (k:=3) om;exact this
@[go_sem] theorem evsF_4 (l:List EvD) (i:Nat):evsF l (i*11+4)=.bool (l.getD i ev0).fail.neg:=by have:=lf_at (s:=11) (c:=evc) (d:=(ev0:EvD)) (xs:=l) (i:=i) (k:=4) om;exact this
@[go_sem] theorem evsF_5 (l:List EvD) (i:Nat):evsF l (i*11+5)=ws true (l.getD i ev0).fail.num:=by have:=lf_at (s:=11) (c:=evc) (d:=(ev0:EvD)) (xs:=l) (i:=i) (k:=5) om;exact this
@[go_sem] theorem evsF_6 (l:List EvD) (i:Nat):evsF l (i*11+6)=ws true (l.getD i ev0).fail.den:=by have:=lf_at (s:=11) (c:=evc) (d:=(ev0:EvD)) (xs:=l) (i:=i) (k:=6) om;exact this
@[go_sem] theorem evsF_7 (l:List EvD) (i:Nat):evsF l (i*11+7)=.bool (l.getD i ev0).rep.neg:=by have:=lf_at (s:=11) (c:=evc) (d:=(ev0:EvD)) (xs:=l) (i:=i) (k:=7) om;exact this
@[go_sem] theorem evsF_8 (l:List EvD) (i:Nat):evsF l (i*11+8)=ws true (l.getD i ev0).rep.num:=by have:=lf_at (s:=11) (c:=evc) (d:=(ev0:EvD)) (xs:=l) (i:=i) (k:=8) om;exact this
@[go_sem] theorem evsF_9 (l:List EvD) (i:Nat):evsF l (i*11+9)=ws true (l.getD i ev0).rep.den:=by have:=lf_at (s:=11) (c:=evc) (d:=(ev0:EvD)) (xs:=l) (i:=i) (k:=9) om;exact this
@[go_sem] theorem evsF_10 (l:List EvD) (i:Nat):evsF l (i*11+10)=.int .i64 (l.getD i ev0).cost:=by have:=lf_at (s:=11) (c:=evc) (d:=(ev0:EvD)) (xs:=l) (i:=i) (k:=10) om;exact this
abbrev evs (t:Bool) (l:List EvD):CV:=.row t 11 l.length (evsF l)
theorem evsF_solid (l:List EvD) (j:Nat):(evsF l j).solid=true:=by
 obtain⟨i,k,hk,rfl⟩:∃i k,k<11∧j=i*11+k:=⟨j/11,j%11,Nat.mod_lt _ om,by omega⟩
 unfold evsF
 rw [lf_at hk]
 match k,hk with
 |0,_=>rfl
 |1,_=>rfl
 |2,_=>rfl
 |3,_=>rfl
 |4,_=>rfl
 |5,_=>rfl
 |6,_=>rfl
 |7,_=>rfl
 |8,_=>rfl
 |9,_=>rfl
 |10,_=>rfl
abbrev hsc (r:HsD):List CV:=[CV.str (sB r.name),.bool r.on]
def hssF (l:List HsD):Nat→CV:=lf 2 hsc (hs0:HsD) l
@[go_sem] theorem hssF_0 (l:List HsD) (i:Nat):hssF l (i*2)=.str (sB (l.getD i hs0).name):=by have:=lf_at (s:=2) (c:=hsc) (d:=(hs0:HsD)) (xs:=l) (i:=i) (k:=0) om;exact this
@[go_sem] theorem hssF_1 (l:List HsD) (i:Nat):hssF l (i*2+1)=.bool (l.getD i hs0).on:=by have:=lf_at (s:=2) (c:=hsc) (d:=(hs0:HsD)) (xs:=l) (i:=i) (k:=1) om;exact this
abbrev hss (t:Bool) (l:List HsD):CV:=.row t 2 l.length (hssF l)
theorem hssF_solid (l:List HsD) (j:Nat):(hssF l j).solid=true:=by
 obtain⟨i,k,hk,rfl⟩:∃i k,k<2∧j=i*2+k:=⟨j/2,j%2,Nat.mod_lt _ om,by omega⟩
 unfold hssF
 rw [lf_at hk]
 match k,hk with
 |0,_=>rfl
 |1,_=>rfl
abbrev gtc (r:GtD):List CV:=[CV.str (sB r.name),.int .i64 r.kind,.int .i64 r.k,strs true r.inputs,.bool r.dorm.neg,ws true r.dorm.num,ws true r.dorm.den]
def gtsF (l:List GtD):Nat→CV:=lf 7 gtc (gt0:GtD) l
@[go_sem] theorem gtsF_0 (l:List GtD) (i:Nat):gtsF l (i*7)=.str (sB (l.getD i gt0).name):=by have:=lf_at (s:=7) (c:=gtc) (d:=(gt0:GtD)) (xs:=l) (i:=i) (k:=0) om;exact this
@[go_sem] theorem gtsF_1 (l:List GtD) (i:Nat):gtsF l (i*7+1)=.int .i64 (l.getD i gt0).kind:=by have:=lf_at (s:=7) (c:=gtc) (d:=(gt0:GtD)) (xs:=l) (i:=i) (k:=1) om;exact this
@[go_sem] theorem gtsF_2 (l:List GtD) (i:Nat):gtsF l (i*7+2)=.int .i64 (l.getD i gt0).k:=by have:=lf_at (s:=7) (c:=gtc) (d:=(gt0:GtD)) (xs:=l) (i:=i) (k:=2) om;exact this
@[go_sem] theorem gtsF_3 (l:List GtD) (i:Nat):gtsF l (i*7+3)=strs true (l.getD i gt0).inputs:=by have:=lf_at (s:=7) (c:=gtc) (d:=(gt0:GtD)) (xs:=l) (i:=i) (k:=3) om;exact this
@[go_sem] theorem gtsF_4 (l:List GtD) (i:Nat):gtsF l (i*7+4)=.bool (l.getD i gt0).dorm.neg:=by have:=lf_at (s:=7) (c:=gtc) (d:=(gt0:GtD)) (xs:=l) (i:=i) (k:=4) om;exact this
@[go_sem] theorem gtsF_5 (l:List GtD) (i:Nat):gtsF l (i*7+5)=ws true (l.getD i gt0).dorm.num:=by have:=lf_at (s:=7) (c:=gtc) (d:=(gt0:GtD)) (xs:=l) (i:=i) (k:=5) om;exact this
@[go_sem] theorem gtsF_6 (l:List GtD) (i:Nat):gtsF l (i*7+6)=ws true (l.getD i gt0).dorm.den:=by have:=lf_at (s:=7) (c:=gtc) (d:=(gt0:GtD)) (xs:=l) (i:=i) (k:=6) om;exact this
abbrev gts (t:Bool) (l:List GtD):CV:=.row t 7 l.length (gtsF l)
abbrev pgc (r:PgD):List CV:=[CV.str (sB r.name),.str (sB r.top),gts true r.gates]
def pgsF (l:List PgD):Nat→CV:=lf 3 pgc (pg0:PgD) l
@[go_sem] theorem pgsF_0 (l:List PgD) (i:Nat):pgsF l (i*3)=.str (sB (l.getD i pg0).name):=by have:=lf_at (s:=3) (c:=pgc) (d:=(pg0:PgD)) (xs:=l) (i:=i) (k:=0) om;exact this
@[go_sem] theorem pgsF_1 (l:List PgD) (i:Nat):pgsF l (i*3+1)=.str (sB (l.getD i pg0).top):=by have:=lf_at (s:=3) (c:=pgc) (d:=(pg0:PgD)) (xs:=l) (i:=i) (k:=1) om;exact this
@[go_sem] theorem pgsF_2 (l:List PgD) (i:Nat):pgsF l (i*3+2)=gts true (l.getD i pg0).gates:=by have:=lf_at (s:=3) (c:=pgc) (d:=(pg0:PgD)) (xs:=l) (i:=i) (k:=2) om;exact this
abbrev pgs (t:Bool) (l:List PgD):CV:=.row t 3 l.length (pgsF l)
abbrev grc (r:GrD):List CV:=[CV.str (sB r.name),.int .i64 r.kind,strs true r.members,rats true r.factors]
def grsF (l:List GrD):Nat→CV:=lf 4 grc (gr0:GrD) l
@[go_sem] theorem grsF_0 (l:List GrD) (i:Nat):grsF l (i*4)=.str (sB (l.getD i gr0).name):=by have:=lf_at (s:=4) (c:=grc) (d:=(gr0:GrD)) (xs:=l) (i:=i) (k:=0) om;exact this
@[go_sem] theorem grsF_1 (l:List GrD) (i:Nat):grsF l (i*4+1)=.int .i64 (l.getD i gr0).kind:=by have:=lf_at (s:=4) (c:=grc) (d:=(gr0:GrD)) (xs:=l) (i:=i) (k:=1) om;exact this
@[go_sem] theorem grsF_2 (l:List GrD) (i:Nat):grsF l (i*4+2)=strs true (l.getD i gr0).members:=by have:=lf_at (s:=4) (c:=grc) (d:=(gr0:GrD)) (xs:=l) (i:=i) (k:=2) om;exact this
@[go_sem] theorem grsF_3 (l:List GrD) (i:Nat):grsF l (i*4+3)=rats true (l.getD i gr0).factors:=by have:=lf_at (s:=4) (c:=grc) (d:=(gr0:GrD)) (xs:=l) (i:=i) (k:=3) om;exact this
abbrev grs (t:Bool) (l:List GrD):CV:=.row t 4 l.length (grsF l)
abbrev vlc (r:VlD):List CV:=[CV.str (sB r.event),.bool r.p.neg,ws true r.p.num,ws true r.p.den]
def vlsF (l:List VlD):Nat→CV:=lf 4 vlc (vl0:VlD) l
@[go_sem] theorem vlsF_0 (l:List VlD) (i:Nat):vlsF l (i*4)=.str (sB (l.getD i vl0).event):=by have:=lf_at (s:=4) (c:=vlc) (d:=(vl0:VlD)) (xs:=l) (i:=i) (k:=0) om;exact this
@[go_sem] theorem vlsF_1 (l:List VlD) (i:Nat):vlsF l (i*4+1)=.bool (l.getD i vl0).p.neg:=by have:=lf_at (s:=4) (c:=vlc) (d:=(vl0:VlD)) (xs:=l) (i:=i) (k:=1) om;exact this
@[go_sem] theorem vlsF_2 (l:List VlD) (i:Nat):vlsF l (i*4+2)=ws true (l.getD i vl0).p.num:=by have:=lf_at (s:=4) (c:=vlc) (d:=(vl0:VlD)) (xs:=l) (i:=i) (k:=2) om;exact this
@[go_sem] theorem vlsF_3 (l:List VlD) (i:Nat):vlsF l (i*4+3)=ws true (l.getD i vl0).p.den:=by have:=lf_at (s:=4) (c:=vlc) (d:=(vl0:VlD)) (xs:=l) (i:=i) (k:=3) om;exact this
abbrev vls (t:Bool) (l:List VlD):CV:=.row t 4 l.length (vlsF l)
abbrev phc (r:PhD):List CV:=[CV.str (sB r.name),.str (sB r.top),vls true r.values]
def phsF (l:List PhD):Nat→CV:=lf 3 phc (ph0:PhD) l
@[go_sem] theorem phsF_0 (l:List PhD) (i:Nat):phsF l (i*3)=.str (sB (l.getD i ph0).name):=by have:=lf_at (s:=3) (c:=phc) (d:=(ph0:PhD)) (xs:=l) (i:=i) (k:=0) om;exact this
@[go_sem] theorem phsF_1 (l:List PhD) (i:Nat):phsF l (i*3+1)=.str (sB (l.getD i ph0).top):=by have:=lf_at (s:=3) (c:=phc) (d:=(ph0:PhD)) (xs:=l) (i:=i) (k:=1) om;exact this
@[go_sem] theorem phsF_2 (l:List PhD) (i:Nat):phsF l (i*3+2)=vls true (l.getD i ph0).values:=by have:=lf_at (s:=3) (c:=phc) (d:=(ph0:PhD)) (xs:=l) (i:=i) (k:=2) om;exact this
abbrev phs (t:Bool) (l:List PhD):CV:=.row t 3 l.length (phsF l)
abbrev txc (r:TX):List CV:=[CV.int .i64 r.t.kind,.str (sB r.t.text),.int .i64 r.a,.int .i64 r.b,.int .i64 r.c]
def txsF (l:List TX):Nat→CV:=lf 5 txc (tx0:TX) l
@[go_sem] theorem txsF_0 (l:List TX) (i:Nat):txsF l (i*5)=.int .i64 (l.getD i tx0).t.kind:=by have:=lf_at (s:=5) (c:=txc) (d:=(tx0:TX)) (xs:=l) (i:=i) (k:=0) om;exact this
@[go_sem] theorem txsF_1 (l:List TX) (i:Nat):txsF l (i*5+1)=.str (sB (l.getD i tx0).t.text):=by have:=lf_at (s:=5) (c:=txc) (d:=(tx0:TX)) (xs:=l) (i:=i) (k:=1) om;exact this
@[go_sem] theorem txsF_2 (l:List TX) (i:Nat):txsF l (i*5+2)=.int .i64 (l.getD i tx0).a:=by have:=lf_at (s:=5) (c:=txc) (d:=(tx0:TX)) (xs:=l) (i:=i) (k:=2) om;exact this
@[go_sem] theorem txsF_3 (l:List TX) (i:Nat):txsF l (i*5+3)=.int .i64 (l.getD i tx0).b:=by have:=lf_at (s:=5) (c:=txc) (d:=(tx0:TX)) (xs:=l) (i:=i) (k:=3) om;exact this
@[go_sem] theorem txsF_4 (l:List TX) (i:Nat):txsF l (i*5+4)=.int .i64 (l.getD i tx0).c:=by have:=lf_at (s:=5) (c:=txc) (d:=(tx0:TX)) (xs:=l) (i:=i) (k:=4) om;exact this
abbrev mdc (t:Bool) (m:MdD):List CV:=[.str (sB m.name),.str (sB m.top),evs t m.events,hss t m.houses,gts t m.gates,pgs t m.pages,grs t m.groups,phs t m.phases]
end Go.AI
namespace Go.PN
structure Perm0 (o:List Int):Prop where
 range:∀x∈o,0≤x∧x<o.length
 nodup:o.Nodup
theorem nodup_le:∀{l m:List Int},l.Nodup→(∀x∈l,x∈m)→l.length≤m.length
 |[],m,_,_=>by simp
 |a::l,m,hn,hs=>by
  simp only [List.nodup_cons] at hn
  have ha:=hs a (by simp)
  have:=nodup_le (l:=l) (m:=m.erase a) hn.2 fun x hx=>(List.mem_erase_of_ne (fun e=>hn.1 (by rw [←e];exact hx))).2 (hs x (by simp [hx]))
  rw [List.length_erase_of_mem ha] at this
  have:0<m.length:=List.length_pos_of_mem ha
  simp only [List.length_cons]
  omega
theorem Perm0.all {o:List Int} (h:Perm0 o) {j:Nat} (hj:j<o.length):(j:Int)∈o:=by
 by_cases hm:(j:Int)∈o
 ·exact hm
 ·exfalso
  have:=nodup_le (l:=(j:Int)::o) (m:=(List.range o.length).map (fun k:Nat=>(k:Int))) (by simp only [List.nodup_cons];exact⟨hm,h.nodup⟩) (fun x hx=>by
   rw [List.mem_map]
   rcases List.mem_cons.1 hx with rfl|hx
   ·exact⟨j,by simpa using hj,rfl⟩
   ·obtain⟨h1,h2⟩:=h.range x hx
    exact⟨x.toNat,by simp;omega,by omega⟩)
  simp at this
  omega
end Go.PN
namespace Go.AI
theorem updF_ofL {xs bs:List CV} (h:xs.length=bs.length):updF (ofL xs) 0 bs=ofL bs:=by
 funext j
 by_cases hj:j<bs.length
 ·have:=updF_in bs (ofL xs) 0 j hj
  rw [Nat.zero_add] at this
  exact this
 ·rw [updF_out _ _ _ _ om,ofL_at,ofL_at,List.getElem?_eq_none om,List.getElem?_eq_none om]
@[go_sem ↓] theorem updF_1 (a b:CV):updF (ofL [a]) 0 [b]=ofL [b]:=updF_ofL rfl
@[go_sem ↓] theorem updF_2 (a b c d:CV):updF (ofL [a,b]) 0 [c,d]=ofL [c,d]:=updF_ofL rfl
@[go_sem ↓] theorem updF_3 (a b c x y z:CV):updF (ofL [a,b,c]) 0 [x,y,z]=ofL [x,y,z]:=updF_ofL rfl
end Go.AI
namespace Go.AI
open Go.PN
theorem rats_push {vs:List RD} {n:Nat} (hn:vs.length=n) (v:RD):∀j,j<(n+1)*3→appF (ratsF vs) (n*3) (ofL [.bool v.neg,ws true v.num,ws true v.den]) j=ratsF (vs++[v]) j:=lf_push (c:=fun r:RD=>[CV.bool r.neg,ws true r.num,ws true r.den]) hn v om
end Go.AI
namespace Go.PN
open Go.AI
structure NodeOk (m k:Nat) (n:DN):Prop where
 v0:0≤n.v
 v1:n.v<m
 l0:0≤n.lo
 l1:n.lo<k+2
 h0:0≤n.hi
 h1:n.hi<k+2
end Go.PN

namespace Go.PN
open Go.AI
theorem idxB_no {b:UInt8}:∀{s:BS},(∀j,j<s.length→s.getD j 0≠b)→idxB b s=s.length
 |[],_=>rfl
 |x::s,hn=>by
  have h0:x≠b:=by simpa using hn 0 (by simp)
  have h2:idxB b (x::s)=idxB b s+1:=by unfold idxB;rw [List.takeWhile_cons_of_pos (by simpa using h0)];rfl
  rw [h2,idxB_no (s:=s) fun j hj=>by simpa using hn (j+1) (by simpa using hj)];rfl
theorem byte_ne {s:BS} {j:Nat} {b:UInt8} (h:bAt s j≠b.toNat):s.getD j 0≠b:=fun e=>h (by unfold bAt;rw [e])
inductive NumF (s:BS):Prop where
 |all (h:∀i,i<s.length→isDig (bAt s i)=true)
 |two (e:Nat) (he:e+1<s.length) (hm:bAt s e=46∨bAt s e=47) (h1:∀i,i<e→isDig (bAt s i)=true) (h2:∀i,e<i→i<s.length→isDig (bAt s i)=true)
theorem cutS_drop (s:BS) (e:Nat):cutS s e s.length=s.drop e:=by unfold cutS;exact List.take_of_length_le (by simp)
theorem ix_all {s:BS} (h:∀i,i<s.length→isDig (bAt s i)=true):idxB 47 s=s.length∧idxB 46 s=s.length:=by
 have hd:∀i,i<s.length→48≤bAt s i:=fun i hi=>by have:=h i hi;unfold isDig at this;simp at this;omega
 exact⟨idxB_no fun j hj=>byte_ne (by have:=hd j hj;show bAt s j≠47;omega),idxB_no fun j hj=>byte_ne (by have:=hd j hj;show bAt s j≠46;omega)⟩
end Go.PN
namespace Go.PN
open Go.AI
variable {α β γ δ : Type}
def bnd (f:PS→α×PS) (k:α→PS→β×PS) (s:PS):β×PS:=k (f s).1 (f s).2
structure Rdr (f:PS→α×PS):Prop where
 suf:∀s,(f s).2.l<:+s.l
 stk:∀s,s.e≠0→(f s).2=s
theorem Rdr.bnd {f:PS→α×PS} {k:α→PS→β×PS} (hf:Rdr f) (hk:∀a,Rdr (k a)):Rdr (bnd f k):=
 ⟨fun s=>((hk _).suf _).trans (hf.suf s),fun s h=>by
  have h1:=hf.stk s h
  show(k (f s).1 (f s).2).2=s
  rw [h1]
  exact(hk _).stk s h⟩
theorem rdr_pure (a:α):Rdr fun s=>(a,s):=⟨fun _=>List.suffix_refl _,fun _ _=>rfl⟩
theorem rdr_take (m:PS→Bool):Rdr fun s=>takeS (m s) s:=by
 refine⟨fun s=> ?_,fun s h=> ?_⟩
 ·unfold takeS
  split
  ·split
   ·rename_i h;rw [h];exact List.suffix_refl _
   ·rename_i t l h
    rw [h]
    split
    ·exact List.suffix_cons t l
    ·exact List.suffix_refl _
  ·exact List.suffix_refl _
 ·unfold takeS
  rw [if_neg h]
theorem rdr_fail (c:PS→Int) (a:α):Rdr fun s=>(a,failS (c s) s):=by
 refine⟨fun s=> ?_,fun s h=> ?_⟩
 ·show(failS (c s) s).l<:+s.l
  unfold failS
  split<;>exact List.suffix_refl _
 ·show failS (c s) s=s
  unfold failS
  rw [if_neg h]
theorem rdr_ite {c:PS→Prop} [DecidablePred c] {f g:PS→α×PS} (hf:Rdr f) (hg:Rdr g):Rdr fun s=>if c s then f s else g s:=by
 refine⟨fun s=> ?_,fun s h=> ?_⟩
 ·show(if c s then f s else g s).2.l<:+s.l
  split
  ·exact hf.suf s
  ·exact hg.suf s
 ·show(if c s then f s else g s).2=s
  split
  ·exact hf.stk s h
  ·exact hg.stk s h
theorem rdr_loop {c:PS→Bool} {b:α→PS→α×PS} (hb:∀a,Rdr (b a)):∀(n:Nat) (a:α),Rdr (loopS c b n a):=by
 intro n
 induction n with
 |zero=>exact fun a=>rdr_pure a
 |succ n ih=>
  intro a
  refine⟨fun s=> ?_,fun s h=> ?_⟩
  ·unfold loopS
   split
   ·exact((ih _).suf _).trans ((hb a).suf s)
   ·exact List.suffix_refl _
  ·unfold loopS
   rw [if_neg (fun x=>h x.1)]
theorem rdr_lp {c:PS→Bool} {b:α→PS→α×PS} (hb:∀a,Rdr (b a)) (a:α):Rdr (lpS c b a):=
 ⟨fun s=>(rdr_loop hb _ a).suf s,fun s h=>(rdr_loop hb _ a).stk s h⟩
theorem rdr_word:Rdr wordS:=rdr_take _
theorem rdr_exp (w:BS):Rdr fun s=>((),expS w s):=⟨fun s=>(rdr_take fun s=>isS s w).suf s,fun s h=>(rdr_take fun s=>isS s w).stk s h⟩
theorem rdr_num:Rdr numS:=by
 have h:=rdr_take fun s=>kindS s 1
 refine⟨fun s=> ?_,fun s h0=> ?_⟩
 ·have h1:=h.suf s
  unfold numS
  dsimp only
  split
  ·split
   ·exact h1
   ·exact h1
  ·exact h1
 ·have h1:=h.stk s h0
  unfold numS
  dsimp only at h1⊢
  rw [h1,if_neg h0]
theorem rdr_whole:Rdr wholeS:=by
 refine⟨fun s=> ?_,fun s h0=> ?_⟩
 ·have h1:=rdr_num.suf s
  unfold wholeS
  dsimp only
  split
  ·split
   ·split
    ·exact h1
    ·exact h1
   ·exact h1
  ·exact h1
 ·have h1:=rdr_num.stk s h0
  unfold wholeS
  dsimp only
  rw [h1,if_neg h0]
theorem rdr_input:Rdr inputS:=rdr_ite (c:=fun s=>isS s kAt=true) (Rdr.bnd (rdr_exp kAt) fun _=>Rdr.bnd rdr_word fun t=>rdr_pure (64::t)) rdr_word
def TksOk (l:List TK):Prop:=∀t∈l,TkOk t
theorem TksOk.suf {l r:List TK} (h:TksOk l) (hs:r<:+l):TksOk r:=fun t ht=>h t (hs.subset ht)
def Agr (R:α→β→Prop) (f:PS→α×PS) (g:PS→β×PS):Prop:=
 ∀s,TksOk s.l→s.e=0→(f s).2.e=(g s).2.e∧((f s).2.e=0→(f s).2=(g s).2∧R (f s).1 (g s).1)
theorem Agr.bnd {R:α→β→Prop} {T:γ→δ→Prop} {f:PS→α×PS} {g:PS→β×PS} {k:α→PS→γ×PS} {k':β→PS→δ×PS} (h:Agr R f g) (hf:Rdr f) (hk:∀a b,R a b→Agr T (k a) (k' b)) (r:∀a,Rdr (k a)) (r':∀b,Rdr (k' b)):Agr T (PN.bnd f k) (PN.bnd g k'):=by
 intro s ok e0
 obtain⟨h1,h2⟩:=h s ok e0
 show((k (f s).1 (f s).2).2.e=(k' (g s).1 (g s).2).2.e)∧_
 by_cases e1:(f s).2.e=0
 ·obtain⟨h3,h4⟩:=h2 e1
  have:=hk _ _ h4 (f s).2 (ok.suf (hf.suf s)) e1
  unfold PN.bnd
  rw [←h3]
  exact this
 ·have e3:=(r (f s).1).stk _ e1
  have e4:=(r' (g s).1).stk _ (by rw [←h1];exact e1)
  rw [e3,e4]
  exact⟨h1,fun x=>absurd (show(k (f s).1 (f s).2).2.e=0 from x) (by rw [e3];exact e1)⟩
theorem Agr.pure {R:α→β→Prop} {a:α} {b:β} (h:R a b):Agr R (fun s=>(a,s)) (fun s=>(b,s)):=fun _ _ _=>⟨rfl,fun _=>⟨rfl,h⟩⟩
theorem Agr.loop {R:α→β→Prop} {T:γ→δ→Prop} {c c':PS→Bool} {b:α→PS→α×PS} {b':β→PS→β×PS} {k:α→PS→γ×PS} {k':β→PS→δ×PS}
  (rb:∀a,Rdr (b a)) (rk:∀a,Rdr (k a)) (rk':∀a,Rdr (k' a)) (hd:∀a s,s.e=0→c s=true→mS (b a s).2<mS s) (hd':∀a s,s.e=0→c' s=true→mS (b' a s).2<mS s)
  (h11:∀a a' s,R a a'→TksOk s.l→s.e=0→c s=true→c' s=true→(b a s).2.e=(b' a' s).2.e∧((b a s).2.e=0→(b a s).2=(b' a' s).2∧R (b a s).1 (b' a' s).1))
  (h10:∀(a:α) (a':β) s,TksOk s.l→s.e=0→c s=true→c' s=false→False)
  (h01:∀(a:α) (a':β) s,TksOk s.l→s.e=0→c s=false→c' s=true→(k a s).2.e≠0∧(b' a' s).2.e=(k a s).2.e)
  (h00:∀a a' s,R a a'→TksOk s.l→s.e=0→c s=false→c' s=false→(k a s).2.e=(k' a' s).2.e∧((k a s).2.e=0→(k a s).2=(k' a' s).2∧T (k a s).1 (k' a' s).1)):
  ∀a a',R a a'→Agr T (PN.bnd (lpS c b a) k) (PN.bnd (lpS c' b' a') k'):=by
 intro a a' hR s
 generalize hn:mS s=n
 induction n using Nat.strongRecOn generalizing a a' s with
 |_ n ih=>
  intro ok e0
  cases hc:c s with
  |true=>
   cases hc':c' s with
   |false=>exact(h10 a a' s ok e0 hc hc').elim
   |true=>
    obtain⟨h1,h2⟩:=h11 a a' s hR ok e0 hc hc'
    have l1:=hd a s e0 hc
    have l2:=hd' a' s e0 hc'
    have s1:PN.bnd (lpS c b a) k s=PN.bnd (lpS c b (b a s).1) k (b a s).2:=by unfold PN.bnd;rw [lpS_step hd e0 hc]
    have s2:PN.bnd (lpS c' b' a') k' s=PN.bnd (lpS c' b' (b' a' s).1) k' (b' a' s).2:=by unfold PN.bnd;rw [lpS_step hd' e0 hc']
    rw [s1,s2]
    by_cases e1:(b a s).2.e=0
    ·obtain⟨h3,h4⟩:=h2 e1
     rw [←h3]
     exact ih _ om _ _ h4 _ rfl (ok.suf ((rb a).suf s)) e1
    ·have q1:PN.bnd (lpS c b (b a s).1) k (b a s).2=k (b a s).1 (b a s).2:=by unfold PN.bnd;rw [lpS_end (fun x=>e1 x.1)]
     have q2:PN.bnd (lpS c' b' (b' a' s).1) k' (b' a' s).2=k' (b' a' s).1 (b' a' s).2:=by unfold PN.bnd;rw [lpS_end (fun x=>e1 (h1.trans x.1))]
     rw [q1,q2,(rk _).stk _ e1,(rk' _).stk _ (by rw [←h1];exact e1)]
     exact⟨h1,fun x=>absurd x e1⟩
  |false=>
   have q1:PN.bnd (lpS c b a) k s=k a s:=by unfold PN.bnd;rw [lpS_end (fun x=>by rw [hc] at x;exact absurd x.2 (by decide))]
   rw [q1]
   cases hc':c' s with
   |false=>
    have q2:PN.bnd (lpS c' b' a') k' s=k' a' s:=by unfold PN.bnd;rw [lpS_end (fun x=>by rw [hc'] at x;exact absurd x.2 (by decide))]
    rw [q2]
    exact h00 a a' s hR ok e0 hc hc'
   |true=>
    obtain⟨h1,h2⟩:=h01 a a' s ok e0 hc hc'
    have s2:PN.bnd (lpS c' b' a') k' s=k' (b' a' s).1 (b' a' s).2:=by
     unfold PN.bnd
     rw [lpS_step hd' e0 hc',lpS_end (fun x=>h1 (h2.symm.trans x.1))]
    rw [s2,(rk' _).stk _ (by rw [h2];exact h1)]
    exact⟨h2.symm,fun x=>absurd x h1⟩
def Con (f:PS→α×PS):Prop:=∀s,s.e=0→mS (f s).2<mS s
theorem con_take (m:PS→Bool):Con fun s=>takeS (m s) s:=by
 intro s h
 dsimp only
 unfold takeS mS
 rw [if_pos h,if_pos h]
 split
 ·simp
 ·rename_i t l hl
  rw [hl]
  split
  ·simp
  ·simp
theorem mS_suf {s r:PS} (h:s.e=0) (hs:r.l<:+s.l):mS r≤mS s:=by
 unfold mS
 rw [if_pos h]
 split
 ·have:=hs.length_le;omega
 ·omega
theorem rdr_mS {f:PS→α×PS} (hf:Rdr f) (s:PS):mS (f s).2≤mS s:=by
 by_cases h:s.e=0
 ·exact mS_suf h (hf.suf s)
 ·rw [hf.stk s h];exact Nat.le_refl _
theorem Con.bnd {f:PS→α×PS} {k:α→PS→β×PS} (hf:Con f) (hk:∀a,Rdr (k a)):Con (bnd f k):=fun s h=>Nat.lt_of_le_of_lt (rdr_mS (hk _) _) (hf s h)
theorem Con.ite {c:PS→Prop} [DecidablePred c] {f g:PS→α×PS} (hf:Con f) (hg:Con g):Con fun s=>if c s then f s else g s:=fun s h=>by
 show mS (if c s then f s else g s).2<mS s
 split
 ·exact hf s h
 ·exact hg s h
theorem con_word:Con wordS:=con_take _
theorem con_exp (w:BS):Con fun s=>((),expS w s):=fun s h=>con_take (fun s=>isS s w) s h
theorem con_num:Con numS:=by
 intro s h
 have h1:=con_take (fun s=>kindS s 1) s h
 dsimp only at h1
 unfold numS
 dsimp only
 split
 ·split
  ·exact h1
  ·rename_i h2
   unfold mS at h1⊢
   rw [if_neg h2]
   rw [if_pos h]
   omega
 ·exact h1
theorem con_input:Con inputS:=Con.ite (c:=fun s=>isS s kAt=true) (Con.bnd (con_exp kAt) fun _=>Rdr.bnd rdr_word fun t=>rdr_pure (64::t)) con_word
end Go.PN
namespace Go.PN
open Go.AI
variable {α β γ δ : Type}
theorem rdr_inB (x:List BS):Rdr (inB x):=Rdr.bnd rdr_input fun t=>rdr_pure (x++[t])
theorem con_inB (x:List BS):Con (inB x):=Con.bnd con_input fun t=>rdr_pure (x++[t])
def insS (s:PS):List BS×PS:=let q:=lpS (fun s=> !isS s kSemi) inB [] s
 (q.1,expS kSemi q.2)
theorem rdr_ins:Rdr insS:=Rdr.bnd (rdr_lp rdr_inB []) fun q=>Rdr.bnd (rdr_exp kSemi) fun _=>rdr_pure q
def kdS (s:PS):Option Int:=if kindS s 0 then gkind (hdT s) else none
def gkS (s:PS):Option Int×PS:=(kdS s,(takeS (kdS s).isSome s).2)
theorem take_cons {m:Bool} {s:PS} {t:TK} {l:List TK} (e0:s.e=0) (h:s.l=t::l):takeS m s=if m then(t.text,⟨l,0⟩) else([],⟨t::l,2⟩):=by unfold takeS;rw [if_pos e0,h]
theorem rdr_gk:Rdr gkS:=by
 have h:=rdr_take fun s=>(kdS s).isSome
 exact⟨fun s=>h.suf s,fun s h0=>h.stk s h0⟩
def gtK (nm:BS) (k:Option Int):PS→GtD×PS:=PN.bnd (fun s=>if k=some 2 then wholeS s else(0,s)) fun v=>PN.bnd (fun s=>if k=some 7 then numS s else(rd0,s)) fun d=>PN.bnd insS fun q s=>(⟨nm,k.getD 0,v,q,d⟩,s)
theorem rdr_gtK (nm:BS) (k:Option Int):Rdr (gtK nm k):=Rdr.bnd (rdr_ite rdr_whole (rdr_pure 0)) fun _=>Rdr.bnd (rdr_ite rdr_num (rdr_pure rd0)) fun _=>Rdr.bnd rdr_ins fun _=>rdr_pure _
theorem gateS_eq:gateS=PN.bnd wordS fun nm=>PN.bnd gkS fun k=>gtK nm k:=rfl
theorem rdr_gate:Rdr gateS:=by rw [gateS_eq];exact Rdr.bnd rdr_word fun nm=>Rdr.bnd rdr_gk fun k=>rdr_gtK nm k
end Go.PN
namespace Go.PN
open Go.AI
variable {α β γ δ : Type}
structure EvR (x:List BS×EvD) (y:List Bool×EvD):Prop where
 ev:x.2=y.2
 len:y.1.length=4
 p:x.1.contains kP=y.1.getD 0 false
 f:x.1.contains kFail=y.1.getD 1 false
 r:x.1.contains kRepair=y.1.getD 2 false
 c:x.1.contains kCost=y.1.getD 3 false
theorem set4 {l:List Bool} (h:l.length=4) (k j:Nat) (hk:k<4):(l.set k true).getD j false=if k=j then true else l.getD j false:=by
 rw [List.getD_eq_getElem?_getD,List.getElem?_set]
 by_cases e:k=j
 ·subst e;rw [if_pos rfl,if_pos om,if_pos rfl];rfl
 ·rw [if_neg e,if_neg e,List.getD_eq_getElem?_getD]
theorem EvR.cons {x:List BS×EvD} {y:List Bool×EvD} (h:EvR x y) (k:Nat) (w:BS) (hw:(k=0∧w=kP)∨(k=1∧w=kFail)∨(k=2∧w=kRepair)∨(k=3∧w=kCost)) {u v:EvD} (e:u=v):EvR (w::x.1,u) (y.1.set k true,v):=by
 have hp:=h.p
 have hf:=h.f
 have hr:=h.r
 have hc:=h.c
 refine⟨e,by rw [List.length_set];exact h.len,?_,?_,?_,?_⟩
 all_goals
  dsimp only
  rw [List.contains_cons,set4 h.len k _ om]
  rcases hw with ⟨rfl,rfl⟩|⟨rfl,rfl⟩|⟨rfl,rfl⟩|⟨rfl,rfl⟩
  all_goals first|(rw [hp];rfl)|(rw [hf];rfl)|(rw [hr];rfl)|(rw [hc];rfl)|rfl
theorem rdr_evB (x:List BS×EvD):Rdr (evB x):=by
 refine⟨fun s=> ?_,fun s h=> ?_⟩
 ·have ht:=(rdr_take fun s=>isS s kP||isS s kFail||isS s kRepair||isS s kCost).suf s
  unfold evB
  dsimp only at ht⊢
  split
  ·exact(rdr_fail (fun _=>6) x).suf s
  ·repeat' split
   all_goals first|exact(rdr_num.suf _).trans ht|exact(rdr_whole.suf _).trans ht|exact ht
 ·have ht:=(rdr_take fun s=>isS s kP||isS s kFail||isS s kRepair||isS s kCost).stk s h
  have hv:∀m,takeS m s=([],s):=fun m=>by unfold takeS;rw [if_neg h]
  have hz:∀w,isS s w=false:=fun w=>by unfold isS;simp [h]
  unfold evB
  dsimp only
  rw [hz,hz,hz,hz,hv]
  rfl
theorem con_evB (x:List BS×EvD):Con (evB x):=by
 intro s e0
 have ht:=con_take (fun s=>isS s kP||isS s kFail||isS s kRepair||isS s kCost) s e0
 dsimp only at ht
 unfold evB
 dsimp only
 split
 ·show mS (failS 6 s)<mS s
  unfold failS mS
  rw [if_pos e0,if_pos e0];simp
 ·repeat' split
  all_goals first|exact Nat.lt_of_le_of_lt (rdr_mS rdr_num _) ht|exact Nat.lt_of_le_of_lt (rdr_mS rdr_whole _) ht|exact ht
def evK (q:List BS×EvD):PS→EvD×PS:=PN.bnd (fun s=>((),expS kSemi s)) fun _ s=>(q.2,s)
theorem eventS_eq:eventS=PN.bnd wordS fun nm=>PN.bnd (lpS (fun s=> !isS s kSemi) evB ([],{ev0 with name:=nm})) evK:=rfl
theorem rdr_evK (q:List BS×EvD):Rdr (evK q):=Rdr.bnd (rdr_exp kSemi) fun _=>rdr_pure _
theorem rdr_event:Rdr eventS:=by rw [eventS_eq];exact Rdr.bnd rdr_word fun nm=>Rdr.bnd (rdr_lp rdr_evB _) rdr_evK
def hsT (s:PS):Bool×PS:=((takeS (isS s kOn||isS s kOff) s).1==kOn,(takeS (isS s kOn||isS s kOff) s).2)
theorem rdr_hsT:Rdr hsT:=by
 have h:=rdr_take fun s=>isS s kOn||isS s kOff
 exact⟨fun s=>h.suf s,fun s h0=>h.stk s h0⟩
theorem houseS_eq:houseS=PN.bnd wordS fun nm=>PN.bnd hsT fun b=>PN.bnd (fun s=>((),expS kSemi s)) fun _ s=>(⟨nm,b⟩,s):=rfl
theorem rdr_house:Rdr houseS:=by rw [houseS_eq];exact Rdr.bnd rdr_word fun nm=>Rdr.bnd rdr_hsT fun b=>Rdr.bnd (rdr_exp _) fun _=>rdr_pure _
end Go.PN
namespace Go.PN
open Go.AI
variable {α β γ δ : Type}
theorem rdr_pgB (x:List GtD):Rdr (pgB x):=Rdr.bnd (rdr_exp kGate) fun _=>Rdr.bnd rdr_gate fun g=>rdr_pure (x++[g])
theorem con_pgB (x:List GtD):Con (pgB x):=Con.bnd (con_exp kGate) fun _=>Rdr.bnd rdr_gate fun g=>rdr_pure (x++[g])
def pgK (nm t:BS) (q:List GtD):PS→PgD×PS:=PN.bnd (fun s=>((),expS kClose s)) fun _ s=>(⟨nm,t,q⟩,s)
theorem rdr_pgK (nm t:BS) (q:List GtD):Rdr (pgK nm t q):=Rdr.bnd (rdr_exp _) fun _=>rdr_pure _
def topK (k:BS→PS→α×PS):PS→α×PS:=PN.bnd (fun s=>((),expS kTop s)) fun _=>PN.bnd inputS fun t=>PN.bnd (fun s=>((),expS kOpen s)) fun _=>k t
theorem rdr_topK {k:BS→PS→α×PS} (h:∀t,Rdr (k t)):Rdr (topK k):=Rdr.bnd (rdr_exp _) fun _=>Rdr.bnd rdr_input fun t=>Rdr.bnd (rdr_exp _) fun _=>h t
theorem pageS_eq:pageS=PN.bnd wordS fun nm=>topK fun t=>PN.bnd (lpS (fun s=> !isS s kClose) pgB []) (pgK nm t):=rfl
theorem rdr_page:Rdr pageS:=by rw [pageS_eq];exact Rdr.bnd rdr_word fun nm=>rdr_topK fun t=>Rdr.bnd (rdr_lp rdr_pgB _) (rdr_pgK nm t)
theorem vlB_eq (x:List VlD):vlB x=PN.bnd wordS fun w=>PN.bnd numS fun q=>PN.bnd (fun s=>((),expS kSemi s)) fun _ s=>(x++[⟨w,q⟩],s):=rfl
theorem rdr_vlB (x:List VlD):Rdr (vlB x):=by rw [vlB_eq];exact Rdr.bnd rdr_word fun w=>Rdr.bnd rdr_num fun q=>Rdr.bnd (rdr_exp kSemi) fun _=>rdr_pure (x++[⟨w,q⟩])
theorem con_vlB (x:List VlD):Con (vlB x):=by rw [vlB_eq];exact Con.bnd con_word fun w=>Rdr.bnd rdr_num fun q=>Rdr.bnd (rdr_exp kSemi) fun _=>rdr_pure (x++[⟨w,q⟩])
def phK (nm t:BS) (q:List VlD):PS→PhD×PS:=PN.bnd (fun s=>((),expS kClose s)) fun _ s=>(⟨nm,t,q⟩,s)
theorem rdr_phK (nm t:BS) (q:List VlD):Rdr (phK nm t q):=Rdr.bnd (rdr_exp _) fun _=>rdr_pure _
theorem phaseS_eq:phaseS=PN.bnd wordS fun nm=>topK fun t=>PN.bnd (lpS (fun s=> !isS s kClose) vlB []) (phK nm t):=rfl
theorem rdr_phase:Rdr phaseS:=by rw [phaseS_eq];exact Rdr.bnd rdr_word fun nm=>rdr_topK fun t=>Rdr.bnd (rdr_lp rdr_vlB _) (rdr_phK nm t)
end Go.PN
namespace Go.PN
open Go.AI
variable {α β γ δ : Type}
def grT (s:PS):Int×PS:=(if(takeS (isS s kBeta||isS s kGreek) s).1==kGreek then 1 else 0,(takeS (isS s kBeta||isS s kGreek) s).2)
theorem rdr_grT:Rdr grT:=by
 have h:=rdr_take fun s=>isS s kBeta||isS s kGreek
 exact⟨fun s=>h.suf s,fun s h0=>h.stk s h0⟩
theorem rdr_facB (x:List RD):Rdr (facB x):=Rdr.bnd rdr_num fun q=>rdr_pure (x++[q])
theorem con_facB (x:List RD):Con (facB x):=Con.bnd con_num fun q=>rdr_pure (x++[q])
theorem rdr_memB (x:List BS):Rdr (memB x):=Rdr.bnd rdr_word fun q=>rdr_pure (x++[q])
theorem con_memB (x:List BS):Con (memB x):=Con.bnd con_word fun q=>rdr_pure (x++[q])
def grM (nm:BS) (g:Int) (f:List RD):PS→GrD×PS:=PN.bnd (lpS (fun s=>kindS s 0) memB []) fun m=>PN.bnd (fun s=>((),expS kSemi s)) fun _ s=>(⟨nm,g,m,f⟩,s)
theorem rdr_grM (nm:BS) (g:Int) (f:List RD):Rdr (grM nm g f):=Rdr.bnd (rdr_lp rdr_memB _) fun _=>Rdr.bnd (rdr_exp _) fun _=>rdr_pure _
def grF (nm:BS) (g:Int):PS→GrD×PS:=PN.bnd (lpS (fun s=>kindS s 1) facB []) fun f=>PN.bnd (fun s=>((),expS kColon s)) fun _=>grM nm g f
theorem rdr_grF (nm:BS) (g:Int):Rdr (grF nm g):=Rdr.bnd (rdr_lp rdr_facB _) fun f=>Rdr.bnd (rdr_exp _) fun _=>rdr_grM nm g f
theorem groupS_eq:groupS=PN.bnd wordS fun nm=>PN.bnd grT fun g=>grF nm g:=rfl
theorem rdr_group:Rdr groupS:=by rw [groupS_eq];exact Rdr.bnd rdr_word fun nm=>Rdr.bnd rdr_grT fun g=>rdr_grF nm g
def stW (m:MdD) (w:BS):PS→MdD×PS:=
 if w==kEvent then PN.bnd eventS fun x s=>({m with events:=m.events++[x]},s)
 else if w==kHouse then PN.bnd houseS fun x s=>({m with houses:=m.houses++[x]},s)
 else if w==kGate then PN.bnd gateS fun x s=>({m with gates:=m.gates++[x]},s)
 else if w==kPage then PN.bnd pageS fun x s=>({m with pages:=m.pages++[x]},s)
 else if w==kGroup then PN.bnd groupS fun x s=>({m with groups:=m.groups++[x]},s)
 else if w==kPhase then PN.bnd phaseS fun x s=>({m with phases:=m.phases++[x]},s)
 else fun s=>(m,s)
def stM (s:PS):Bool:=isS s kEvent||isS s kHouse||isS s kGate||isS s kPage||isS s kGroup||isS s kPhase
theorem stB_eq (m:MdD) (s:PS):stB m s=PN.bnd (fun s=>takeS (stM s) s) (stW m) s:=by
 show stB m s=stW m (takeS (stM s) s).1 (takeS (stM s) s).2
 unfold stB stW stM
 dsimp only
 generalize takeS _ s=r
 repeat' split
 all_goals rfl
theorem rdr_stW (m:MdD) (w:BS):Rdr (stW m w):=by
 unfold stW
 repeat' split
 ·exact Rdr.bnd rdr_event fun _=>rdr_pure _
 ·exact Rdr.bnd rdr_house fun _=>rdr_pure _
 ·exact Rdr.bnd rdr_gate fun _=>rdr_pure _
 ·exact Rdr.bnd rdr_page fun _=>rdr_pure _
 ·exact Rdr.bnd rdr_group fun _=>rdr_pure _
 ·exact Rdr.bnd rdr_phase fun _=>rdr_pure _
 ·exact rdr_pure _
theorem con_stB (m:MdD):Con (stB m):=by
 rw [show stB m=PN.bnd (fun s=>takeS (stM s) s) (stW m) from funext (stB_eq m)]
 exact Con.bnd (con_take stM) (rdr_stW m)
def rdK (m:MdD):PS→MdD×PS:=PN.bnd (fun s=>((),expS kTop s)) fun _=>PN.bnd inputS fun t=>PN.bnd (fun s=>((),expS kSemi s)) fun _ s=>({m with top:=t},endS s)
theorem readS_eq:readS=PN.bnd (fun s=>((),expS kModel s)) fun _=>PN.bnd wordS fun nm=>PN.bnd (fun s=>((),expS kSemi s)) fun _=>PN.bnd (lpS (fun s=> !isS s kTop) stB {md0 with name:=nm}) rdK:=rfl
end Go.PN
namespace Go.PN
open Go.AI
structure RAt (L:List TX) (s:PS) (a:Nat):Prop where
 le:a≤L.length
 nil:¬a<L.length→s.l=[]
 cons:a<L.length→∃l,s.l=(L.getD a tx0).t::l∧L.length-l.length=a+1
end Go.PN

namespace Go.AI
section
variable {E : Env} {K : List It} {l : List Oper} {FP FP' : Heap} {σ σ' : Sl} {h : Heap} {o : Oper} {i m : Nat} {cs : List (Nat × Nat)}
theorem cw_buildSlice {t e size bytes len:Nat} {xs:List Operand} {cells:List CV} (ho:l[i]?=some o) (hop:o.op=.buildSlice t len (enumO 0 xs).toArray) (hw:wantA l σ o=some true) (hd:dstOk E.N o.dst=true) (ht:tElem E.P t=some (e,size,bytes))
  (hz:(tZero E.P e).isSome=true) (hl:xs.length=len) (hsm:len*size≤16777216) (hlm:len≤16777216) (hx:∀x∈xs,(ev σ x).flat=true∧(ev σ x).cells.all CV.solid=true∧(ev σ x).cells.length=size) (hc:(xs.map (ev σ)).flatMap AV.cells=cells) (hops:∀x∈xs,x∈o.op.operands) (hFP:Has0 FP' h)
  (k:∀g,g∉h.keys→CW E l K FP' cs (σ.setO o.dst (.c (.osl g size 0 len))) ((g,.cells e (len*size) (ofL cells))::h)) (hm:m=2∨m=1∧FP'=FP:=by first|exact .inl rfl|exact .inr ⟨rfl,rfl⟩):CW E l K FP ((i,m)::cs) σ h:=by
 refine .pin ho hm (R:=fun r h2=>∃g,g∉h.keys∧r=.c (.osl g size 0 len)∧h2=(g,.cells e (len*size) (ofL cells))::h) (fun σ' K hs=> ?_) ?_ ?_
 ·have he:∀x∈xs,ev σ' x=ev σ x:=fun x hxx=>ev_same (hops x hxx) hs
  exact aw_buildSlice hop ((want_same hs).trans hw) hd ht hz hl hsm hlm (fun x hxx=>by rw [he x hxx];exact hx x hxx) (by rw [List.map_congr_left he];exact hc) fun g hg=>aw_ops_nil (aw_stop ⟨_,⟨g,hg,rfl,rfl⟩,rfl⟩)
 ·rintro r h2 ⟨g,_,_,rfl⟩;exact fun p hp=>List.mem_cons_of_mem _ (hFP p hp)
 ·rintro r h2 ⟨g,hg,rfl,rfl⟩;exact k g hg
theorem cw_callqP {f:FuncId} {xs:List Operand} {ts:Array TypeId} {args:List AV} {r:AV} (ho:l[i]?=some o) (hf:Fa E.P f args r) (hop:o.op=.call {callee:=.value (.func f),args:=xs.toArray,argTypes:=ts}) (hw:wantA l σ o=some true) (hd:dstOk E.N o.dst=true)
  (le:LeA h (xs.map (ev σ)) args) (hFP:Has0 FP' h) (k:CW E l K FP' cs (σ.setO o.dst r) h) (hm:m=2∨m=1∧FP'=FP:=by first|exact .inl rfl|exact .inr ⟨rfl,rfl⟩):CW E l K FP ((i,m)::cs) σ h:=by
 refine .pin ho hm (R:=fun x h2=>x=r∧h2=h) (fun σ' K hs=> ?_) ?_ ?_
 ·have he:xs.map (ev σ')=xs.map (ev σ):=evs_same (fun x hx=>by rw [hop];simp [Op.operands,Call.operands,hx]) hs
  exact aw_callq hf hop ((want_same hs).trans hw) hd (by rw [he];exact le) (aw_ops_nil (aw_stop ⟨r,⟨rfl,rfl⟩,rfl⟩))
 ·rintro _ _ ⟨_,rfl⟩;exact hFP
 ·rintro _ _ ⟨rfl,rfl⟩;exact k
theorem cw_push {t e size bytes n d1 s gt:Nat} {z:List CV} {og:Option Nat} {f f':Nat→CV} {pre:Heap} {v:AV} (ho:l[i]?=some o) (hop2:o.op=.call {callee:=.builtin .append,args:= #[.tmp s,.tmp d1],argTypes:= #[t,t]})
  (hg2:o.guard=none) (hd2:dstOk E.N o.dst=true)
  (ht:tElem E.P t=some (e,size,bytes)) (hz:tZero E.P e=some z) (hzl:z.length=size) (hs0:0<size) (hsz:size≤16777216)
  (hevs:ev σ (.tmp s)=.c (gs og size n)) (hev1:ev σ (.tmp d1)=.c (.osl gt size 0 1)) (hog:og=none→n=0) (hok:okPart v=true) (hvl:v.cells.length=size) (hh:h=(gt,.cells e (1*size) (ofL v.cells))::(pre++gh og e (n*size) f))
  (h63:n+1≤maxLen) (hby:(n+1)*bytes≤140737488355328) (hf:∀j,j<(n+1)*size→appF f (n*size) (ofL v.cells) j=f' j) (hFP:Has0 FP' ((gt,.cells e (1*size) (ofL v.cells))::pre))
  (k:∀g',g'∉Heap.keys ((gt,.cells e (1*size) (ofL v.cells))::pre)→CW E l K FP' cs (σ.setO o.dst (.c (gs (some g') size (n+1)))) ((gt,.cells e (1*size) (ofL v.cells))::(pre++gh (some g') e ((n+1)*size) f')))
  (hm:m=2∨m=1∧FP'=FP:=by first|exact .inl rfl|exact .inr ⟨rfl,rfl⟩):CW E l K FP ((i,m)::cs) σ h:=by
 subst hh
 obtain⟨ok1,ok2⟩:=okPart_spec hok
 refine .pin ho hm (R:=fun r h2=>∃g',g'∉Heap.keys ((gt,.cells e (1*size) (ofL v.cells))::pre)∧r=.c (gs (some g') size (n+1))∧h2=(gt,.cells e (1*size) (ofL v.cells))::(pre++gh (some g') e ((n+1)*size) f')) (fun σ' K hs=> ?_) ?_ ?_
 ·have hw2:∀σ2,wantA l σ2 o=some true:=fun σ2=>by unfold wantA;rw [hg2]
  have hevs':ev σ' (.tmp s)=.c (gs og size n):=(ev_same (by rw [hop2];simp [Op.operands,Call.operands]) hs).trans hevs
  have hev1':ev σ' (.tmp d1)=.c (.osl gt size 0 1):=(ev_same (by rw [hop2];simp [Op.operands,Call.operands]) hs).trans hev1
  have hsrc:∀h0:Heap,Src ((gt,.cells e (1*size) (ofL v.cells))::h0) size (.osl gt size 0 1) 1 (ofL v.cells):=fun h0=>by
   refine .osl (f':=ofL v.cells) (m:=1*size) (ty:=e) (by simp [Heap.get]) om (fun j _=>by rw [Nat.zero_add])
  cases og with
  |none=>
   have hn0:n=0:=hog rfl
   subst hn0
   refine aw_appendN (cx:=.osl gt size 0 1) (k:=1) (f2:=ofL v.cells) hop2 (hw2 _) hd2 ht hz hzl hs0 hevs' hev1' (hsrc _) om om om fun g' hg'=> ?_
   refine aw_conv1 (f':=f') (fun j hj=> ?_) ?_
   ·have:=hf j om
    rw [←this];simp [appF]
   ·have hnew:g'∉Heap.keys ((gt,.cells e (1*size) (ofL v.cells))::pre):=fun hm=>hg' (by simpa [gh] using hm)
    refine aw_perm (h':=(gt,.cells e (1*size) (ofL v.cells))::(pre++[(g',.cells e (1*size) f')])) ?_ ?_
    ·have:(pre++gh none e (0*size) f)=pre:=by simp [gh]
     rw [this]
     refine(List.Perm.swap _ _ _).trans (List.Perm.cons _ ?_)
     exact(List.perm_append_singleton _ _).symm
    ·exact aw_ops_nil (aw_stop ⟨_,⟨g',hnew,rfl,by simp [gh]⟩,rfl⟩)
  |some g=>
   refine aw_nd fun hnd=> ?_
   have hnp:g∉pre.keys:=fun hm=>by
    simp only [Heap.keys,gh,List.map_cons,List.map_append,List.map_nil,List.nodup_cons] at hnd
    have:=(List.nodup_append.1 hnd.2).2.2 g hm g (by simp)
    exact this rfl
   have hgtg:gt≠g:=fun e=>by
    subst e
    simp [Heap.keys,gh] at hnd
   refine aw_append (cx:=.osl gt size 0 1) (k:=1) (f2:=ofL v.cells) (g:=g) (m:=n*size) (f:=f) (h2:=(gt,.cells e (1*size) (ofL v.cells))::pre) hop2 (hw2 _) hd2 ht hz hzl hs0 hevs' ?_ (Nat.le_refl _) hev1' (hsrc _) ?_ om h63 hby ?_ fun g' hg'=> ?_
   ·show Heap.get ((gt,_)::(pre++[(g,_)])) g=_
    simp only [Heap.get,if_neg hgtg]
    exact Heap.get_app hnp
   ·intro j hj
    have hjl:j<v.cells.length:=by omega
    rw [ofL_get v.cells j v.cells[j] (List.getElem?_eq_getElem hjl)]
    exact List.all_eq_true.1 ok2 _ (List.getElem_mem hjl)
   ·show Heap.del ((gt,_)::(pre++[(g,_)])) g=_
    rw [Heap.del_ne hgtg,Heap.del_app hnp]
   ·refine aw_conv1 (f':=f') hf ?_
    refine aw_perm (h':=(gt,.cells e (1*size) (ofL v.cells))::(pre++[(g',.cells e ((n+1)*size) f')])) ?_ ?_
    ·refine(List.Perm.swap _ _ _).trans (List.Perm.cons _ ?_)
     exact(List.perm_append_singleton _ _).symm
    ·exact aw_ops_nil (aw_stop ⟨_,⟨g',hg',rfl,rfl⟩,rfl⟩)
 ·rintro r h2 ⟨g',_,_,rfl⟩
  intro p hp
  rcases List.mem_cons.1 (hFP p hp) with e|hm
  ·exact e▸List.mem_cons_self ..
  ·exact List.mem_cons_of_mem _ (List.mem_append_left _ hm)
 ·rintro r h2 ⟨g',hg,rfl,rfl⟩;exact k g' hg
end
end Go.AI
namespace Go.AI
section
variable {E : Env} {K : List It} {l : List Oper} {FP : Heap} {σ σ' : Sl} {h : Heap} {o : Oper} {i : Nat} {cs : List (Nat × Nat)}
theorem cw_cg {f:FuncId} {xs:List Operand} {ts:Array TypeId} {g:Nat} {ob ob':AObj} {args:List AV} {r:AV} (ho:l[i]?=some o) (hf:Fg E.P f g ob args r ob') (hop:o.op=.call {callee:=.value (.func f),args:=xs.toArray,argTypes:=ts}) (hw:wantA l σ o=some true) (hd:dstOk E.N o.dst=true)
  (hg:h.get g=some ob) (le:LeA [] (xs.map (ev σ)) args) (hFP:Has0 FP (h.set g ob')) (k:CW E l K FP cs (σ.setO o.dst r) (h.set g ob')):CW E l K FP ((i,1)::cs) σ h:=by
 refine cw_callh (hc:=[(g,ob)]) (hr:=h.del g) ho hf hop hw hd (Heap.get_perm hg) le ?_ ?_ (hm:=.inr ⟨rfl,rfl⟩)
 ·rintro _ _ ⟨rfl,rfl⟩
  exact fun p hp=>(Heap.set_perm (ob':=ob') hg).mem_iff.1 (hFP p hp)
 ·rintro _ _ ⟨rfl,rfl⟩ _
  exact cw_perm (Heap.set_perm hg).symm k
end
end Go.AI
namespace Go.AI
open Go.PN
theorem strs_push {xs:List BS} {n:Nat} (hn:xs.length=n) (t:BS):∀j,j<(n+1)*1→appF (strsF xs) (n*1) (ofL (stc t)) j=strsF (xs++[t]) j:=lf_push (s:=1) (c:=stc) (d:=([]:BS)) hn t (by decide)
end Go.AI

namespace Go.AI
open Go.PN
theorem gts_push {xs:List GtD} {n:Nat} (hn:xs.length=n) (t:GtD):∀j,j<(n+1)*7→appF (gtsF xs) (n*7) (ofL (gtc t)) j=gtsF (xs++[t]) j:=lf_push (s:=7) (c:=gtc) (d:=(gt0:GtD)) hn t (by decide)
end Go.AI

namespace Go.AI
open Go.PN
theorem vls_push {xs:List VlD} {n:Nat} (hn:xs.length=n) (t:VlD):∀j,j<(n+1)*4→appF (vlsF xs) (n*4) (ofL (vlc t)) j=vlsF (xs++[t]) j:=lf_push (s:=4) (c:=vlc) (d:=(vl0:VlD)) hn t (by decide)
end Go.AI

namespace Go.AI
open Go.PN
theorem sb_beq (a b:BS):(sB a==sB b)=decide (a=b):=by
 show((sB a).data==(sB b).data)=_
 rw [Bool.eq_iff_iff];simp
end Go.AI
namespace Go.PN
open Go.AI
structure Og where
 e:Option Nat
 h:Option Nat
 g:Option Nat
 p:Option Nat
 r:Option Nat
 s:Option Nat
structure OgOk (m:MdD) (o:Og):Prop where
 e:o.e=none→m.events.length=0
 h:o.h=none→m.houses.length=0
 g:o.g=none→m.gates.length=0
 p:o.p=none→m.pages.length=0
 r:o.r=none→m.groups.length=0
 s:o.s=none→m.phases.length=0
structure MdSm (m:MdD) (n:Nat):Prop where
 e:m.events.length≤n
 h:m.houses.length≤n
 g:m.gates.length≤n
 p:m.pages.length≤n
 r:m.groups.length≤n
 s:m.phases.length≤n
theorem evs_push {xs:List EvD} {n:Nat} (hn:xs.length=n) (t:EvD):∀j,j<(n+1)*11→appF (evsF xs) (n*11) (ofL (evc t)) j=evsF (xs++[t]) j:=lf_push (s:=11) (c:=evc) (d:=(ev0:EvD)) hn t (by decide)
theorem hss_push {xs:List HsD} {n:Nat} (hn:xs.length=n) (t:HsD):∀j,j<(n+1)*2→appF (hssF xs) (n*2) (ofL (hsc t)) j=hssF (xs++[t]) j:=lf_push (s:=2) (c:=hsc) (d:=(hs0:HsD)) hn t (by decide)
theorem pgs_push {xs:List PgD} {n:Nat} (hn:xs.length=n) (t:PgD):∀j,j<(n+1)*3→appF (pgsF xs) (n*3) (ofL (pgc t)) j=pgsF (xs++[t]) j:=lf_push (s:=3) (c:=pgc) (d:=(pg0:PgD)) hn t (by decide)
theorem grs_push {xs:List GrD} {n:Nat} (hn:xs.length=n) (t:GrD):∀j,j<(n+1)*4→appF (grsF xs) (n*4) (ofL (grc t)) j=grsF (xs++[t]) j:=lf_push (s:=4) (c:=grc) (d:=(gr0:GrD)) hn t (by decide)
theorem phs_push {xs:List PhD} {n:Nat} (hn:xs.length=n) (t:PhD):∀j,j<(n+1)*3→appF (phsF xs) (n*3) (ofL (phc t)) j=phsF (xs++[t]) j:=lf_push (s:=3) (c:=phc) (d:=(ph0:PhD)) hn t (by decide)
end Go.PN

namespace Go.Proofs.YtpcpaekpnfkhhaaGreatDoor
open Go.AI Go.PN
theorem lf_ler {α:Type} {h:Heap} {s:Nat} {c:α→List CV} {d:α} {xs:List α} (hs:0<s) (H:∀(x:α) k,k<s→LeR h (ofL (c x) k) (ofL (c x) k)) (j:Nat):LeR h (lf s c d xs j) (lf s c d xs j):=by
 obtain⟨i,k,hk,rfl⟩:∃i k,k<s∧j=i*s+k:=⟨j/s,j%s,Nat.mod_lt _ hs,by rw [Nat.mul_comm];exact(Nat.div_add_mod j s).symm⟩
 rw [lf_at hk]
 exact H _ _ hk
theorem ler_strs {h:Heap} {l:List BS}:LeR h (strs true l) (strs true l):=.row fun j _=>lf_ler (by decide) (fun x k hk=>match k,hk with|0,_=>.str _) j
theorem ler_evs {h:Heap} {l:List EvD}:LeR h (evs true l) (evs true l):=.row fun j _=>lf_ler (by decide) (fun x k hk=>match k,hk with|0,_=>.str _|1,_=>.bool _|2,_=>ler_ws|3,_=>ler_ws|4,_=>.bool _|5,_=>ler_ws|6,_=>ler_ws|7,_=>.bool _|8,_=>ler_ws|9,_=>ler_ws|10,_=>.int _ _) j
theorem ler_hss {h:Heap} {l:List HsD}:LeR h (hss true l) (hss true l):=.row fun j _=>lf_ler (by decide) (fun x k hk=>match k,hk with|0,_=>.str _|1,_=>.bool _) j
theorem lerk_gt {h:Heap} (x:GtD) (k:Nat) (hk:k<7):LeR h (ofL (gtc x) k) (ofL (gtc x) k):=match k,hk with|0,_=>.str _|1,_=>.int _ _|2,_=>.int _ _|3,_=>ler_strs|4,_=>.bool _|5,_=>ler_ws|6,_=>ler_ws
theorem ler_gts {h:Heap} {l:List GtD}:LeR h (gts true l) (gts true l):=.row fun j _=>lf_ler (by decide) lerk_gt j
theorem ler_pgs {h:Heap} {l:List PgD}:LeR h (pgs true l) (pgs true l):=.row fun j _=>lf_ler (by decide) (fun x k hk=>match k,hk with|0,_=>.str _|1,_=>.str _|2,_=>ler_gts) j
theorem ler_grs {h:Heap} {l:List GrD}:LeR h (grs true l) (grs true l):=.row fun j _=>lf_ler (by decide) (fun x k hk=>match k,hk with|0,_=>.str _|1,_=>.int _ _|2,_=>ler_strs|3,_=>ler_rats) j
theorem ler_vls {h:Heap} {l:List VlD}:LeR h (vls true l) (vls true l):=.row fun j _=>lf_ler (by decide) (fun x k hk=>match k,hk with|0,_=>.str _|1,_=>.bool _|2,_=>ler_ws|3,_=>ler_ws) j
theorem ler_phs {h:Heap} {l:List PhD}:LeR h (phs true l) (phs true l):=.row fun j _=>lf_ler (by decide) (fun x k hk=>match k,hk with|0,_=>.str _|1,_=>.str _|2,_=>ler_vls) j
theorem lerl_md {h:Heap} {x:MdD}:LeRL h (mdc true x) (mdc true x):=⟨.str _,.str _,ler_evs,ler_hss,ler_gts,ler_pgs,ler_grs,ler_phs,trivial⟩
theorem lerl_md0 {h:Heap}:LeRL h [.str (sB []),.str (sB []),.nils,.nils,.nils,.nils,.nils,.nils] (mdc true md0):=⟨.str _,.str _,.nils,.nils,.nils,.nils,.nils,.nils,trivial⟩
end Go.Proofs.YtpcpaekpnfkhhaaGreatDoor
namespace Go.PN
open Go.AI
def modelP (ck:MdD→Int) (l:BS):MdD×Int:=if(splitS l).1≠0 then(md0,(splitS l).1) else let r:=readS ⟨(splitS l).2,0⟩;if r.2.e≠0 then(md0,r.2.e) else if ck r.1≠0 then(md0,ck r.1) else(r.1,0)
theorem MdSm.mono {m:MdD} {a b:Nat} (h:MdSm m a) (hab:a≤b):MdSm m b:=⟨Nat.le_trans h.e hab,Nat.le_trans h.h hab,Nat.le_trans h.g hab,Nat.le_trans h.p hab,Nat.le_trans h.r hab,Nat.le_trans h.s hab⟩
theorem MdSm.stB {m:MdD} {n:Nat} (h:MdSm m n) (s:PS):MdSm (stB m s).1 (n+1):=by
 obtain⟨h1,h2,h3,h4,h5,h6⟩:=h
 unfold Go.PN.stB
 dsimp only
 repeat' split
 all_goals constructor
 all_goals first|(dsimp only;rw [List.length_append];exact Nat.succ_le_succ (by assumption))|(dsimp only;omega)
end Go.PN

namespace Go.PN
def RD.prob (r:RD):Bool:=r.valid&&decide (0≤r.q)&&decide (r.q≤1)
theorem sq_le_one {n d:Nat} (hd:d≠0):sq false n d≤1↔n≤d:=by
 unfold sq sgn
 simp only [Bool.false_eq_true,if_false]
 rw [Rat.mkRat_eq_div]
 have hd0:(0:Rat)<(d:Rat):=by
  have:((0:Nat):Rat)<(d:Rat):=Rat.natCast_lt_natCast.2 om
  exact this
 have hne:(d:Rat)≠0:=fun e=>by rw [e] at hd0;exact Rat.lt_irrefl hd0
 have hx:((n:Int):Rat)/(d:Rat)*(d:Rat)=(n:Rat):=by
  have h1:((n:Int):Rat)=(n:Rat):=rfl
  rw [h1,Rat.div_def,Rat.mul_assoc,Rat.inv_mul_cancel _ hne,Rat.mul_one]
 generalize ((n:Int):Rat)/(d:Rat)=x at hx
 constructor
 ·intro h
  have h1:=Rat.mul_le_mul_of_nonneg_right h (Rat.le_of_lt hd0)
  rw [hx,Rat.one_mul] at h1
  exact Rat.natCast_le_natCast.1 h1
 ·intro h
  have h1:(n:Rat)≤(d:Rat):=Rat.natCast_le_natCast.2 h
  rw [←hx] at h1
  refine Rat.not_lt.1 fun hlt=> ?_
  have h2:=Rat.mul_lt_mul_of_pos_right hlt hd0
  rw [Rat.one_mul] at h2
  exact absurd h1 (Rat.not_le.2 h2)
theorem prob_eq {r:RD} {L:Nat} (hw:r.wf L) (hv:r.valid=true):((!r.neg)&&decide (cmpN (val r.num) (val r.den)≤0))=(decide (0≤r.q)&&decide (r.q≤1)):=by
 cases hs:r.some with
 |false=>
  have hn:r.num.length=0:=by
   simp only [RD.some,hv,Bool.true_and,decide_eq_false_iff_not,ne_eq,Classical.not_not] at hs
   exact hs
  have hq:r.q=0:=by unfold RD.q RD.pn;simp [hs,sq_zero]
  have hv':=hv
  unfold RD.valid at hv'
  split at hv'
  ·rename_i h
   have h1:r.num=[]:=List.length_eq_zero_iff.1 h.1
   have h2:r.den=[]:=List.length_eq_zero_iff.1 h.2
   rw [hq,h1,h2]
   simp only [Bool.not_eq_true'] at hv'
   simp [hv',val,cmpN]
   decide
  ·simp [plainB,hn] at hv'
 |true=>
  obtain⟨h1,h2,h3,h4,h5⟩:=RD.some_spec hw hs
  have hq:r.q=sq r.neg (val r.num) (val r.den):=by unfold RD.q RD.ps RD.pn RD.pd;simp [hs]
  rw [hq]
  have hneg:=sq_lt (neg:=r.neg) h3 h4
  cases hb:r.neg with
  |true=>
   rw [hb] at hneg
   have:¬(0≤sq true (val r.num) (val r.den)):=Rat.not_le.2 (hneg.2 rfl)
   simp [this]
  |false=>
   rw [hb] at hneg
   have hge:0≤sq false (val r.num) (val r.den):=Rat.not_lt.1 fun h=>by cases hneg.1 h
   have hle:=sq_le_one (n:=val r.num) h4
   have hc:cmpN (val r.num) (val r.den)≤0↔val r.num≤val r.den:=by
    unfold cmpN
    split
    ·constructor<;>intro _<;>omega
    ·split<;>constructor<;>intro _<;>omega
   simp only [hge,decide_true,Bool.true_and,Bool.not_false,hle,hc]
end Go.PN
namespace Go.Proofs.YtpcpaekpnfkhhaaGreatDoor
open Go.AI Go.PN
attribute [local irreducible] aw Fa Fh DrK
theorem rprob_fa (r:RD) (hw:r.wf 1073741824):Fa Tryz.prog 136 [.agg (rdc r)] (.c (.bool r.prob)):=by
 have h1:=hw.2.2.1
 have h2:=hw.2.2.2
 refine fa_of_body Tryz.func136 rfl rfl (by simp [Tryz.ntmps136]) fun C hC=> ?_
 simp only [initS,Nat.reduceAdd]
 refine xG ?_
 refine xB fun g1 hn_g1=>?_
 refine yG hn_g1 ?_
 refine yC hn_g1 (rvalid_fa r (wf_mono hw ?_)) ?_
 ·omega
 refine yG hn_g1 ?_
 unfold RD.prob
 refine aw_split 5 (zE hn_g1) (fun hv=> ?_) (fun hv=> ?_)<;>refine yS hn_g1 ?_
 ·have hp:=prob_eq hw hv
  refine yG hn_g1 ?_
  refine aw_split 10 (zE hn_g1) (fun hn=> ?_) (fun hn=> ?_)<;>refine yS hn_g1 ?_
  ·refine yG hn_g1 ?_
   refine yC hn_g1 (cmp_fa _ _ hw.1 hw.2.1 ?_ ?_) ?_
   ·omega
   ·omega
   refine yGT hC hn_g1 ?_
   refine .one (.c (ler_bool ?_))
   rw [hv,Bool.true_and,←hp,hn,Bool.true_and]
  ·refine yGT hC hn_g1 ?_
   refine .one (.c (ler_bool ?_))
   rw [hv,Bool.true_and,←hp,hn,Bool.false_and]
 ·refine yGT hC hn_g1 ?_
  refine .one (.c (ler_bool ?_))
  rw [hv,Bool.false_and,Bool.false_and]
end Go.Proofs.YtpcpaekpnfkhhaaGreatDoor
namespace Go.PN
open Go.AI
variable {α β σ : Type}
def fidx (p:α→Bool):List α→Int
 |[]=> -1
 |x::l=>if p x then 0 else if fidx p l<0 then-1 else fidx p l+1
theorem fidx_ge (p:α→Bool):∀l:List α,-1≤fidx p l
 |[]=>Int.le_refl _
 |x::l=>by
  have:=fidx_ge p l
  unfold fidx
  split
  ·decide
  ·split<;>omega
theorem fidx_lt (p:α→Bool):∀l:List α,fidx p l<l.length
 |[]=>(show(-1:Int)<0 from by decide)
 |x::l=>by
  have:=fidx_lt p l
  unfold fidx
  rw [List.length_cons]
  split
  ·omega
  ·split<;>omega
theorem fidx_no {p:α→Bool} (d:α):∀{l:List α},(∀j,j<l.length→p (l.getD j d)=false)→fidx p l= -1
 |[],_=>rfl
 |x::l,h=>by
  have h0:p x=false:=by simpa using h 0 (by simp)
  have ih:=fidx_no d (l:=l) fun j hj=>by simpa using h (j+1) (by simpa using hj)
  unfold fidx
  rw [h0,ih];rfl
theorem fidx_at {p:α→Bool} (d:α):∀{l:List α} {i:Nat},i<l.length→p (l.getD i d)=true→(∀j,j<i→p (l.getD j d)=false)→fidx p l=i
 |x::l,0,_,h,_=>by
  have:p x=true:=by simpa using h
  unfold fidx
  rw [this];rfl
 |x::l,i+1,hl,h,hn=>by
  have h0:p x=false:=by simpa using hn 0 om
  have ih:=fidx_at d (l:=l) (i:=i) (by simpa using hl) (by simpa using h) fun j hj=>by simpa using hn (j+1) om
  unfold fidx
  rw [h0,ih]
  rw [if_neg (by decide),if_neg om]
  omega
def frst (f:Nat→α→Int):List α→Nat→Int
 |[],_=>0
 |x::l,i=>if f i x=0 then frst f l (i+1) else f i x
theorem frst_step {f:Nat→α→Int} (d:α) {l:List α} {i:Nat} (h:i<l.length):frst f (l.drop i) i=if f i (l.getD i d)=0 then frst f (l.drop (i+1)) (i+1) else f i (l.getD i d):=by
 rw [List.drop_eq_getElem_cons h,List.getD_eq_getElem?_getD,List.getElem?_eq_getElem h];rfl
theorem frst_end {f:Nat→α→Int} {l:List α} {i:Nat} (h:¬i<l.length):frst f (l.drop i) i=0:=by rw [List.drop_of_length_le om];rfl
def frsS (f:Nat→α→σ→Int×σ):List α→Nat→σ→Int×σ
 |[],_,s=>(0,s)
 |x::l,i,s=>if(f i x s).1=0 then frsS f l (i+1) (f i x s).2 else f i x s
theorem frsS_step {f:Nat→α→σ→Int×σ} (d:α) {l:List α} {i:Nat} {s:σ} (h:i<l.length):frsS f (l.drop i) i s=if(f i (l.getD i d) s).1=0 then frsS f (l.drop (i+1)) (i+1) (f i (l.getD i d) s).2 else f i (l.getD i d) s:=by
 rw [List.drop_eq_getElem_cons h,List.getD_eq_getElem?_getD,List.getElem?_eq_getElem h];rfl
theorem frsS_end {f:Nat→α→σ→Int×σ} {l:List α} {i:Nat} {s:σ} (h:¬i<l.length):frsS f (l.drop i) i s=(0,s):=by rw [List.drop_of_length_le om];rfl
def frsN (f:Nat→σ→Int×σ):Nat→Nat→σ→Int×σ
 |0,_,s=>(0,s)
 |n+1,i,s=>if(f i s).1=0 then frsN f n (i+1) (f i s).2 else f i s
def orC (a b:Int):Int:=if a=0 then b else a
def evI (m:MdD) (n:BS):Int:=fidx (fun x=>x.name==n) m.events
def hsI (m:MdD) (n:BS):Int:=fidx (fun x=>x.name==n) m.houses
def gtI (l:List GtD) (n:BS):Int:=fidx (fun x=>x.name==n) l
def pgI (m:MdD) (n:BS):Int:=fidx (fun x=>x.name==n) m.pages
def gtsK (m:MdD):Nat→List GtD
 |0=>m.gates
 |k+1=>(m.pages.getD k pg0).gates
def rateB (r:RD):Bool:=r.valid&&decide (signQ r.q≥0)
def nameOk (s:BS):Bool:=decide (0<s.length)&&decide (s.length≤24)&&isLet (bAt s 0)&&decide (spanE isIns s 0=s.length)
def evC (m:MdD) (i:Nat) (x:EvD):Int:=if nameOk x.name=false then 5 else if evI m x.name<i then 6
 else if x.p.prob=false∨rateB x.fail=false∨rateB x.rep=false∨x.cost<0∨x.cost>1073741824 then 3 else 0
def hsC (m:MdD) (i:Nat) (x:HsD):Int:=if nameOk x.name=false then 5 else if evI m x.name≥0∨hsI m x.name<i then 6 else 0
def evhC (m:MdD):Int:=if m.events.length>24 then 4 else orC (frst (evC m) m.events 0) (if m.houses.length>16 then 4 else frst (hsC m) m.houses 0)
def gtN (m:MdD):Nat:=m.gates.length+(m.pages.map fun p=>p.gates.length).sum
def pgC (m:MdD) (i:Nat) (x:PgD):Int:=if nameOk x.name=false then 5 else if pgI m x.name<i then 6 else 0
def pgsC (m:MdD):Int:=if m.pages.length>8∨gtN m>64 then 4 else frst (pgC m) m.pages 0
def inpB (k:Int) (n:Nat):Bool:=if k=3 then n==1 else if k=5 then n==2 else if k=6∨k=7∨k=8 then decide (n≥2)&&decide (n≤16) else decide (n≥1)&&decide (n≤16)
def zeroB (r:RD):Bool:= !r.neg&&r.num.length==0&&r.den.length==0
def shpC (x:GtD):Int:=if x.kind<0∨x.kind>8 then 7 else if inpB x.kind x.inputs.length=false then 11
 else if x.kind=2∧(x.k<1∨x.k>x.inputs.length) then 3 else if x.kind≠2∧x.k≠0 then 2
 else if x.kind=7∧x.dorm.prob=false then 3 else if x.kind≠7∧zeroB x.dorm=false then 2 else 0
def gtC (m:MdD) (k:Nat) (i:Nat) (x:GtD):Int:=if nameOk x.name=false then 5 else if evI m x.name≥0∨hsI m x.name≥0∨gtI (gtsK m k) x.name<i then 6 else shpC x
def gtsC (m:MdD) (k:Nat):Int:=frst (gtC m k) (gtsK m k) 0
def isInp (m:MdD) (k:Nat) (i:BS):Bool:=if 0<i.length∧bAt i 0=64 then decide (pgI m (i.drop 1)≥0) else decide (evI m i≥0)||decide (hsI m i≥0)||decide (gtI (gtsK m k) i≥0)
def mustE (x:GtD) (j:Nat):Bool:=decide (x.kind=7)||(decide (x.kind=8)&&decide (j>0))
def inI (m:MdD) (k:Nat) (x:GtD) (j:Nat) (i:BS) (sp:List BS):Int×List BS:=if isInp m k i=false then(5,sp) else if mustE x j=true∧evI m i<0 then(7,sp)
 else if x.kind=7 then(if sp.contains i then(6,sp) else(0,sp++[i])) else(0,sp)
def inG (m:MdD) (k:Nat) (_:Nat) (x:GtD) (sp:List BS):Int×List BS:=frsS (inI m k x) x.inputs 0 sp
def tpC (m:MdD):Nat→Int
 |0=>0
 |k+1=>if gtI (m.pages.getD k pg0).gates (m.pages.getD k pg0).top<0∧evI m (m.pages.getD k pg0).top<0 then 5 else 0
def inP (m:MdD) (k:Nat) (sp:List BS):Int×List BS:=if(frsS (inG m k) (gtsK m k) 0 sp).1=0 then(tpC m k,(frsS (inG m k) (gtsK m k) 0 sp).2) else frsS (inG m k) (gtsK m k) 0 sp
def meC (m:MdD) (_:Nat) (n:BS) (ms:List BS):Int×List BS:=if evI m n<0 then(5,ms) else if ms.contains n then(6,ms) else(0,ms++[n])
def grC (m:MdD) (i:Nat) (x:GrD) (ms:List BS):Int×List BS:=if nameOk x.name=false then(5,ms) else if fidx (fun y=>y.name==x.name) m.groups<i then(6,ms)
 else if x.kind≠0∧x.kind≠1 then(7,ms)
 else if(x.members.length:Int)<2∨(x.members.length:Int)>(if x.kind=1 then 4 else 24)∨(x.factors.length:Int)≠(if x.kind=1 then(x.members.length:Int)-1 else 1) then(11,ms)
 else if(frsS (meC m) x.members 0 ms).1≠0 then frsS (meC m) x.members 0 ms
 else if x.factors.all RD.prob=false then(3,ms) else(0,(frsS (meC m) x.members 0 ms).2)
def grsC (m:MdD):Int:=if m.groups.length>8 then 4 else(frsS (grC m) m.groups 0 []).1
def vlC (m:MdD) (x:PhD) (k:Nat) (v:VlD):Int:=if evI m v.event<0 then 5 else if fidx (fun y=>y.event==v.event) x.values<k then 6 else if v.p.prob=false then 3 else 0
def phC (m:MdD) (i:Nat) (x:PhD):Int:=if nameOk x.name=false then 5 else if fidx (fun y=>y.name==x.name) m.phases<i then 6 else if isInp m 0 x.top=false then 5 else frst (vlC m x) x.values 0
def phsC (m:MdD):Int:=if m.phases.length>6 then 4 else frst (phC m) m.phases 0
def mcode0 (m:MdD):Int:=orC (if nameOk m.name then 0 else 5) (orC (evhC m) (orC (pgsC m) (orC (frsN (fun k (_:Unit)=>(gtsC m k,())) (m.pages.length+1) 0 ()).1
 (orC (frsN (inP m) (m.pages.length+1) 0 []).1 (orC (if isInp m 0 m.top then 0 else 5) (orC (grsC m) (phsC m)))))))
end Go.PN
