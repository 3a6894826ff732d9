/- Parts of one proof, laid by a program. -/
import Derived.Test.YtefekdejgbceiaaGreatM00
import Derived.Test.YtefekdejgbceiaaGreatM07
set_option linter.unusedSimpArgs false
set_option linter.unusedVariables false
set_option maxRecDepth 100000
set_option maxHeartbeats 12800000
namespace Go.AI
section
variable {P : Program}
def keyI (n:Int):Value:=.int .i64 n
theorem keyI_ok {kt:TypeId} (ht:P.underlying kt=some (.int .i64)):KeyOk P kt keyI:=by
 refine⟨fun b a w=> ?_,fun a ks es w h=> ?_⟩
 ·unfold Instr.checkKey keyI
  simp only [Sem.run_bind,run_underlying ht,Result.andThen_ok]
  rfl
 ·unfold Instr.findKey
  simp only [Sem.run_bind,run_underlying ht,Result.andThen_ok]
  have hn:∀(ks:List Int) (es:List MapEntry) (i:Nat),es.map (·.key)=ks.map keyI→Instr.findNow (.int .i64) (keyI a) es i=some (fAsk a ks es i):=by
   intro ks
   induction ks with
   |nil=>
    intro es i h
    cases es with
    |nil=>rfl
    |cons e es=>simp at h
   |cons k ks ih=>
    intro es i h
    cases es with
    |nil=>simp at h
    |cons e es=>
     simp only [List.map_cons,List.cons.injEq] at h
     simp only [Instr.findNow,fAsk,h.1,keyI,Instr.sameNow,if_true]
     by_cases hk:a=k
     ·subst hk;simp
     ·have:(a==k)=false:=by simpa using hk
      rw [this,if_neg hk]
      exact ih es (i+1) h.2
  rw [hn ks es 0 h]
  rfl
def key3 (k:Int×Int×Int):Value:=.agg #[.int .i64 k.1,.int .i64 k.2.1,.int .i64 k.2.2]
theorem key3_ok {kt e:TypeId} (ht:P.underlying kt=some (.array 3 e)) (he:P.underlying e=some (.int .i64)) {inf:TypeInfo} (hi:P.info? e=some inf) (hs:inf.size=1):KeyOk P kt key3:=by
 have hag:∀w,(isAgg e).run P w=.ok false w:=fun w=>by simp [isAgg,run_underlying he]
 have hsz:∀w,(sizeOf e).run P w=.ok 1 w:=fun w=>by simp [sizeOf,typeInfo,hi,hs]
 have hp:∀(a b c:Int) w,(part e #[.int .i64 a,.int .i64 b,.int .i64 c] 0).run P w=.ok (.int .i64 a) w∧(part e #[.int .i64 a,.int .i64 b,.int .i64 c] 1).run P w=.ok (.int .i64 b) w∧(part e #[.int .i64 a,.int .i64 b,.int .i64 c] 2).run P w=.ok (.int .i64 c) w:=fun a b c w=>by
  unfold part
  simp only [Sem.run_bind,hag,Result.andThen_ok,Bool.false_eq_true,if_false]
  exact⟨rfl,rfl,rfl⟩
 have hck:∀b n x w,(Instr.checkKey b (n+1) e (.int .i64 x)).run P w=.ok () w:=fun b n x w=>by simp [Instr.checkKey,run_underlying he]
 have heq1:∀d x y w,(Op.equalIn (d+1) e (.int .i64 x) (.int .i64 y)).run P w=.ok (x==y) w:=fun d x y w=>by simp [Op.equalIn,run_underlying he]
 refine⟨fun b a w=> ?_,fun a ks es w h=> ?_⟩
 ·obtain⟨x,y,z⟩:=a
  obtain⟨p0,p1,p2⟩:=hp x y z w
  show(Instr.checkKey b (9998+1+1) kt (key3 (x,y,z))).run P w=_
  unfold Instr.checkKey key3
  have hck9:∀x w,(Instr.checkKey b 9999 e (.int .i64 x)).run P w=.ok () w:=fun x w=>hck b 9998 x w
  simp [run_underlying ht]
  rw [show List.range' 0 3=[0,1,2] from rfl]
  simp [hsz,p0,p1,p2,hck9]
 ·have hfeq:∀a b w,(Op.equal kt (key3 a) (key3 b)).run P w=.ok (decide (a=b)) w:=fun a b w=>by
   obtain⟨x,y,z⟩:=a
   obtain⟨x',y',z'⟩:=b
   have hp0:=fun a b c w=>(hp a b c w).1
   have hp1:=fun a b c w=>(hp a b c w).2.1
   have hp2:=fun a b c w=>(hp a b c w).2.2
   show(Op.equalIn (9998+1+1) kt (key3 (x,y,z)) (key3 (x',y',z'))).run P w=_
   unfold Op.equalIn key3
   have heq9:∀x y w,(Op.equalIn 9999 e (.int .i64 x) (.int .i64 y)).run P w=.ok (x==y) w:=fun x y w=>heq1 9998 x y w
   simp [run_underlying ht,hsz]
   rw [show List.range' 0 3=[0,1,2] from rfl]
   by_cases e0:x=x'<;>by_cases e1:y=y'<;>by_cases e2:z=z'<;>simp [hp0,hp1,hp2,heq9,e0,e1,e2]
  have hn:∀e' es',es=e'::es'→Instr.findNow (.array 3 e) (key3 a) es 0=none:=fun e' es' he'=>by
   subst he';simp [Instr.findNow,Instr.sameNow]
  unfold Instr.findKey
  simp only [Sem.run_bind,run_underlying ht,Result.andThen_ok]
  cases es with
  |nil=>
   cases ks with
   |nil=>simp [Instr.findNow,fAsk]
   |cons k ks=>simp at h
  |cons e' es'=>
   rw [hn e' es' rfl]
   exact run_findAsking hfeq a ks (e'::es') 0 w h
end
section
variable {P : Program}
variable {E : Env} {K : List It} {σ σ' : Sl} {h : Heap} {all rest : List Oper} {o : Oper}
theorem aw_lookup2 {α:Type} [DecidableEq α] {Kf:α→Value} {t kt et g:TypeId} {kv:List (α×Value)} {x ky:Operand} {ck:AV} {a:α} {z:Value} (hop:o.op=.lookup t x ky true) (hw:wantA all σ o=some true) (hd:dstOk E.N o.dst=true)
  (ht:tMap E.P t=some (kt,et)) (hK:KeyOk E.P kt Kf) (hz:tZ1 E.P et=some z) (hx:ev σ x=.c (.raw (.map (some g)))) (hg:h.get g=some (.gen (MapI Kf kv))) (hk:ev σ ky=ck) (hka:∀S w v,Rep S w ck v→v=Kf a)
  (k:aw E (.ops all rest::K) (σ.setO o.dst (.tup [.c (cstC ((kvGet a kv).getD z)),.c (.bool (kvGet a kv).isSome)])) h):aw E (.ops all (o::rest)::K) σ h:=by
 refine aw_step hw (fun ac w s=> ?_) k
 have h1:=ev_rep s x
 rw [hx] at h1
 have h1':ac.eval x=.map (some g):=h1
 have h2:=ev_rep s ky
 rw [hk] at h2
 have h2':=hka _ _ _ h2
 obtain⟨ob,hb,es,c,rfl,hes⟩:=s.heap g _ (Heap.get_mem hg)
 have hkeys:es.toList.map (·.key)=(kv.map (·.1)).map Kf:=by
  have:=congrArg (List.map Prod.fst) hes
  rw [List.map_map,List.map_map] at this
  rw [List.map_map]
  exact this
 have hfind:=hK.find a (kv.map (·.1)) es.toList w hkeys
 have hget:=fAsk_get (K:=Kf) a kv es.toList 0 hes
 refine⟨.tuple #[(kvGet a kv).getD z,.bool (kvGet a kv).isSome],w,.inl ?_,s.put hd ⟨[_,_],rfl,cstC_rep _ _ _,rfl,trivial⟩⟩
 have hlk:(Instr.lookup t (ac.eval x) (ac.eval ky) true).run E.P w=.ok (.tuple #[(kvGet a kv).getD z,.bool (kvGet a kv).isSome]) w:=by
  rw [h1',h2']
  unfold Instr.lookup
  simp only [Sem.run_bind,run_underlying (tMap_spec ht),Result.andThen_ok,runGet hb,Sem.run_pure,hK.check,hfind]
  rw [←hget]
  cases hf:fAsk a (kv.map (·.1)) es.toList 0 with
  |none=>simp [tZ1_run hz]
  |some p=>obtain⟨i,v⟩:=p;simp
 simp only [execOp,hop,Sem.run_bind,hlk,Result.andThen_ok]
 rfl
theorem Calm.lookup2 {l:List Oper} {α:Type} [DecidableEq α] {Kf:α→Value} {t kt et g:TypeId} {kv:List (α×Value)} {x ky:Operand} {ck:AV} {a:α} {z:Value} (hop:o.op=.lookup t x ky true) (hw:wantA l σ o=some true) (hd:dstOk E.N o.dst=true)
  (ht:tMap E.P t=some (kt,et)) (hK:KeyOk E.P kt Kf) (hz:tZ1 E.P et=some z) (hx:ev σ x=.c (.raw (.map (some g)))) (hg:h.get g=some (.gen (MapI Kf kv))) (hk:ev σ ky=ck) (hka:∀S w v,Rep S w ck v→v=Kf a):
  Calm E h l σ o (.tup [.c (cstC ((kvGet a kv).getD z)),.c (.bool (kvGet a kv).isSome)]):=by
 refine⟨hd,fun σ' ac w Q hs s=> ?_⟩
 rw [if_pos (s.wanted ((want_same hs).trans hw))]
 have h1:=ev_rep s x
 rw [ev_same (by rw [hop];simp [Op.operands]) hs,hx] at h1
 have h1':ac.eval x=.map (some g):=h1
 have h2:=ev_rep s ky
 rw [ev_same (by rw [hop];simp [Op.operands]) hs,hk] at h2
 have h2':=hka _ _ _ h2
 obtain⟨ob,hb,es,c,rfl,hes⟩:=s.heap g _ (Heap.get_mem hg)
 have hkeys:es.toList.map (·.key)=(kv.map (·.1)).map Kf:=by
  have:=congrArg (List.map Prod.fst) hes
  rw [List.map_map,List.map_map] at this
  rw [List.map_map]
  exact this
 have hfind:=hK.find a (kv.map (·.1)) es.toList w hkeys
 have hget:=fAsk_get (K:=Kf) a kv es.toList 0 hes
 have hlk:(Instr.lookup t (ac.eval x) (ac.eval ky) true).run E.P w=.ok (.tuple #[(kvGet a kv).getD z,.bool (kvGet a kv).isSome]) w:=by
  rw [h1',h2']
  unfold Instr.lookup
  simp only [Sem.run_bind,run_underlying (tMap_spec ht),Result.andThen_ok,runGet hb,Sem.run_pure,hK.check,hfind]
  rw [←hget]
  cases hf:fAsk a (kv.map (·.1)) es.toList 0 with
  |none=>simp [tZ1_run hz]
  |some p=>obtain⟨i,v⟩:=p;simp
 have hrun:(execOp ac.eval o).run E.P w=.ok (.value (.tuple #[(kvGet a kv).getD z,.bool (kvGet a kv).isSome])) w:=by
  simp only [execOp,hop,Sem.run_bind,hlk,Result.andThen_ok]
  rfl
 unfold Oper.wp
 rw [hrun]
 exact s.put hd ⟨[_,_],rfl,cstC_rep _ _ _,rfl,trivial⟩
theorem drk_lookup2 {l:List Oper} {n:Nat} {α:Type} [DecidableEq α] {Kf:α→Value} {t kt et g:TypeId} {kv:List (α×Value)} {x ky:Operand} {ck:AV} {a:α} {z:Value} (hop:o.op=.lookup t x ky true) (hw:wantA l σ o=some true) (hd:dstOk E.N o.dst=true)
 (ht:tMap E.P t=some (kt,et)) (hK:KeyOk E.P kt Kf) (hz:tZ1 E.P et=some z) (hx:ev σ x=.c (.raw (.map (some g)))) (hg:h.get g=some (.gen (MapI Kf kv))) (hk:ev σ ky=ck) (hka:∀S w v,Rep S w ck v→v=Kf a)
 (k:DrK E h l K n rest (σ.setO o.dst (.tup [.c (cstC ((kvGet a kv).getD z)),.c (.bool (kvGet a kv).isSome)]))):DrK E h l K (n+1) (o::rest) σ:=drk_cons (Calm.lookup2 hop hw hd ht hK hz hx hg hk hka) k
end
end Go.AI
namespace Go.AI
section
variable {E : Env} {K : List It} {σ σ' : Sl} {h : Heap} {all rest : List Oper} {o : Oper}
theorem aw_min3 {x y z:Operand} {ts:Array TypeId} {a b c:Int} (hop:o.op=.call {callee:=.builtin .min,args:= #[x,y,z],argTypes:=ts}) (hw:wantA all σ o=some true) (hd:dstOk E.N o.dst=true)
  (hx:ev σ x=.c (.int .i64 a)) (hy:ev σ y=.c (.int .i64 b)) (hz:ev σ z=.c (.int .i64 c)) (k:aw E (.ops all rest::K) (σ.setO o.dst (.c (.int .i64 (min a (min b c))))) h):aw E (.ops all (o::rest)::K) σ h:=by
 refine aw_step hw (fun ac w s=> ?_) k
 have h1:ac.eval x=.int .i64 a:=by have:=ev_rep s x;rw [hx] at this;exact this
 have h2:ac.eval y=.int .i64 b:=by have:=ev_rep s y;rw [hy] at this;exact this
 have h3:ac.eval z=.int .i64 c:=by have:=ev_rep s z;rw [hz] at this;exact this
 have hrun:(execOp ac.eval o).run E.P w=.ok (.value (.int .i64 (min a (min b c)))) w:=by
  simp only [execOp,hop,resolve,invoke,Go.builtin,Sem.run_bind,Sem.run_pure,Result.andThen_ok,List.map_toArray,List.map_cons,List.map_nil,h1,h2,h3]
  have hm:(if c<(if b<a then b else a) then c else(if b<a then b else a))=min a (min b c):=by
   simp only [Int.min_def];split<;>split<;>(try split)<;>(try split)<;>omega
  simp [Builtin.min_,Builtin.min2,hm]
 exact⟨_,w,.inl hrun,s.put hd rfl⟩
end
end Go.AI
namespace Go.AI
section
variable {E : Env} {K : List It} {σ σ' : Sl} {h : Heap} {all l rest : List Oper} {o o1 o2 : Oper}
theorem aw_push2 {t e size bytes n d1 s gt:Nat} {z:List CV} {og:Option Nat} {f f':Nat→CV} {pre:Heap} {v:AV} (hop2:o2.op=.call {callee:=.builtin .append,args:= #[.tmp s,.tmp d1],argTypes:= #[t,t]})
  (hg2:o2.guard=none) (hd2:dstOk E.N o2.dst=true)
  (ht:tElem E.P t=some (e,size,bytes)) (hz:tZero E.P e=some z) (hzl:z.length=size) (hs0:0<size) (hsz:size≤16777216)
  (hevs:ev σ (.tmp s)=.c (gs og size n)) (hev1:ev σ (.tmp d1)=.c (.osl gt size 0 1)) (hog:og=none→n=0) (hok:okPart v=true) (hvl:v.cells.length=size) (hh:h=(gt,.cells e (1*size) (ofL v.cells))::(pre++gh og e (n*size) f))
  (h63:n+1≤maxLen) (hby:(n+1)*bytes≤140737488355328) (hf:∀j,j<(n+1)*size→appF f (n*size) (ofL v.cells) j=f' j)
  (kk:∀g',g'∉pre.keys→aw E (.ops all rest::K) ((σ.set d1 (.c .any)).setO o2.dst (.c (gs (some g') size (n+1)))) (pre++gh (some g') e ((n+1)*size) f')):aw E (.ops all (o2::rest)::K) σ h:=by
 subst hh
 obtain⟨ok1,ok2⟩:=okPart_spec hok
 have hw2:∀σ2,wantA all σ2 o2=some true:=fun σ2=>by unfold wantA;rw [hg2]
 have hsrc:∀h0:Heap,Src ((gt,.cells e (1*size) (ofL v.cells))::h0) size (.osl gt size 0 1) 1 (ofL v.cells):=fun h0=>by
  refine .osl (f':=ofL v.cells) (m:=1*size) (ty:=e) (by simp [Heap.get]) om (fun j _=>by rw [Nat.zero_add])
 have hle:∀(B:AV) (g':Nat),Sl.le ((σ.set d1 (.c .any)).setO o2.dst B) (σ.setO o2.dst B):=fun B g' t'=>by
  rw [setO_get,setO_get]
  by_cases e1:o2.dst=some t'
  ·rw [if_pos e1,if_pos e1];exact .inr rfl
  ·rw [if_neg e1,if_neg e1]
   simp only [Sl.get_set]
   by_cases e2:d1=t'
   ·rw [if_pos e2];exact .inl rfl
   ·rw [if_neg e2];exact .inr rfl
 have hkp:∀g':Nat,g'∉Heap.keys ((gt,.cells e (1*size) (ofL v.cells))::pre)→g'∉pre.keys:=fun g' hg' hm=>hg' (by simp only [Heap.keys,List.map_cons,List.mem_cons];exact .inr hm)
 have hperm:∀g':Nat,(pre++gh (some g') e ((n+1)*size) f').Sublist ((pre++[(g',.cells e ((n+1)*size) f')])):=fun g'=>List.Sublist.refl _
 cases og with
 |none=>
  have hn0:n=0:=hog rfl
  subst hn0
  refine aw_appendN (cx:=.osl gt size 0 1) (k:=1) (f2:=ofL v.cells) hop2 (hw2 _) hd2 ht hz hzl hs0 hevs hev1 (hsrc _) om om om fun g' hg'=> ?_
  refine aw_conv1 (f':=f') (fun j hj=> ?_) ?_
  ·have:=hf j om
   rw [←this];simp [appF]
  ·have hnew:g'∉pre.keys:=fun hm=>hg' (by simp only [Heap.keys,List.map_cons,List.mem_cons,gh,List.append_nil];exact .inr hm)
   refine aw_perm (h':=(gt,.cells e (1*size) (ofL v.cells))::(pre++[(g',.cells e (1*size) f')])) ?_ ?_
   ·have:(pre++gh none e (0*size) f)=pre:=by simp [gh]
    rw [this]
    refine(List.Perm.swap _ _ _).trans (List.Perm.cons _ ?_)
    exact(List.perm_append_singleton _ _).symm
   ·refine aw_weak (hle _ g') (List.Sublist.cons _ (List.Sublist.refl _)) ?_
    have:=kk g' hnew
    simpa [gh,gs] using this
 |some g=>
  refine aw_nd fun hnd=> ?_
  have hnp:g∉pre.keys:=fun hm=>by
   simp only [Heap.keys,gh,List.map_cons,List.map_append,List.map_nil,List.nodup_cons] at hnd
   have:=(List.nodup_append.1 hnd.2).2.2 g hm g (by simp)
   exact this rfl
  have hgtg:gt≠g:=fun e=>by
   subst e
   simp [Heap.keys,gh] at hnd
  refine aw_append (cx:=.osl gt size 0 1) (k:=1) (f2:=ofL v.cells) (g:=g) (m:=n*size) (f:=f) (h2:=(gt,.cells e (1*size) (ofL v.cells))::pre) hop2 (hw2 _) hd2 ht hz hzl hs0 hevs ?_ (Nat.le_refl _) hev1 (hsrc _) ?_ om h63 hby ?_ fun g' hg'=> ?_
  ·show Heap.get ((gt,_)::(pre++[(g,_)])) g=_
   simp only [Heap.get,if_neg hgtg]
   exact Heap.get_app hnp
  ·intro j hj
   have hjl:j<v.cells.length:=by omega
   rw [ofL_get v.cells j v.cells[j] (List.getElem?_eq_getElem hjl)]
   exact List.all_eq_true.1 ok2 _ (List.getElem_mem hjl)
  ·show Heap.del ((gt,_)::(pre++[(g,_)])) g=_
   rw [Heap.del_ne hgtg,Heap.del_app hnp]
  ·refine aw_conv1 (f':=f') hf ?_
   refine aw_perm (h':=(gt,.cells e (1*size) (ofL v.cells))::(pre++[(g',.cells e ((n+1)*size) f')])) ?_ ?_
   ·refine(List.Perm.swap _ _ _).trans (List.Perm.cons _ ?_)
    exact(List.perm_append_singleton _ _).symm
   ·refine aw_weak (hle _ g') (List.Sublist.cons _ (List.Sublist.refl _)) ?_
    exact kk g' (hkp g' hg')
theorem NewX.buildSlice {t e size bytes len:Nat} {xs:List Operand} {cells:List CV} (hop:o.op=.buildSlice t len (enumO 0 xs).toArray) (hw:wantA l σ o=some true) (hd:dstOk E.N o.dst=true) (ht:tElem E.P t=some (e,size,bytes))
  (hz:(tZero E.P e).isSome=true) (hl:xs.length=len) (hsm:len*size≤16777216) (hlm:len≤16777216) (hx:∀x∈xs,(ev σ x).flat=true∧(ev σ x).cells.all CV.solid=true∧(ev σ x).cells.length=size) (hc:(xs.map (ev σ)).flatMap AV.cells=cells) (hops:∀x∈xs,x∈o.op.operands):
  NewX E h l σ o (fun g=>.c (.osl g size 0 len)) (.cells e (len*size) (ofL cells)):=by
 subst hc
 refine NewX.of_run hw hd fun σ' ext a w he s=> ?_
 have hmap:xs.map (ev σ')=xs.map (ev σ):=List.map_congr_left fun x hx'=>he x (hops x hx')
 have hx2:∀x∈xs,(ev σ' x).flat=true∧(ev σ' x).cells.all CV.solid=true∧(ev σ' x).cells.length=size:=fun x hx'=>by rw [he x (hops x hx')];exact hx x hx'
 rw [←hmap]
 obtain⟨hu,inf,hi,hsz,_⟩:=tElem_spec ht
 obtain⟨z,hz'⟩:=Option.isSome_iff_exists.1 hz
 obtain⟨i',zv,hi',hzv,_⟩:=tZero_spec hz'
 rw [hi] at hi'
 injection hi' with hi'
 subst hi'
 obtain⟨hL,hcs⟩:=parts_rep s size xs hx2
 have hnk:w.heap.size∉(ext++h).keys:=fun hm=>Nat.lt_irrefl _ (s.klt hm)
 generalize hvs:xs.map a.eval=vs at hL hcs
 have hlv:vs.length=len:=by rw [←hvs];simpa using hl
 have hfl:(vs.flatMap fun v=>v.cells.toList).length=len*size:=by
  rw [←hlv]
  clear hL hvs hlv
  induction vs with
  |nil=>simp
  |cons v vs ih=>simp only [List.flatMap_cons,List.length_append,List.length_cons,ih (fun x hx=>hcs x (List.mem_cons_of_mem _ hx)),Nat.add_mul];have:=hcs v (by simp);simp [this];omega
 refine⟨.slice (some ⟨w.heap.size,0,none⟩) len len,w.alloc (.cells (vs.flatMap fun v=>v.cells.toList).toArray e),?_,Fr.alloc _ _ _,by simp,?_,?_⟩
 ·have hm:(Array.map (fun x:Nat×Operand=>(x.1,a.eval x.2)) (enumO 0 xs).toArray).toList=enumL 0 vs:=by
   rw [←hvs,←enum_map];simp
  have hfill:∀zc:Array Value,Instr.fill (fun i=>some (i*size,size)) ((Array.range (len*size)).map (fun x=>zc[x%zc.size]!)) (enumL 0 vs)=some (vs.flatMap fun v=>v.cells.toList).toArray:=fun zc=>by
   rw [fill_seq size vs 0 _ hcs (by simp [hlv])]
   rw [Nat.zero_mul,putL_full _ _ (by simp [hfl])]
  simp only [execOp,hop,Instr.buildSlice,Sem.run_bind,run_underlying hu,Result.andThen_ok,sizeOf,typeInfo,Sem.run_pure]
  simp only [run_program,hi,Result.andThen_ok,Sem.run_pure,hsz]
  rw [if_neg om]
  rw [hm]
  by_cases h0:len*size=0
  ·rw [if_pos h0]
   simp only [Sem.run_bind,Sem.run_pure,Result.andThen_ok,hfill]
   rfl
  ·rw [if_neg h0]
   simp only [Sem.run_bind,Sem.run_pure,Result.andThen_ok,zeroValue,typeInfo,run_program,hi,hzv,hfill]
   rfl
 ·have hr:=orep_new (C:=E.C) (w:=w) (ty:=e) (h':=((w.heap.size,AObj.cells e (len*size) (ofL ((xs.map (ev σ')).flatMap AV.cells)))::(ext++h))) (hL.keep (keeps_alloc hnk))
  have hcl:((xs.map (ev σ')).flatMap AV.cells).length=len*size:=by rw [←hL.length,hfl]
  rw [hcl] at hr
  exact hr
 ·exact⟨len,rfl,Nat.le_refl _,by unfold maxLen;omega,(vs.flatMap fun v=>v.cells.toList).toArray,e,⟨_,heap_alloc_new w _⟩,by simp [hfl]⟩
end
end Go.AI
namespace Go.AI
theorem permL {α:Type} (l:List α) (is js:List Nat) (h:is.Perm js):(is.filterMap fun i=>l[i]?).Perm (js.filterMap fun i=>l[i]?):=h.filterMap _
theorem eI {P:Prop} (k:P:=by(repeat' first|exact has0_nil|refine has0_cons ?_ ?_)<;>simp):P:=k
theorem Fh.mono {P:Program} {f:FuncId} {hc:Heap} {args:List AV} {Q Q':AV→Heap→Prop} (hf:Fh P f hc args Q) (h:∀r h',Q r h'→Q' r h'):Fh P f hc args Q':=
 ⟨hf.1,fun C vs h1 h2 h3 h4=>(hf.2 C vs h1 h2 h3 h4).mono (by
  rintro e w ⟨v,r,h',he,hq,rest⟩
  exact⟨v,r,h',he,h _ _ hq,rest⟩)⟩
def neA (a:Nat):List Nat→Prop
 |[]=>True
 |b::l=>((a=b)=False∧(b=a)=False)∧neA a l
def ndP:List Nat→Prop
 |[]=>True
 |a::l=>neA a l∧ndP l
theorem neA_of {a:Nat}:∀{l:List Nat},a∉l→neA a l
 |[],_=>trivial
 |b::l,h=>by
  rw [List.mem_cons,not_or] at h
  exact⟨⟨eq_false h.1,eq_false fun e=>h.1 e.symm⟩,neA_of h.2⟩
theorem ndP_of:∀{l:List Nat},l.Nodup→ndP l
 |[],_=>trivial
 |a::l,h=>by
  rw [List.nodup_cons] at h
  exact⟨neA_of h.1,ndP_of h.2⟩
section
variable {E : Env} {K : List It} {l : List Oper} {FP : Heap} {σ σ' : Sl} {h : Heap} {o : Oper} {i : Nat} {cs : List (Nat × Nat)}
theorem cw_callhv {FP':Heap} {m:Nat} {f:FuncId} {x:Operand} {gs:List Nat} {xs:List Operand} {ts:Array TypeId} {hc hr:Heap} {args:List AV} {Q:AV→Heap→Prop} (ho:l[i]?=some o) (hf:Fh E.P f hc (args++gs.map fun g=>.c (.optr g 0)) Q) (hop:o.op=.call {callee:=.value x,args:=xs.toArray,argTypes:=ts}) (hw:wantA l σ o=some true) (hd:dstOk E.N o.dst=true) (hx:ev σ x=.c (fnC f gs))
  (hp:h.Perm (hc++hr)) (le:LeA [] (xs.map (ev σ)) args) (hFP:∀r h',Q r h'→Has0 FP' (h'++hr)) (k:∀r h',Q r h'→(∀g∈h'.keys,g∉hr.keys)→CW E l K FP' cs (σ.setO o.dst r) (h'++hr)) (hm:m=2∨m=1∧FP'=FP:=by first|exact .inl rfl|exact .inr ⟨rfl,rfl⟩):CW E l K FP ((i,m)::cs) σ h:=by
 refine .pin ho hm (R:=fun r h2=>∃h',Q r h'∧(∀g∈h'.keys,g∉hr.keys)∧h2=h'++hr) (fun σ' K hs=> ?_) ?_ ?_
 ·have he:xs.map (ev σ')=xs.map (ev σ):=evs_same (fun x hx=>by rw [hop];simp [Op.operands,Call.operands,hx]) hs
  exact aw_callhv hf hop ((want_same hs).trans hw) hd ((ev_same (by rw [hop];simp [Op.operands,Call.operands]) hs).trans hx) hp (by rw [he];exact le) fun r h' hq hfr=>aw_ops_nil (aw_stop ⟨r,⟨h',hq,hfr,rfl⟩,rfl⟩)
 ·rintro r h2 ⟨h',hq,_,rfl⟩;exact hFP r h' hq
 ·rintro r h2 ⟨h',hq,hfr,rfl⟩;exact k r h' hq hfr
theorem aw_insNew {rest:List Oper} {α:Type} [DecidableEq α] {Kf:α→Value} {t kt et g:TypeId} {kv:List (α×Value)} {x ky vl:Operand} {ck cv:AV} {a:α} {v:Value} (hop:o.op=.insert t x ky vl) (hdn:o.dst=none) (hw:wantA l σ o=some true)
  (ht:tMap E.P t=some (kt,et)) (hK:KeyOk E.P kt Kf) (hx:ev σ x=.c (.raw (.map (some g)))) (hg:h.get g=some (.gen (MapI Kf kv))) (hk:ev σ ky=ck) (hka:∀S w u,Rep S w ck u→u=Kf a) (hv:ev σ vl=cv) (hva:∀S w u,Rep S w cv u→u=v)
  (hnew:kvGet a kv=none) {h':Heap} (hh:h.set g (.gen (MapI Kf (kv++[(a,v)])))=h') (k:aw E (.ops l rest::K) σ h'):aw E (.ops l (o::rest)::K) σ h:=by
 subst hh
 refine aw_step hw (fun ac w s=> ?_) k
 have h1:=ev_rep s x
 rw [hx] at h1
 have h1':ac.eval x=.map (some g):=h1
 have h2:=ev_rep s ky
 rw [hk] at h2
 have h2':=hka _ _ _ h2
 have h3:=ev_rep s vl
 rw [hv] at h3
 have h3':=hva _ _ _ h3
 obtain⟨ob,hb,es,c,rfl,hes⟩:=s.heap g _ (Heap.get_mem hg)
 have hkeys:es.toList.map (·.key)=(kv.map (·.1)).map Kf:=by
  have:=congrArg (List.map Prod.fst) hes
  rw [List.map_map,List.map_map] at this
  rw [List.map_map]
  exact this
 have hfind:=hK.find a (kv.map (·.1)) es.toList w hkeys
 have hget:=fAsk_get (K:=Kf) a kv es.toList 0 hes
 have hnone:fAsk a (kv.map (·.1)) es.toList 0=none:=by
  cases hf:fAsk a (kv.map (·.1)) es.toList 0 with
  |none=>rfl
  |some p=>rw [hf,hnew] at hget;cases hget
 have hgl:g<w.heap.size:=(Array.getElem?_eq_some_iff.1 hb).1
 let w':World:={w with heap:=w.heap.setIfInBounds g (.map (es.push {key:=Kf a,val:=v,born:=c}) (c+1))}
 have hrun:(Instr.mapUpdate t (ac.eval x) (ac.eval ky) (ac.eval vl)).run E.P w=.ok () w':=by
  rw [h1',h2',h3']
  unfold Instr.mapUpdate
  simp only [Sem.run_bind,run_underlying (tMap_spec ht),Result.andThen_ok,runGet hb,hK.check,hfind,hnone,runSet _ hb]
  rfl
 refine⟨undef,w',.inr ⟨?_,rfl⟩,?_⟩
 ·simp only [execOp,hop,Sem.run_bind,hrun,Result.andThen_ok]
  rfl
 ·rw [hdn]
  have hfr:Fr (fun b=>b=g) w w':=by
   refine⟨rfl,rfl,rfl,by simp [w'],Nat.le_refl _,fun b _ hne=> ?_,fun g' m hh=> ?_⟩
   ·simp only [w'];rw [Array.getElem?_setIfInBounds_ne (fun e=>hne e.symm)]
   ·obtain⟨cs,ty,⟨fr,hc⟩,hs⟩:=hh
    refine⟨cs,ty,⟨fr,?_⟩,hs⟩
    have hne:g'≠g:=fun e=>by rw [e,hb] at hc;cases hc
    simp only [w']
    rw [Array.getElem?_setIfInBounds_ne (fun e=>hne e.symm)];exact hc
  refine s.setObj hg hfr ⟨_,by simp only [w'];rw [Array.getElem?_setIfInBounds_self_of_lt hgl],_,_,rfl,?_⟩
  simp only [Array.toList_push,List.map_append,List.map_cons,List.map_nil,hes]
theorem wc3 {i:Nat} {FP:Heap} {cs:List (Nat×Nat)} (ho:l[i]?=some o) (hd:dstOk E.N o.dst=true) (k:∀R:Option (Prop×Sl)→Prop,(∀q σ',CW E l K FP cs σ' h→(hq:q:=by(try simp only [inRange])<;>and_intros<;>first|exact True.intro|omega|trivial)→R (some (q,σ')))→R (runOp2 E.P true [] l o σ)):CW E l K FP ((i,3)::cs) σ h:=by
 have:=k (fun x=>x=runOp2 E.P true [] l o σ→CW E l K FP ((i,3)::cs) σ h) (fun q σ' ha hq e=>by
  unfold runOp2 at e
  split at e
  ·rename_i hw
   split at e
   ·rename_i q1 r hp
    injection e with e
    injection e with e1 e2
    subst e1 e2
    exact .fre ho (Flt.pure hw hp hq hd) ha
   ·cases e
  ·rename_i hw
   injection e with e
   injection e with e1 e2
   subst e1 e2
   exact .fre ho (Flt.skip hw hd) ha
  ·cases e)
 exact this rfl
theorem cw_perm {h':Heap} (hp:h.Perm h') (k:CW E l K FP cs σ h'):CW E l K FP cs σ h:=by
 induction cs generalizing σ h h' with
 |nil=>
  cases k with
  |nil k=>exact .nil (aw_perm hp k)
 |cons c cs ih=>
  cases k with
  |flt ho hf k=>exact .flt ho hf (ih hp k)
  |fre ho hf k=>exact .fre ho hf (ih hp k)
  |pin ho hmk hpn hfp k=>exact .pin ho hmk (fun σ' K hs=>aw_perm hp (hpn σ' K hs)) hfp k
theorem NewX.makeMap {α:Type} {Kf:α→Value} {t:TypeId} (hop:o.op=.makeMap t none) (hw:wantA l σ o=some true) (hd:dstOk E.N o.dst=true):NewX E h l σ o (fun g=>.c (.raw (.map (some g)))) (.gen (MapI Kf [])):=by
 refine NewX.of_run hw hd fun σ' ext a w he s=> ?_
 refine⟨.map (some w.heap.size),w.alloc (.map #[] 0),?_,Fr.alloc _ _ _,by simp,⟨_,heap_alloc_new w _,_,_,rfl,rfl⟩,rfl⟩
 simp only [execOp,hop]
 rfl
theorem fill_congr {f g:Nat→Option (Nat×Nat)}:∀(vs:List (Nat×Value)) (us:Array Value),(∀p∈vs,g p.1=f p.1)→Instr.fill g us vs=Instr.fill f us vs
 |[],_,_=>rfl
 |(i,v)::vs,us,h=>by
  simp only [Instr.fill]
  rw [h (i,v) (List.mem_cons_self ..)]
  cases f i with
  |none=>rfl
  |some p=>
   simp only
   rw [fill_congr vs _ fun p hp=>h p (List.mem_cons_of_mem _ hp)]
def arrFl (n s:Nat):List (Nat×Nat):=(List.range n).map fun i=>(i*s,s)
theorem buildArr_ok {P:Program} {ρ:Operand→AV} {t el:TypeId} {n s:Nat} {ag:Bool} {ps:List (Nat×Operand)} {out z:List CV} (hu:P.underlying t=some (.array n el)) (hsz:tSz P el=some (ag,s)) (hz:tZero P t=some z) (hf:fillC (arrFl n s) z (mapCells ρ ps)=some out) (hps:∀p∈ps,p.1<n) (hreq:okParts ρ ps=true):
  POk P h ρ (.build t ps.toArray) (.agg out):=by
 intro S w e hS ho _
 obtain⟨i,zv,hi,hzv,rfl⟩:=tZero_spec hz
 have hreq':=okParts_spec hreq
 rw [mapCells_eq] at hf
 obtain⟨us',h1,h2⟩:=fillC_ok (S:=S) (w:=w) (arrFl n s) (ps.map fun p=>(p.1,(ρ p.2).cells)) (ps.map fun p=>(p.1,e p.2)) (zv.cells.toList.map cstC) zv.cells out (by simp)
  (fun j p q hp hq=>by
   rw [List.getElem?_map] at hp hq
   cases hj:ps[j]? with
   |none=>rw [hj] at hp;cases hp
   |some y=>
    rw [hj] at hp hq
    simp only [Option.map_some,Option.some.injEq] at hp hq
    subst hp
    subst hq
    have hm:y∈ps:=List.mem_of_getElem? hj
    obtain⟨hnt,hsol⟩:=hreq' y hm
    exact(rep_cells hnt hsol (ho y.2 (by simp only [Op.operands,List.mem_toArray,List.mem_map];exact⟨y,hm,rfl⟩))).1)
  (cstL_rep S w _) hf
 refine⟨.agg us',fun o hop=> ?_,us'.toList,by simp,h2⟩
 have hmap:(Array.map (fun x:Nat×Operand=>(x.1,e x.2)) ps.toArray).toList=ps.map fun p=>(p.1,e p.2):=by simp
 have hfc:Instr.fill (fun i=>some (i*s,s)) zv.cells (ps.map fun p=>(p.1,e p.2))=some us':=by
  rw [←h1]
  refine fill_congr _ _ fun p hp=> ?_
  obtain⟨q,hq,rfl⟩:=List.mem_map.1 hp
  have:=hps q hq
  simp [arrFl,this]
 simp only [execOp,hop,Instr.build,Sem.run_bind,zeroValue,typeInfo,run_program,hi,hzv,Result.andThen_ok,Sem.run_pure,run_underlying hu,(tSz_run hsz w).2]
 rw [hmap,hfc]
 rfl
end
end Go.AI
namespace Go.PN
open Go.AI
noncomputable def formTo (f:FM):Nat→List Bool
 |0=>[]
 |k+1=>formTo f k++[fvalB' f k]
where fvalB' (f:FM) (k:Nat):Bool:=ofB f (fvTo f k f.nodes.length) k f.top
theorem formTo_len (f:FM):∀k,(formTo f k).length=k
 |0=>rfl
 |k+1=>by simp [formTo,formTo_len f k]
end Go.PN
namespace Go.Proofs.YtefekdejgbceiaaGreat
open Go.AI Go.PN
attribute [local irreducible] aw Fa Fh DrK
theorem formula_fa (f:FM) (hf:FmOk f) (hv:f.vars≤24):Fa Tryz.prog 69 [.agg (fmc false f)] (.c (bs true (formTo f (2^f.vars.toNat)))):=by
 have f1:=hf.v0
 have e1:=shl_one f.vars.toNat om
 rw [show((f.vars.toNat:Nat):Int)=f.vars from by omega] at e1
 have hp:2^f.vars.toNat≤16777216:=by
  have h3:2^f.vars.toNat≤2^24:=Nat.pow_le_pow_right om om
  have h4:(2:Nat)^24=16777216:=by decide
  omega
 generalize 2^f.vars.toNat=M at*
 refine fa_of_body Tryz.func69 rfl rfl (by simp [Tryz.ntmps69]) fun C hC=> ?_
 simp only [initS,Nat.reduceAdd]
 refine yG e1 ?_
 refine yB e1 fun g1 hn_g1=>?_
 have J1:=oj e1 hn_g1
 refine yG J1 ?_
 refine aw_lp (fun x:Option Nat×Nat=>[(1,.c (.optr g1 0)),(3,.c (gs x.1 1 x.2)),(4,.c (.int .i64 x.2))]) (fun x=>[(g1,.cells 24 3 (ofL (fmc false f)))]++gh x.1 4 x.2 (bsF (formTo f x.2))) (fun x=>(x.1=none→x.2=0)∧(∀g,x.1=some g→¬g=g1)∧x.2≤M) (fun x=>M-x.2) (none,0) (zB J1) zZ ⟨fun _=>rfl,(fun g e=>by cases e),Nat.zero_le _⟩ ?_
 rintro ⟨og,k⟩ ⟨hog,hgn,hk⟩
 dsimp only at hog hgn hk⊢
 refine yS J1 ?_
 have hvl:=formTo_len f k
 refine yG J1 ?_
 refine yF J1 (fun hb=>?_) fun hb=>?_
 ·have hin:k<M:=dT hb
  refine yG J1 ?_
  refine yC J1 (fvalue_fa f hf k ?_) ?_
  ·omega
  refine yG J1 ?_
  refine aw_push (pre:=[(g1,.cells 24 3 (ofL (fmc false f)))]) rfl rfl rfl rfl rfl rfl rfl (zE J1) (zE J1) (by rfl) om om (zE J1) om (by exact hog) (zE J1) (by rfl) (by rfl) (by first|rfl|simp only [Nat.mul_one,List.nil_append,List.cons_append]<;>rfl) (by unfold maxLen;omega) om (by exact bs_push hvl _) fun g hn_g=> ?_
  replace hn_g:=Heap.ne_of hn_g
  first|dsimp only [Heap.ne,gh] at hn_g|dsimp only [Heap.ne] at hn_g|skip
  have J2:=oj e1 (oj hn_g1 hn_g)
  refine ySG J2 ?_
  refine aw_stop ⟨(some g,k+1),by dsimp only;omega,(zB J2),zZ,some_ne,(fun g e=>by cases e;exact(of_eq_false hn_g.1.1)),by dsimp only;omega⟩
 ·have hin:k=M:=dF hb
  subst hin
  refine yGT hC J1 ?_
  exact .one (.c (ler_gsb (pre:=[(g1,_)]) hog (fun g e=>by simp only [Heap.keys,List.map_cons,List.map_nil,List.mem_singleton];exact hgn g e) hvl))
end Go.Proofs.YtefekdejgbceiaaGreat
namespace Go.PN
open Go.AI
def findN (x:DN):List DN→Nat→Option Nat
 |[],_=>none
 |y::ns,i=>if y=x then some i else findN x ns (i+1)
end Go.PN
namespace Go.AI
section
variable {E : Env} {K : List It} {σ : Sl} {h : Heap}
theorem aw_rethw {P:Program} {fn:Func} {C:Ctx} {Q:AV→Heap→Prop} {rvs:List ResultVar} (hrs:fn.results=rvs.toArray) {h':Heap} (hsub:h'.Sublist h) (k:∀R:Option AV→Prop,(∀x,flatR x=true→Q x h'→R (some x))→R (resAV P σ h rvs)):
  aw (envOfH P fn C Q) (.code .ret::K) σ h:=by
 have hr:∀x,flatR x=true→Q x h'→some x=resAV P σ h rvs→aw (envOfH P fn C Q) (.code .ret::K) σ h:=fun x hf hq e a w s=>by
  refine wp_ret (exW_ret a w ?_)
  obtain⟨v,hv,hrep⟩:=results_run s hrs e.symm (flatR_spec hf)
  have hks:∀b,b∈h'.keys→b∈h.keys:=fun b hb=>by
   obtain⟨p,hp,e⟩:=List.mem_map.1 hb
   exact List.mem_map.2 ⟨p,hsub.subset hp,e⟩
  have kp:Keeps (Stab C h w) (Stab C h' w) w w:=⟨fun t b hb=>⟨hb.1,hb.2.1,fun hm=>hb.2.2 (hks b hm)⟩,fun _ _ _=>rfl,fun _ _ e=>e⟩
  exact⟨s.defers,v,hv,v,x,h',rfl,hq,(hsub.map _).nodup s.nodup,fun g hg=>s.keys g (hks g hg),hrep.keep kp,fun g o hm=>ORep.keep kp rfl (s.heap g o (hsub.subset hm)),s.frame⟩
 have:=k (fun y=>y=resAV P σ h rvs→aw (envOfH P fn C Q) (.code .ret::K) σ h) hr
 exact this rfl
end
theorem updF_at (xs:List CV) (i:Nat) (b:CV) (h:i<xs.length):updF (ofL xs) i [b]=ofL (xs.set i b):=by
 funext j
 simp only [updF]
 by_cases hj:j=i
 ·subst hj
  rw [if_pos rfl,ofL_get (xs.set j b) j b (by rw [List.getElem?_set_self h])]
 ·rw [if_neg hj]
  by_cases hl:j<xs.length
  ·rw [ofL_get xs j xs[j] (List.getElem?_eq_getElem hl),ofL_get (xs.set i b) j xs[j] (by rw [List.getElem?_set_ne (Ne.symm hj)];exact List.getElem?_eq_getElem hl)]
  ·have e:∀(ys:List CV) (n:Nat),ys.length≤n→ofL ys n=.any:=by
    intro ys
    induction ys with
    |nil=>intro n _;rfl
    |cons y ys ih=>
     intro n hn
     match n,hn with
     |n+1,hn=>exact ih n (by simpa using hn)
   rw [e xs j om,e (xs.set i b) j (by rw [List.length_set];omega)]
@[go_sem ↓] theorem updF_3_0 (a b c x:CV):updF (ofL [a,b,c]) 0 [x]=ofL [x,b,c]:=updF_at [a,b,c] 0 x (by simp)
@[go_sem ↓] theorem updF_3_1 (a b c x:CV):updF (ofL [a,b,c]) 1 [x]=ofL [a,x,c]:=updF_at [a,b,c] 1 x (by simp)
@[go_sem ↓] theorem updF_3_2 (a b c x:CV):updF (ofL [a,b,c]) 2 [x]=ofL [a,b,x]:=updF_at [a,b,c] 2 x (by simp)
theorem solid_gs3 {og:Option Nat} {s n m:Nat} {t:Bool} {f:Nat→CV} {k:IntKind} {z:Int}:(AV.agg [.row t 1 m f,gs og s n,.int k z]).cells.all CV.solid=true:=by
 cases og<;>rfl
end Go.AI

namespace Go.PN
open Go.AI
def lvZ (o:List Int) (ns:List DN) (r:Int):Int:=if r<2 then o.length else placeZ o (ns.getD (r-2).toNat dn0).v
structure NdOk (o:List Int) (ns:List DN) (i:Nat):Prop where
 nk:NodeOk o.length i (ns.getD i dn0)
 ne:(ns.getD i dn0).lo≠(ns.getD i dn0).hi
 bl:placeZ o (ns.getD i dn0).v<lvZ o ns (ns.getD i dn0).lo
 bh:placeZ o (ns.getD i dn0).v<lvZ o ns (ns.getD i dn0).hi
 new:ns.getD i dn0∉ns.take i
def TabOk (o:List Int) (ns:List DN):Prop:=∀i,i<ns.length→NdOk o ns i
def RefOk (ns:List DN) (r:Int):Prop:=0≤r∧r<ns.length+2
theorem TabOk.ns {o:List Int} {ns:List DN} (h:TabOk o ns):NsOk o.length ns:=fun i hi=>(h i hi).nk
theorem getD_app {ns xs:List DN} {i:Nat} (h:i<ns.length):(ns++xs).getD i dn0=ns.getD i dn0:=by
 rw [List.getD_eq_getElem?_getD,List.getD_eq_getElem?_getD,List.getElem?_append_left h]
theorem ref_app {ns xs:List DN} {r:Int} (h:RefOk ns r):RefOk (ns++xs) r:=by
 unfold RefOk at h⊢
 rw [List.length_append]
 omega
theorem lv_app {o:List Int} {ns xs:List DN} {r:Int} (h:RefOk ns r):lvZ o (ns++xs) r=lvZ o ns r:=by
 unfold lvZ
 unfold RefOk at h
 split
 ·rfl
 ·rw [getD_app om]
theorem evalF_app {m:Nat} {ns xs:List DN} {s:Nat} (hn:NsOk m ns):∀(k:Nat) (r:Int),RefOk ns r→evalF (ns++xs) s k r=evalF ns s k r
 |0,r,_=>rfl
 |k+1,r,hr=>by
  rw [evalF,evalF]
  split
  ·rfl
  ·rename_i h1
   unfold RefOk at hr
   rw [getD_app om]
   have:=kid_lt hn (s:=s) (r:=r) om hr.2
   unfold kid at this
   exact evalF_app hn k _ ⟨this.1,by omega⟩
theorem eval_app {m:Nat} {ns xs:List DN} {s:Nat} (hn:NsOk m ns) {r:Int} (hr:RefOk ns r):evalD (ns++xs) s r=evalD ns s r:=evalF_app hn _ _ hr
theorem kids_ref {o:List Int} {ns:List DN} (h:TabOk o ns) {i:Nat} (hi:i<ns.length):RefOk ns (ns.getD i dn0).lo∧RefOk ns (ns.getD i dn0).hi:=by
 obtain⟨_,_,l0,l1,h0,h1⟩:=(h i hi).nk
 exact⟨⟨l0,by omega⟩,⟨h0,by omega⟩⟩
theorem nd_app {o:List Int} {ns xs:List DN} (h:TabOk o ns) {i:Nat} (hi:i<ns.length):NdOk o (ns++xs) i:=by
 obtain⟨r1,r2⟩:=kids_ref h hi
 obtain⟨a,b,c,d,e⟩:=h i hi
 refine⟨?_,?_,?_,?_,?_⟩<;>rw [getD_app hi]
 ·exact a
 ·exact b
 ·rw [lv_app r1];exact c
 ·rw [lv_app r2];exact d
 ·rw [List.take_append_of_le_length om];exact e
theorem findN_none {x:DN}:∀{ns:List DN} {i:Nat},findN x ns i=none→x∉ns
 |[],_,_=>by simp
 |y::ns,i,h=>by
  rw [findN] at h
  split at h
  ·cases h
  ·rename_i hn
   rw [List.mem_cons,not_or]
   exact⟨fun e=>hn e.symm,findN_none h⟩
theorem findN_some {x:DN}:∀{ns:List DN} {i j:Nat},findN x ns i=some j→i≤j∧j<i+ns.length∧ns.getD (j-i) dn0=x
 |[],_,_,h=>by simp [findN] at h
 |y::ns,i,j,h=>by
  rw [findN] at h
  split at h
  ·rename_i e
   injection h with h
   subst h
   rw [Nat.sub_self]
   exact⟨Nat.le_refl _,by simp,e⟩
  ·obtain⟨h1,h2,h3⟩:=findN_some h
   refine⟨by omega,by simp;omega,?_⟩
   rw [show j-i=(j-(i+1))+1 from by omega]
   simpa using h3
def mkF (ns:List DN) (v lo hi:Int):List DN×Int:=
 if lo=hi then(ns,lo) else match findN ⟨v,lo,hi⟩ ns 0 with
  |some i=>(ns,2+i)
  |none=>(ns++[⟨v,lo,hi⟩],2+ns.length)
structure Later (o:List Int) (ns ns':List DN) (n:Nat):Prop where
 tab:TabOk o ns'
 pre:∃xs,ns'=ns++xs
 len:ns'.length≤ns.length+n
theorem Later.refl {o:List Int} {ns:List DN} (h:TabOk o ns) (n:Nat):Later o ns ns n:=⟨h,⟨[],by simp⟩,by omega⟩
theorem Later.trans {o:List Int} {a b c:List DN} {n m k:Nat} (h1:Later o a b n) (h2:Later o b c m) (hk:n+m≤k):Later o a c k:=by
 obtain⟨_,⟨xs,e1⟩,l1⟩:=h1
 obtain⟨t2,⟨ys,e2⟩,l2⟩:=h2
 exact⟨t2,⟨xs++ys,by rw [e2,e1,List.append_assoc]⟩,by omega⟩
theorem Later.ref {o:List Int} {a b:List DN} {n:Nat} (h:Later o a b n) {r:Int} (hr:RefOk a r):RefOk b r:=by
 obtain⟨xs,e⟩:=h.pre
 rw [e];exact ref_app hr
theorem Later.lv {o:List Int} {a b:List DN} {n:Nat} (h:Later o a b n) {r:Int} (hr:RefOk a r):lvZ o b r=lvZ o a r:=by
 obtain⟨xs,e⟩:=h.pre
 rw [e];exact lv_app hr
theorem Later.eval {o:List Int} {a b:List DN} {n:Nat} (h:Later o a b n) (ha:TabOk o a) {r:Int} (hr:RefOk a r) (s:Nat):evalD b s r=evalD a s r:=by
 obtain⟨xs,e⟩:=h.pre
 rw [e];exact eval_app ha.ns hr
theorem eval_node {o:List Int} {ns:List DN} (h:TabOk o ns) {i:Nat} (hi:i<ns.length) {v lo hi':Int} (e:ns.getD i dn0=⟨v,lo,hi'⟩) (s:Nat):evalD ns s (2+i)=if s.testBit v.toNat then evalD ns s hi' else evalD ns s lo:=by
 rw [evalD_step h.ns om om]
 unfold kid
 rw [show((2:Int)+(i:Int)-2).toNat=i from by omega,e]
 dsimp only
 split<;>rfl
theorem lv_node {o:List Int} {ns:List DN} {i:Nat}:lvZ o ns (2+i)=placeZ o (ns.getD i dn0).v:=by
 unfold lvZ
 rw [if_neg om,show((2:Int)+(i:Int)-2).toNat=i from by omega]
theorem mk_ok {o:List Int} {ns:List DN} (h:TabOk o ns) {v lo hi:Int} (hv0:0≤v) (hv1:v<o.length) (hl:RefOk ns lo) (hh:RefOk ns hi) (bl:placeZ o v<lvZ o ns lo) (bh:placeZ o v<lvZ o ns hi):
  Later o ns (mkF ns v lo hi).1 1∧RefOk (mkF ns v lo hi).1 (mkF ns v lo hi).2∧placeZ o v≤lvZ o (mkF ns v lo hi).1 (mkF ns v lo hi).2∧∀s,evalD (mkF ns v lo hi).1 s (mkF ns v lo hi).2=if s.testBit v.toNat then evalD ns s hi else evalD ns s lo:=by
 unfold mkF
 by_cases e:lo=hi
 ·subst e
  rw [if_pos rfl]
  exact⟨Later.refl h 1,hl,Int.le_of_lt bl,fun s=>by split<;>rfl⟩
 ·rw [if_neg e]
  cases hf:findN ⟨v,lo,hi⟩ ns 0 with
  |some i=>
   obtain⟨_,h2,h3⟩:=findN_some hf
   rw [Nat.sub_zero] at h3
   have hi':i<ns.length:=by omega
   refine⟨Later.refl h 1,⟨by show(0:Int)≤2+i;omega,by show(2:Int)+i<ns.length+2;omega⟩,?_,fun s=>eval_node h hi' h3 s⟩
   show placeZ o v≤lvZ o ns (2+i)
   rw [lv_node,h3]
   exact Int.le_refl _
  |none=>
   have hnew:=findN_none hf
   have hg:(ns++[(⟨v,lo,hi⟩:DN)]).getD ns.length dn0=⟨v,lo,hi⟩:=by
    rw [List.getD_eq_getElem?_getD,List.getElem?_append_right (Nat.le_refl _),Nat.sub_self];rfl
   have htab:TabOk o (ns++[(⟨v,lo,hi⟩:DN)]):=by
    intro i hi2
    rw [List.length_append,List.length_singleton] at hi2
    by_cases hin:i<ns.length
    ·exact nd_app h hin
    ·have:i=ns.length:=by omega
     subst this
     unfold RefOk at hl hh
     refine⟨?_,?_,?_,?_,?_⟩<;>rw [hg]
     ·exact⟨hv0,hv1,hl.1,hl.2,hh.1,hh.2⟩
     ·exact e
     ·rw [lv_app hl];exact bl
     ·rw [lv_app hh];exact bh
     ·rw [List.take_append_of_le_length (Nat.le_refl _),List.take_length];exact hnew
   refine⟨⟨htab,⟨_,rfl⟩,by simp⟩,⟨by show(0:Int)≤2+ns.length;omega,by show(2:Int)+ns.length<(ns++[_]).length+2;simp;omega⟩,?_,fun s=> ?_⟩
   ·show placeZ o v≤lvZ o (ns++[_]) (2+ns.length)
    rw [lv_node,hg]
    exact Int.le_refl _
   ·show evalD (ns++[_]) s (2+ns.length)=_
    rw [eval_node htab (by simp) hg s,eval_app h.ns hh,eval_app h.ns hl]
def kidsF (o:List Int) (ns:List DN) (r L:Int):Int×Int:=if lvZ o ns r≠L then(r,r) else((ns.getD (r-2).toNat dn0).lo,(ns.getD (r-2).toNat dn0).hi)
theorem place_at {o:List Int} {v L:Int} (h:placeZ o v=L) (hL:0≤L) (hv:v∈o):o.getD L.toNat 0=v:=by
 unfold placeZ at h
 rw [if_pos hv] at h
 have:L.toNat=o.idxOf v:=by omega
 rw [this]
 have hlt:=List.idxOf_lt_length_of_mem hv
 rw [getDZ hlt]
 exact List.getElem_idxOf hlt
theorem place_nonneg {o:List Int} {v:Int} (hv:v∈o):0≤placeZ o v:=by
 unfold placeZ
 rw [if_pos hv];omega
theorem lv_le {o:List Int} {ns:List DN} {r:Int}:lvZ o ns r≤o.length:=by
 unfold lvZ
 split
 ·omega
 ·unfold placeZ
  split
  ·rename_i h;have:=List.idxOf_lt_length_of_mem h;omega
  ·omega
theorem kids_ok {o:List Int} {ns:List DN} (h:TabOk o ns) (hm:∀v:Int,0≤v→v<o.length→v∈o) {r L:Int} (hr:RefOk ns r) (h0:0≤L) (hL:L<o.length) (hlv:L≤lvZ o ns r):
  RefOk ns (kidsF o ns r L).1∧RefOk ns (kidsF o ns r L).2∧L+1≤lvZ o ns (kidsF o ns r L).1∧L+1≤lvZ o ns (kidsF o ns r L).2∧∀s:Nat,evalD ns s r=if s.testBit (o.getD L.toNat 0).toNat then evalD ns s (kidsF o ns r L).2 else evalD ns s (kidsF o ns r L).1:=by
 unfold kidsF
 by_cases e:lvZ o ns r=L
 ·rw [if_neg (by simpa using e)]
  have hr2:2≤r:=by
   refine Classical.byContradiction fun hn=> ?_
   unfold lvZ at e
   rw [if_pos om] at e
   omega
  unfold RefOk at hr
  have hi:(r-2).toNat<ns.length:=by omega
  obtain⟨r1,r2⟩:=kids_ref h hi
  have nd:=h _ hi
  have hpl:placeZ o (ns.getD (r-2).toNat dn0).v=L:=by
   unfold lvZ at e
   rw [if_neg om] at e
   exact e
  have hvm:(ns.getD (r-2).toNat dn0).v∈o:=hm _ nd.nk.v0 nd.nk.v1
  have hg:=place_at hpl h0 hvm
  refine⟨r1,r2,by have:=nd.bl;show L+1≤lvZ o ns (ns.getD (r-2).toNat dn0).lo;omega,by have:=nd.bh;show L+1≤lvZ o ns (ns.getD (r-2).toNat dn0).hi;omega,fun s=> ?_⟩
  have:=eval_node h hi (v:=(ns.getD (r-2).toNat dn0).v) (lo:=(ns.getD (r-2).toNat dn0).lo) (hi':=(ns.getD (r-2).toNat dn0).hi) rfl s
  rw [show(2:Int)+(((r-2).toNat:Nat):Int)=r from by omega] at this
  rw [this,hg]
 ·rw [if_pos (by simpa using e)]
  exact⟨hr,hr,by show L+1≤lvZ o ns r;omega,by show L+1≤lvZ o ns r;omega,fun s=>by split<;>rfl⟩
abbrev Mem3:=List ((Int×Int×Int)×Int)
def lv3 (o:List Int) (ns:List DN) (k:Int×Int×Int):Int:=min (lvZ o ns k.1) (min (lvZ o ns k.2.1) (lvZ o ns k.2.2))
structure MemE (o:List Int) (ns:List DN) (e:(Int×Int×Int)×Int):Prop where
 c:RefOk ns e.1.1
 a:RefOk ns e.1.2.1
 b:RefOk ns e.1.2.2
 r:RefOk ns e.2
 lv:lv3 o ns e.1≤lvZ o ns e.2
 sem:∀s,evalD ns s e.2=if evalD ns s e.1.1 then evalD ns s e.1.2.1 else evalD ns s e.1.2.2
def MemOk (o:List Int) (ns:List DN) (mm:Mem3):Prop:=∀e∈mm,MemE o ns e
theorem Later.lv3 {o:List Int} {a b:List DN} {n:Nat} (h:Later o a b n) {k:Int×Int×Int} (h1:RefOk a k.1) (h2:RefOk a k.2.1) (h3:RefOk a k.2.2):Go.PN.lv3 o b k=Go.PN.lv3 o a k:=by
 unfold Go.PN.lv3
 rw [h.lv h1,h.lv h2,h.lv h3]
theorem MemE.later {o:List Int} {a b:List DN} {n:Nat} (h:Later o a b n) (ha:TabOk o a) {e:(Int×Int×Int)×Int} (he:MemE o a e):MemE o b e:=
 ⟨h.ref he.c,h.ref he.a,h.ref he.b,h.ref he.r,by rw [h.lv3 he.c he.a he.b,h.lv he.r];exact he.lv,fun s=>by rw [h.eval ha he.r,h.eval ha he.c,h.eval ha he.a,h.eval ha he.b];exact he.sem s⟩
theorem MemOk.later {o:List Int} {a b:List DN} {n:Nat} (h:Later o a b n) (ha:TabOk o a) {mm:Mem3} (hm:MemOk o a mm):MemOk o b mm:=fun e he=>(hm e he).later h ha
end Go.PN
namespace Go.PN
open Go.AI
structure ChP (o:List Int) (ns:List DN) (mm:Mem3) (c a b L:Int) (k:Nat) (ns':List DN) (mm':Mem3) (r:Int):Prop where
 lat:Later o ns ns' (2^k-1)
 mem:MemOk o ns' mm'
 mlen:mm'.length≤mm.length+(2^k-1)
 mnew:∀e∈mm',e∈mm∨L≤lv3 o ns' e.1
 ref:RefOk ns' r
 lv:L≤lvZ o ns' r
 sem:∀s,evalD ns' s r=if evalD ns s c then evalD ns s a else evalD ns s b
theorem ChP.same {o:List Int} {ns:List DN} {mm:Mem3} {c a b L:Int} {k:Nat} {r:Int} (ht:TabOk o ns) (hm:MemOk o ns mm) (hr:RefOk ns r) (hl:L≤lvZ o ns r) (hs:∀s,evalD ns s r=if evalD ns s c then evalD ns s a else evalD ns s b):ChP o ns mm c a b L k ns mm r:=
 ⟨Later.refl ht _,hm,by omega,fun e he=>.inl he,hr,hl,hs⟩
theorem ChP.step {o:List Int} {ns ns1 ns2:List DN} {mm mm1 mm2:Mem3} {c a b L lo hi:Int} {k:Nat} (hmem:∀v:Int,0≤v→v<o.length→v∈o) (hpm:∀i:Nat,i<o.length→0≤o.getD i 0∧o.getD i 0<o.length∧placeZ o (o.getD i 0)=i)
  (ht:TabOk o ns) (hc:RefOk ns c) (ha:RefOk ns a) (hb:RefOk ns b) (h0:0≤L) (hL:L<o.length) (hl:lv3 o ns (c,a,b)=L)
  (h1:ChP o ns mm (kidsF o ns c L).1 (kidsF o ns a L).1 (kidsF o ns b L).1 (L+1) k ns1 mm1 lo) (h2:ChP o ns1 mm1 (kidsF o ns c L).2 (kidsF o ns a L).2 (kidsF o ns b L).2 (L+1) k ns2 mm2 hi):
  ChP o ns mm c a b L (k+1) (mkF ns2 (o.getD L.toNat 0) lo hi).1 (mm2++[((c,a,b),(mkF ns2 (o.getD L.toNat 0) lo hi).2)]) (mkF ns2 (o.getD L.toNat 0) lo hi).2:=by
 unfold lv3 at hl
 simp only at hl
 obtain⟨v0,v1,vp⟩:=hpm L.toNat om
 have k1:=kids_ok ht hmem hc h0 hL om
 have k2:=kids_ok ht hmem ha h0 hL om
 have k3:=kids_ok ht hmem hb h0 hL om
 have hlo:=h2.lat.lv h1.ref
 have m:=mk_ok h2.lat.tab v0 v1 (h2.lat.ref h1.ref) h2.ref (by have:=h1.lv;omega) (by have:=h2.lv;omega)
 obtain⟨m1,m2,m3,m4⟩:=m
 have hp:2^(k+1)=2^k+2^k:=by rw [Nat.pow_succ];omega
 have hk:0<2^k:=Nat.pow_pos om
 have l12:Later o ns ns2 (2^k-1+(2^k-1)):=h1.lat.trans h2.lat (Nat.le_refl _)
 have l13:Later o ns (mkF ns2 (o.getD L.toNat 0) lo hi).1 (2^(k+1)-1):=l12.trans m1 om
 have hsem:∀s,evalD (mkF ns2 (o.getD L.toNat 0) lo hi).1 s (mkF ns2 (o.getD L.toNat 0) lo hi).2=if evalD ns s c then evalD ns s a else evalD ns s b:=fun s=>by
  rw [m4 s,h2.sem s,h2.lat.eval h1.lat.tab h1.ref,h1.sem s,h1.lat.eval ht k1.2.1,h1.lat.eval ht k2.2.1,h1.lat.eval ht k3.2.1,k1.2.2.2.2 s,k2.2.2.2.2 s,k3.2.2.2.2 s]
  cases s.testBit (o.getD L.toNat 0).toNat<;>rfl
 refine⟨l13,fun e he=> ?_,by rw [List.length_append,List.length_singleton];have:=h1.mlen;have:=h2.mlen;omega,fun e he=> ?_,m2,by omega,hsem⟩
 ·rcases List.mem_append.1 he with he|he
  ·exact(h2.mem e he).later m1 h2.lat.tab
  ·rw [List.mem_singleton] at he
   subst he
   refine⟨l13.ref hc,l13.ref ha,l13.ref hb,m2,?_,fun s=> ?_⟩
   ·rw [l13.lv3 (k:=(c,a,b)) hc ha hb]
    unfold lv3
    simp only
    omega
   ·show evalD _ s (mkF ns2 (o.getD L.toNat 0) lo hi).2=_
    rw [hsem s,l13.eval ht hc,l13.eval ht ha,l13.eval ht hb]
 ·rcases List.mem_append.1 he with he|he
  ·have hold:=h2.mem e he
   rcases h2.mnew e he with h|h
   ·rcases h1.mnew e h with h'|h'
    ·exact .inl h'
    ·have e1:=h1.mem e h
     right
     rw [(h2.lat.trans m1 (Nat.le_refl _)).lv3 e1.c e1.a e1.b]
     omega
   ·right
    rw [m1.lv3 hold.c hold.a hold.b]
    omega
  ·rw [List.mem_singleton] at he
   subst he
   right
   rw [l13.lv3 (k:=(c,a,b)) hc ha hb]
   unfold lv3
   simp only
   omega
theorem ChP.mono {o:List Int} {ns:List DN} {mm:Mem3} {c a b L L':Int} {k:Nat} {ns':List DN} {mm':Mem3} {r:Int} (h:ChP o ns mm c a b L k ns' mm' r) (hl:L'≤L):ChP o ns mm c a b L' k ns' mm' r:=
 ⟨h.lat,h.mem,h.mlen,fun e he=>(h.mnew e he).imp id fun x=>Int.le_trans hl x,h.ref,Int.le_trans hl h.lv,h.sem⟩
theorem lv3_nonneg {o:List Int} (hm:∀v:Int,0≤v→v<o.length→v∈o) {ns:List DN} (ht:TabOk o ns) {r:Int} (hr:RefOk ns r):0≤lvZ o ns r:=by
 unfold lvZ
 split
 ·omega
 ·unfold RefOk at hr
  obtain⟨v0,v1,_,_,_,_⟩:=(ht (r-2).toNat om).nk
  exact place_nonneg (hm _ v0 v1)
theorem lv_lt {o:List Int} {ns:List DN} (ht:TabOk o ns) {r:Int} (hr:RefOk ns r) (h2:2≤r):lvZ o ns r<o.length:=by
 have hi:(r-2).toNat<ns.length:=by unfold RefOk at hr;omega
 have nd:=ht _ hi
 have h1:=nd.bl
 have h3:=lv_le (o:=o) (ns:=ns) (r:=(ns.getD (r-2).toNat dn0).lo)
 unfold lvZ
 rw [if_neg om]
 omega
end Go.PN
namespace Go.PN
open Go.AI
theorem ieq_t {a b:Int} (h:a=b):(a==b)=true∧decide (a=b)=true∧(a !=b)=false∧(!decide (a=b))=false:=by subst h;simp
theorem ieq_f {a b:Int} (h:¬a=b):(a==b)=false∧decide (a=b)=false∧(a !=b)=true∧(!decide (a=b))=true:=by simp [h]
structure Sm (o:List Int) (ns:List DN) (sl sl':List Int) (r:Int):Prop where
 pre:∃zs,sl'=sl++zs
 len:sl'.length≤sl.length+(2^(o.length-lvZ o ns r).toNat-1)
theorem Sm.same {o:List Int} {ns:List DN} {sl:List Int} {r:Int}:Sm o ns sl sl r:=⟨⟨[],by simp⟩,by omega⟩
theorem Sm.node {o:List Int} {ns:List DN} {sl s1 s2:List Int} {r:Int} (ht:TabOk o ns) (h2:2≤r) (hr:r<ns.length+2) (a:Sm o ns (sl++[r]) s1 (ns.getD (r-2).toNat dn0).lo) (b:Sm o ns s1 s2 (ns.getD (r-2).toNat dn0).hi):Sm o ns sl s2 r:=by
 obtain⟨z1,e1⟩:=a.pre
 obtain⟨z2,e2⟩:=b.pre
 refine⟨⟨[r]++z1++z2,by rw [e2,e1];simp⟩,?_⟩
 have hi':(r-2).toNat<ns.length:=by omega
 have nd:=ht _ hi'
 have b1:=nd.bl
 have b2:=nd.bh
 have hlr:lvZ o ns r=placeZ o (ns.getD (r-2).toNat dn0).v:=by unfold lvZ;rw [if_neg om]
 have ll:=lv_le (o:=o) (ns:=ns) (r:=(ns.getD (r-2).toNat dn0).lo)
 have lh:=lv_le (o:=o) (ns:=ns) (r:=(ns.getD (r-2).toNat dn0).hi)
 have la:=a.len
 have lb:=b.len
 rw [List.length_append,List.length_singleton] at la
 obtain⟨q,hq⟩:∃q,(o.length-lvZ o ns r).toNat=q+1:=⟨(o.length-lvZ o ns r).toNat-1,by omega⟩
 have pa:2^((o.length:Int)-lvZ o ns (ns.getD (r-2).toNat dn0).lo).toNat≤2^q:=Nat.pow_le_pow_right om om
 have pb:2^((o.length:Int)-lvZ o ns (ns.getD (r-2).toNat dn0).hi).toNat≤2^q:=Nat.pow_le_pow_right om om
 have pq:0<2^q:=Nat.pow_pos om
 rw [hq,Nat.pow_succ]
 omega
def snL (sl:List Int):List (Int×Value):=sl.map fun e=>(e,.bool true)
theorem sn_get (r:Int):∀sl:List Int,kvGet r (snL sl)=if r∈sl then some (.bool true) else none
 |[]=>by simp [snL,kvGet]
 |e::sl=>by
  show(if r=e then some (Value.bool true) else kvGet r (snL sl))=_
  rw [sn_get r sl]
  by_cases h:r=e
  ·subst h;simp
  ·rw [if_neg h]
   by_cases hm:r∈sl
   ·rw [if_pos hm,if_pos (List.mem_cons_of_mem _ hm)]
   ·rw [if_neg hm,if_neg (by simp [h,hm])]
theorem sn_push (sl:List Int) (r:Int):snL sl++[(r,.bool true)]=snL (sl++[r]):=by simp [snL]
end Go.PN
namespace Go.PN
open Go.AI
def arityB (kind:Int) (n:Nat):Bool:=if kind=0 then decide ((n:Int)=0) else if kind=1 then decide ((n:Int)=1) else decide ((n:Int)≥1)&&decide ((n:Int)≤16)
def argOk (f:FM) (i:Nat) (a:Int):Bool:=decide (0≤a)&&decide (a<f.vars+i)
def kcode (x:FN):Int:=if x.kind=0 then(if x.k≠0∧x.k≠1 then 3 else 0) else if x.kind=4 then(if x.k<1∨(x.args.length:Int)<x.k then 3 else 0) else if x.k≠0 then 2 else 0
def fncode (f:FM) (i:Nat):Int:=
 if(f.nodes.getD i fn0).kind<0∨5<(f.nodes.getD i fn0).kind then 7 else if !arityB (f.nodes.getD i fn0).kind (f.nodes.getD i fn0).args.length then 11
 else if !(f.nodes.getD i fn0).args.all (argOk f i) then 10 else kcode (f.nodes.getD i fn0)
def ffirst (f:FM):Nat→Nat→Int
 |_,0=>0
 |i,k+1=>if fncode f i≠0 then fncode f i else ffirst f (i+1) k
def fvalidB (f:FM) (a:Int):Bool:=decide (f.vars≥0)&&(decide (a≥0)&&(decide (a<f.vars)||decide (a-f.vars<f.nodes.length)))
def fcode (f:FM):Int:=if f.vars<0∨24<f.vars then 3 else if 128<f.nodes.length then 4 else if ffirst f 0 f.nodes.length≠0 then ffirst f 0 f.nodes.length else if fvalidB f f.top then 0 else 10
theorem ffirst_step {f:FM} {i n:Nat} (h:i<n) (h0:fncode f i=0):ffirst f i (n-i)=ffirst f (i+1) (n-(i+1)):=by
 obtain⟨k,hk⟩:∃k,n-i=k+1:=⟨n-i-1,by omega⟩
 rw [hk,ffirst,if_neg (by simp [h0]),show n-(i+1)=k from by omega]
theorem ffirst_at {f:FM} {i n:Nat} (h:i<n) (h0:fncode f i≠0):ffirst f i (n-i)=fncode f i:=by
 obtain⟨k,hk⟩:∃k,n-i=k+1:=⟨n-i-1,by omega⟩
 rw [hk,ffirst,if_pos h0]
theorem ffirst_zero {f:FM}:∀(k i:Nat),ffirst f i k=0→∀j,i≤j→j<i+k→fncode f j=0
 |0,i,_,j,h1,h2=>by omega
 |k+1,i,h,j,h1,h2=>by
  rw [ffirst] at h
  split at h
  ·rename_i hn;exact absurd h hn
  ·rename_i hn
   rcases Nat.eq_or_lt_of_le h1 with e|e
   ·rw [←e];simpa using hn
   ·exact ffirst_zero k (i+1) h j om om
theorem all_take {p:Int→Bool} {l:List Int} (h:∀j,j<l.length→p (l.getD j 0)=true):l.all p=true:=by
 rw [List.all_eq_true]
 intro x hx
 obtain⟨j,hj,rfl⟩:=List.mem_iff_getElem.1 hx
 have:=h j hj
 rwa [List.getD_eq_getElem?_getD,List.getElem?_eq_getElem hj] at this
theorem all_not {p:Int→Bool} {l:List Int} {j:Nat} (hj:j<l.length) (h:p (l.getD j 0)=false):l.all p=false:=by
 rw [Bool.eq_false_iff]
 intro ha
 rw [List.all_eq_true] at ha
 have:=ha l[j] (List.getElem_mem hj)
 rw [List.getD_eq_getElem?_getD,List.getElem?_eq_getElem hj] at h
 rw [show(some l[j]).getD 0=l[j] from rfl] at h
 rw [h] at this
 cases this
end Go.PN
namespace Go.Proofs.YtefekdejgbceiaaGreat
open Go.AI Go.PN
attribute [local irreducible] aw Fa Fh DrK
theorem arguments_fa (kind:Int) (n:Nat):Fa Tryz.prog 121 [.c (.int .i64 kind),.c (.int .i64 n)] (.c (.bool (arityB kind n))):=by
 refine fa_of_body Tryz.func121 rfl rfl (by simp [Tryz.ntmps121]) fun C hC=> ?_
 simp only [initS,Nat.reduceAdd]
 refine xG ?_
 refine xF (fun h0=>?_) fun h0=>?_
 ·have h0':kind=0:=eq_of_beq h0
  refine xGT hC ?_
  refine .one (.c (ler_bool ?_))
  unfold arityB
  rw [if_pos h0']
  rw [Bool.eq_iff_iff];simp
 have h0':¬kind=0:=by simpa using h0
 refine xG ?_
 refine xF (fun h1=>?_) fun h1=>?_
 ·have h1':kind=1:=eq_of_beq h1
  refine xGT hC ?_
  refine .one (.c (ler_bool ?_))
  unfold arityB
  rw [if_neg h0',if_pos h1']
  rw [Bool.eq_iff_iff];simp
 have h1':¬kind=1:=by simpa using h1
 refine xG ?_
 refine aw_split 16 eE (fun h2=> ?_) (fun h2=> ?_)<;>refine xS ?_
 ·refine xGT hC ?_
  refine .one (.c (ler_bool ?_))
  unfold arityB
  rw [if_neg h0',if_neg h1',h2];rfl
 ·refine xGT hC ?_
  refine .one (.c (ler_bool ?_))
  unfold arityB
  rw [if_neg h0',if_neg h1',h2];rfl
theorem fvalid_fa (f:FM) (a:Int) (hv:f.vars≤1000) (ha0: -9223372036854775808≤a) (ha:a≤9223372036854775807):Fa Tryz.prog 82 [.agg (fmc false f),.c (.int .i64 a)] (.c (.bool (fvalidB f a))):=by
 refine fa_of_body Tryz.func82 rfl rfl (by simp [Tryz.ntmps82]) fun C hC=> ?_
 simp only [initS,Nat.reduceAdd]
 refine xG ?_
 refine xB fun g2 hn_g2=>?_
 refine yG hn_g2 ?_
 refine aw_split 8 (zE hn_g2) (fun h0=> ?_) (fun h0=> ?_)<;>refine yS hn_g2 ?_
 ·have h0':=of_decide_eq_true h0
  refine yG hn_g2 ?_
  refine aw_split 12 (zE hn_g2) (fun h1=> ?_) (fun h1=> ?_)<;>refine yS hn_g2 ?_
  ·have h1':=of_decide_eq_true h1
   refine yG hn_g2 ?_
   refine aw_split 17 (zE hn_g2) (fun h2=> ?_) (fun h2=> ?_)<;>refine yS hn_g2 ?_
   ·refine yGT hC hn_g2 ?_
    refine .one (.c (ler_bool ?_))
    unfold fvalidB
    rw [h0,h1,h2];rfl
   ·refine yGT hC hn_g2 ?_
    refine .one (.c (ler_bool ?_))
    unfold fvalidB
    rw [h0,h1,h2];rfl
  ·refine yGT hC hn_g2 ?_
   refine .one (.c (ler_bool ?_))
   unfold fvalidB
   rw [h0,h1];rfl
 ·refine yGT hC hn_g2 ?_
  refine .one (.c (ler_bool ?_))
  unfold fvalidB
  rw [h0];rfl
theorem fcheckNode_fa (f:FM) (i:Nat) (hi:i<f.nodes.length) (hv0:0≤f.vars) (hv:f.vars≤1000) (hil:i≤1000000) (hal:(f.nodes.getD i fn0).args.length≤1099511627776):
  Fa Tryz.prog 81 [.agg (fmc false f),.c (.int .i64 i)] (.c (errA (fncode f i))):=by
 unfold fncode
 refine fa_of_body Tryz.func81 rfl rfl (by simp [Tryz.ntmps81]) fun C hC=> ?_
 simp only [initS,Nat.reduceAdd]
 refine xG ?_
 refine xB fun g2 hn_g2=>?_
 refine yG hn_g2 ?_
 generalize hx:f.nodes.getD i fn0=x at*
 refine yA (oj hn_g2 hx) fun g5 hn_g5=>?_
 have J1:=oj hn_g2 (oj hx hn_g5)
 refine yGWSG J1 ?_
 refine aw_split 16 (zE J1) (fun h1=> ?_) (fun h1=> ?_)<;>refine yS J1 ?_
 ·have h1':=of_decide_eq_true h1
  rw [if_pos (.inl h1')]
  refine yGPGT hC J1 ?_
  exact .one (.c (ler_errN rfl (by decide)))
 have h1':=of_decide_eq_false h1
 refine yG J1 ?_
 refine yF J1 (fun h2=>?_) fun h2=>?_
 ·have h2':=of_decide_eq_true h2
  rw [if_pos (.inr om)]
  refine yGT hC J1 ?_
  exact .one (.c (ler_errN rfl (by decide)))
 have h2':=of_decide_eq_false h2
 rw [if_neg om]
 refine yG J1 ?_
 refine yC J1 (arguments_fa x.kind x.args.length) ?_
 refine yG J1 ?_
 refine yF J1 (fun h3=>?_) fun h3=>?_
 ·rw [if_pos h3]
  refine yGT hC J1 ?_
  exact .one (.c (ler_errN rfl (by decide)))
 rw [if_neg (by rw [h3];simp)]
 refine yG J1 ?_
 refine aw_lp (fun j:Nat=>[(1,.c (.int .i64 i)),(2,.c (.optr g2 0)),(5,.c (.optr g5 0)),(31,.c (is true x.args)),(32,.c (.int .i64 x.args.length)),(33,.c (.int .i64 j))]) (fun _=>[(g5,.cells 68 3 (ofL [.int .i64 x.kind,.int .i64 x.k,is true x.args])),(g2,.cells 24 3 (ofL (fmc false f)))]) (fun j=>j≤x.args.length∧∀q,q<j→argOk f i (x.args.getD q 0)=true) (fun j=>x.args.length-j) 0 (zB J1) zZ ⟨Nat.zero_le _,fun q hq=>by omega⟩ ?_
 rintro j ⟨hj,hq⟩
 refine yG J1 ?_
 refine yF J1 (fun h4=>?_) fun h4=>?_
 ·have h4':j<x.args.length:=dT h4
  refine yG J1 ?_
  refine aw_split 39 (zE J1) (fun h5=> ?_) (fun h5=> ?_)<;>refine yS J1 ?_
  ·have h5':=of_decide_eq_true h5
   rw [if_pos (by rw [all_not h4' (by unfold argOk;rw [decide_eq_false om];rfl)];rfl)]
   refine yGPGT hC J1 ?_
   exact .one (.c (ler_errN rfl (by decide)))
  have h5':=of_decide_eq_false h5
  refine yG J1 ?_
  refine yF J1 (fun h6=>?_) fun h6=>?_
  ·have h6':=of_decide_eq_true h6
   rw [if_pos (by rw [all_not h4' (by unfold argOk;rw [decide_eq_false (show¬x.args.getD j 0<f.vars+i by omega),Bool.and_false])];rfl)]
   refine yGT hC J1 ?_
   exact .one (.c (ler_errN rfl (by decide)))
  have h6':=of_decide_eq_false h6
  refine yG J1 ?_
  refine aw_stop ⟨j+1,by omega,(zB J1),zZ,by omega,fun q hql=> ?_⟩
  by_cases e:q=j
  ·subst e
   unfold argOk
   rw [decide_eq_true om,decide_eq_true om];rfl
  ·exact hq q om
 have h4':j=x.args.length:=dF h4
 subst h4'
 rw [if_neg (by rw [all_take hq];simp)]
 unfold kcode
 refine yG J1 ?_
 refine yF J1 (fun k0=>?_) fun k0=>?_
 ·have k0':x.kind=0:=eq_of_beq k0
  rw [if_pos k0']
  refine yG J1 ?_
  by_cases z0:x.k=0
  ·have zz:=ieq_t z0
   rw [if_neg om]
   have J2:=oj hn_g2 (oj hx (oj hn_g5 zz))
   refine yGNG J2 ?_
   refine yT hC J2 ?_
   exact .one (.c (ler_err0 rfl))
  ·have zz:=ieq_f z0
   have J3:=oj hn_g2 (oj hx (oj hn_g5 zz))
   refine yG J3 ?_
   refine yF J3 (fun k1=>?_) fun k1=>?_
   ·have k1':¬x.k=1:=by simpa using k1
    rw [if_pos ⟨z0,k1'⟩]
    refine yGT hC J3 ?_
    exact .one (.c (ler_errN rfl (by decide)))
   ·have k1':x.k=1:=by simpa using k1
    rw [if_neg om]
    refine yGT hC J3 ?_
    exact .one (.c (ler_err0 rfl))
 have k0':¬x.kind=0:=by simpa using k0
 rw [if_neg k0']
 refine yG J1 ?_
 refine yF J1 (fun k4=>?_) fun k4=>?_
 ·have k4':x.kind=4:=eq_of_beq k4
  rw [if_pos k4']
  refine yG J1 ?_
  refine aw_split 71 (zE J1) (fun q1=> ?_) (fun q1=> ?_)<;>refine yS J1 ?_
  ·have q1':=of_decide_eq_true q1
   rw [if_pos (.inl q1')]
   refine yGPGT hC J1 ?_
   exact .one (.c (ler_errN rfl (by decide)))
  have q1':=of_decide_eq_false q1
  refine yG J1 ?_
  refine yF J1 (fun q2=>?_) fun q2=>?_
  ·have q2':=of_decide_eq_true q2
   rw [if_pos (.inr om)]
   refine yGT hC J1 ?_
   exact .one (.c (ler_errN rfl (by decide)))
  ·have q2':=of_decide_eq_false q2
   rw [if_neg om]
   refine yGT hC J1 ?_
   exact .one (.c (ler_err0 rfl))
 have k4':¬x.kind=4:=by simpa using k4
 rw [if_neg k4']
 refine yG J1 ?_
 refine yF J1 (fun z1=>?_) fun z1=>?_
 ·have z1':¬x.k=0:=by simpa using z1
  rw [if_pos z1']
  refine yGT hC J1 ?_
  exact .one (.c (ler_errN rfl (by decide)))
 ·have z1':x.k=0:=by simpa using z1
  rw [if_neg om]
  refine yGT hC J1 ?_
  exact .one (.c (ler_err0 rfl))
end Go.Proofs.YtefekdejgbceiaaGreat
namespace Go.Proofs.YtefekdejgbceiaaGreat
open Go.AI Go.PN
attribute [local irreducible] aw Fa Fh DrK
def ArgsOk (f:FM):Prop:=∀x∈f.nodes,x.args.length≤1099511627776
theorem ArgsOk.at {f:FM} (h:ArgsOk f) (i:Nat):(f.nodes.getD i fn0).args.length≤1099511627776:=by
 by_cases hi:i<f.nodes.length
 ·rw [getFN hi];exact h _ (List.getElem_mem hi)
 ·rw [List.getD_eq_getElem?_getD,List.getElem?_eq_none om];show 0≤_;omega
theorem fcheck_fa (f:FM) (hn:f.nodes.length≤1099511627776) (ha:ArgsOk f) (ht0: -9223372036854775808≤f.top) (ht:f.top≤9223372036854775807):Fa Tryz.prog 39 [.agg (fmc false f)] (.c (errA (fcode f))):=by
 unfold fcode
 refine fa_of_body Tryz.func39 rfl rfl (by simp [Tryz.ntmps39]) fun C hC=> ?_
 simp only [initS,Nat.reduceAdd]
 refine xG ?_
 refine xB fun g1 hn_g1=>?_
 refine yG hn_g1 ?_
 refine aw_split 8 (zE hn_g1) (fun h1=> ?_) (fun h1=> ?_)<;>refine yS hn_g1 ?_
 ·have h1':=of_decide_eq_true h1
  rw [if_pos (.inl h1')]
  refine yGPGT hC hn_g1 ?_
  exact .one (.c (ler_errN rfl (by decide)))
 have h1':=of_decide_eq_false h1
 refine yG hn_g1 ?_
 refine yF hn_g1 (fun h2=>?_) fun h2=>?_
 ·have h2':=of_decide_eq_true h2
  rw [if_pos (.inr om)]
  refine yGT hC hn_g1 ?_
  exact .one (.c (ler_errN rfl (by decide)))
 have h2':=of_decide_eq_false h2
 rw [if_neg om]
 refine yG hn_g1 ?_
 refine yF hn_g1 (fun h3=>?_) fun h3=>?_
 ·have h3':=of_decide_eq_true h3
  rw [if_pos om]
  refine yGT hC hn_g1 ?_
  exact .one (.c (ler_errN rfl (by decide)))
 have h3':=of_decide_eq_false h3
 rw [if_neg om]
 refine yG hn_g1 ?_
 refine aw_lp (fun i:Nat=>[(1,.c (.optr g1 0)),(21,.c (.int .i64 f.nodes.length)),(22,.c (.int .i64 i))]) (fun _=>[(g1,.cells 24 3 (ofL (fmc false f)))]) (fun i=>i≤f.nodes.length∧ffirst f 0 f.nodes.length=ffirst f i (f.nodes.length-i)) (fun i=>f.nodes.length-i) 0 (zB hn_g1) zZ ⟨Nat.zero_le _,rfl⟩ ?_
 rintro i ⟨hi,hf⟩
 refine yG hn_g1 ?_
 refine yF hn_g1 (fun h4=>?_) fun h4=>?_
 ·have h4':i<f.nodes.length:=dT h4
  refine yG hn_g1 ?_
  refine yC hn_g1 (fcheckNode_fa f i h4' ?_ ?_ ?_ (ha.at i)) ?_
  ·omega
  ·omega
  ·omega
  refine yG hn_g1 ?_
  refine yF hn_g1 (fun h5=>?_) fun h5=>?_
  ·have h5':¬fncode f i=0:=by simpa using h5
   rw [hf,ffirst_at h4' h5',if_pos h5']
   refine yGT hC hn_g1 ?_
   exact .one (.c ler_err)
  ·have h5':fncode f i=0:=by simpa using h5
   refine yG hn_g1 ?_
   exact aw_stop ⟨i+1,by omega,(zB hn_g1),zZ,by omega,by rw [hf];exact ffirst_step h4' h5'⟩
 have h4':i=f.nodes.length:=dF h4
 subst h4'
 rw [hf,Nat.sub_self,if_neg (by rw [ffirst];simp)]
 refine yG hn_g1 ?_
 refine yC hn_g1 (fvalid_fa f f.top ?_ ht0 ht) ?_
 ·omega
 refine yG hn_g1 ?_
 refine yF hn_g1 (fun h6=>?_) fun h6=>?_
 ·have h6':fvalidB f f.top=false:=by simpa using h6
  rw [h6',if_neg (by simp)]
  refine yGT hC hn_g1 ?_
  exact .one (.c (ler_errN rfl (by decide)))
 ·have h6':fvalidB f f.top=true:=by simpa using h6
  rw [h6',if_pos rfl]
  refine yGT hC hn_g1 ?_
  exact .one (.c (ler_err0 rfl))
theorem fnodeR_fa (f:FM) (i:Nat) (hi:i<f.nodes.length) (hv0:0≤f.vars) (hv:f.vars≤1000) (hil:i≤1000000) (hal:(f.nodes.getD i fn0).args.length≤1099511627776):
  Fa Tryz.prog 110 [.agg (fmc false f),.c (.int .i64 i)] (.c (.int .i64 (fncode f i))):=by
 unfold fncode
 refine fa_of_body Tryz.func110 rfl rfl (by simp [Tryz.ntmps110]) fun C hC=> ?_
 simp only [initS,Nat.reduceAdd]
 refine xG ?_
 refine xB fun g2 hn_g2=>?_
 refine yG hn_g2 ?_
 generalize hx:f.nodes.getD i fn0=x at*
 refine yA (oj hn_g2 hx) fun g5 hn_g5=>?_
 have J1:=oj hn_g2 (oj hx hn_g5)
 refine yGWS J1 ?_
 refine yH J1 ?_
 apply aw_seq
 apply aw_region
 refine yH J1 ?_
 apply aw_seq
 refine aw_cut (fun y:Nat×Nat=>[(1,.c (.int .i64 i)),(2,.c (.optr g2 0)),(5,.c (.optr g5 0)),(6,.c (.int .i64 y.1)),(7,.c (.int .i64 y.2))]) (fun _=>[(g5,.cells 68 3 (ofL [.int .i64 x.kind,.int .i64 x.k,is true x.args])),(g2,.cells 24 3 (ofL (fmc false f)))]) (fun y=>(0≤x.kind∧x.kind≤5)∧arityB x.kind x.args.length=(decide (y.1≤x.args.length)&&decide (x.args.length≤y.2))) ?_ ?_
 ·refine yG J1 ?_
  refine yF J1 (fun k0=>?_) fun k0=>?_
  ·have k':x.kind=0:=eq_of_beq k0
   refine yG J1 ?_
   refine aw_stop ⟨(0,0),(zB J1),zZ,by omega,?_⟩
   unfold arityB
   rw [if_pos k',Bool.eq_iff_iff];simp
  have k0':¬x.kind=0:=by simpa using k0
  refine yG J1 ?_
  refine yF J1 (fun k1=>?_) fun k1=>?_
  ·have k':x.kind=1:=eq_of_beq k1
   refine yG J1 ?_
   refine aw_stop ⟨(1,1),(zB J1),zZ,by omega,?_⟩
   unfold arityB
   rw [if_neg k0',if_pos k',Bool.eq_iff_iff]
   simp only [decide_eq_true_eq,Bool.and_eq_true]
   omega
  have k1':¬x.kind=1:=by simpa using k1
  have hfin:0≤x.kind→x.kind≤5→(0≤x.kind∧x.kind≤5)∧arityB x.kind x.args.length=(decide (1≤x.args.length)&&decide (x.args.length≤16)):=fun h1 h2=>by
   refine⟨⟨h1,h2⟩,?_⟩
   unfold arityB
   rw [if_neg k0',if_neg k1',Bool.eq_iff_iff]
   simp only [decide_eq_true_eq,Bool.and_eq_true]
   omega
  refine yG J1 ?_
  refine yF J1 (fun k2=>?_) fun k2=>?_
  ·have k':x.kind=2:=eq_of_beq k2
   have J2:=oj hn_g2 (oj hx (oj hn_g5 k2))
   refine yGPG J2 ?_
   exact aw_stop ⟨(1,16),(zB J2),zZ,hfin om om⟩
  have k2':¬x.kind=2:=by simpa using k2
  refine yG J1 ?_
  refine yF J1 (fun k3=>?_) fun k3=>?_
  ·have k':x.kind=3:=eq_of_beq k3
   have J3:=oj hn_g2 (oj hx (oj hn_g5 k3))
   refine yGPG J3 ?_
   exact aw_stop ⟨(1,16),(zB J3),zZ,hfin om om⟩
  have k3':¬x.kind=3:=by simpa using k3
  refine yG J1 ?_
  refine yF J1 (fun k4=>?_) fun k4=>?_
  ·have k':x.kind=4:=eq_of_beq k4
   have J4:=oj hn_g2 (oj hx (oj hn_g5 k4))
   refine yGPG J4 ?_
   exact aw_stop ⟨(1,16),(zB J4),zZ,hfin om om⟩
  have k4':¬x.kind=4:=by simpa using k4
  refine yG J1 ?_
  refine yF J1 (fun k5=>?_) fun k5=>?_
  ·have k':x.kind=5:=eq_of_beq k5
   refine yG J1 ?_
   exact aw_stop ⟨(1,16),(zB J1),zZ,hfin om om⟩
  have k5':¬x.kind=5:=by simpa using k5
  rw [if_pos om]
  refine yGT hC J1 ?_
  exact .one (.c (.int _ _))
 rintro ⟨least,most⟩ ⟨hkind,har⟩
 dsimp only at hkind har⊢
 rw [if_neg om]
 refine yG J1 ?_
 refine aw_split 31 (zE J1) (fun a1=> ?_) (fun a1=> ?_)<;>refine yS J1 ?_
 ·have a1':=of_decide_eq_true a1
  rw [if_pos (by rw [har,decide_eq_false (show¬least≤x.args.length by omega)];rfl)]
  refine yGPGT hC J1 ?_
  exact .one (.c (.int _ _))
 have a1':=of_decide_eq_false a1
 refine yG J1 ?_
 refine yF J1 (fun a2=>?_) fun a2=>?_
 ·have a2':=of_decide_eq_true a2
  rw [if_pos (by rw [har,decide_eq_false (show¬x.args.length≤most by omega),Bool.and_false];rfl)]
  refine yGT hC J1 ?_
  exact .one (.c (.int _ _))
 have a2':=of_decide_eq_false a2
 rw [if_neg (by rw [har,decide_eq_true (show least≤x.args.length by omega),decide_eq_true (show x.args.length≤most by omega)];simp)]
 refine yG J1 ?_
 refine aw_lp (fun j:Nat=>[(1,.c (.int .i64 i)),(2,.c (.optr g2 0)),(5,.c (.optr g5 0)),(39,.c (is true x.args)),(40,.c (.int .i64 x.args.length)),(41,.c (.int .i64 j))]) (fun _=>[(g5,.cells 68 3 (ofL [.int .i64 x.kind,.int .i64 x.k,is true x.args])),(g2,.cells 24 3 (ofL (fmc false f)))]) (fun j=>j≤x.args.length∧∀q,q<j→argOk f i (x.args.getD q 0)=true) (fun j=>x.args.length-j) 0 (zB J1) zZ ⟨Nat.zero_le _,fun q hq=>by omega⟩ ?_
 rintro j ⟨hj,hq⟩
 refine yG J1 ?_
 refine yF J1 (fun h4=>?_) fun h4=>?_
 ·have h4':j<x.args.length:=dT h4
  refine yG J1 ?_
  refine aw_split 47 (zE J1) (fun h5=> ?_) (fun h5=> ?_)<;>refine yS J1 ?_
  ·have h5':=of_decide_eq_true h5
   rw [if_pos (by rw [all_not h4' (by unfold argOk;rw [decide_eq_false om];rfl)];rfl)]
   refine yGPGT hC J1 ?_
   exact .one (.c (.int _ _))
  have h5':=of_decide_eq_false h5
  refine yG J1 ?_
  refine yF J1 (fun h6=>?_) fun h6=>?_
  ·have h6':=of_decide_eq_true h6
   rw [if_pos (by rw [all_not h4' (by unfold argOk;rw [decide_eq_false (show¬x.args.getD j 0<f.vars+i by omega),Bool.and_false])];rfl)]
   refine yGT hC J1 ?_
   exact .one (.c (.int _ _))
  have h6':=of_decide_eq_false h6
  refine yG J1 ?_
  refine aw_stop ⟨j+1,by omega,(zB J1),zZ,by omega,fun q hql=> ?_⟩
  by_cases e:q=j
  ·subst e
   unfold argOk
   rw [decide_eq_true om,decide_eq_true om];rfl
  ·exact hq q om
 have h4':j=x.args.length:=dF h4
 subst h4'
 rw [if_neg (by rw [all_take hq];simp)]
 unfold kcode
 refine yG J1 ?_
 refine yF J1 (fun k0=>?_) fun k0=>?_
 ·have k0':x.kind=0:=eq_of_beq k0
  rw [if_pos k0']
  refine yG J1 ?_
  by_cases z0:x.k=0
  ·have zz:=ieq_t z0
   rw [if_neg om]
   have J5:=oj hn_g2 (oj hx (oj hn_g5 zz))
   refine yGNG J5 ?_
   refine yT hC J5 ?_
   exact .one (.c (.int _ _))
  ·have zz:=ieq_f z0
   have J6:=oj hn_g2 (oj hx (oj hn_g5 zz))
   refine yG J6 ?_
   refine yF J6 (fun k1=>?_) fun k1=>?_
   ·have k1':¬x.k=1:=by simpa using k1
    rw [if_pos ⟨z0,k1'⟩]
    refine yGT hC J6 ?_
    exact .one (.c (.int _ _))
   ·have k1':x.k=1:=by simpa using k1
    rw [if_neg om]
    refine yGT hC J6 ?_
    exact .one (.c (.int _ _))
 have k0':¬x.kind=0:=by simpa using k0
 rw [if_neg k0']
 refine yG J1 ?_
 refine yF J1 (fun k4=>?_) fun k4=>?_
 ·have k4':x.kind=4:=eq_of_beq k4
  rw [if_pos k4']
  refine yG J1 ?_
  refine aw_split 76 (zE J1) (fun q1=> ?_) (fun q1=> ?_)<;>refine yS J1 ?_
  ·have q1':=of_decide_eq_true q1
   rw [if_pos (.inl q1')]
   refine yGPGT hC J1 ?_
   exact .one (.c (.int _ _))
  have q1':=of_decide_eq_false q1
  refine yG J1 ?_
  refine yF J1 (fun q2=>?_) fun q2=>?_
  ·have q2':=of_decide_eq_true q2
   rw [if_pos (.inr om)]
   refine yGT hC J1 ?_
   exact .one (.c (.int _ _))
  ·have q2':=of_decide_eq_false q2
   rw [if_neg om]
   refine yGT hC J1 ?_
   exact .one (.c (.int _ _))
 have k4':¬x.kind=4:=by simpa using k4
 rw [if_neg k4']
 refine yG J1 ?_
 refine yF J1 (fun z1=>?_) fun z1=>?_
 ·have z1':¬x.k=0:=by simpa using z1
  rw [if_pos z1']
  refine yGT hC J1 ?_
  exact .one (.c (.int _ _))
 ·have z1':x.k=0:=by simpa using z1
  rw [if_neg om]
  refine yGT hC J1 ?_
  exact .one (.c (.int _ _))
theorem fvalidR_fa (f:FM) (a:Int) (hv:f.vars≤1000) (ha0: -9223372036854775808≤a) (ha:a≤9223372036854775807):Fa Tryz.prog 111 [.agg (fmc false f),.c (.int .i64 a)] (.c (.bool (fvalidB f a))):=by
 refine fa_of_body Tryz.func111 rfl rfl (by simp [Tryz.ntmps111]) fun C hC=> ?_
 simp only [initS,Nat.reduceAdd]
 refine xG ?_
 refine xB fun g2 hn_g2=>?_
 refine yG hn_g2 ?_
 refine aw_split 8 (zE hn_g2) (fun h0=> ?_) (fun h0=> ?_)<;>refine yS hn_g2 ?_
 ·have h0':=of_decide_eq_true h0
  refine yG hn_g2 ?_
  refine aw_split 12 (zE hn_g2) (fun h1=> ?_) (fun h1=> ?_)<;>refine yS hn_g2 ?_
  ·have h1':=of_decide_eq_true h1
   refine yG hn_g2 ?_
   refine aw_split 17 (zE hn_g2) (fun h2=> ?_) (fun h2=> ?_)<;>refine yS hn_g2 ?_
   ·refine yGT hC hn_g2 ?_
    refine .one (.c (ler_bool ?_))
    unfold fvalidB
    rw [h0,h1,h2];rfl
   ·refine yGT hC hn_g2 ?_
    refine .one (.c (ler_bool ?_))
    unfold fvalidB
    rw [h0,h1,h2];rfl
  ·refine yGT hC hn_g2 ?_
   refine .one (.c (ler_bool ?_))
   unfold fvalidB
   rw [h0,h1];rfl
 ·refine yGT hC hn_g2 ?_
  refine .one (.c (ler_bool ?_))
  unfold fvalidB
  rw [h0];rfl
theorem fcheckR_fa (f:FM) (hn:f.nodes.length≤1099511627776) (ha:ArgsOk f) (ht0: -9223372036854775808≤f.top) (ht:f.top≤9223372036854775807):Fa Tryz.prog 65 [.agg (fmc false f)] (.c (.int .i64 (fcode f))):=by
 unfold fcode
 refine fa_of_body Tryz.func65 rfl rfl (by simp [Tryz.ntmps65]) fun C hC=> ?_
 simp only [initS,Nat.reduceAdd]
 refine xG ?_
 refine xB fun g1 hn_g1=>?_
 refine yG hn_g1 ?_
 refine aw_split 8 (zE hn_g1) (fun h1=> ?_) (fun h1=> ?_)<;>refine yS hn_g1 ?_
 ·have h1':=of_decide_eq_true h1
  rw [if_pos (.inl h1')]
  refine yGPGT hC hn_g1 ?_
  exact .one (.c (.int _ _))
 have h1':=of_decide_eq_false h1
 refine yG hn_g1 ?_
 refine yF hn_g1 (fun h2=>?_) fun h2=>?_
 ·have h2':=of_decide_eq_true h2
  rw [if_pos (.inr om)]
  refine yGT hC hn_g1 ?_
  exact .one (.c (.int _ _))
 have h2':=of_decide_eq_false h2
 rw [if_neg om]
 refine yG hn_g1 ?_
 refine yF hn_g1 (fun h3=>?_) fun h3=>?_
 ·have h3':=of_decide_eq_true h3
  rw [if_pos om]
  refine yGT hC hn_g1 ?_
  exact .one (.c (.int _ _))
 have h3':=of_decide_eq_false h3
 rw [if_neg om]
 refine yG hn_g1 ?_
 refine aw_lp (fun i:Nat=>[(1,.c (.optr g1 0)),(19,.c (.int .i64 f.nodes.length)),(20,.c (.int .i64 i))]) (fun _=>[(g1,.cells 24 3 (ofL (fmc false f)))]) (fun i=>i≤f.nodes.length∧ffirst f 0 f.nodes.length=ffirst f i (f.nodes.length-i)) (fun i=>f.nodes.length-i) 0 (zB hn_g1) zZ ⟨Nat.zero_le _,rfl⟩ ?_
 rintro i ⟨hi,hf⟩
 refine yG hn_g1 ?_
 refine yF hn_g1 (fun h4=>?_) fun h4=>?_
 ·have h4':i<f.nodes.length:=dT h4
  refine yG hn_g1 ?_
  refine yC hn_g1 (fnodeR_fa f i h4' ?_ ?_ ?_ (ha.at i)) ?_
  ·omega
  ·omega
  ·omega
  refine yG hn_g1 ?_
  refine yF hn_g1 (fun h5=>?_) fun h5=>?_
  ·have h5':¬fncode f i=0:=by simpa using h5
   rw [hf,ffirst_at h4' h5',if_pos h5']
   refine yGT hC hn_g1 ?_
   exact .one (.c (.int _ _))
  ·have h5':fncode f i=0:=by simpa using h5
   refine yG hn_g1 ?_
   exact aw_stop ⟨i+1,by omega,(zB hn_g1),zZ,by omega,by rw [hf];exact ffirst_step h4' h5'⟩
 have h4':i=f.nodes.length:=dF h4
 subst h4'
 rw [hf,Nat.sub_self,if_neg (by rw [ffirst];simp)]
 refine yG hn_g1 ?_
 refine yC hn_g1 (fvalidR_fa f f.top ?_ ht0 ht) ?_
 ·omega
 refine yG hn_g1 ?_
 refine yF hn_g1 (fun h6=>?_) fun h6=>?_
 ·have h6':fvalidB f f.top=false:=by simpa using h6
  rw [h6',if_neg (by simp)]
  refine yGT hC hn_g1 ?_
  exact .one (.c (.int _ _))
 ·have h6':fvalidB f f.top=true:=by simpa using h6
  rw [h6',if_pos rfl]
  refine yGT hC hn_g1 ?_
  exact .one (.c (.int _ _))
end Go.Proofs.YtefekdejgbceiaaGreat
namespace Go.Proofs.YtefekdejgbceiaaGreat
open Go.AI Go.PN Go.ChangeShapes Go.WideShapes Go.RowKit
theorem i64_ge {x:Int} (h:(Lit.int .i64 x).wf=true): -9223372036854775808≤x:=by
 have hb: -9223372036854775808≤x∧x≤9223372036854775807:=by simpa [Lit.wf,IntKind.min,IntKind.max,IntKind.signed,IntKind.bits] using h
 exact hb.1
theorem i64_le {x:Int} (h:(Lit.int .i64 x).wf=true):x≤9223372036854775807:=by
 have hb: -9223372036854775808≤x∧x≤9223372036854775807:=by simpa [Lit.wf,IntKind.min,IntKind.max,IntKind.signed,IntKind.bits] using h
 exact hb.2
theorem rdr_args:Rdr Tryz.prog 28 (fun xs:List Int=>[is true xs]) (fun xs n=>xs.length≤n):=
 (rdr_slice (0:Int) true Tryz.underlying28 (s:=1) (by kernel_rfl) om (fun _ _ _ h _=>h) (rdr_int Tryz.underlying3)).to id (fun ys=>by
  show [CV.row true 1 ys.length _]=[CV.row true 1 ys.length _]
  congr 2
  funext j
  show _=ofL [CV.int .i64 (ys.getD (j/1) 0)] (j%1)
  rw [Nat.div_one,Nat.mod_one]
  rfl) (fun _ _ h=>h.1)
theorem rdr_fnode:Rdr Tryz.prog 68 (fun r:FN=>[CV.int .i64 r.kind,.int .i64 r.k,is true r.args]) (fun r n=>r.args.length≤n):=by
 have r:=rdr_struct3 Tryz.underlying68 (s0:=1) (s1:=1) (s2:=1) (by kernel_rfl) (by kernel_rfl) (by kernel_rfl) (by kernel_rfl) rfl rfl rfl (rdr_int Tryz.underlying3) (rdr_int Tryz.underlying3) rdr_args (fun _ _ _ h _=>h) (fun _ _ _ h _=>h) (fun _ _ _ h hm=>Nat.le_trans h hm)
 exact r.to (fun y=>⟨y.1,y.2.1,y.2.2⟩) (fun _=>rfl) (fun _ _ h=>h.2.2)
theorem rdr_fnodes:Rdr Tryz.prog 22 (fun p:List FN=>[fns false p]) (fun p n=>p.length≤n∧∀x∈p,x.args.length≤n):=
 (rdr_slice (B:=fun(r:FN) n=>r.args.length≤n) fn0 false Tryz.underlying22 (s:=3) (by kernel_rfl) om (fun _ _ _ h hm=>Nat.le_trans h hm) rdr_fnode).to id (fun _=>rfl) (fun _ _ h=>h)
theorem rdr_formula:Rdr Tryz.prog 24 (fun f:FM=>fmc false f) (fun f n=>f.nodes.length≤n∧(∀x∈f.nodes,x.args.length≤n)∧(Lit.int .i64 f.top).wf=true):=by
 have r:=rdr_struct3 Tryz.underlying24 (s0:=1) (s1:=1) (s2:=1) (by kernel_rfl) (by kernel_rfl) (by kernel_rfl) (by kernel_rfl) rfl rfl rfl (rdr_int Tryz.underlying3) rdr_fnodes (rdr_int Tryz.underlying3) (fun _ _ _ h _=>h) (fun _ _ _ h hm=>⟨Nat.le_trans h.1 hm,fun x hx=>Nat.le_trans (h.2 x hx) hm⟩) (fun _ _ _ h _=>h)
 exact r.to (fun y=>⟨y.1,y.2.1,y.2.2⟩) (fun _=>rfl) (fun _ _ h=>⟨h.2.1.1,h.2.1.2,h.2.2⟩)
theorem args_ok {f:FM} {n:Nat} (h:∀x∈f.nodes,x.args.length≤n) (hn:n≤1099511627776):ArgsOk f:=fun x hx=>Nat.le_trans (h x hx) hn
end Go.Proofs.YtefekdejgbceiaaGreat
namespace Go.PN
open Go.AI
theorem ratsF_upd {xs:List RD} {i:Nat} {v:RD} (hi:i<xs.length):updF (ratsF xs) (i*3) [CV.bool v.neg,ws true v.num,ws true v.den]=ratsF (xs.set i v):=lf_upd (c:=fun r:RD=>[CV.bool r.neg,ws true r.num,ws true r.den]) hi rfl om
end Go.PN

namespace Go.PN
open Go.AI
def updP (p:Nat→Rat) (v:Nat) (c:Rat):Nat→Rat:=fun j=>if j=v then c else p j
theorem ex_pcongr {p p':Nat→Rat}:∀(m:Nat) (f:Nat→Rat),(∀j,j<m→p j=p' j)→exQ p m f=exQ p' m f
 |0,f,_=>rfl
 |m+1,f,h=>by
  rw [exQ,exQ,ex_pcongr m _ (fun j hj=>h j om),ex_pcongr m _ (fun j hj=>h j om),h m om]
theorem ex_lin {p:Nat→Rat} {v:Nat}:∀(m:Nat) (f:Nat→Rat),v<m→exQ p m f=p v*exQ (updP p v 1) m f+(1-p v)*exQ (updP p v 0) m f
 |0,f,h=>by omega
 |m+1,f,h=>by
  rw [exQ,exQ,exQ]
  by_cases e:v=m
  ·subst e
   have e1:∀c g,exQ (updP p v c) v g=exQ p v g:=fun c g=>ex_pcongr v g fun j hj=>by unfold updP;rw [if_neg om]
   rw [e1,e1,e1,e1]
   have h1:updP p v 1 v=1:=by unfold updP;rw [if_pos rfl]
   have h0:updP p v 0 v=0:=by unfold updP;rw [if_pos rfl]
   rw [h1,h0]
   grind
  ·have hv:v<m:=by omega
   have h1:updP p v 1 m=p m:=by unfold updP;rw [if_neg (fun x=>e x.symm)]
   have h0:updP p v 0 m=p m:=by unfold updP;rw [if_neg (fun x=>e x.symm)]
   have i1:=ex_lin m f hv (p:=p)
   have i2:=ex_lin m (fun s=>f (s+2^m)) hv (p:=p)
   rw [h1,h0]
   generalize exQ (updP p v 1) m f=A at*
   generalize exQ (updP p v 0) m f=B at*
   generalize exQ (updP p v 1) m (fun s=>f (s+2^m))=A' at*
   generalize exQ (updP p v 0) m (fun s=>f (s+2^m))=B' at*
   rw [i1,i2]
   grind
theorem rd0_q:rd0.q=0:=by
 have:rd0=rd 0:=rd_zero.symm
 rw [this,rd_q]
end Go.PN
namespace Go.Proofs.YtefekdejgbceiaaGreat
open Go.AI Go.PN
abbrev prS (d:DG) (p:List RD):Rat:=sumQ p (tabL d) (2^p.length)
def impQ (d:DG) (p:List RD) (i:Nat):Rat:=prS d (p.set i (rd 1))-prS d (p.set i rd0)
theorem rd1_wf:(rd (1:Rat)).wf 4:=rd_wf (fits_mono fits_one om)
theorem rd0_wf4:rd0.wf 4:=by
 have:=rd_wf (q:=0) (L:=4) (fits_mono fits_zero om)
 rwa [rd_zero] at this
theorem rd_prob {q:Rat} (h0:0≤q) (h1:q≤1):(rd q).prob=true:=by
 unfold RD.prob
 rw [rd_q,decide_eq_true h0,decide_eq_true h1,rd_valid]
 rfl
theorem rd1_prob:(rd (1:Rat)).prob=true:=rd_prob (by decide) (by decide)
theorem rd0_prob:rd0.prob=true:=by
 have:=rd_prob (q:=0) (by decide) (by decide)
 rwa [rd_zero] at this
theorem dp_set {d:DG} {p:List RD} (h:dpcode d p=0) {i:Nat} {q:RD} (hq:q.prob=true):dpcode d (p.set i q)=0:=by
 have h0:=dp_ok h
 unfold dpcode at h⊢
 split at h
 ·rename_i h1;exact absurd h h1
 ·rename_i h1
  rw [if_neg h1]
  unfold pcode
  rw [List.length_set,if_neg om,if_pos]
  rw [List.all_eq_true]
  intro r hr
  rcases List.mem_or_eq_of_mem_set hr with hr|rfl
  ·exact h0.2.2 r hr
  ·exact hq
theorem Small.set {d:DG} {p:List RD} (hs:Small d p) (h:dpcode d p=0) {i:Nat} {q:RD} (hq:q.wf 4):Small d (p.set i q):=
 ⟨fun r hr=>by
  rcases List.mem_or_eq_of_mem_set hr with hr|rfl
  ·exact hs.w r hr
  ·exact hq,by rw [List.length_set];exact hs.l,hs.o,hs.n,fun _=>hs.o6 h⟩
theorem pr_fits {d:DG} {p:List RD} (hs:Small d p) (h0:dpcode d p=0):fits (prS d p) 4000:=by
 have h6:=hs.o6 h0
 obtain⟨ok,hpl,_⟩:=dp_ok h0
 refine fits_mono (fits_sum (L:=4) om hs.w _) ?_
 have h3:2^p.length≤2^6:=Nat.pow_le_pow_right om om
 have h4:=Nat.mul_le_mul (show(2*4+2)*p.length+2≤62 from by omega) h3
 omega
theorem imp_fits {d:DG} {p:List RD} (hs:Small d p) (h0:dpcode d p=0) (i:Nat):fits (impQ d p i) 9000:=by
 have f1:=pr_fits (hs.set h0 (i:=i) rd1_wf) (dp_set h0 rd1_prob)
 have f2:=pr_fits (hs.set h0 (i:=i) rd0_wf4) (dp_set h0 rd0_prob)
 exact fits_mono (fits_sub f1 f2) om
def bcode (d:DG) (p:List RD) (es:List Int):Int:=if dpcode d p≠0 then dpcode d p else if es.all (fun i=>decide (0≤i)&&decide (i<d.order.length)) then 0 else 10
theorem le_oslr2 {h:Heap} {g n:Nat} {ty:TypeId} {W:List RD} (hg:h.get g=some (.cells ty (n*3) (ratsF W))) (hn:n=W.length):LeC h (.osl g 3 0 n) (rats false W):=by
 subst hn
 exact .osl hg om (fun j _=>by rw [Nat.zero_add];exact .refl _)
def impL (d:DG) (p:List RD) (k:Nat):List RD:=(List.range k).map fun i=>rd (impQ d p i)
theorem impL_len (d:DG) (p:List RD) (k:Nat):(impL d p k).length=k:=by simp [impL]
theorem impL_succ (d:DG) (p:List RD) (k:Nat):impL d p (k+1)=impL d p k++[rd (impQ d p k)]:=by simp [impL,List.range_succ]
end Go.Proofs.YtefekdejgbceiaaGreat
namespace Go.PN
open Go.AI
def evB (b:Bool):Rat:=if b then 1 else 0
theorem unit_mix {p a b:Rat} (p0:0≤p) (p1:p≤1) (a0:0≤a) (a1:a≤1) (b0:0≤b) (b1:b≤1):0≤(1-p)*a+p*b∧(1-p)*a+p*b≤1:=by
 have q0:0≤1-p:=by grind
 have h1:=Rat.mul_nonneg q0 a0
 have h2:=Rat.mul_nonneg p0 b0
 have h3:=Rat.mul_nonneg q0 (show 0≤1-a by grind)
 have h4:=Rat.mul_nonneg p0 (show 0≤1-b by grind)
 constructor
 ·grind
 ·grind
theorem ex_unit {p:Nat→Rat}:∀(m:Nat) (f:Nat→Rat),(∀i,i<m→0≤p i∧p i≤1)→(∀s,0≤f s∧f s≤1)→0≤exQ p m f∧exQ p m f≤1
 |0,f,_,h=>h 0
 |m+1,f,hp,h=>by
  rw [exQ]
  obtain⟨a0,a1⟩:=ex_unit m f (fun i hi=>hp i om) h
  obtain⟨b0,b1⟩:=ex_unit m (fun s=>f (s+2^m)) (fun i hi=>hp i om) (fun s=>h _)
  exact unit_mix (hp m om).1 (hp m om).2 a0 a1 b0 b1
theorem evB_unit (b:Bool):0≤evB b∧evB b≤1:=by cases b<;>unfold evB<;>constructor<;>decide
end Go.PN
namespace Go.Proofs.YtefekdejgbceiaaGreat
open Go.AI Go.PN
theorem prS_ex {d:DG} {p:List RD} (h:d.order.length=p.length):prS d p=exQ (prP p) p.length (fun s=>evB (evalD d.nodes s d.root)):=by
 unfold prS
 rw [sumQ_ex]
 refine ex_congr _ _ _ fun s hs=> ?_
 unfold evB tabL
 rw [List.getD_eq_getElem?_getD,h]
 simp [hs]
theorem prob_unit {r:RD} (h:r.prob=true):0≤r.q∧r.q≤1:=by
 unfold RD.prob at h
 simp only [Bool.and_eq_true,decide_eq_true_eq] at h
 exact⟨by have:=h;grind,by have:=h;grind⟩
end Go.Proofs.YtefekdejgbceiaaGreat
namespace Go.PN
open Go.AI
def setB (s e:Nat) (b:Bool):Nat:=if s.testBit e=b then s else s^^^2^e
theorem setB_bit (s e:Nat) (b:Bool) (j:Nat):(setB s e b).testBit j=if j=e then b else s.testBit j:=by
 unfold setB
 split
 ·rename_i h
  split
  ·rename_i hj;rw [hj,h]
  ·rfl
 ·rename_i h
  rw [Nat.testBit_xor,Nat.testBit_two_pow]
  split
  ·rename_i hj
   subst hj
   cases hb:s.testBit j<;>cases b<;>simp_all
  ·rename_i hj
   rw [decide_eq_false (fun h=>hj h.symm),Bool.xor_false]
theorem tab_indep {o:List Int} {ns:List DN} (ht:TabOk o ns) {s t:Nat} {P:Int} (hb:∀j:Nat,j<o.length→P<placeZ o j→s.testBit j=t.testBit j):∀(n:Nat) (r:Int),r.toNat≤n→RefOk ns r→P<lvZ o ns r→evalD ns s r=evalD ns t r:=by
 intro n
 induction n with
 |zero=>
  intro r hn h0 hP
  rw [evalD_leaf om,evalD_leaf om]
 |succ n ih=>
  intro r hn h0 hP
  by_cases h2:2≤r
  ·unfold RefOk at h0
   have hi:(r-2).toNat<ns.length:=by omega
   have nd:=ht _ hi
   obtain⟨v0,v1,_,_,_,_⟩:=nd.nk
   obtain⟨r1,r2⟩:=kids_ref ht hi
   have b1:=nd.bl
   have b2:=nd.bh
   have hP':P<placeZ o (ns.getD (r-2).toNat dn0).v:=by
    unfold lvZ at hP
    rw [if_neg om] at hP
    exact hP
   have hbit:=hb (ns.getD (r-2).toNat dn0).v.toNat om (by rw [show(((ns.getD (r-2).toNat dn0).v.toNat:Nat):Int)=(ns.getD (r-2).toNat dn0).v from by omega];exact hP')
   have hk:=kid_lt ht.ns (s:=t) h2 h0.2
   rw [evalD_step ht.ns h2 h0.2,evalD_step ht.ns h2 h0.2]
   unfold kid at hk⊢
   rw [hbit]
   split
   ·rename_i hx
    rw [if_pos hx] at hk
    exact ih _ om r2 om
   ·rename_i hx
    rw [if_neg hx] at hk
    exact ih _ om r1 om
  ·rw [evalD_leaf om,evalD_leaf om]
theorem setB_indep {o:List Int} {ns:List DN} (ht:TabOk o ns) {r:Int} (hr:RefOk ns r) {e:Nat} (hl:placeZ o e<lvZ o ns r) (s:Nat) (b:Bool):evalD ns (setB s e b) r=evalD ns s r:=
 tab_indep ht (P:=placeZ o e) (fun j _ hp=>by rw [setB_bit,if_neg (fun h=>by subst h;omega)]) r.toNat r (Nat.le_refl _) hr hl
def CmR (ns0:List DN) (e:Nat) (y:Int) (ns:List DN) (r x:Int):Prop:=RefOk ns x∧∀s,evalD ns s x=evalD ns0 (setB s e (evalD ns0 s y)) r
theorem Later.loose {o:List Int} {a b:List DN} {n:Nat} (h:Later o a b n):Later o a b b.length:=⟨h.tab,h.pre,by omega⟩
structure CmOk (o:List Int) (ns0:List DN) (e:Nat) (y:Int) (ns:List DN) (mm:Mem3) (dl:List (Int×Int)):Prop where
 lat:Later o ns0 ns ns.length
 mem:MemOk o ns mm
 keys:(dl.map (·.1)).Nodup
 bd:∀x∈dl,2≤x.1∧x.1<ns0.length+2
 sem:∀x∈dl,CmR ns0 e y ns x.1 x.2
theorem CmR.later {o:List Int} {ns0 ns ns':List DN} {e:Nat} {y r x:Int} {n:Nat} (h:CmR ns0 e y ns r x) (ht:TabOk o ns) (hl:Later o ns ns' n):CmR ns0 e y ns' r x:=
 ⟨hl.ref h.1,fun s=>by rw [hl.eval ht h.1,h.2 s]⟩
theorem CmOk.later {o:List Int} {ns0:List DN} {e:Nat} {y:Int} {ns ns':List DN} {mm mm':Mem3} {dl:List (Int×Int)} (h:CmOk o ns0 e y ns mm dl) {n:Nat} (hl:Later o ns ns' n) (hm:MemOk o ns' mm'):CmOk o ns0 e y ns' mm' dl:=
 ⟨(h.lat.trans hl (Nat.le_refl _)).loose,hm,h.keys,h.bd,fun x hx=>(h.sem x hx).later h.lat.tab hl⟩
theorem CmOk.push {o:List Int} {ns0:List DN} {e:Nat} {y:Int} {ns:List DN} {mm:Mem3} {dl:List (Int×Int)} (h:CmOk o ns0 e y ns mm dl) {r x:Int} (h2:2≤r) (hr:r<ns0.length+2) (hnew:∀x∈dl,x.1≠r) (hx:CmR ns0 e y ns r x):
  CmOk o ns0 e y ns mm (dl++[(r,x)]):=by
 refine⟨h.lat,h.mem,?_,fun z hz=> ?_,fun z hz=> ?_⟩
 ·rw [List.map_append,List.map_singleton]
  refine List.nodup_append.2 ⟨h.keys,by simp,fun a ha b hb=> ?_⟩
  rw [List.mem_singleton] at hb
  subst hb
  obtain⟨z,hz,rfl⟩:=List.mem_map.1 ha
  exact hnew z hz
 ·rcases List.mem_append.1 hz with hz|hz
  ·exact h.bd z hz
  ·rw [List.mem_singleton] at hz;subst hz;exact⟨h2,hr⟩
 ·rcases List.mem_append.1 hz with hz|hz
  ·exact h.sem z hz
  ·rw [List.mem_singleton] at hz;subst hz;exact hx
theorem CmOk.len {o:List Int} {ns0:List DN} {e:Nat} {y:Int} {ns:List DN} {mm:Mem3} {dl:List (Int×Int)} (h:CmOk o ns0 e y ns mm dl):dl.length≤ns0.length:=by
 have:=nodup_range h.keys (fun x hx=>by obtain⟨z,hz,rfl⟩:=List.mem_map.1 hx;exact h.bd z hz)
 simpa using this
theorem CmOk.zero {o:List Int} {ns0:List DN} {e:Nat} {y:Int} {mm:Mem3} (ht:TabOk o ns0) (hm:MemOk o ns0 mm):CmOk o ns0 e y ns0 mm []:=
 ⟨Later.refl ht _,hm,List.nodup_nil,fun x hx=>absurd hx List.not_mem_nil,fun x hx=>absurd hx List.not_mem_nil⟩
def dnGet (r:Int):List (Int×Int)→Option Int
 |[]=>none
 |e::dl=>if r=e.1 then some e.2 else dnGet r dl
def dnL (dl:List (Int×Int)):List (Int×Value):=dl.map fun e=>(e.1,.int .i64 e.2)
theorem dn_get (r:Int):∀dl,kvGet r (dnL dl)=(dnGet r dl).map (Value.int .i64)
 |[]=>rfl
 |e::dl=>by
  show(if r=e.1 then some (Value.int .i64 e.2) else kvGet r (dnL dl))=_
  rw [dnGet,dn_get r dl]
  split<;>rfl
theorem dnL_push (dl:List (Int×Int)) (r x:Int):dnL dl++[(r,.int .i64 x)]=dnL (dl++[(r,x)]):=by simp [dnL]
theorem dn_mem {r x:Int}:∀{dl:List (Int×Int)},dnGet r dl=some x→(r,x)∈dl
 |[],h=>by simp [dnGet] at h
 |e::dl,h=>by
  rw [dnGet] at h
  split at h
  ·rename_i hk
   injection h with h
   subst hk h
   exact List.mem_cons_self ..
  ·exact List.mem_cons_of_mem _ (dn_mem h)
theorem dn_none {r:Int}:∀{dl:List (Int×Int)},dnGet r dl=none→∀e∈dl,e.1≠r
 |e::dl,h,e',he=>by
  rw [dnGet] at h
  split at h
  ·cases h
  ·rename_i hk
   rcases List.mem_cons.1 he with rfl|he
   ·exact fun x=>hk x.symm
   ·exact dn_none h e' he
theorem dn_none' {r:Int}:∀{dl:List (Int×Int)},(∀e∈dl,e.1≠r)→dnGet r dl=none
 |[],_=>rfl
 |e::dl,h=>by
  rw [dnGet,if_neg (fun x=>h e (List.mem_cons_self ..) x.symm)]
  exact dn_none' fun e' he=>h e' (List.mem_cons_of_mem _ he)
theorem cm_same {o:List Int} {ns0 ns:List DN} {e:Nat} {y r:Int} {n:Nat} (ht:TabOk o ns0) (hl:Later o ns0 ns n) (hr:RefOk ns0 r) (hlv:placeZ o e<lvZ o ns0 r):CmR ns0 e y ns r r:=
 ⟨hl.ref hr,fun s=>by rw [hl.eval ht hr,setB_indep ht hr hlv]⟩
theorem cm_here {o:List Int} {ns0 ns ns':List DN} {e:Nat} {y r x:Int} {n m:Nat} (ht:TabOk o ns0) (hl:Later o ns0 ns n) (hl2:Later o ns ns' m) (h2:2≤r) (hr:RefOk ns0 r) (hy:RefOk ns0 y) (he:(ns0.getD (r-2).toNat dn0).v=e)
  (hx:RefOk ns' x) (hs:∀s,evalD ns' s x=if evalD ns s y then evalD ns s (ns0.getD (r-2).toNat dn0).hi else evalD ns s (ns0.getD (r-2).toNat dn0).lo):CmR ns0 e y ns' r x:=by
 refine⟨hx,fun s=> ?_⟩
 have hi:(r-2).toNat<ns0.length:=by unfold RefOk at hr;omega
 obtain⟨r1,r2⟩:=kids_ref ht hi
 have nd:=ht _ hi
 rw [hs s,hl.eval ht hy,hl.eval ht r1,hl.eval ht r2]
 have en:=eval_node ht hi (v:=(ns0.getD (r-2).toNat dn0).v) (lo:=(ns0.getD (r-2).toNat dn0).lo) (hi':=(ns0.getD (r-2).toNat dn0).hi) rfl (setB s e (evalD ns0 s y))
 rw [show(2:Int)+(((r-2).toNat:Nat):Int)=r from by omega] at en
 have hbit:(setB s e (evalD ns0 s y)).testBit (ns0.getD (r-2).toNat dn0).v.toNat=evalD ns0 s y:=by rw [he,setB_bit,if_pos om]
 rw [en,hbit,setB_indep ht r1 (by have:=nd.bl;rw [he] at this;exact this),setB_indep ht r2 (by have:=nd.bh;rw [he] at this;exact this)]
theorem cm_node {ns0 ns':List DN} {o:List Int} {e:Nat} {y r x c a b:Int} {ns:List DN} (ht:TabOk o ns0) (h2:2≤r) (hr:RefOk ns0 r) (he:(ns0.getD (r-2).toNat dn0).v≠e)
  (hc:∀s,evalD ns s c=s.testBit (ns0.getD (r-2).toNat dn0).v.toNat) (ha:CmR ns0 e y ns (ns0.getD (r-2).toNat dn0).hi a) (hb:CmR ns0 e y ns (ns0.getD (r-2).toNat dn0).lo b)
  (hx:RefOk ns' x) (hs:∀s,evalD ns' s x=if evalD ns s c then evalD ns s a else evalD ns s b):CmR ns0 e y ns' r x:=by
 refine⟨hx,fun s=> ?_⟩
 have hi:(r-2).toNat<ns0.length:=by unfold RefOk at hr;omega
 obtain⟨v0,_,_,_,_,_⟩:=(ht _ hi).nk
 have en:=eval_node ht hi (v:=(ns0.getD (r-2).toNat dn0).v) (lo:=(ns0.getD (r-2).toNat dn0).lo) (hi':=(ns0.getD (r-2).toNat dn0).hi) rfl (setB s e (evalD ns0 s y))
 rw [show(2:Int)+(((r-2).toNat:Nat):Int)=r from by omega] at en
 have hbit:(setB s e (evalD ns0 s y)).testBit (ns0.getD (r-2).toNat dn0).v.toNat=s.testBit (ns0.getD (r-2).toNat dn0).v.toNat:=by rw [setB_bit,if_neg om]
 rw [hs s,hc s,ha.2 s,hb.2 s,en,hbit]
def cntTo (f:Nat→Bool):Nat→Nat
 |0=>0
 |k+1=>cntTo f k+if f k then 1 else 0
def indQ (f:Nat→Bool) (s:Nat):Rat:=if f s then 1 else 0
theorem ind_eq {f g:Nat→Bool} {s t:Nat} (h:f s=g t):indQ f s=indQ g t:=by unfold indQ;rw [h]
def cntR (o:List Int) (ns:List DN) (r:Int):Nat:=cntTo (fun s=>evalD ns s r) (2^o.length)
theorem ref_indep {o:List Int} {ns:List DN} (ht:TabOk o ns) {r:Int} (hr:RefOk ns r) {v:Nat} (hl:placeZ o v<lvZ o ns r):Indep o.length v (indQ fun s=>evalD ns s r):=fun s t _ _ hb=>by
 exact ind_eq (tab_indep ht (s:=s) (t:=t) (P:=placeZ o v) (fun j hj hp=>hb j hj (fun e=>by subst e;omega)) r.toNat r (Nat.le_refl _) hr hl)
end Go.PN
namespace Go.PN
open Go.AI
def MonoF (n:Nat) (f:Nat→Bool):Prop:=∀i:Nat,i<n→∀s,f (setB s i false)=true→f (setB s i true)=true
end Go.PN

namespace Go.PN
open Go.AI
structure FrOk (f:FM):Prop where
 v0:0≤f.vars
 v24:f.vars≤24
 n128:f.nodes.length≤128
 kind:∀i,i<f.nodes.length→0≤(f.nodes.getD i fn0).kind∧(f.nodes.getD i fn0).kind≤5
 ari:∀i,i<f.nodes.length→arityB (f.nodes.getD i fn0).kind (f.nodes.getD i fn0).args.length=true
 arg:∀i,i<f.nodes.length→∀a∈(f.nodes.getD i fn0).args,0≤a∧a<f.vars+i
 kc:∀i,i<f.nodes.length→kcode (f.nodes.getD i fn0)=0
 t0:0≤f.top
 t1:f.top<f.vars+f.nodes.length
theorem fr_ok {f:FM} (h:fcode f=0):FrOk f:=by
 unfold fcode at h
 split at h
 ·cases h
 ·rename_i h1
  split at h
  ·cases h
  ·rename_i h2
   split at h
   ·rename_i h3;exact absurd h h3
   ·rename_i h3
    split at h
    ·rename_i h4
     have hz:∀j,j<f.nodes.length→fncode f j=0:=fun j hj=>ffirst_zero f.nodes.length 0 (by simpa using h3) j om om
     have hs:∀j,j<f.nodes.length→(0≤(f.nodes.getD j fn0).kind∧(f.nodes.getD j fn0).kind≤5)∧arityB (f.nodes.getD j fn0).kind (f.nodes.getD j fn0).args.length=true∧(f.nodes.getD j fn0).args.all (argOk f j)=true∧kcode (f.nodes.getD j fn0)=0:=fun j hj=>by
      have hc:=hz j hj
      unfold fncode at hc
      split at hc
      ·cases hc
      ·rename_i q1
       split at hc
       ·cases hc
       ·rename_i q2
        split at hc
        ·cases hc
        ·rename_i q3
         exact⟨by omega,by simpa using q2,by simpa using q3,hc⟩
     unfold fvalidB at h4
     simp only [Bool.and_eq_true,Bool.or_eq_true,decide_eq_true_eq] at h4
     refine⟨by omega,by omega,by omega,fun i hi=>(hs i hi).1,fun i hi=>(hs i hi).2.1,fun i hi a ha=> ?_,fun i hi=>(hs i hi).2.2.2,by omega,by omega⟩
     have:=(hs i hi).2.2.1
     rw [List.all_eq_true] at this
     have:=this a ha
     unfold argOk at this
     simpa using this
    ·cases h
theorem FrOk.len {f:FM} (h:FrOk f) {i:Nat} (hi:i<f.nodes.length):(f.nodes.getD i fn0).args.length≤16:=by
 have:=h.ari i hi
 generalize f.nodes.getD i fn0=x at*
 unfold arityB at this
 split at this
 ·have:=of_decide_eq_true this;omega
 ·split at this
  ·have:=of_decide_eq_true this;omega
  ·rw [Bool.and_eq_true,decide_eq_true_eq,decide_eq_true_eq] at this;omega
theorem FrOk.at {f:FM} (h:FrOk f) {i j:Nat} (hi:i<f.nodes.length) (hj:j<(f.nodes.getD i fn0).args.length):0≤(f.nodes.getD i fn0).args.getD j 0∧(f.nodes.getD i fn0).args.getD j 0<f.vars+i:=by
 refine h.arg i hi _ ?_
 generalize (f.nodes.getD i fn0).args=l at*
 rw [List.getD_eq_getElem?_getD,List.getElem?_eq_getElem hj]
 exact List.getElem_mem hj
def markTo (az:List Int) (ms:List Bool):Nat→List Bool
 |0=>ms
 |j+1=>(markTo az ms j).set (az.getD j 0).toNat true
theorem markTo_len (az:List Int) (ms:List Bool):∀j,(markTo az ms j).length=ms.length
 |0=>rfl
 |j+1=>by rw [markTo,List.length_set,markTo_len az ms j]
theorem markTo_keep {az:List Int} {ms:List Bool} {q:Nat} (h:ms.getD q false=true):∀j,(markTo az ms j).getD q false=true
 |0=>h
 |j+1=>by
  rw [markTo,List.getD_eq_getElem?_getD]
  have ih:=markTo_keep (az:=az) h j
  by_cases e:(az.getD j 0).toNat=q
  ·subst e
   by_cases hl:(az.getD j 0).toNat<(markTo az ms j).length
   ·rw [List.getElem?_set_self hl];rfl
   ·rw [List.getD_eq_getElem?_getD,List.getElem?_eq_none om] at ih;cases ih
  ·rw [List.getElem?_set_ne e,←List.getD_eq_getElem?_getD];exact ih
theorem markTo_out {az:List Int} {ms:List Bool} {q:Nat} (h:∀j,j<az.length→(az.getD j 0).toNat≠q):∀j,j≤az.length→(markTo az ms j).getD q false=ms.getD q false
 |0,_=>rfl
 |j+1,hj=>by
  rw [markTo,List.getD_eq_getElem?_getD,List.getElem?_set_ne (h j om),←List.getD_eq_getElem?_getD,markTo_out h j om]
theorem markTo_in {az:List Int} {ms:List Bool}:∀{j q:Nat},q<j→(az.getD q 0).toNat<ms.length→(markTo az ms j).getD (az.getD q 0).toNat false=true
 |j+1,q,h,hl=>by
  by_cases e:q=j
  ·subst e
   rw [markTo,List.getD_eq_getElem?_getD,List.getElem?_set_self (by rw [markTo_len];exact hl)];rfl
  ·have ih:=markTo_in (az:=az) (ms:=ms) (show q<j by omega) hl
   rw [markTo,List.getD_eq_getElem?_getD]
   by_cases e2:(az.getD j 0).toNat=(az.getD q 0).toNat
   ·rw [e2,List.getElem?_set_self (by rw [markTo_len];exact hl)];rfl
   ·rw [List.getElem?_set_ne e2,←List.getD_eq_getElem?_getD];exact ih
def belTo (f:FM):Nat→List Bool
 |0=>(List.replicate (f.vars.toNat+f.nodes.length) false).set f.top.toNat true
 |j+1=>if(belTo f j).getD (f.vars.toNat+(f.nodes.length-1-j)) false then markTo (f.nodes.getD (f.nodes.length-1-j) fn0).args (belTo f j) (f.nodes.getD (f.nodes.length-1-j) fn0).args.length else belTo f j
theorem belTo_len (f:FM):∀j,(belTo f j).length=f.vars.toNat+f.nodes.length
 |0=>by simp [belTo]
 |j+1=>by
  rw [belTo]
  split
  ·rw [markTo_len,belTo_len f j]
  ·exact belTo_len f j
abbrev belL (f:FM):List Bool:=belTo f f.nodes.length
theorem belTo_keep {f:FM} {q j:Nat} (h:(belTo f j).getD q false=true):(belTo f (j+1)).getD q false=true:=by
 rw [belTo]
 split
 ·exact markTo_keep h _
 ·exact h
theorem belTo_out {f:FM} (ok:FrOk f) {j i:Nat} (hj:j<f.nodes.length) (hi:f.nodes.length-1-j≤i):(belTo f (j+1)).getD (f.vars.toNat+i) false=(belTo f j).getD (f.vars.toNat+i) false:=by
 rw [belTo]
 split
 ·refine markTo_out (fun q hq=> ?_) _ (Nat.le_refl _)
  have:=ok.at (i:=f.nodes.length-1-j) om hq
  have:=ok.v0
  omega
 ·rfl
theorem bel_closed {f:FM} (ok:FrOk f):∀j,j≤f.nodes.length→∀i,f.nodes.length≤i+j→i<f.nodes.length→(belTo f j).getD (f.vars.toNat+i) false=true→∀q,q<(f.nodes.getD i fn0).args.length→(belTo f j).getD ((f.nodes.getD i fn0).args.getD q 0).toNat false=true
 |0,_,i,h1,h2,_,_,_=>by omega
 |j+1,hj,i,h1,h2,hm,q,hq=>by
  rw [belTo_out ok om om] at hm
  by_cases e:f.nodes.length-1-j=i
  ·rw [belTo,e,if_pos hm]
   refine markTo_in hq ?_
   have:=ok.at h2 hq
   have:=ok.v0
   rw [belTo_len]
   omega
  ·exact belTo_keep (bel_closed ok j om i om h2 hm q hq)
theorem bel_top {f:FM} (ok:FrOk f):∀j,(belTo f j).getD f.top.toNat false=true
 |0=>by
  have:=ok.t0
  have:=ok.t1
  have:=ok.v0
  rw [belTo,List.getD_eq_getElem?_getD,List.getElem?_set_self (by simp;omega)];rfl
 |j+1=>belTo_keep (bel_top ok j)
def szTo (f:FM):Nat→Nat
 |0=>0
 |k+1=>szTo f k+if(belL f).getD (f.vars.toNat+k) false then 1 else 0
def arTo (f:FM):Nat→Nat
 |0=>0
 |k+1=>arTo f k+if(belL f).getD (f.vars.toNat+k) false then(f.nodes.getD k fn0).args.length else 0
theorem szTo_le (f:FM):∀k,szTo f k≤k
 |0=>Nat.le_refl _
 |k+1=>by have:=szTo_le f k;rw [szTo];split<;>omega
theorem arTo_le {f:FM} (ok:FrOk f):∀k,k≤f.nodes.length→arTo f k≤16*k
 |0,_=>Nat.le_refl _
 |k+1,h=>by
  have:=arTo_le ok k om
  have:=ok.len (i:=k) om
  rw [arTo]
  split<;>omega
end Go.PN
namespace Go.Proofs.YtefekdejgbceiaaGreat
open Go.AI Go.PN
attribute [local irreducible] aw Fa Fh DrK
theorem below_fa (f:FM) (ok:FrOk f):Fa Tryz.prog 70 [.agg (fmc false f)] (.c (bs true (belL f))):=by
 have v0:=ok.v0
 have v24:=ok.v24
 have n128:=ok.n128
 have t0:=ok.t0
 have t1:=ok.t1
 refine fa_of_body Tryz.func70 rfl rfl (by simp [Tryz.ntmps70]) fun C hC=> ?_
 simp only [initS,Nat.reduceAdd]
 refine xG ?_
 refine xB fun g1 hn_g1=>?_
 refine yG hn_g1 ?_
 refine aw_make (n:=f.vars.toNat+f.nodes.length) (c:=f.vars.toNat+f.nodes.length) (size:=1) (z:=[.bool false]) rfl rfl rfl (zE hn_g1) (zE hn_g1) rfl om (zE hn_g1) (zE hn_g1) om om om om om fun g3 hn_g3=> ?_
 simp only [Nat.mul_one]
 rw [make_bs]
 replace hn_g3:=Heap.ne_of hn_g3
 dsimp only [Heap.ne] at hn_g3
 have J1:=oj hn_g1 hn_g3
 refine ySGWS J1 ?_
 rw [updF_bs (i:=f.top.toNat) (zs:=List.replicate (f.vars.toNat+f.nodes.length) false) (v:=true) (by rw [List.length_replicate];omega)]
 refine yG J1 ?_
 have hN:((f.vars.toNat+f.nodes.length:Nat):Int)=f.vars+f.nodes.length:=by omega
 refine aw_lp (fun j:Nat=>[(1,.c (.optr g1 0)),(3,.c (.osl g3 1 0 (f.vars.toNat+f.nodes.length))),(4,.c (.int .i64 ((f.nodes.length:Int)-1-j)))]) (fun j=>[(g3,.cells 4 (f.vars.toNat+f.nodes.length) (bsF (belTo f j))),(g1,.cells 24 3 (ofL (fmc false f)))]) (fun j=>j≤f.nodes.length) (fun j=>f.nodes.length-j) 0 (by refine yS J1 ?_;simp) zZ (Nat.zero_le _) ?_
 rintro j hj
 have hbl:=belTo_len f j
 refine yG J1 ?_
 refine yF J1 (fun h1=>?_) fun h1=>?_
 ·have h1':j<f.nodes.length:=dT h1
  obtain⟨i,hi⟩:∃i:Nat,i=f.nodes.length-1-j:=⟨_,rfl⟩
  have hij:(f.nodes.length:Int)-1-(j:Int)=(i:Int):=by omega
  have hst:belTo f (j+1)=if(belTo f j).getD (f.vars.toNat+i) false then markTo (f.nodes.getD i fn0).args (belTo f j) (f.nodes.getD i fn0).args.length else belTo f j:=by rw [belTo,hi]
  have hil:i<f.nodes.length:=by omega
  have hidx:(f.vars+(i:Int)).toNat=f.vars.toNat+i:=by omega
  have hnx:(i:Int)-1=(f.nodes.length:Int)-1-((j+1:Nat):Int):=by omega
  have hln:=ok.len hil
  have hat:=fun q hq=>ok.at (j:=q) hil hq
  rw [hij]
  have J2:=oj hn_g1 (oj hn_g3 hidx)
  refine yG J2 ?_
  refine yF J2 (fun hm=>?_) fun hm=>?_
  ·rw [if_pos hm] at hst
   generalize hx:f.nodes.getD i fn0=x at*
   have J3:=oj hn_g1 (oj hn_g3 (oj hidx hx))
   refine yG J3 ?_
   refine aw_lp (fun q:Nat=>[(1,.c (.optr g1 0)),(3,.c (.osl g3 1 0 (f.vars.toNat+f.nodes.length))),(4,.c (.int .i64 (i:Int))),(38,.c (is true x.args)),(39,.c (.int .i64 x.args.length)),(40,.c (.int .i64 q))]) (fun q=>[(g3,.cells 4 (f.vars.toNat+f.nodes.length) (bsF (markTo x.args (belTo f j) q))),(g1,.cells 24 3 (ofL (fmc false f)))]) (fun q=>q≤x.args.length) (fun q=>x.args.length-q) 0 (zB J3) zZ (Nat.zero_le _) ?_
   rintro q hq
   have hml:=markTo_len x.args (belTo f j) q
   refine yG J3 ?_
   refine yF J3 (fun h2=>?_) fun h2=>?_
   ·have h2':q<x.args.length:=dT h2
    obtain⟨a0,a1⟩:=hat q h2'
    refine yGWS J3 ?_
    rw [updF_bs om]
    refine yG J3 ?_
    exact aw_stop ⟨q+1,by omega,(zB J3),zZ,by omega⟩
   ·have h2':q=x.args.length:=dF h2
    subst h2'
    refine yG J3 ?_
    rw [←hst]
    exact aw_stop ⟨j+1,by omega,by rw [←hnx];exact(zB J3),zZ,by omega⟩
  ·have hm':(belTo f j).getD (f.vars.toNat+i) false=false:=hm
   rw [if_neg (by rw [hm'];simp)] at hst
   refine yG J2 ?_
   rw [←hst]
   exact aw_stop ⟨j+1,by omega,by rw [←hnx];exact(zB J2),zZ,by omega⟩
 ·have h1':j=f.nodes.length:=dF h1
  subst h1'
  refine yGT hC J1 ?_
  exact .one (.c (ler_oslbs (zE J1) hbl.symm))
end Go.Proofs.YtefekdejgbceiaaGreat
