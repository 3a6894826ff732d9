/- Parts of one proof, laid by a program. -/
import Derived.Test.YtfcnbgmclfkfcaaGreatM00
import Derived.Test.YtfcnbgmclfkfcaaGreatM16
set_option linter.unusedSimpArgs false
set_option linter.unusedVariables false
namespace Go.AI
section
variable {P : Program}
def keyI (n:Int):Value:=.int .i64 n
theorem keyI_ok {kt:TypeId} (ht:P.underlying kt=some (.int .i64)):KeyOk P kt keyI:=by
 refine⟨fun b a w=> ?_,fun a ks es w h=> ?_⟩
 ·unfold Instr.checkKey keyI
  simp only [Sem.run_bind,run_underlying ht,Result.andThen_ok]
  rfl
 ·unfold Instr.findKey
  simp only [Sem.run_bind,run_underlying ht,Result.andThen_ok]
  have hn:∀(ks:List Int) (es:List MapEntry) (i:Nat),es.map (·.key)=ks.map keyI→Instr.findNow (.int .i64) (keyI a) es i=some (fAsk a ks es i):=by
   intro ks
   induction ks with
   |nil=>
    intro es i h
    cases es with
    |nil=>rfl
    |cons e es=>simp at h
   |cons k ks ih=>
    intro es i h
    cases es with
    |nil=>simp at h
    |cons e es=>
     simp only [List.map_cons,List.cons.injEq] at h
     simp only [Instr.findNow,fAsk,h.1,keyI,Instr.sameNow,if_true]
     by_cases hk:a=k
     ·subst hk;simp
     ·have:(a==k)=false:=by simpa using hk
      rw [this,if_neg hk]
      exact ih es (i+1) h.2
  rw [hn ks es 0 h]
  rfl
def key3 (k:Int×Int×Int):Value:=.agg #[.int .i64 k.1,.int .i64 k.2.1,.int .i64 k.2.2]
theorem key3_ok {kt e:TypeId} (ht:P.underlying kt=some (.array 3 e)) (he:P.underlying e=some (.int .i64)) {inf:TypeInfo} (hi:P.info? e=some inf) (hs:inf.size=1):KeyOk P kt key3:=by
 have hag:∀w,(isAgg e).run P w=.ok false w:=fun w=>by simp [isAgg,run_underlying he]
 have hsz:∀w,(sizeOf e).run P w=.ok 1 w:=fun w=>by simp [sizeOf,typeInfo,hi,hs]
 have hp:∀(a b c:Int) w,(part e #[.int .i64 a,.int .i64 b,.int .i64 c] 0).run P w=.ok (.int .i64 a) w∧(part e #[.int .i64 a,.int .i64 b,.int .i64 c] 1).run P w=.ok (.int .i64 b) w∧(part e #[.int .i64 a,.int .i64 b,.int .i64 c] 2).run P w=.ok (.int .i64 c) w:=fun a b c w=>by
  unfold part
  simp only [Sem.run_bind,hag,Result.andThen_ok,Bool.false_eq_true,if_false]
  exact⟨rfl,rfl,rfl⟩
 have hck:∀b n x w,(Instr.checkKey b (n+1) e (.int .i64 x)).run P w=.ok () w:=fun b n x w=>by simp [Instr.checkKey,run_underlying he]
 have heq1:∀d x y w,(Op.equalIn (d+1) e (.int .i64 x) (.int .i64 y)).run P w=.ok (x==y) w:=fun d x y w=>by simp [Op.equalIn,run_underlying he]
 refine⟨fun b a w=> ?_,fun a ks es w h=> ?_⟩
 ·obtain⟨x,y,z⟩:=a
  obtain⟨p0,p1,p2⟩:=hp x y z w
  show(Instr.checkKey b (9998+1+1) kt (key3 (x,y,z))).run P w=_
  unfold Instr.checkKey key3
  have hck9:∀x w,(Instr.checkKey b 9999 e (.int .i64 x)).run P w=.ok () w:=fun x w=>hck b 9998 x w
  simp [run_underlying ht]
  rw [show List.range' 0 3=[0,1,2] from rfl]
  simp [hsz,p0,p1,p2,hck9]
 ·have hfeq:∀a b w,(Op.equal kt (key3 a) (key3 b)).run P w=.ok (decide (a=b)) w:=fun a b w=>by
   obtain⟨x,y,z⟩:=a
   obtain⟨x',y',z'⟩:=b
   have hp0:=fun a b c w=>(hp a b c w).1
   have hp1:=fun a b c w=>(hp a b c w).2.1
   have hp2:=fun a b c w=>(hp a b c w).2.2
   show(Op.equalIn (9998+1+1) kt (key3 (x,y,z)) (key3 (x',y',z'))).run P w=_
   unfold Op.equalIn key3
   have heq9:∀x y w,(Op.equalIn 9999 e (.int .i64 x) (.int .i64 y)).run P w=.ok (x==y) w:=fun x y w=>heq1 9998 x y w
   simp [run_underlying ht,hsz]
   rw [show List.range' 0 3=[0,1,2] from rfl]
   by_cases e0:x=x'<;>by_cases e1:y=y'<;>by_cases e2:z=z'<;>simp [hp0,hp1,hp2,heq9,e0,e1,e2]
  have hn:∀e' es',es=e'::es'→Instr.findNow (.array 3 e) (key3 a) es 0=none:=fun e' es' he'=>by
   subst he';simp [Instr.findNow,Instr.sameNow]
  unfold Instr.findKey
  simp only [Sem.run_bind,run_underlying ht,Result.andThen_ok]
  cases es with
  |nil=>
   cases ks with
   |nil=>simp [Instr.findNow,fAsk]
   |cons k ks=>simp at h
  |cons e' es'=>
   rw [hn e' es' rfl]
   exact run_findAsking hfeq a ks (e'::es') 0 w h
end
section
variable {P : Program}
variable {E : Env} {K : List It} {σ σ' : Sl} {h : Heap} {all rest : List Oper} {o : Oper}
theorem aw_lookup2 {α:Type} [DecidableEq α] {Kf:α→Value} {t kt et g:TypeId} {kv:List (α×Value)} {x ky:Operand} {ck:AV} {a:α} {z:Value} (hop:o.op=.lookup t x ky true) (hw:wantA all σ o=some true) (hd:dstOk E.N o.dst=true)
 (ht:tMap E.P t=some (kt,et)) (hK:KeyOk E.P kt Kf) (hz:tZ1 E.P et=some z) (hx:ev σ x=.c (.raw (.map (some g)))) (hg:h.get g=some (.gen (MapI Kf kv))) (hk:ev σ ky=ck) (hka:∀S w v,Rep S w ck v→v=Kf a)
 (k:aw E (.ops all rest::K) (σ.setO o.dst (.tup [.c (cstC ((kvGet a kv).getD z)),.c (.bool (kvGet a kv).isSome)])) h):aw E (.ops all (o::rest)::K) σ h:=by
 refine aw_step hw (fun ac w s=> ?_) k
 have h1:=ev_rep s x
 rw [hx] at h1
 have h1':ac.eval x=.map (some g):=h1
 have h2:=ev_rep s ky
 rw [hk] at h2
 have h2':=hka _ _ _ h2
 obtain⟨ob,hb,es,c,rfl,hes⟩:=s.heap g _ (Heap.get_mem hg)
 have hkeys:es.toList.map (·.key)=(kv.map (·.1)).map Kf:=by
  have:=congrArg (List.map Prod.fst) hes
  rw [List.map_map,List.map_map] at this
  rw [List.map_map]
  exact this
 have hfind:=hK.find a (kv.map (·.1)) es.toList w hkeys
 have hget:=fAsk_get (K:=Kf) a kv es.toList 0 hes
 refine⟨.tuple #[(kvGet a kv).getD z,.bool (kvGet a kv).isSome],w,.inl ?_,s.put hd ⟨[_,_],rfl,cstC_rep _ _ _,rfl,trivial⟩⟩
 have hlk:(Instr.lookup t (ac.eval x) (ac.eval ky) true).run E.P w=.ok (.tuple #[(kvGet a kv).getD z,.bool (kvGet a kv).isSome]) w:=by
  rw [h1',h2']
  unfold Instr.lookup
  simp only [Sem.run_bind,run_underlying (tMap_spec ht),Result.andThen_ok,runGet hb,Sem.run_pure,hK.check,hfind]
  rw [←hget]
  cases hf:fAsk a (kv.map (·.1)) es.toList 0 with
  |none=>simp [tZ1_run hz]
  |some p=>obtain⟨i,v⟩:=p;simp
 simp only [execOp,hop,Sem.run_bind,hlk,Result.andThen_ok]
 rfl
theorem Calm.lookup2 {l:List Oper} {α:Type} [DecidableEq α] {Kf:α→Value} {t kt et g:TypeId} {kv:List (α×Value)} {x ky:Operand} {ck:AV} {a:α} {z:Value} (hop:o.op=.lookup t x ky true) (hw:wantA l σ o=some true) (hd:dstOk E.N o.dst=true)
 (ht:tMap E.P t=some (kt,et)) (hK:KeyOk E.P kt Kf) (hz:tZ1 E.P et=some z) (hx:ev σ x=.c (.raw (.map (some g)))) (hg:h.get g=some (.gen (MapI Kf kv))) (hk:ev σ ky=ck) (hka:∀S w v,Rep S w ck v→v=Kf a):
 Calm E h l σ o (.tup [.c (cstC ((kvGet a kv).getD z)),.c (.bool (kvGet a kv).isSome)]):=by
 refine⟨hd,fun σ' ac w Q hs s=> ?_⟩
 rw [if_pos (s.wanted ((want_same hs).trans hw))]
 have h1:=ev_rep s x
 rw [ev_same (by rw [hop];simp [Op.operands]) hs,hx] at h1
 have h1':ac.eval x=.map (some g):=h1
 have h2:=ev_rep s ky
 rw [ev_same (by rw [hop];simp [Op.operands]) hs,hk] at h2
 have h2':=hka _ _ _ h2
 obtain⟨ob,hb,es,c,rfl,hes⟩:=s.heap g _ (Heap.get_mem hg)
 have hkeys:es.toList.map (·.key)=(kv.map (·.1)).map Kf:=by
  have:=congrArg (List.map Prod.fst) hes
  rw [List.map_map,List.map_map] at this
  rw [List.map_map]
  exact this
 have hfind:=hK.find a (kv.map (·.1)) es.toList w hkeys
 have hget:=fAsk_get (K:=Kf) a kv es.toList 0 hes
 have hlk:(Instr.lookup t (ac.eval x) (ac.eval ky) true).run E.P w=.ok (.tuple #[(kvGet a kv).getD z,.bool (kvGet a kv).isSome]) w:=by
  rw [h1',h2']
  unfold Instr.lookup
  simp only [Sem.run_bind,run_underlying (tMap_spec ht),Result.andThen_ok,runGet hb,Sem.run_pure,hK.check,hfind]
  rw [←hget]
  cases hf:fAsk a (kv.map (·.1)) es.toList 0 with
  |none=>simp [tZ1_run hz]
  |some p=>obtain⟨i,v⟩:=p;simp
 have hrun:(execOp ac.eval o).run E.P w=.ok (.value (.tuple #[(kvGet a kv).getD z,.bool (kvGet a kv).isSome])) w:=by
  simp only [execOp,hop,Sem.run_bind,hlk,Result.andThen_ok]
  rfl
 unfold Oper.wp
 rw [hrun]
 exact s.put hd ⟨[_,_],rfl,cstC_rep _ _ _,rfl,trivial⟩
theorem drk_lookup2 {l:List Oper} {n:Nat} {α:Type} [DecidableEq α] {Kf:α→Value} {t kt et g:TypeId} {kv:List (α×Value)} {x ky:Operand} {ck:AV} {a:α} {z:Value} (hop:o.op=.lookup t x ky true) (hw:wantA l σ o=some true) (hd:dstOk E.N o.dst=true)
 (ht:tMap E.P t=some (kt,et)) (hK:KeyOk E.P kt Kf) (hz:tZ1 E.P et=some z) (hx:ev σ x=.c (.raw (.map (some g)))) (hg:h.get g=some (.gen (MapI Kf kv))) (hk:ev σ ky=ck) (hka:∀S w v,Rep S w ck v→v=Kf a)
 (k:DrK E h l K n rest (σ.setO o.dst (.tup [.c (cstC ((kvGet a kv).getD z)),.c (.bool (kvGet a kv).isSome)]))):DrK E h l K (n+1) (o::rest) σ:=drk_cons (Calm.lookup2 hop hw hd ht hK hz hx hg hk hka) k
end
end Go.AI
namespace Go.AI
section
variable {E : Env} {K : List It} {σ σ' : Sl} {h : Heap} {all rest : List Oper} {o : Oper}
theorem aw_min3 {x y z:Operand} {ts:Array TypeId} {a b c:Int} (hop:o.op=.call {callee:=.builtin .min,args:= #[x,y,z],argTypes:=ts}) (hw:wantA all σ o=some true) (hd:dstOk E.N o.dst=true)
 (hx:ev σ x=.c (.int .i64 a)) (hy:ev σ y=.c (.int .i64 b)) (hz:ev σ z=.c (.int .i64 c)) (k:aw E (.ops all rest::K) (σ.setO o.dst (.c (.int .i64 (min a (min b c))))) h):aw E (.ops all (o::rest)::K) σ h:=by
 refine aw_step hw (fun ac w s=> ?_) k
 have h1:ac.eval x=.int .i64 a:=by have:=ev_rep s x;rw [hx] at this;exact this
 have h2:ac.eval y=.int .i64 b:=by have:=ev_rep s y;rw [hy] at this;exact this
 have h3:ac.eval z=.int .i64 c:=by have:=ev_rep s z;rw [hz] at this;exact this
 have hrun:(execOp ac.eval o).run E.P w=.ok (.value (.int .i64 (min a (min b c)))) w:=by
  simp only [execOp,hop,resolve,invoke,Go.builtin,Sem.run_bind,Sem.run_pure,Result.andThen_ok,List.map_toArray,List.map_cons,List.map_nil,h1,h2,h3]
  have hm:(if c<(if b<a then b else a) then c else(if b<a then b else a))=min a (min b c):=by
   simp only [Int.min_def];split<;>split<;>(try split)<;>(try split)<;>omega
  simp [Builtin.min_,Builtin.min2,hm]
 exact⟨_,w,.inl hrun,s.put hd rfl⟩
end
end Go.AI
namespace Go.AI
section
variable {E : Env} {K : List It} {σ σ' : Sl} {h : Heap} {all l rest : List Oper} {o o1 o2 : Oper}
theorem aw_push2 {t e size bytes n d1 s gt:Nat} {z:List CV} {og:Option Nat} {f f':Nat→CV} {pre:Heap} {v:AV} (hop2:o2.op=.call {callee:=.builtin .append,args:= #[.tmp s,.tmp d1],argTypes:= #[t,t]})
 (hg2:o2.guard=none) (hd2:dstOk E.N o2.dst=true)
 (ht:tElem E.P t=some (e,size,bytes)) (hz:tZero E.P e=some z) (hzl:z.length=size) (hs0:0<size) (hsz:size≤16777216)
 (hevs:ev σ (.tmp s)=.c (gs og size n)) (hev1:ev σ (.tmp d1)=.c (.osl gt size 0 1)) (hog:og=none→n=0) (hok:okPart v=true) (hvl:v.cells.length=size) (hh:h=(gt,.cells e (1*size) (ofL v.cells))::(pre++gh og e (n*size) f))
 (h63:n+1≤maxLen) (hby:(n+1)*bytes≤140737488355328) (hf:∀j,j<(n+1)*size→appF f (n*size) (ofL v.cells) j=f' j)
 (kk:∀g',g'∉pre.keys→aw E (.ops all rest::K) ((σ.set d1 (.c .any)).setO o2.dst (.c (gs (some g') size (n+1)))) (pre++gh (some g') e ((n+1)*size) f')):aw E (.ops all (o2::rest)::K) σ h:=by
 subst hh
 obtain⟨ok1,ok2⟩:=okPart_spec hok
 have hw2:∀σ2,wantA all σ2 o2=some true:=fun σ2=>by unfold wantA;rw [hg2]
 have hsrc:∀h0:Heap,Src ((gt,.cells e (1*size) (ofL v.cells))::h0) size (.osl gt size 0 1) 1 (ofL v.cells):=fun h0=>by
  refine .osl (f':=ofL v.cells) (m:=1*size) (ty:=e) (by simp [Heap.get]) om (fun j _=>by rw [Nat.zero_add])
 have hle:∀(B:AV) (g':Nat),Sl.le ((σ.set d1 (.c .any)).setO o2.dst B) (σ.setO o2.dst B):=fun B g' t'=>by
  rw [setO_get,setO_get]
  by_cases e1:o2.dst=some t'
  ·rw [if_pos e1,if_pos e1];exact .inr rfl
  ·rw [if_neg e1,if_neg e1]
   simp only [Sl.get_set]
   by_cases e2:d1=t'
   ·rw [if_pos e2];exact .inl rfl
   ·rw [if_neg e2];exact .inr rfl
 have hkp:∀g':Nat,g'∉Heap.keys ((gt,.cells e (1*size) (ofL v.cells))::pre)→g'∉pre.keys:=fun g' hg' hm=>hg' (by simp only [Heap.keys,List.map_cons,List.mem_cons];exact .inr hm)
 have hperm:∀g':Nat,(pre++gh (some g') e ((n+1)*size) f').Sublist ((pre++[(g',.cells e ((n+1)*size) f')])):=fun g'=>List.Sublist.refl _
 cases og with
 |none=>
  have hn0:n=0:=hog rfl
  subst hn0
  refine aw_appendN (cx:=.osl gt size 0 1) (k:=1) (f2:=ofL v.cells) hop2 (hw2 _) hd2 ht hz hzl hs0 hevs hev1 (hsrc _) om om om fun g' hg'=> ?_
  refine aw_conv1 (f':=f') (fun j hj=> ?_) ?_
  ·have:=hf j om
   rw [←this];simp [appF]
  ·have hnew:g'∉pre.keys:=fun hm=>hg' (by simp only [Heap.keys,List.map_cons,List.mem_cons,gh,List.append_nil];exact .inr hm)
   refine aw_perm (h':=(gt,.cells e (1*size) (ofL v.cells))::(pre++[(g',.cells e (1*size) f')])) ?_ ?_
   ·have:(pre++gh none e (0*size) f)=pre:=by simp [gh]
    rw [this]
    refine(List.Perm.swap _ _ _).trans (List.Perm.cons _ ?_)
    exact(List.perm_append_singleton _ _).symm
   ·refine aw_weak (hle _ g') (List.Sublist.cons _ (List.Sublist.refl _)) ?_
    have:=kk g' hnew
    simpa [gh,gs] using this
 |some g=>
  refine aw_nd fun hnd=> ?_
  have hnp:g∉pre.keys:=fun hm=>by
   simp only [Heap.keys,gh,List.map_cons,List.map_append,List.map_nil,List.nodup_cons] at hnd
   have:=(List.nodup_append.1 hnd.2).2.2 g hm g (by simp)
   exact this rfl
  have hgtg:gt≠g:=fun e=>by
   subst e
   simp [Heap.keys,gh] at hnd
  refine aw_append (cx:=.osl gt size 0 1) (k:=1) (f2:=ofL v.cells) (g:=g) (m:=n*size) (f:=f) (h2:=(gt,.cells e (1*size) (ofL v.cells))::pre) hop2 (hw2 _) hd2 ht hz hzl hs0 hevs ?_ (Nat.le_refl _) hev1 (hsrc _) ?_ om h63 hby ?_ fun g' hg'=> ?_
  ·show Heap.get ((gt,_)::(pre++[(g,_)])) g=_
   simp only [Heap.get,if_neg hgtg]
   exact Heap.get_app hnp
  ·intro j hj
   have hjl:j<v.cells.length:=by omega
   rw [ofL_get v.cells j v.cells[j] (List.getElem?_eq_getElem hjl)]
   exact List.all_eq_true.1 ok2 _ (List.getElem_mem hjl)
  ·show Heap.del ((gt,_)::(pre++[(g,_)])) g=_
   rw [Heap.del_ne hgtg,Heap.del_app hnp]
  ·refine aw_conv1 (f':=f') hf ?_
   refine aw_perm (h':=(gt,.cells e (1*size) (ofL v.cells))::(pre++[(g',.cells e ((n+1)*size) f')])) ?_ ?_
   ·refine(List.Perm.swap _ _ _).trans (List.Perm.cons _ ?_)
    exact(List.perm_append_singleton _ _).symm
   ·refine aw_weak (hle _ g') (List.Sublist.cons _ (List.Sublist.refl _)) ?_
    exact kk g' (hkp g' hg')
theorem NewX.buildSlice {t e size bytes len:Nat} {xs:List Operand} {cells:List CV} (hop:o.op=.buildSlice t len (enumO 0 xs).toArray) (hw:wantA l σ o=some true) (hd:dstOk E.N o.dst=true) (ht:tElem E.P t=some (e,size,bytes))
 (hz:(tZero E.P e).isSome=true) (hl:xs.length=len) (hsm:len*size≤16777216) (hlm:len≤16777216) (hx:∀x∈xs,(ev σ x).flat=true∧(ev σ x).cells.all CV.solid=true∧(ev σ x).cells.length=size) (hc:(xs.map (ev σ)).flatMap AV.cells=cells) (hops:∀x∈xs,x∈o.op.operands):
 NewX E h l σ o (fun g=>.c (.osl g size 0 len)) (.cells e (len*size) (ofL cells)):=by
 subst hc
 refine NewX.of_run hw hd fun σ' ext a w he s=> ?_
 have hmap:xs.map (ev σ')=xs.map (ev σ):=List.map_congr_left fun x hx'=>he x (hops x hx')
 have hx2:∀x∈xs,(ev σ' x).flat=true∧(ev σ' x).cells.all CV.solid=true∧(ev σ' x).cells.length=size:=fun x hx'=>by rw [he x (hops x hx')];exact hx x hx'
 rw [←hmap]
 obtain⟨hu,inf,hi,hsz,_⟩:=tElem_spec ht
 obtain⟨z,hz'⟩:=Option.isSome_iff_exists.1 hz
 obtain⟨i',zv,hi',hzv,_⟩:=tZero_spec hz'
 rw [hi] at hi'
 injection hi' with hi'
 subst hi'
 obtain⟨hL,hcs⟩:=parts_rep s size xs hx2
 have hnk:w.heap.size∉(ext++h).keys:=fun hm=>Nat.lt_irrefl _ (s.klt hm)
 generalize hvs:xs.map a.eval=vs at hL hcs
 have hlv:vs.length=len:=by rw [←hvs];simpa using hl
 have hfl:(vs.flatMap fun v=>v.cells.toList).length=len*size:=by
  rw [←hlv]
  clear hL hvs hlv
  induction vs with
  |nil=>simp
  |cons v vs ih=>simp only [List.flatMap_cons,List.length_append,List.length_cons,ih (fun x hx=>hcs x (List.mem_cons_of_mem _ hx)),Nat.add_mul];have:=hcs v (by simp);simp [this];omega
 refine⟨.slice (some ⟨w.heap.size,0,none⟩) len len,w.alloc (.cells (vs.flatMap fun v=>v.cells.toList).toArray e),?_,Fr.alloc _ _ _,by simp,?_,?_⟩
 ·have hm:(Array.map (fun x:Nat×Operand=>(x.1,a.eval x.2)) (enumO 0 xs).toArray).toList=enumL 0 vs:=by
   rw [←hvs,←enum_map];simp
  have hfill:∀zc:Array Value,Instr.fill (fun i=>some (i*size,size)) ((Array.range (len*size)).map (fun x=>zc[x%zc.size]!)) (enumL 0 vs)=some (vs.flatMap fun v=>v.cells.toList).toArray:=fun zc=>by
   rw [fill_seq size vs 0 _ hcs (by simp [hlv])]
   rw [Nat.zero_mul,putL_full _ _ (by simp [hfl])]
  simp only [execOp,hop,Instr.buildSlice,Sem.run_bind,run_underlying hu,Result.andThen_ok,sizeOf,typeInfo,Sem.run_pure]
  simp only [run_program,hi,Result.andThen_ok,Sem.run_pure,hsz]
  rw [if_neg om]
  rw [hm]
  by_cases h0:len*size=0
  ·rw [if_pos h0]
   simp only [Sem.run_bind,Sem.run_pure,Result.andThen_ok,hfill]
   rfl
  ·rw [if_neg h0]
   simp only [Sem.run_bind,Sem.run_pure,Result.andThen_ok,zeroValue,typeInfo,run_program,hi,hzv,hfill]
   rfl
 ·have hr:=orep_new (C:=E.C) (w:=w) (ty:=e) (h':=((w.heap.size,AObj.cells e (len*size) (ofL ((xs.map (ev σ')).flatMap AV.cells)))::(ext++h))) (hL.keep (keeps_alloc hnk))
  have hcl:((xs.map (ev σ')).flatMap AV.cells).length=len*size:=by rw [←hL.length,hfl]
  rw [hcl] at hr
  exact hr
 ·exact⟨len,rfl,Nat.le_refl _,by unfold maxLen;omega,(vs.flatMap fun v=>v.cells.toList).toArray,e,⟨_,heap_alloc_new w _⟩,by simp [hfl]⟩
end
end Go.AI
namespace Go.AI
theorem permL {α:Type} (l:List α) (is js:List Nat) (h:is.Perm js):(is.filterMap fun i=>l[i]?).Perm (js.filterMap fun i=>l[i]?):=h.filterMap _
theorem eI {P:Prop} (k:P:=by(repeat' first|exact has0_nil|refine has0_cons ?_ ?_)<;>simp):P:=k
theorem Fh.mono {P:Program} {f:FuncId} {hc:Heap} {args:List AV} {Q Q':AV→Heap→Prop} (hf:Fh P f hc args Q) (h:∀r h',Q r h'→Q' r h'):Fh P f hc args Q':=
 ⟨hf.1,fun C vs h1 h2 h3 h4=>(hf.2 C vs h1 h2 h3 h4).mono (by
  rintro e w ⟨v,r,h',he,hq,rest⟩
  exact⟨v,r,h',he,h _ _ hq,rest⟩)⟩
def neA (a:Nat):List Nat→Prop
 |[]=>True
 |b::l=>((a=b)=False∧(b=a)=False)∧neA a l
def ndP:List Nat→Prop
 |[]=>True
 |a::l=>neA a l∧ndP l
theorem neA_of {a:Nat}:∀{l:List Nat},a∉l→neA a l
 |[],_=>trivial
 |b::l,h=>by
  rw [List.mem_cons,not_or] at h
  exact⟨⟨eq_false h.1,eq_false fun e=>h.1 e.symm⟩,neA_of h.2⟩
theorem ndP_of:∀{l:List Nat},l.Nodup→ndP l
 |[],_=>trivial
 |a::l,h=>by
  rw [List.nodup_cons] at h
  exact⟨neA_of h.1,ndP_of h.2⟩
section
variable {E : Env} {K : List It} {l : List Oper} {FP : Heap} {σ σ' : Sl} {h : Heap} {o : Oper} {i : Nat} {cs : List (Nat × Nat)}
theorem cw_callhv {FP':Heap} {m:Nat} {f:FuncId} {x:Operand} {gs:List Nat} {xs:List Operand} {ts:Array TypeId} {hc hr:Heap} {args:List AV} {Q:AV→Heap→Prop} (ho:l[i]?=some o) (hf:Fh E.P f hc (args++gs.map fun g=>.c (.optr g 0)) Q) (hop:o.op=.call {callee:=.value x,args:=xs.toArray,argTypes:=ts}) (hw:wantA l σ o=some true) (hd:dstOk E.N o.dst=true) (hx:ev σ x=.c (fnC f gs))
 (hp:h.Perm (hc++hr)) (le:LeA [] (xs.map (ev σ)) args) (hFP:∀r h',Q r h'→Has0 FP' (h'++hr)) (k:∀r h',Q r h'→(∀g∈h'.keys,g∉hr.keys)→CW E l K FP' cs (σ.setO o.dst r) (h'++hr)) (hm:m=2∨m=1∧FP'=FP:=by first|exact .inl rfl|exact .inr ⟨rfl,rfl⟩):CW E l K FP ((i,m)::cs) σ h:=by
 refine .pin ho hm (R:=fun r h2=>∃h',Q r h'∧(∀g∈h'.keys,g∉hr.keys)∧h2=h'++hr) (fun σ' K hs=> ?_) ?_ ?_
 ·have he:xs.map (ev σ')=xs.map (ev σ):=evs_same (fun x hx=>by rw [hop];simp [Op.operands,Call.operands,hx]) hs
  exact aw_callhv hf hop ((want_same hs).trans hw) hd ((ev_same (by rw [hop];simp [Op.operands,Call.operands]) hs).trans hx) hp (by rw [he];exact le) fun r h' hq hfr=>aw_ops_nil (aw_stop ⟨r,⟨h',hq,hfr,rfl⟩,rfl⟩)
 ·rintro r h2 ⟨h',hq,_,rfl⟩;exact hFP r h' hq
 ·rintro r h2 ⟨h',hq,hfr,rfl⟩;exact k r h' hq hfr
theorem aw_insNew {rest:List Oper} {α:Type} [DecidableEq α] {Kf:α→Value} {t kt et g:TypeId} {kv:List (α×Value)} {x ky vl:Operand} {ck cv:AV} {a:α} {v:Value} (hop:o.op=.insert t x ky vl) (hdn:o.dst=none) (hw:wantA l σ o=some true)
 (ht:tMap E.P t=some (kt,et)) (hK:KeyOk E.P kt Kf) (hx:ev σ x=.c (.raw (.map (some g)))) (hg:h.get g=some (.gen (MapI Kf kv))) (hk:ev σ ky=ck) (hka:∀S w u,Rep S w ck u→u=Kf a) (hv:ev σ vl=cv) (hva:∀S w u,Rep S w cv u→u=v)
 (hnew:kvGet a kv=none) {h':Heap} (hh:h.set g (.gen (MapI Kf (kv++[(a,v)])))=h') (k:aw E (.ops l rest::K) σ h'):aw E (.ops l (o::rest)::K) σ h:=by
 subst hh
 refine aw_step hw (fun ac w s=> ?_) k
 have h1:=ev_rep s x
 rw [hx] at h1
 have h1':ac.eval x=.map (some g):=h1
 have h2:=ev_rep s ky
 rw [hk] at h2
 have h2':=hka _ _ _ h2
 have h3:=ev_rep s vl
 rw [hv] at h3
 have h3':=hva _ _ _ h3
 obtain⟨ob,hb,es,c,rfl,hes⟩:=s.heap g _ (Heap.get_mem hg)
 have hkeys:es.toList.map (·.key)=(kv.map (·.1)).map Kf:=by
  have:=congrArg (List.map Prod.fst) hes
  rw [List.map_map,List.map_map] at this
  rw [List.map_map]
  exact this
 have hfind:=hK.find a (kv.map (·.1)) es.toList w hkeys
 have hget:=fAsk_get (K:=Kf) a kv es.toList 0 hes
 have hnone:fAsk a (kv.map (·.1)) es.toList 0=none:=by
  cases hf:fAsk a (kv.map (·.1)) es.toList 0 with
  |none=>rfl
  |some p=>rw [hf,hnew] at hget;cases hget
 have hgl:g<w.heap.size:=(Array.getElem?_eq_some_iff.1 hb).1
 let w':World:={w with heap:=w.heap.setIfInBounds g (.map (es.push {key:=Kf a,val:=v,born:=c}) (c+1))}
 have hrun:(Instr.mapUpdate t (ac.eval x) (ac.eval ky) (ac.eval vl)).run E.P w=.ok () w':=by
  rw [h1',h2',h3']
  unfold Instr.mapUpdate
  simp only [Sem.run_bind,run_underlying (tMap_spec ht),Result.andThen_ok,runGet hb,hK.check,hfind,hnone,runSet _ hb]
  rfl
 refine⟨undef,w',.inr ⟨?_,rfl⟩,?_⟩
 ·simp only [execOp,hop,Sem.run_bind,hrun,Result.andThen_ok]
  rfl
 ·rw [hdn]
  have hfr:Fr (fun b=>b=g) w w':=by
   refine⟨rfl,rfl,rfl,by simp [w'],Nat.le_refl _,fun b _ hne=> ?_,fun g' m hh=> ?_⟩
   ·simp only [w'];rw [Array.getElem?_setIfInBounds_ne (fun e=>hne e.symm)]
   ·obtain⟨cs,ty,⟨fr,hc⟩,hs⟩:=hh
    refine⟨cs,ty,⟨fr,?_⟩,hs⟩
    have hne:g'≠g:=fun e=>by rw [e,hb] at hc;cases hc
    simp only [w']
    rw [Array.getElem?_setIfInBounds_ne (fun e=>hne e.symm)];exact hc
  refine s.setObj hg hfr ⟨_,by simp only [w'];rw [Array.getElem?_setIfInBounds_self_of_lt hgl],_,_,rfl,?_⟩
  simp only [Array.toList_push,List.map_append,List.map_cons,List.map_nil,hes]
theorem wc3 {i:Nat} {FP:Heap} {cs:List (Nat×Nat)} (ho:l[i]?=some o) (hd:dstOk E.N o.dst=true) (k:∀R:Option (Prop×Sl)→Prop,(∀q σ',CW E l K FP cs σ' h→(hq:q:=by(try simp only [inRange])<;>and_intros<;>first|exact True.intro|omega|trivial)→R (some (q,σ')))→R (runOp2 E.P true [] l o σ)):CW E l K FP ((i,3)::cs) σ h:=by
 have:=k (fun x=>x=runOp2 E.P true [] l o σ→CW E l K FP ((i,3)::cs) σ h) (fun q σ' ha hq e=>by
  unfold runOp2 at e
  split at e
  ·rename_i hw
   split at e
   ·rename_i q1 r hp
    injection e with e
    injection e with e1 e2
    subst e1 e2
    exact .fre ho (Flt.pure hw hp hq hd) ha
   ·cases e
  ·rename_i hw
   injection e with e
   injection e with e1 e2
   subst e1 e2
   exact .fre ho (Flt.skip hw hd) ha
  ·cases e)
 exact this rfl
theorem cw_perm {h':Heap} (hp:h.Perm h') (k:CW E l K FP cs σ h'):CW E l K FP cs σ h:=by
 induction cs generalizing σ h h' with
 |nil=>
  cases k with
  |nil k=>exact .nil (aw_perm hp k)
 |cons c cs ih=>
  cases k with
  |flt ho hf k=>exact .flt ho hf (ih hp k)
  |fre ho hf k=>exact .fre ho hf (ih hp k)
  |pin ho hmk hpn hfp k=>exact .pin ho hmk (fun σ' K hs=>aw_perm hp (hpn σ' K hs)) hfp k
theorem NewX.makeMap {α:Type} {Kf:α→Value} {t:TypeId} (hop:o.op=.makeMap t none) (hw:wantA l σ o=some true) (hd:dstOk E.N o.dst=true):NewX E h l σ o (fun g=>.c (.raw (.map (some g)))) (.gen (MapI Kf [])):=by
 refine NewX.of_run hw hd fun σ' ext a w he s=> ?_
 refine⟨.map (some w.heap.size),w.alloc (.map #[] 0),?_,Fr.alloc _ _ _,by simp,⟨_,heap_alloc_new w _,_,_,rfl,rfl⟩,rfl⟩
 simp only [execOp,hop]
 rfl
theorem fill_congr {f g:Nat→Option (Nat×Nat)}:∀(vs:List (Nat×Value)) (us:Array Value),(∀p∈vs,g p.1=f p.1)→Instr.fill g us vs=Instr.fill f us vs
 |[],_,_=>rfl
 |(i,v)::vs,us,h=>by
  simp only [Instr.fill]
  rw [h (i,v) (List.mem_cons_self ..)]
  cases f i with
  |none=>rfl
  |some p=>
   simp only
   rw [fill_congr vs _ fun p hp=>h p (List.mem_cons_of_mem _ hp)]
def arrFl (n s:Nat):List (Nat×Nat):=(List.range n).map fun i=>(i*s,s)
theorem buildArr_ok {P:Program} {ρ:Operand→AV} {t el:TypeId} {n s:Nat} {ag:Bool} {ps:List (Nat×Operand)} {out z:List CV} (hu:P.underlying t=some (.array n el)) (hsz:tSz P el=some (ag,s)) (hz:tZero P t=some z) (hf:fillC (arrFl n s) z (mapCells ρ ps)=some out) (hps:∀p∈ps,p.1<n) (hreq:okParts ρ ps=true):
 POk P h ρ (.build t ps.toArray) (.agg out):=by
 intro S w e hS ho _
 obtain⟨i,zv,hi,hzv,rfl⟩:=tZero_spec hz
 have hreq':=okParts_spec hreq
 rw [mapCells_eq] at hf
 obtain⟨us',h1,h2⟩:=fillC_ok (S:=S) (w:=w) (arrFl n s) (ps.map fun p=>(p.1,(ρ p.2).cells)) (ps.map fun p=>(p.1,e p.2)) (zv.cells.toList.map cstC) zv.cells out (by simp)
  (fun j p q hp hq=>by
   rw [List.getElem?_map] at hp hq
   cases hj:ps[j]? with
   |none=>rw [hj] at hp;cases hp
   |some y=>
    rw [hj] at hp hq
    simp only [Option.map_some,Option.some.injEq] at hp hq
    subst hp
    subst hq
    have hm:y∈ps:=List.mem_of_getElem? hj
    obtain⟨hnt,hsol⟩:=hreq' y hm
    exact(rep_cells hnt hsol (ho y.2 (by simp only [Op.operands,List.mem_toArray,List.mem_map];exact⟨y,hm,rfl⟩))).1)
  (cstL_rep S w _) hf
 refine⟨.agg us',fun o hop=> ?_,us'.toList,by simp,h2⟩
 have hmap:(Array.map (fun x:Nat×Operand=>(x.1,e x.2)) ps.toArray).toList=ps.map fun p=>(p.1,e p.2):=by simp
 have hfc:Instr.fill (fun i=>some (i*s,s)) zv.cells (ps.map fun p=>(p.1,e p.2))=some us':=by
  rw [←h1]
  refine fill_congr _ _ fun p hp=> ?_
  obtain⟨q,hq,rfl⟩:=List.mem_map.1 hp
  have:=hps q hq
  simp [arrFl,this]
 simp only [execOp,hop,Instr.build,Sem.run_bind,zeroValue,typeInfo,run_program,hi,hzv,Result.andThen_ok,Sem.run_pure,run_underlying hu,(tSz_run hsz w).2]
 rw [hmap,hfc]
 rfl
end
end Go.AI
namespace Go.PN
open Go.AI
noncomputable def formTo (f:FM):Nat→List Bool
 |0=>[]
 |k+1=>formTo f k++[fvalB' f k]
where fvalB' (f:FM) (k:Nat):Bool:=ofB f (fvTo f k f.nodes.length) k f.top
end Go.PN

namespace Go.PN
open Go.AI
def findN (x:DN):List DN→Nat→Option Nat
 |[],_=>none
 |y::ns,i=>if y=x then some i else findN x ns (i+1)
end Go.PN
namespace Go.AI
section
variable {E : Env} {K : List It} {σ : Sl} {h : Heap}
theorem aw_rethw {P:Program} {fn:Func} {C:Ctx} {Q:AV→Heap→Prop} {rvs:List ResultVar} (hrs:fn.results=rvs.toArray) {h':Heap} (hsub:h'.Sublist h) (k:∀R:Option AV→Prop,(∀x,flatR x=true→Q x h'→R (some x))→R (resAV P σ h rvs)):
 aw (envOfH P fn C Q) (.code .ret::K) σ h:=by
 have hr:∀x,flatR x=true→Q x h'→some x=resAV P σ h rvs→aw (envOfH P fn C Q) (.code .ret::K) σ h:=fun x hf hq e a w s=>by
  refine wp_ret (exW_ret a w ?_)
  obtain⟨v,hv,hrep⟩:=results_run s hrs e.symm (flatR_spec hf)
  have hks:∀b,b∈h'.keys→b∈h.keys:=fun b hb=>by
   obtain⟨p,hp,e⟩:=List.mem_map.1 hb
   exact List.mem_map.2 ⟨p,hsub.subset hp,e⟩
  have kp:Keeps (Stab C h w) (Stab C h' w) w w:=⟨fun t b hb=>⟨hb.1,hb.2.1,fun hm=>hb.2.2 (hks b hm)⟩,fun _ _ _=>rfl,fun _ _ e=>e⟩
  exact⟨s.defers,v,hv,v,x,h',rfl,hq,(hsub.map _).nodup s.nodup,fun g hg=>s.keys g (hks g hg),hrep.keep kp,fun g o hm=>ORep.keep kp rfl (s.heap g o (hsub.subset hm)),s.frame⟩
 have:=k (fun y=>y=resAV P σ h rvs→aw (envOfH P fn C Q) (.code .ret::K) σ h) hr
 exact this rfl
end
theorem updF_at (xs:List CV) (i:Nat) (b:CV) (h:i<xs.length):updF (ofL xs) i [b]=ofL (xs.set i b):=by
 funext j
 simp only [updF]
 by_cases hj:j=i
 ·subst hj
  rw [if_pos rfl,ofL_get (xs.set j b) j b (by rw [List.getElem?_set_self h])]
 ·rw [if_neg hj]
  by_cases hl:j<xs.length
  ·rw [ofL_get xs j xs[j] (List.getElem?_eq_getElem hl),ofL_get (xs.set i b) j xs[j] (by rw [List.getElem?_set_ne (Ne.symm hj)];exact List.getElem?_eq_getElem hl)]
  ·have e:∀(ys:List CV) (n:Nat),ys.length≤n→ofL ys n=.any:=by
    intro ys
    induction ys with
    |nil=>intro n _;rfl
    |cons y ys ih=>
     intro n hn
     match n,hn with
     |n+1,hn=>exact ih n (by simpa using hn)
   rw [e xs j om,e (xs.set i b) j (by rw [List.length_set];omega)]
@[go_sem ↓] theorem updF_3_0 (a b c x:CV):updF (ofL [a,b,c]) 0 [x]=ofL [x,b,c]:=updF_at [a,b,c] 0 x (by simp)
@[go_sem ↓] theorem updF_3_1 (a b c x:CV):updF (ofL [a,b,c]) 1 [x]=ofL [a,x,c]:=updF_at [a,b,c] 1 x (by simp)
@[go_sem ↓] theorem updF_3_2 (a b c x:CV):updF (ofL [a,b,c]) 2 [x]=ofL [a,b,x]:=updF_at [a,b,c] 2 x (by simp)
theorem solid_gs3 {og:Option Nat} {s n m:Nat} {t:Bool} {f:Nat→CV} {k:IntKind} {z:Int}:(AV.agg [.row t 1 m f,gs og s n,.int k z]).cells.all CV.solid=true:=by
 cases og<;>rfl
end Go.AI

namespace Go.PN
open Go.AI
def lvZ (o:List Int) (ns:List DN) (r:Int):Int:=if r<2 then o.length else placeZ o (ns.getD (r-2).toNat dn0).v
structure NdOk (o:List Int) (ns:List DN) (i:Nat):Prop where
 nk:NodeOk o.length i (ns.getD i dn0)
 ne:(ns.getD i dn0).lo≠(ns.getD i dn0).hi
 bl:placeZ o (ns.getD i dn0).v<lvZ o ns (ns.getD i dn0).lo
 bh:placeZ o (ns.getD i dn0).v<lvZ o ns (ns.getD i dn0).hi
 new:ns.getD i dn0∉ns.take i
def TabOk (o:List Int) (ns:List DN):Prop:=∀i,i<ns.length→NdOk o ns i
def RefOk (ns:List DN) (r:Int):Prop:=0≤r∧r<ns.length+2
theorem TabOk.ns {o:List Int} {ns:List DN} (h:TabOk o ns):NsOk o.length ns:=fun i hi=>(h i hi).nk
theorem getD_app {ns xs:List DN} {i:Nat} (h:i<ns.length):(ns++xs).getD i dn0=ns.getD i dn0:=by
 rw [List.getD_eq_getElem?_getD,List.getD_eq_getElem?_getD,List.getElem?_append_left h]
theorem ref_app {ns xs:List DN} {r:Int} (h:RefOk ns r):RefOk (ns++xs) r:=by
 unfold RefOk at h⊢
 rw [List.length_append]
 omega
theorem lv_app {o:List Int} {ns xs:List DN} {r:Int} (h:RefOk ns r):lvZ o (ns++xs) r=lvZ o ns r:=by
 unfold lvZ
 unfold RefOk at h
 split
 ·rfl
 ·rw [getD_app om]
theorem evalF_app {m:Nat} {ns xs:List DN} {s:Nat} (hn:NsOk m ns):∀(k:Nat) (r:Int),RefOk ns r→evalF (ns++xs) s k r=evalF ns s k r
 |0,r,_=>rfl
 |k+1,r,hr=>by
  rw [evalF,evalF]
  split
  ·rfl
  ·rename_i h1
   unfold RefOk at hr
   rw [getD_app om]
   have:=kid_lt hn (s:=s) (r:=r) om hr.2
   unfold kid at this
   exact evalF_app hn k _ ⟨this.1,by omega⟩
theorem eval_app {m:Nat} {ns xs:List DN} {s:Nat} (hn:NsOk m ns) {r:Int} (hr:RefOk ns r):evalD (ns++xs) s r=evalD ns s r:=evalF_app hn _ _ hr
theorem kids_ref {o:List Int} {ns:List DN} (h:TabOk o ns) {i:Nat} (hi:i<ns.length):RefOk ns (ns.getD i dn0).lo∧RefOk ns (ns.getD i dn0).hi:=by
 obtain⟨_,_,l0,l1,h0,h1⟩:=(h i hi).nk
 exact⟨⟨l0,by omega⟩,⟨h0,by omega⟩⟩
theorem nd_app {o:List Int} {ns xs:List DN} (h:TabOk o ns) {i:Nat} (hi:i<ns.length):NdOk o (ns++xs) i:=by
 obtain⟨r1,r2⟩:=kids_ref h hi
 obtain⟨a,b,c,d,e⟩:=h i hi
 refine⟨?_,?_,?_,?_,?_⟩<;>rw [getD_app hi]
 ·exact a
 ·exact b
 ·rw [lv_app r1];exact c
 ·rw [lv_app r2];exact d
 ·rw [List.take_append_of_le_length om];exact e
theorem findN_none {x:DN}:∀{ns:List DN} {i:Nat},findN x ns i=none→x∉ns
 |[],_,_=>by simp
 |y::ns,i,h=>by
  rw [findN] at h
  split at h
  ·cases h
  ·rename_i hn
   rw [List.mem_cons,not_or]
   exact⟨fun e=>hn e.symm,findN_none h⟩
theorem findN_some {x:DN}:∀{ns:List DN} {i j:Nat},findN x ns i=some j→i≤j∧j<i+ns.length∧ns.getD (j-i) dn0=x
 |[],_,_,h=>by simp [findN] at h
 |y::ns,i,j,h=>by
  rw [findN] at h
  split at h
  ·rename_i e
   injection h with h
   subst h
   rw [Nat.sub_self]
   exact⟨Nat.le_refl _,by simp,e⟩
  ·obtain⟨h1,h2,h3⟩:=findN_some h
   refine⟨by omega,by simp;omega,?_⟩
   rw [show j-i=(j-(i+1))+1 from by omega]
   simpa using h3
def mkF (ns:List DN) (v lo hi:Int):List DN×Int:=
 if lo=hi then(ns,lo) else match findN ⟨v,lo,hi⟩ ns 0 with
  |some i=>(ns,2+i)
  |none=>(ns++[⟨v,lo,hi⟩],2+ns.length)
structure Later (o:List Int) (ns ns':List DN) (n:Nat):Prop where
 tab:TabOk o ns'
 pre:∃xs,ns'=ns++xs
 len:ns'.length≤ns.length+n
theorem Later.refl {o:List Int} {ns:List DN} (h:TabOk o ns) (n:Nat):Later o ns ns n:=⟨h,⟨[],by simp⟩,by omega⟩
theorem Later.trans {o:List Int} {a b c:List DN} {n m k:Nat} (h1:Later o a b n) (h2:Later o b c m) (hk:n+m≤k):Later o a c k:=by
 obtain⟨_,⟨xs,e1⟩,l1⟩:=h1
 obtain⟨t2,⟨ys,e2⟩,l2⟩:=h2
 exact⟨t2,⟨xs++ys,by rw [e2,e1,List.append_assoc]⟩,by omega⟩
theorem Later.ref {o:List Int} {a b:List DN} {n:Nat} (h:Later o a b n) {r:Int} (hr:RefOk a r):RefOk b r:=by
 obtain⟨xs,e⟩:=h.pre
 rw [e];exact ref_app hr
theorem Later.lv {o:List Int} {a b:List DN} {n:Nat} (h:Later o a b n) {r:Int} (hr:RefOk a r):lvZ o b r=lvZ o a r:=by
 obtain⟨xs,e⟩:=h.pre
 rw [e];exact lv_app hr
theorem Later.eval {o:List Int} {a b:List DN} {n:Nat} (h:Later o a b n) (ha:TabOk o a) {r:Int} (hr:RefOk a r) (s:Nat):evalD b s r=evalD a s r:=by
 obtain⟨xs,e⟩:=h.pre
 rw [e];exact eval_app ha.ns hr
theorem eval_node {o:List Int} {ns:List DN} (h:TabOk o ns) {i:Nat} (hi:i<ns.length) {v lo hi':Int} (e:ns.getD i dn0=⟨v,lo,hi'⟩) (s:Nat):evalD ns s (2+i)=if s.testBit v.toNat then evalD ns s hi' else evalD ns s lo:=by
 rw [evalD_step h.ns om om]
 unfold kid
 rw [show((2:Int)+(i:Int)-2).toNat=i from by omega,e]
 dsimp only
 split<;>rfl
theorem lv_node {o:List Int} {ns:List DN} {i:Nat}:lvZ o ns (2+i)=placeZ o (ns.getD i dn0).v:=by
 unfold lvZ
 rw [if_neg om,show((2:Int)+(i:Int)-2).toNat=i from by omega]
theorem mk_ok {o:List Int} {ns:List DN} (h:TabOk o ns) {v lo hi:Int} (hv0:0≤v) (hv1:v<o.length) (hl:RefOk ns lo) (hh:RefOk ns hi) (bl:placeZ o v<lvZ o ns lo) (bh:placeZ o v<lvZ o ns hi):
 Later o ns (mkF ns v lo hi).1 1∧RefOk (mkF ns v lo hi).1 (mkF ns v lo hi).2∧placeZ o v≤lvZ o (mkF ns v lo hi).1 (mkF ns v lo hi).2∧∀s,evalD (mkF ns v lo hi).1 s (mkF ns v lo hi).2=if s.testBit v.toNat then evalD ns s hi else evalD ns s lo:=by
 unfold mkF
 by_cases e:lo=hi
 ·subst e
  rw [if_pos rfl]
  exact⟨Later.refl h 1,hl,Int.le_of_lt bl,fun s=>by split<;>rfl⟩
 ·rw [if_neg e]
  cases hf:findN ⟨v,lo,hi⟩ ns 0 with
  |some i=>
   obtain⟨_,h2,h3⟩:=findN_some hf
   rw [Nat.sub_zero] at h3
   have hi':i<ns.length:=by omega
   refine⟨Later.refl h 1,⟨by show(0:Int)≤2+i;omega,by show(2:Int)+i<ns.length+2;omega⟩,?_,fun s=>eval_node h hi' h3 s⟩
   show placeZ o v≤lvZ o ns (2+i)
   rw [lv_node,h3]
   exact Int.le_refl _
  |none=>
   have hnew:=findN_none hf
   have hg:(ns++[(⟨v,lo,hi⟩:DN)]).getD ns.length dn0=⟨v,lo,hi⟩:=by
    rw [List.getD_eq_getElem?_getD,List.getElem?_append_right (Nat.le_refl _),Nat.sub_self];rfl
   have htab:TabOk o (ns++[(⟨v,lo,hi⟩:DN)]):=by
    intro i hi2
    rw [List.length_append,List.length_singleton] at hi2
    by_cases hin:i<ns.length
    ·exact nd_app h hin
    ·have:i=ns.length:=by omega
     subst this
     unfold RefOk at hl hh
     refine⟨?_,?_,?_,?_,?_⟩<;>rw [hg]
     ·exact⟨hv0,hv1,hl.1,hl.2,hh.1,hh.2⟩
     ·exact e
     ·rw [lv_app hl];exact bl
     ·rw [lv_app hh];exact bh
     ·rw [List.take_append_of_le_length (Nat.le_refl _),List.take_length];exact hnew
   refine⟨⟨htab,⟨_,rfl⟩,by simp⟩,⟨by show(0:Int)≤2+ns.length;omega,by show(2:Int)+ns.length<(ns++[_]).length+2;simp;omega⟩,?_,fun s=> ?_⟩
   ·show placeZ o v≤lvZ o (ns++[_]) (2+ns.length)
    rw [lv_node,hg]
    exact Int.le_refl _
   ·show evalD (ns++[_]) s (2+ns.length)=_
    rw [eval_node htab (by simp) hg s,eval_app h.ns hh,eval_app h.ns hl]
def kidsF (o:List Int) (ns:List DN) (r L:Int):Int×Int:=if lvZ o ns r≠L then(r,r) else((ns.getD (r-2).toNat dn0).lo,(ns.getD (r-2).toNat dn0).hi)
theorem place_at {o:List Int} {v L:Int} (h:placeZ o v=L) (hL:0≤L) (hv:v∈o):o.getD L.toNat 0=v:=by
 unfold placeZ at h
 rw [if_pos hv] at h
 have:L.toNat=o.idxOf v:=by omega
 rw [this]
 have hlt:=List.idxOf_lt_length_of_mem hv
 rw [getDZ hlt]
 exact List.getElem_idxOf hlt
theorem place_nonneg {o:List Int} {v:Int} (hv:v∈o):0≤placeZ o v:=by
 unfold placeZ
 rw [if_pos hv];omega
theorem lv_le {o:List Int} {ns:List DN} {r:Int}:lvZ o ns r≤o.length:=by
 unfold lvZ
 split
 ·omega
 ·unfold placeZ
  split
  ·rename_i h;have:=List.idxOf_lt_length_of_mem h;omega
  ·omega
theorem kids_ok {o:List Int} {ns:List DN} (h:TabOk o ns) (hm:∀v:Int,0≤v→v<o.length→v∈o) {r L:Int} (hr:RefOk ns r) (h0:0≤L) (hL:L<o.length) (hlv:L≤lvZ o ns r):
 RefOk ns (kidsF o ns r L).1∧RefOk ns (kidsF o ns r L).2∧L+1≤lvZ o ns (kidsF o ns r L).1∧L+1≤lvZ o ns (kidsF o ns r L).2∧∀s:Nat,evalD ns s r=if s.testBit (o.getD L.toNat 0).toNat then evalD ns s (kidsF o ns r L).2 else evalD ns s (kidsF o ns r L).1:=by
 unfold kidsF
 by_cases e:lvZ o ns r=L
 ·rw [if_neg (by simpa using e)]
  have hr2:2≤r:=by
   refine Classical.byContradiction fun hn=> ?_
   unfold lvZ at e
   rw [if_pos om] at e
   omega
  unfold RefOk at hr
  have hi:(r-2).toNat<ns.length:=by omega
  obtain⟨r1,r2⟩:=kids_ref h hi
  have nd:=h _ hi
  have hpl:placeZ o (ns.getD (r-2).toNat dn0).v=L:=by
   unfold lvZ at e
   rw [if_neg om] at e
   exact e
  have hvm:(ns.getD (r-2).toNat dn0).v∈o:=hm _ nd.nk.v0 nd.nk.v1
  have hg:=place_at hpl h0 hvm
  refine⟨r1,r2,by have:=nd.bl;show L+1≤lvZ o ns (ns.getD (r-2).toNat dn0).lo;omega,by have:=nd.bh;show L+1≤lvZ o ns (ns.getD (r-2).toNat dn0).hi;omega,fun s=> ?_⟩
  have:=eval_node h hi (v:=(ns.getD (r-2).toNat dn0).v) (lo:=(ns.getD (r-2).toNat dn0).lo) (hi':=(ns.getD (r-2).toNat dn0).hi) rfl s
  rw [show(2:Int)+(((r-2).toNat:Nat):Int)=r from by omega] at this
  rw [this,hg]
 ·rw [if_pos (by simpa using e)]
  exact⟨hr,hr,by show L+1≤lvZ o ns r;omega,by show L+1≤lvZ o ns r;omega,fun s=>by split<;>rfl⟩
abbrev Mem3:=List ((Int×Int×Int)×Int)
def lv3 (o:List Int) (ns:List DN) (k:Int×Int×Int):Int:=min (lvZ o ns k.1) (min (lvZ o ns k.2.1) (lvZ o ns k.2.2))
structure MemE (o:List Int) (ns:List DN) (e:(Int×Int×Int)×Int):Prop where
 c:RefOk ns e.1.1
 a:RefOk ns e.1.2.1
 b:RefOk ns e.1.2.2
 r:RefOk ns e.2
 lv:lv3 o ns e.1≤lvZ o ns e.2
 sem:∀s,evalD ns s e.2=if evalD ns s e.1.1 then evalD ns s e.1.2.1 else evalD ns s e.1.2.2
def MemOk (o:List Int) (ns:List DN) (mm:Mem3):Prop:=∀e∈mm,MemE o ns e
theorem Later.lv3 {o:List Int} {a b:List DN} {n:Nat} (h:Later o a b n) {k:Int×Int×Int} (h1:RefOk a k.1) (h2:RefOk a k.2.1) (h3:RefOk a k.2.2):Go.PN.lv3 o b k=Go.PN.lv3 o a k:=by
 unfold Go.PN.lv3
 rw [h.lv h1,h.lv h2,h.lv h3]
theorem MemE.later {o:List Int} {a b:List DN} {n:Nat} (h:Later o a b n) (ha:TabOk o a) {e:(Int×Int×Int)×Int} (he:MemE o a e):MemE o b e:=
 ⟨h.ref he.c,h.ref he.a,h.ref he.b,h.ref he.r,by rw [h.lv3 he.c he.a he.b,h.lv he.r];exact he.lv,fun s=>by rw [h.eval ha he.r,h.eval ha he.c,h.eval ha he.a,h.eval ha he.b];exact he.sem s⟩
theorem MemOk.later {o:List Int} {a b:List DN} {n:Nat} (h:Later o a b n) (ha:TabOk o a) {mm:Mem3} (hm:MemOk o a mm):MemOk o b mm:=fun e he=>(hm e he).later h ha
end Go.PN
namespace Go.PN
open Go.AI
structure ChP (o:List Int) (ns:List DN) (mm:Mem3) (c a b L:Int) (k:Nat) (ns':List DN) (mm':Mem3) (r:Int):Prop where
 lat:Later o ns ns' (2^k-1)
 mem:MemOk o ns' mm'
 mlen:mm'.length≤mm.length+(2^k-1)
 mnew:∀e∈mm',e∈mm∨L≤lv3 o ns' e.1
 ref:RefOk ns' r
 lv:L≤lvZ o ns' r
 sem:∀s,evalD ns' s r=if evalD ns s c then evalD ns s a else evalD ns s b
theorem ChP.same {o:List Int} {ns:List DN} {mm:Mem3} {c a b L:Int} {k:Nat} {r:Int} (ht:TabOk o ns) (hm:MemOk o ns mm) (hr:RefOk ns r) (hl:L≤lvZ o ns r) (hs:∀s,evalD ns s r=if evalD ns s c then evalD ns s a else evalD ns s b):ChP o ns mm c a b L k ns mm r:=
 ⟨Later.refl ht _,hm,by omega,fun e he=>.inl he,hr,hl,hs⟩
theorem ChP.step {o:List Int} {ns ns1 ns2:List DN} {mm mm1 mm2:Mem3} {c a b L lo hi:Int} {k:Nat} (hmem:∀v:Int,0≤v→v<o.length→v∈o) (hpm:∀i:Nat,i<o.length→0≤o.getD i 0∧o.getD i 0<o.length∧placeZ o (o.getD i 0)=i)
 (ht:TabOk o ns) (hc:RefOk ns c) (ha:RefOk ns a) (hb:RefOk ns b) (h0:0≤L) (hL:L<o.length) (hl:lv3 o ns (c,a,b)=L)
 (h1:ChP o ns mm (kidsF o ns c L).1 (kidsF o ns a L).1 (kidsF o ns b L).1 (L+1) k ns1 mm1 lo) (h2:ChP o ns1 mm1 (kidsF o ns c L).2 (kidsF o ns a L).2 (kidsF o ns b L).2 (L+1) k ns2 mm2 hi):
 ChP o ns mm c a b L (k+1) (mkF ns2 (o.getD L.toNat 0) lo hi).1 (mm2++[((c,a,b),(mkF ns2 (o.getD L.toNat 0) lo hi).2)]) (mkF ns2 (o.getD L.toNat 0) lo hi).2:=by
 unfold lv3 at hl
 simp only at hl
 obtain⟨v0,v1,vp⟩:=hpm L.toNat om
 have k1:=kids_ok ht hmem hc h0 hL om
 have k2:=kids_ok ht hmem ha h0 hL om
 have k3:=kids_ok ht hmem hb h0 hL om
 have hlo:=h2.lat.lv h1.ref
 have m:=mk_ok h2.lat.tab v0 v1 (h2.lat.ref h1.ref) h2.ref (by have:=h1.lv;omega) (by have:=h2.lv;omega)
 obtain⟨m1,m2,m3,m4⟩:=m
 have hp:2^(k+1)=2^k+2^k:=by rw [Nat.pow_succ];omega
 have hk:0<2^k:=Nat.pow_pos om
 have l12:Later o ns ns2 (2^k-1+(2^k-1)):=h1.lat.trans h2.lat (Nat.le_refl _)
 have l13:Later o ns (mkF ns2 (o.getD L.toNat 0) lo hi).1 (2^(k+1)-1):=l12.trans m1 om
 have hsem:∀s,evalD (mkF ns2 (o.getD L.toNat 0) lo hi).1 s (mkF ns2 (o.getD L.toNat 0) lo hi).2=if evalD ns s c then evalD ns s a else evalD ns s b:=fun s=>by
  rw [m4 s,h2.sem s,h2.lat.eval h1.lat.tab h1.ref,h1.sem s,h1.lat.eval ht k1.2.1,h1.lat.eval ht k2.2.1,h1.lat.eval ht k3.2.1,k1.2.2.2.2 s,k2.2.2.2.2 s,k3.2.2.2.2 s]
  cases s.testBit (o.getD L.toNat 0).toNat<;>rfl
 refine⟨l13,fun e he=> ?_,by rw [List.length_append,List.length_singleton];have:=h1.mlen;have:=h2.mlen;omega,fun e he=> ?_,m2,by omega,hsem⟩
 ·rcases List.mem_append.1 he with he|he
  ·exact(h2.mem e he).later m1 h2.lat.tab
  ·rw [List.mem_singleton] at he
   subst he
   refine⟨l13.ref hc,l13.ref ha,l13.ref hb,m2,?_,fun s=> ?_⟩
   ·rw [l13.lv3 (k:=(c,a,b)) hc ha hb]
    unfold lv3
    simp only
    omega
   ·show evalD _ s (mkF ns2 (o.getD L.toNat 0) lo hi).2=_
    rw [hsem s,l13.eval ht hc,l13.eval ht ha,l13.eval ht hb]
 ·rcases List.mem_append.1 he with he|he
  ·have hold:=h2.mem e he
   rcases h2.mnew e he with h|h
   ·rcases h1.mnew e h with h'|h'
    ·exact .inl h'
    ·have e1:=h1.mem e h
     right
     rw [(h2.lat.trans m1 (Nat.le_refl _)).lv3 e1.c e1.a e1.b]
     omega
   ·right
    rw [m1.lv3 hold.c hold.a hold.b]
    omega
  ·rw [List.mem_singleton] at he
   subst he
   right
   rw [l13.lv3 (k:=(c,a,b)) hc ha hb]
   unfold lv3
   simp only
   omega
theorem ChP.mono {o:List Int} {ns:List DN} {mm:Mem3} {c a b L L':Int} {k:Nat} {ns':List DN} {mm':Mem3} {r:Int} (h:ChP o ns mm c a b L k ns' mm' r) (hl:L'≤L):ChP o ns mm c a b L' k ns' mm' r:=
 ⟨h.lat,h.mem,h.mlen,fun e he=>(h.mnew e he).imp id fun x=>Int.le_trans hl x,h.ref,Int.le_trans hl h.lv,h.sem⟩
theorem lv3_nonneg {o:List Int} (hm:∀v:Int,0≤v→v<o.length→v∈o) {ns:List DN} (ht:TabOk o ns) {r:Int} (hr:RefOk ns r):0≤lvZ o ns r:=by
 unfold lvZ
 split
 ·omega
 ·unfold RefOk at hr
  obtain⟨v0,v1,_,_,_,_⟩:=(ht (r-2).toNat om).nk
  exact place_nonneg (hm _ v0 v1)
theorem lv_lt {o:List Int} {ns:List DN} (ht:TabOk o ns) {r:Int} (hr:RefOk ns r) (h2:2≤r):lvZ o ns r<o.length:=by
 have hi:(r-2).toNat<ns.length:=by unfold RefOk at hr;omega
 have nd:=ht _ hi
 have h1:=nd.bl
 have h3:=lv_le (o:=o) (ns:=ns) (r:=(ns.getD (r-2).toNat dn0).lo)
 unfold lvZ
 rw [if_neg om]
 omega
end Go.PN
namespace Go.PN
open Go.AI
theorem ieq_t {a b:Int} (h:a=b):(a==b)=true∧decide (a=b)=true∧(a !=b)=false∧(!decide (a=b))=false:=by subst h;simp
theorem ieq_f {a b:Int} (h:¬a=b):(a==b)=false∧decide (a=b)=false∧(a !=b)=true∧(!decide (a=b))=true:=by simp [h]
structure Sm (o:List Int) (ns:List DN) (sl sl':List Int) (r:Int):Prop where
 pre:∃zs,sl'=sl++zs
 len:sl'.length≤sl.length+(2^(o.length-lvZ o ns r).toNat-1)
theorem Sm.same {o:List Int} {ns:List DN} {sl:List Int} {r:Int}:Sm o ns sl sl r:=⟨⟨[],by simp⟩,by omega⟩
theorem Sm.node {o:List Int} {ns:List DN} {sl s1 s2:List Int} {r:Int} (ht:TabOk o ns) (h2:2≤r) (hr:r<ns.length+2) (a:Sm o ns (sl++[r]) s1 (ns.getD (r-2).toNat dn0).lo) (b:Sm o ns s1 s2 (ns.getD (r-2).toNat dn0).hi):Sm o ns sl s2 r:=by
 obtain⟨z1,e1⟩:=a.pre
 obtain⟨z2,e2⟩:=b.pre
 refine⟨⟨[r]++z1++z2,by rw [e2,e1];simp⟩,?_⟩
 have hi':(r-2).toNat<ns.length:=by omega
 have nd:=ht _ hi'
 have b1:=nd.bl
 have b2:=nd.bh
 have hlr:lvZ o ns r=placeZ o (ns.getD (r-2).toNat dn0).v:=by unfold lvZ;rw [if_neg om]
 have ll:=lv_le (o:=o) (ns:=ns) (r:=(ns.getD (r-2).toNat dn0).lo)
 have lh:=lv_le (o:=o) (ns:=ns) (r:=(ns.getD (r-2).toNat dn0).hi)
 have la:=a.len
 have lb:=b.len
 rw [List.length_append,List.length_singleton] at la
 obtain⟨q,hq⟩:∃q,(o.length-lvZ o ns r).toNat=q+1:=⟨(o.length-lvZ o ns r).toNat-1,by omega⟩
 have pa:2^((o.length:Int)-lvZ o ns (ns.getD (r-2).toNat dn0).lo).toNat≤2^q:=Nat.pow_le_pow_right om om
 have pb:2^((o.length:Int)-lvZ o ns (ns.getD (r-2).toNat dn0).hi).toNat≤2^q:=Nat.pow_le_pow_right om om
 have pq:0<2^q:=Nat.pow_pos om
 rw [hq,Nat.pow_succ]
 omega
def snL (sl:List Int):List (Int×Value):=sl.map fun e=>(e,.bool true)
theorem sn_get (r:Int):∀sl:List Int,kvGet r (snL sl)=if r∈sl then some (.bool true) else none
 |[]=>by simp [snL,kvGet]
 |e::sl=>by
  show(if r=e then some (Value.bool true) else kvGet r (snL sl))=_
  rw [sn_get r sl]
  by_cases h:r=e
  ·subst h;simp
  ·rw [if_neg h]
   by_cases hm:r∈sl
   ·rw [if_pos hm,if_pos (List.mem_cons_of_mem _ hm)]
   ·rw [if_neg hm,if_neg (by simp [h,hm])]
theorem sn_push (sl:List Int) (r:Int):snL sl++[(r,.bool true)]=snL (sl++[r]):=by simp [snL]
end Go.PN
