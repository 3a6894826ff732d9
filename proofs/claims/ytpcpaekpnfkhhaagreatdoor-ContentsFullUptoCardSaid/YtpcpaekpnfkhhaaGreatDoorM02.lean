/- Parts of one proof, laid by a program. -/
import Derived.Test.YtpcpaekpnfkhhaaGreatDoorM00
import Derived.Test.YtpcpaekpnfkhhaaGreatDoorM01
import Derived.Laws.MakeOwn
import Derived.Orders
import Derived.Laws.StructEq
set_option linter.unusedSimpArgs false
set_option linter.unusedVariables false
set_option maxRecDepth 100000
set_option maxHeartbeats 12800000
namespace Go.AI
noncomputable def runOps (P:Program) (nw:Bool) (h:Heap) (all:List Oper):List Oper→Prop→Sl→Option (Prop×Sl)
 |[],q,σ=>some (q,σ)
 |o::rest,q,σ=>match wantA all σ o with
  |some true=>match pureOp P nw h (ev σ) o.op with
   |some (q1,r)=>runOps P nw h all rest (q∧q1) (σ.setO o.dst r)
   |none=>none
  |some false=>runOps P nw h all rest q (σ.setO o.dst (.tup []))
  |none=>none
def dstsOk (N:Nat) (l:List Oper):Bool:=l.all fun o=>dstOk N o.dst
section
variable {E : Env} {K : List It} {σ σ' : Sl} {h : Heap} {all rest : List Oper} {o : Oper}
theorem runOps_q {P:Program} {nw:Bool}:∀(l:List Oper) (q:Prop) (σ σ':Sl) (q':Prop),runOps P nw h all l q σ=some (q',σ')→q'→q
 |[],q,σ,σ',q',hr,hq=>by
  simp only [runOps,Option.some.injEq,Prod.mk.injEq] at hr
  rw [hr.1];exact hq
 |o::l,q,σ,σ',q',hr,hq=>by
  unfold runOps at hr
  split at hr
  ·split at hr
   ·exact(runOps_q l _ _ _ _ hr hq).1
   ·cases hr
  ·exact runOps_q l _ _ _ _ hr hq
  ·cases hr
theorem aw_runOps (nw:Bool):∀(l:List Oper) (q:Prop) (σ σ':Sl) (q':Prop),runOps E.P nw h all l q σ=some (q',σ')→q'→dstsOk E.N l=true→aw E (.ops all rest::K) σ' h→aw E (.ops all (l++rest)::K) σ h
 |[],q,σ,σ',q',hr,_,_,k=>by
  simp only [runOps,Option.some.injEq,Prod.mk.injEq] at hr
  rw [hr.2]
  exact k
 |o::l,q,σ,σ',q',hr,hq,hd,k=>by
  simp only [dstsOk,List.all_cons,Bool.and_eq_true] at hd
  unfold runOps at hr
  split at hr
  ·rename_i hw
   split at hr
   ·rename_i q1 r hp
    exact aw_p nw hp (runOps_q l _ _ _ _ hr hq).2 rfl hw hd.1 (aw_runOps nw l _ _ _ q' hr hq hd.2 k)
   ·cases hr
  ·rename_i hw
   exact aw_skipped hw hd.1 rfl (aw_runOps nw l _ _ _ q' hr hq hd.2 k)
  ·cases hr
theorem aw_rp {id:Nat} {l:List Oper} (nw:Bool) {q:Prop} (hr:runOps E.P nw h l l True σ=some (q,σ')) (hq:q) (hd:dstsOk E.N l=true) (k:aw E K σ' h):aw E (.code (.region id l.toArray false)::K) σ h:=
 aw_region (by have:=aw_runOps (E:=E) (K:=K) (h:=h) (all:=l) (rest:=[]) nw l True σ σ' q hr hq hd (aw_ops_nil k);simpa using this)
def updF (f:Nat→CV) (off:Nat):List CV→Nat→CV
 |[]=>f
 |c::cs=>updF (fun j=>if j=off then c else f j) (off+1) cs
def putL (cs:Array Value) (k:Nat):List Value→Array Value
 |[]=>cs
 |u::us=>putL (cs.setIfInBounds k u) (k+1) us
theorem putL_size (us:List Value):∀(cs:Array Value) (k:Nat),(putL cs k us).size=cs.size:=by
 induction us with
 |nil=>intro cs k;rfl
 |cons u us ih=>intro cs k;simp [putL,ih]
theorem putL_rep {S:Bool→Nat→Prop} {w:World} {n:Nat}:∀(vs:List CV) (us:List Value) (cs:Array Value) (f:Nat→CV) (k:Nat),RepL S w vs us→n≤cs.size→(∀j,j<n→∃u,cs[j]?=some u∧RepC S w (f j) u)→
  ∀j,j<n→∃u,(putL cs k us)[j]?=some u∧RepC S w (updF f k vs j) u
 |[],[],cs,f,k,_,_,hc=>hc
 |c::vs,u::us,cs,f,k,hr,hn,hc=>by
  refine putL_rep vs us _ _ (k+1) hr.2 (by simpa using hn) (fun j hj=> ?_)
  by_cases e:j=k
  ·subst e
   exact⟨u,by simp [show j<cs.size from by omega],by simpa using hr.1⟩
  ·obtain⟨x,hx,hxr⟩:=hc j hj
   exact⟨x,by rw [Array.getElem?_setIfInBounds_ne (fun e'=>e e'.symm)];exact hx,by simpa [e] using hxr⟩
 |[],_::_,_,_,_,hr,_,_=>hr.elim
 |_::_,[],_,_,_,hr,_,_=>hr.elim
theorem run_storeCells {P:Program} {g:Nat} {ty:TypeId}:∀(us:List Value) (w:World) (cs:Array Value) (off i:Nat),w.heap[g]?=some (.cells cs ty (0,0))→off+i+us.length≤cs.size→(∀u∈us,u.oneCell'=true)→
  ∃w',(storeCells ⟨g,off,none⟩ us i).run P w=.ok () w'∧w'.heap[g]?=some (.cells (putL cs (off+i) us) ty (0,0))∧Fr (fun b=>b=g) w w'
 |[],w,cs,off,i,hb,_,_=>⟨w,by simp [storeCells],hb,Fr.refl _ _⟩
 |u::us,w,cs,off,i,hb,hl,h1=>by
  simp only [List.length_cons] at hl
  have hc:w.cell? ⟨g,off+i,none⟩=some (cs[off+i]'om):=by rw [cell_own hb];exact Array.getElem?_eq_getElem _
  have hz:w.frozen? ⟨g,off+i,none⟩=false:=by simp [World.frozen?,hb]
  have hb':(w.setCell ⟨g,off+i,none⟩ u).heap[g]?=some (.cells (cs.setIfInBounds (off+i) u) ty (0,0)):=by
   simp [World.setCell,Array.getElem?_modify,hb]
  obtain⟨w',hrun,hbl,hfr⟩:=run_storeCells us (w.setCell ⟨g,off+i,none⟩ u) _ off (i+1) hb' (by simp;omega) (fun x hx=>h1 x (List.mem_cons_of_mem _ hx))
  refine⟨w',?_,by simpa [putL,Nat.add_assoc] using hbl,(Fr.setCell w _ u (own:=fun b=>b=g) rfl).trans hfr (fun x hx _=>hx)⟩
  simp only [storeCells,Sem.run_bind,add_mk,run_store P w _ u _ (h1 u (by simp)),hc,hz]
  simpa using hrun
theorem St.setObj {N:Nat} {C:Ctx} {a:Act} {w w':World} {g:Nat} {ob ob':AObj} (s:St N C σ h a w) (hg:h.get g=some ob) (hfr:Fr (fun b=>b=g) w w') (ho:ORep (Stab C (h.set g ob') w') w' g ob'):
  St N C σ (h.set g ob') a w':=by
 have hgm:g∈h.keys:=List.mem_map.2 ⟨_,Heap.get_mem hg,rfl⟩
 have hk:(h.set g ob').keys=h.keys:=Heap.keys_set _ _ _
 have kp:Keeps (Stab C h w) (Stab C (h.set g ob') w') w w':=
  ⟨fun t b hb=>⟨hb.1,Nat.lt_of_lt_of_le hb.2.1 hfr.size,by rw [hk];exact hb.2.2⟩,fun t b hb=>hfr.block b hb.2.1 (fun e=>hb.2.2 (e▸hgm)),hfr.has⟩
 refine⟨s.size,s.defers,fun t=>Rep.keep kp (s.slots t),fun g' o' hm=> ?_,by rw [hk];exact s.nodup,by rw [hk];exact s.keys,?_⟩
 ·rcases Heap.mem_set s.nodup hm with e|⟨hm',hne⟩
  ·cases e;exact ho
  ·have h1:=s.heap g' o' hm'
   exact ORep.keep kp (hfr.block g' h1.lt hne) h1
 ·refine s.frame.trans hfr (fun x hx hlt=> ?_)
  subst hx
  exact(s.keys _ hgm).resolve_right om
theorem aw_store {t g off m n:Nat} {ty:TypeId} {ag:Bool} {f:Nat→CV} {a x:Operand} {v:AV} {h':Heap} (hop:o.op=.store t a x) (hw:wantA all σ o=some true) (hd:dstOk E.N o.dst=true) (hdn:o.dst=none) (ha:ev σ a=.c (.optr g off)) (hx:ev σ x=v)
  (hg:h.get g=some (.cells ty m f)) (ht:tSz E.P t=some (ag,n)) (hnt:∀xs,v≠.tup xs) (hs:v.cells.all CV.solid=true) (hlen:v.cells.length=n) (hle:off+n≤m)
  (hh:h.set g (.cells ty m (updF f off v.cells))=h') (k:aw E (.ops all rest::K) σ h'):aw E (.ops all (o::rest)::K) σ h:=by
 subst hh
 refine aw_step hw (fun ac w s=> ?_) k
 have h1:=ev_rep s a
 have h2:=ev_rep s x
 rw [ha] at h1
 rw [hx] at h2
 have h1':ac.eval a=.pointer (some ⟨g,off,none⟩):=h1
 obtain⟨hL,hone⟩:=rep_cells hnt hs h2
 obtain⟨cs,hb,hn,hj⟩:=s.heap g _ (Heap.get_mem hg)
 have hus:(ac.eval x).cells.toList.length=n:=by rw [hL.length,hlen]
 obtain⟨w',hrun,hbl,hfr⟩:=run_storeCells (P:=E.P) (ac.eval x).cells.toList w cs off 0 hb om (fun u hu=>hone u (by simpa using hu))
 refine⟨undef,w',.inr ⟨?_,rfl⟩,?_⟩
 ·have hsz:(ac.eval x).cells.size=n:=by rw [←hus];simp
  simp only [execOp,hop,Instr.storeAt,Instr.sureAddr,h1',storeVar,Sem.run_bind,Sem.run_pure,Result.andThen_ok,(tSz_run ht w).2,hsz,ne_eq,not_true_eq_false,if_false,hrun]
 ·have e:ac.put o.dst undef=ac:=by rw [hdn];rfl
  rw [e]
  have hgm:g∈h.keys:=List.mem_map.2 ⟨_,Heap.get_mem hg,rfl⟩
  have hkk:(h.set g (.cells ty m (updF f off v.cells))).keys=h.keys:=Heap.keys_set _ _ _
  have kp:Keeps (Stab E.C h w) (Stab E.C (h.set g (.cells ty m (updF f off v.cells))) w') w w':=
   ⟨fun t b hb=>⟨hb.1,Nat.lt_of_lt_of_le hb.2.1 hfr.size,by rw [hkk];exact hb.2.2⟩,fun t b hb=>hfr.block b hb.2.1 (fun e=>hb.2.2 (e▸hgm)),hfr.has⟩
  refine s.setObj hg hfr ⟨_,hbl,by rw [putL_size];exact hn,?_⟩
  have:=putL_rep v.cells (ac.eval x).cells.toList cs f (off+0) (hL.keep kp) hn (fun j hjn=>by obtain⟨u,hu,hr⟩:=hj j hjn;exact⟨u,hu,hr.keep kp⟩)
  simpa using this
end
end Go.AI
namespace Go.AI
section
variable {E : Env} {K : List It} {σ σ' : Sl} {h : Heap} {all rest : List Oper} {o : Oper}
theorem putL_get (us:List Value):∀(cs:Array Value) (k j:Nat),k+us.length≤cs.size→(putL cs k us)[j]?=if k≤j∧j<k+us.length then us[j-k]? else cs[j]?:=by
 induction us with
 |nil=>intro cs k j _;simp [putL];omega
 |cons u us ih=>
  intro cs k j hl
  simp only [List.length_cons] at hl
  rw [putL,ih _ _ _ (by simp;omega)]
  by_cases h1:k+1≤j∧j<k+1+us.length
  ·rw [if_pos h1,if_pos (by simp;omega)]
   have:j-k=(j-(k+1))+1:=by omega
   rw [this];simp
  ·rw [if_neg h1]
   by_cases h2:j=k
   ·subst h2
    rw [if_pos (by simp)]
    simp [show j<cs.size from by omega]
   ·rw [if_neg (by simp;omega),Array.getElem?_setIfInBounds_ne (fun e=>h2 e.symm)]
theorem putL_full (us:List Value) (cs:Array Value) (hs:cs.size=us.length):putL cs 0 us=us.toArray:=by
 apply Array.ext_getElem?
 intro j
 rw [putL_get us cs 0 j om]
 by_cases hj:j<us.length
 ·rw [if_pos om];simp
 ·rw [if_neg om,Array.getElem?_eq_none om];simp;omega
theorem fold_putL (us:List Value) (off:Nat):∀(cs:Array Value) (k:Nat),(us.zipIdx k).foldl (fun cs (p:Value×Nat)=>cs.setIfInBounds (off+p.2) p.1) cs=putL cs (off+k) us:=by
 induction us with
 |nil=>intro cs k;rfl
 |cons u us ih=>intro cs k;simp only [List.zipIdx_cons,List.foldl_cons,ih,putL,Nat.add_assoc]
theorem fold_putL' (v:Value) (off:Nat) (cs:Array Value):v.cells.zipIdx.foldl (fun cs (c,j)=>cs.setIfInBounds (off+j) c) cs=putL cs off v.cells.toList:=by
 have:=fold_putL v.cells.toList off cs 0
 rw [Nat.add_zero] at this
 rw [←this,←Array.foldl_toList]
 simp
def enumL:Nat→List Value→List (Nat×Value)
 |_,[]=>[]
 |k,v::vs=>(k,v)::enumL (k+1) vs
theorem putL_append (us vs:List Value):∀(cs:Array Value) (k:Nat),putL cs k (us++vs)=putL (putL cs k us) (k+us.length) vs:=by
 induction us with
 |nil=>intro cs k;simp [putL]
 |cons u us ih=>intro cs k;simp only [List.cons_append,putL,ih,List.length_cons];congr 1;omega
theorem fill_seq (size:Nat):∀(vs:List Value) (k:Nat) (cs:Array Value),(∀v∈vs,v.cells.size=size)→(k+vs.length)*size≤cs.size→
  Instr.fill (fun i=>some (i*size,size)) cs (enumL k vs)=some (putL cs (k*size) (vs.flatMap fun v=>v.cells.toList))
 |[],k,cs,_,_=>rfl
 |v::vs,k,cs,hv,hl=>by
  have h1:v.cells.size=size:=hv v (by simp)
  have h2:(k+(vs.length+1))*size=k*size+size+vs.length*size:=by rw [Nat.add_mul,Nat.add_mul];omega
  simp only [List.length_cons] at hl
  simp only [enumL,Instr.fill]
  rw [if_neg (by simp only [h1,ne_eq,not_true_eq_false,decide_false,Bool.false_or,decide_eq_true_eq];omega),fold_putL']
  rw [fill_seq size vs (k+1) _ (fun x hx=>hv x (List.mem_cons_of_mem _ hx)) (by rw [putL_size];rw [show k+1+vs.length=k+(vs.length+1) from by omega];exact hl)]
  simp only [List.flatMap_cons,putL_append]
  congr 2
  rw [Nat.add_mul]
  simp [h1]
theorem RepL.append {S:Bool→Nat→Prop} {w:World}:∀{xs ys:List CV} {us vs:List Value},RepL S w xs us→RepL S w ys vs→RepL S w (xs++ys) (us++vs)
 |[],_,[],_,_,h2=>h2
 |_::_,_,_::_,_,h1,h2=>⟨h1.1,RepL.append h1.2 h2⟩
 |[],_,_::_,_,h1,_=>h1.elim
 |_::_,_,[],_,h1,_=>h1.elim
theorem parts_rep {N:Nat} {C:Ctx} {a:Act} {w:World} (s:St N C σ h a w) (size:Nat):∀(xs:List Operand),(∀x∈xs,(ev σ x).flat=true∧(ev σ x).cells.all CV.solid=true∧(ev σ x).cells.length=size)→
  RepL (Stab C h w) w ((xs.map (ev σ)).flatMap AV.cells) ((xs.map a.eval).flatMap fun v=>v.cells.toList)∧∀v∈xs.map a.eval,v.cells.size=size
 |[],_=>⟨trivial,by simp⟩
 |x::xs,hx=>by
  obtain⟨h1,h2,h3⟩:=hx x (by simp)
  obtain⟨hL,_⟩:=rep_cells (fun ys e=>by rw [e] at h1;cases h1) h2 (ev_rep s x)
  obtain⟨r1,r2⟩:=parts_rep s size xs (fun y hy=>hx y (List.mem_cons_of_mem _ hy))
  refine⟨by simpa using hL.append r1,?_⟩
  intro v hv
  simp only [List.map_cons,List.mem_cons] at hv
  rcases hv with rfl|hv
  ·have:=hL.length;rw [h3] at this;simpa using this
  ·exact r2 v hv
def enumO:Nat→List Operand→List (Nat×Operand)
 |_,[]=>[]
 |k,v::vs=>(k,v)::enumO (k+1) vs
theorem enum_map (e:Operand→Value):∀(xs:List Operand) (k:Nat),(enumO k xs).map (fun p=>(p.1,e p.2))=enumL k (xs.map e)
 |[],_=>rfl
 |_::xs,k=>by simp [enumO,enumL,enum_map e xs (k+1)]
theorem aw_buildSlice {t e size bytes len:Nat} {xs:List Operand} {cells:List CV} (hop:o.op=.buildSlice t len (enumO 0 xs).toArray) (hw:wantA all σ o=some true) (hd:dstOk E.N o.dst=true) (ht:tElem E.P t=some (e,size,bytes))
  (hz:(tZero E.P e).isSome=true) (hl:xs.length=len) (hsm:len*size≤16777216) (hlm:len≤16777216) (hx:∀x∈xs,(ev σ x).flat=true∧(ev σ x).cells.all CV.solid=true∧(ev σ x).cells.length=size) (hc:(xs.map (ev σ)).flatMap AV.cells=cells)
  (k:∀g,g∉h.keys→aw E (.ops all rest::K) (σ.setO o.dst (.c (.osl g size 0 len))) ((g,.cells e (len*size) (ofL cells))::h)):aw E (.ops all (o::rest)::K) σ h:=by
 subst hc
 refine aw_new (r:=fun g=>.c (.osl g size 0 len)) (ob:=.cells e (len*size) (ofL ((xs.map (ev σ)).flatMap AV.cells))) hw hd (fun a w s=> ?_) k
 obtain⟨hu,inf,hi,hsz,_⟩:=tElem_spec ht
 obtain⟨z,hz'⟩:=Option.isSome_iff_exists.1 hz
 obtain⟨i',zv,hi',hzv,_⟩:=tZero_spec hz'
 rw [hi] at hi'
 injection hi' with hi'
 subst hi'
 obtain⟨hL,hcs⟩:=parts_rep s size xs hx
 have hnk:w.heap.size∉h.keys:=fun hm=>Nat.lt_irrefl _ (s.klt hm)
 generalize hvs:xs.map a.eval=vs at hL hcs
 have hlv:vs.length=len:=by rw [←hvs];simpa using hl
 have hfl:(vs.flatMap fun v=>v.cells.toList).length=len*size:=by
  rw [←hlv]
  clear hL hvs hlv
  induction vs with
  |nil=>simp
  |cons v vs ih=>simp only [List.flatMap_cons,List.length_append,List.length_cons,ih (fun x hx=>hcs x (List.mem_cons_of_mem _ hx)),Nat.add_mul];have:=hcs v (by simp);simp [this];omega
 refine⟨.slice (some ⟨w.heap.size,0,none⟩) len len,w.alloc (.cells (vs.flatMap fun v=>v.cells.toList).toArray e),?_,Fr.alloc _ _ _,by simp,?_,?_⟩
 ·have hm:(Array.map (fun x:Nat×Operand=>(x.1,a.eval x.2)) (enumO 0 xs).toArray).toList=enumL 0 vs:=by
   rw [←hvs,←enum_map];simp
  have hfill:∀zc:Array Value,Instr.fill (fun i=>some (i*size,size)) ((Array.range (len*size)).map (fun x=>zc[x%zc.size]!)) (enumL 0 vs)=some (vs.flatMap fun v=>v.cells.toList).toArray:=fun zc=>by
   rw [fill_seq size vs 0 _ hcs (by simp [hlv])]
   rw [Nat.zero_mul,putL_full _ _ (by simp [hfl])]
  simp only [execOp,hop,Instr.buildSlice,Sem.run_bind,run_underlying hu,Result.andThen_ok,sizeOf,typeInfo,Sem.run_pure]
  simp only [run_program,hi,Result.andThen_ok,Sem.run_pure,hsz]
  rw [if_neg om]
  rw [hm]
  by_cases h0:len*size=0
  ·rw [if_pos h0]
   simp only [Sem.run_bind,Sem.run_pure,Result.andThen_ok,hfill]
   rfl
  ·rw [if_neg h0]
   simp only [Sem.run_bind,Sem.run_pure,Result.andThen_ok,zeroValue,typeInfo,run_program,hi,hzv,hfill]
   rfl
 ·have hr:=orep_new (C:=E.C) (w:=w) (ty:=e) (h':=((w.heap.size,AObj.cells e (len*size) (ofL ((xs.map (ev σ)).flatMap AV.cells)))::h)) (hL.keep (keeps_alloc hnk))
  have hcl:((xs.map (ev σ)).flatMap AV.cells).length=len*size:=by rw [←hL.length,hfl]
  rw [hcl] at hr
  exact hr
 ·exact⟨len,rfl,Nat.le_refl _,by unfold maxLen;omega,(vs.flatMap fun v=>v.cells.toList).toArray,e,⟨_,heap_alloc_new w _⟩,by simp [hfl]⟩
end
end Go.AI
namespace Go.AI
section
variable {E : Env} {K : List It} {σ σ' : Sl} {h : Heap} {all rest : List Oper} {o : Oper}
theorem ofL_map_cst (l:List Value) (j:Nat) (hj:j<l.length) (S:Bool→Nat→Prop) (w:World):RepC S w (ofL (l.map cstC) j) (l[j]):=by
 rw [ofL_get (l.map cstC) j (cstC l[j]) (by simp [hj])]
 exact cstC_rep S w _
theorem aw_make {t e size bytes n c:Nat} {z:List CV} {xl xc:Operand} {kl kc:IntKind} {nl nc:Int} (hop:o.op=.makeSlice t xl xc) (hw:wantA all σ o=some true) (hd:dstOk E.N o.dst=true) (ht:tElem E.P t=some (e,size,bytes))
  (hz:tZero E.P e=some z) (hzl:z.length=size) (hs0:0<size) (hl:ev σ xl=.c (.int kl nl)) (hc:ev σ xc=.c (.int kc nc)) (hn:nl=n) (hcn:nc=c) (hnc:n≤c) (hby:bytes*c≤281474976710656) (hc63:c≤9223372036854775807)
  (k:∀g,g∉h.keys→aw E (.ops all rest::K) (σ.setO o.dst (.c (.osl g size 0 n))) ((g,.cells e (c*size) (fun j=>ofL z (j%size)))::h)):aw E (.ops all (o::rest)::K) σ h:=by
 refine aw_new (r:=fun g=>.c (.osl g size 0 n)) (ob:=.cells e (c*size) (fun j=>ofL z (j%size))) hw hd (fun a w s=> ?_) k
 obtain⟨hu,inf,hi,hsz,hbb⟩:=tElem_spec ht
 obtain⟨i',zv,hi',hzv,rfl⟩:=tZero_spec hz
 rw [hi] at hi'
 injection hi' with hi'
 subst hi'
 have h1:a.eval xl=.int kl n:=by have:=ev_rep s xl;rw [hl,hn] at this;exact this
 have h2:a.eval xc=.int kc c:=by have:=ev_rep s xc;rw [hc,hcn] at this;exact this
 have hb':(inf.bytes:Int)*(c:Int)≤281474976710656:=by
  have h:((inf.bytes*c:Nat):Int)≤281474976710656:=by rw [hbb];omega
  rwa [Int.natCast_mul] at h
 have hr:=run_make (P:=E.P) w t e inf zv hu hi hzv kl kc n c om om hb' om
 simp only [Int.toNat_natCast] at hr
 refine⟨.slice (some ⟨w.heap.size,0,none⟩) n c,w.alloc (.cells (madeCells zv.cells (c*inf.size)) e),?_,Fr.alloc _ _ _,by simp,?_,?_⟩
 ·simp only [execOp,hop,h1,h2,Sem.run_bind,hr,Result.andThen_ok]
  rfl
 ·refine⟨_,heap_alloc_new w _,by rw [size_madeCells,hsz];exact Nat.le_refl _,fun j hj=> ?_⟩
  have hzs:zv.cells.size=size:=by simpa using hzl
  have hlt:j%size<zv.cells.size:=by rw [hzs];exact Nat.mod_lt _ hs0
  refine⟨zv.cells[j%size],?_,?_⟩
  ·have hlt':j%size<zv.cells.size:=hlt
   simp only [madeCells,hsz,hzs]
   simp [hj,hlt',getElem!_pos]
  ·exact ofL_map_cst zv.cells.toList (j%size) (by simpa using hlt) _ _
 ·exact⟨c,rfl,hnc,by unfold maxLen;omega,_,e,⟨_,heap_alloc_new w _⟩,by rw [size_madeCells,hsz];simp⟩
inductive Src (h:Heap) (size:Nat):CV→Nat→(Nat→CV)→Prop
 |nils {f:Nat→CV}:Src h size .nils 0 f
 |row {t:Bool} {n:Nat} {f:Nat→CV}:Src h size (.row t size n f) n f
 |osl {g off n m:Nat} {ty:TypeId} {f f':Nat→CV}:h.get g=some (.cells ty m f')→off+n*size≤m→(∀j,j<n*size→f j=f' (off+j))→Src h size (.osl g size off n) n f
theorem Src.cells {S:Bool→Nat→Prop} {w:World} {size n:Nat} {x:CV} {f:Nat→CV} {v:Value} (hh:∀g o,(g,o)∈h→ORep S w g o) (hs:Src h size x n f) (hr:RepC S w x v):
  ∃A c,v=.slice A n c∧(0<n*size→∃ad,A=some ad∧∀j,j<n*size→∃u,w.cell? (ad.add j)=some u∧RepC S w (f j) u):=by
 cases hs with
 |nils=>obtain⟨A,hv⟩:=hr;exact⟨A,0,hv,fun h0=>by simp at h0⟩
 |row=>obtain⟨A,c,hv,_,hn⟩:=hr;exact⟨A,c,hv,fun h0=>by obtain⟨ad,hA,_,hj⟩:=hn h0;exact⟨ad,hA,hj⟩⟩
 | @osl g off n m ty f f' hg hle hf=>
   obtain⟨c,hv,_,_,_⟩:=hr
   obtain⟨cs,hb,hn,hj⟩:=hh _ _ (Heap.get_mem hg)
   refine⟨_,c,hv,fun _=>⟨_,rfl,fun j hjl=> ?_⟩⟩
   obtain⟨u,hu,hr⟩:=hj (off+j) om
   exact⟨u,by rw [add_mk,cell_own hb];exact hu,by rw [hf j hjl];exact hr⟩
theorem list_of_cells {S:Bool→Nat→Prop} {w:World} {ad:Addr} {f:Nat→CV}:∀(n:Nat),(∀j,j<n→∃u,w.cell? (ad.add j)=some u∧RepC S w (f j) u)→
  ∃us:List Value,us.length=n∧(∀j u,us[j]?=some u→w.cell? (ad.add j)=some u∧RepC S w (f j) u)
 |0,_=>⟨[],rfl,fun j u e=>by simp at e⟩
 |n+1,hc=>by
  obtain⟨us,hl,hu⟩:=list_of_cells n (fun j hj=>hc j om)
  obtain⟨u,h1,h2⟩:=hc n om
  refine⟨us++[u],by simp [hl],fun j x e=> ?_⟩
  rw [List.getElem?_append] at e
  split at e
  ·exact hu j x e
  ·rename_i hj
   have:j-us.length=0:=by
    rcases Nat.eq_zero_or_pos (j-us.length) with h0|h0
    ·exact h0
    ·rw [List.getElem?_eq_none (by simp;omega)] at e;cases e
   rw [this] at e
   simp at e
   subst e
   have hjn:j=n:=by omega
   subst hjn
   exact⟨h1,h2⟩
def appF (f:Nat→CV) (m:Nat) (f2:Nat→CV) (j:Nat):CV:=if j<m then f j else f2 (j-m)
def Heap.del:Heap→Nat→Heap
 |[],_=>[]
 |(g',x)::h,g=>if g'=g then h else(g',x)::Heap.del h g
theorem Heap.del_sub (h:Heap) (g:Nat):(h.del g).Sublist h:=by
 induction h with
 |nil=>exact .slnil
 |cons p h ih=>
  obtain⟨g',x⟩:=p
  unfold Heap.del
  split
  ·exact List.sublist_cons_self _ _
  ·exact ih.cons_cons _
theorem Heap.del_not (h:Heap) (g:Nat) (hn:h.keys.Nodup):g∉(h.del g).keys:=by
 induction h with
 |nil=>simp [Heap.del,Heap.keys]
 |cons p h ih=>
  obtain⟨g',x⟩:=p
  simp only [Heap.keys,List.map_cons,List.nodup_cons] at hn
  unfold Heap.del
  split
  ·rename_i e;subst e;exact hn.1
  ·rename_i e
   simp only [Heap.keys,List.map_cons,List.mem_cons,not_or]
   exact⟨fun e'=>e e'.symm,ih hn.2⟩
theorem Fr.setRow {w:World} {g:Nat} {cs cs':Array Value} {e:TypeId} (hg:w.heap[g]?=some (.cells cs e (0,0))) (hs:cs'.size=cs.size):Fr (fun b=>b=g) w (w.setRow g cs'):=by
 refine⟨rfl,rfl,rfl,by simp [World.setRow],Nat.le_refl _,fun b _ hn=>setRow_other w g b cs' hn,fun g1 m hh=> ?_⟩
 obtain⟨c1,t1,⟨f1,h1⟩,h2⟩:=hh
 by_cases hne:g1=g
 ·subst hne
  rw [hg] at h1
  injection h1 with h1
  injection h1 with h1 h3
  subst h1
  exact⟨cs',e,⟨_,setRow_heap w g1 cs cs' e _ hg⟩,by rw [hs];exact h2⟩
 ·exact⟨c1,t1,⟨f1,(setRow_other w g g1 cs' hne).trans h1⟩,h2⟩
theorem append_own {P:Program} {w:World} {t ty e size bytes n c k d g:Nat} {z:List CV} {cs:Array Value} {ad:Addr} {news:List Value} (ht:tElem P t=some (e,size,bytes)) (hz:tZero P e=some z) (hzl:z.length=size)
  (hb:w.heap[g]?=some (.cells cs e (0,0))) (hcs:c*size≤cs.size) (hnc:n≤c) (hcm:c≤maxLen) (hnl:news.length=k*size) (hnews:∀j u,news[j]?=some u→w.cell? (ad.add j)=some u) (h1:∀u∈news,u.oneCell'=true)
  (h63:n+k≤maxLen) (hby:(n+k)*bytes≤140737488355328):
  ∃g' c' w' cs',(Builtin.append_ #[t,t] ty #[.slice (some ⟨g,0,none⟩) n c,.slice (some ad) k d]).run P w=.ok (.slice (some ⟨g',0,none⟩) (n+k) c') w'∧w'.heap[g']?=some (.cells cs' e (0,0))∧c'*size≤cs'.size∧n+k≤c'∧c'≤maxLen∧
   (∀j,j<n*size→cs'[j]?=cs[j]?)∧(∀j,j<k*size→cs'[n*size+j]?=news[j]?)∧(g'=g∨g'=w.heap.size)∧Fr (fun b=>b=g) w w':=by
 obtain⟨hu,inf,hi,hsz,hbb⟩:=tElem_spec ht
 obtain⟨i',zv,hi',hzv,rfl⟩:=tZero_spec hz
 rw [hi] at hi'
 injection hi' with hi'
 subst hi'
 subst hsz
 subst hbb
 have hzs:zv.cells.size=inf.size:=by simpa using hzl
 have hmul:(n+k)*inf.size=n*inf.size+k*inf.size:=Nat.add_mul _ _ _
 have hns:n*inf.size≤cs.size:=Nat.le_trans (Nat.mul_le_mul_right _ hnc) hcs
 have h63':n+k≤9223372036854775807:=by simp only [maxLen] at h63;omega
 by_cases hroom:n+k≤c
 ·have hfit:n*inf.size+news.length≤cs.size:=by rw [hnl,←Nat.add_mul];exact Nat.le_trans (Nat.mul_le_mul_right _ hroom) hcs
  have hr:=run_append_room (P:=P) w t ty e inf hu hi g n c cs hb ad k d news hnl hnews h1 hroom hfit
  refine⟨g,c,_,_,hr,setRow_heap w g cs _ e _ hb,?_,hroom,hcm,fun j hj=> ?_,fun j hj=> ?_,.inl rfl,Fr.setRow hb ?_⟩
  ·refine Nat.le_trans hcs ?_;simp only [List.size_toArray,List.length_append,List.length_take,List.length_drop,Array.length_toList];omega
  ·simp only [List.getElem?_toArray,List.append_assoc]
   rw [List.getElem?_append_left (by simp;omega),List.getElem?_take]
   simp [hj]
  ·simp only [List.getElem?_toArray,List.append_assoc]
   rw [List.getElem?_append_right (by simp;omega),List.getElem?_append_left (by simp;omega)]
   simp [Nat.min_eq_left hns]
  ·simp only [List.size_toArray,List.length_append,List.length_take,List.length_drop,Array.length_toList];omega
 ·have hold:∀j v,(cs.toList.take (n*inf.size))[j]?=some v→w.cell? ((⟨g,0,none⟩:Addr).add j)=some v:=by
   intro j v hv
   rw [add_mk,cell_own hb,Nat.zero_add]
   rw [List.getElem?_take] at hv
   split at hv
   ·simpa using hv
   ·cases hv
  have hol:(cs.toList.take (n*inf.size)).length=n*inf.size:=by simp;omega
  have hr:=run_append_grow (P:=P) w t ty e inf zv hu hi hzv ⟨g,0,none⟩ n c _ hol hold ad k d news hnl hnews om om (growslice_fits om hby)
  have hge:=grownCap_ge w (n+k) c e
  refine⟨w.heap.size,_,_,_,hr,heap_alloc_new w.drew _,?_,hge,grownCap_le_maxLen w (n+k) c e h63,fun j hj=> ?_,fun j hj=> ?_,.inr rfl,?_⟩
  ·refine Nat.le_of_eq ?_
   simp only [Array.size_append,List.size_toArray,size_zeroCells,hzs,hol,hnl,←Nat.add_mul]
   congr 1
   omega
  ·rw [Array.append_assoc,Array.getElem?_append_left (by simp;omega)]
   simp [hj]
  ·rw [Array.append_assoc,Array.getElem?_append_right (by simp;omega),Array.getElem?_append_left (by simp;omega)]
   simp [Nat.min_eq_left hns]
  ·exact(Fr.drew (fun b=>b=g) w (w.drawn+1)).trans (Fr.alloc (fun _=>False) w.drew _) (fun x hx _=>hx.elim)
theorem append_new {P:Program} {w:World} {t ty e size bytes k d:Nat} {z:List CV} {A:Option Addr} {ad:Addr} {news:List Value} (ht:tElem P t=some (e,size,bytes)) (hz:tZero P e=some z) (hzl:z.length=size)
  (hnl:news.length=k*size) (hnews:∀j u,news[j]?=some u→w.cell? (ad.add j)=some u) (hk:0<k) (h63:k≤maxLen) (hby:k*bytes≤140737488355328):
  ∃c' w' cs',(Builtin.append_ #[t,t] ty #[.slice A 0 0,.slice (some ad) k d]).run P w=.ok (.slice (some ⟨w.heap.size,0,none⟩) k c') w'∧w'.heap[w.heap.size]?=some (.cells cs' e (0,0))∧c'*size≤cs'.size∧k≤c'∧c'≤maxLen∧
   (∀j,j<k*size→cs'[j]?=news[j]?)∧Fr (fun _=>False) w w':=by
 obtain⟨hu,inf,hi,hsz,hbb⟩:=tElem_spec ht
 obtain⟨i',zv,hi',hzv,rfl⟩:=tZero_spec hz
 rw [hi] at hi'
 injection hi' with hi'
 subst hi'
 subst hsz
 subst hbb
 have hzs:zv.cells.size=inf.size:=by simpa using hzl
 have h63':k≤9223372036854775807:=by simp only [maxLen] at h63;omega
 cases A with
 |none=>
  have hr:=run_append_nil (P:=P) w t ty e inf zv hu hi hzv ad k d news hnl hnews hk om om
  have hge:=grownCap_ge w k 0 e
  refine⟨_,_,_,hr,heap_alloc_new w.drew _,?_,hge,grownCap_le_maxLen w k 0 e h63,fun j hj=> ?_,?_⟩
  ·refine Nat.le_of_eq ?_
   simp only [Array.size_append,List.size_toArray,size_zeroCells,hzs,hnl,←Nat.add_mul]
   congr 1
   omega
  ·rw [Array.getElem?_append_left (by simp;omega)]
   simp
  ·exact(Fr.drew (fun _=>False) w (w.drawn+1)).trans (Fr.alloc (fun _=>False) w.drew _) (fun x hx _=>hx.elim)
 |some ad0=>
  have hr:=run_append_grow (P:=P) w t ty e inf zv hu hi hzv ad0 0 0 [] (by simp) (by simp) ad k d news hnl hnews om om (growslice_fits om (by simpa using hby))
  rw [Nat.zero_add] at hr
  have hge:=grownCap_ge w k 0 e
  refine⟨_,_,_,hr,heap_alloc_new w.drew _,?_,hge,grownCap_le_maxLen w k 0 e h63,fun j hj=> ?_,?_⟩
  ·refine Nat.le_of_eq ?_
   simp only [Array.size_append,List.size_toArray,size_zeroCells,hzs,hnl,List.length_nil,Nat.zero_add,←Nat.add_mul]
   congr 1
   omega
  ·rw [Array.append_assoc,Array.getElem?_append_right (by simp),Array.getElem?_append_left (by simp;omega)]
   simp
  ·exact(Fr.drew (fun _=>False) w (w.drawn+1)).trans (Fr.alloc (fun _=>False) w.drew _) (fun x hx _=>hx.elim)
theorem St.replace {N:Nat} {C:Ctx} {a:Act} {w w':World} {g g':Nat} {ob ob':AObj} (s:St N C σ h a w) (hg:h.get g=some ob) (hfr:Fr (fun b=>b=g) w w') (hat:g'=g∨g'=w.heap.size)
  (ho:Keeps (Stab C h w) (Stab C ((g',ob')::h.del g) w') w w'→ORep (Stab C ((g',ob')::h.del g) w') w' g' ob'):St N C σ ((g',ob')::h.del g) a w'∧g'∉(h.del g).keys:=by
 have hgm:g∈h.keys:=List.mem_map.2 ⟨_,Heap.get_mem hg,rfl⟩
 have hsub:∀b,b∈(h.del g).keys→b∈h.keys:=fun b hb=>by
  obtain⟨p,hp,e⟩:=List.mem_map.1 hb
  exact List.mem_map.2 ⟨p,(Heap.del_sub h g).subset hp,e⟩
 have hglt:=s.klt hgm
 have hnot:g'∉(h.del g).keys:=by
  rcases hat with rfl|rfl
  ·exact Heap.del_not h _ s.nodup
  ·exact fun hm=>Nat.lt_irrefl _ (s.klt (hsub _ hm))
 have kp:Keeps (Stab C h w) (Stab C ((g',ob')::h.del g) w') w w':=by
  refine⟨fun t b hb=>⟨hb.1,Nat.lt_of_lt_of_le hb.2.1 hfr.size,?_⟩,fun t b hb=>hfr.block b hb.2.1 (fun e=>hb.2.2 (e▸hgm)),hfr.has⟩
  simp only [Heap.keys,List.map_cons,List.mem_cons,not_or]
  refine⟨?_,fun hm=>hb.2.2 (hsub b hm)⟩
  rcases hat with rfl|rfl
  ·exact fun e=>hb.2.2 (e▸hgm)
  ·have:=hb.2.1;omega
 refine⟨⟨s.size,s.defers,fun t=>Rep.keep kp (s.slots t),fun g1 o1 hm=> ?_,?_,fun g1 hg1=> ?_,?_⟩,hnot⟩
 ·simp only [List.mem_cons,Prod.mk.injEq] at hm
  rcases hm with ⟨rfl,rfl⟩|hm
  ·exact ho kp
  ·have h1:=s.heap g1 o1 ((Heap.del_sub h g).subset hm)
   have hmk:g1∈(h.del g).keys:=List.mem_map.2 ⟨(g1,o1),hm,rfl⟩
   have hne:g1≠g:=fun e=>Heap.del_not h g s.nodup (e▸hmk)
   exact ORep.keep kp (hfr.block g1 h1.lt hne) h1
 ·simp only [Heap.keys,List.map_cons,List.nodup_cons]
  exact⟨hnot,((Heap.del_sub h g).map _).nodup s.nodup⟩
 ·simp only [Heap.keys,List.map_cons,List.mem_cons] at hg1
  rcases hg1 with rfl|hg1
  ·rcases hat with rfl|rfl
   ·exact s.keys _ hgm
   ·right;exact s.frame.size
  ·exact s.keys g1 (hsub _ hg1)
 ·refine s.frame.trans hfr (fun x hx hlt=> ?_)
  subst hx
  exact(s.keys _ hgm).resolve_right om
end
end Go.AI
namespace Go.AI
section
variable {E : Env} {K : List It} {σ σ' : Sl} {h : Heap} {all rest : List Oper} {o : Oper}
theorem exec_append {P:Program} {o:Oper} {s x:Operand} {t:TypeId} {e:Operand→Value} {w w':World} {v:Value} (hop:o.op=.call {callee:=.builtin .append,args:= #[s,x],argTypes:= #[t,t]})
  (hr:(Builtin.append_ #[t,t] o.type #[e s,e x]).run P w=.ok v w'):(execOp e o).run P w=.ok (.value v) w':=by
 simp only [execOp,hop,resolve,invoke,Go.builtin,Sem.run_bind,Sem.run_pure,Result.andThen_ok,List.map_toArray,List.map_cons,List.map_nil,hr]
theorem aw_append {t e size bytes n k m g:Nat} {z:List CV} {f f2:Nat→CV} {s x:Operand} {cx:CV} {h2:Heap} (hop:o.op=.call {callee:=.builtin .append,args:= #[s,x],argTypes:= #[t,t]}) (hw:wantA all σ o=some true) (hd:dstOk E.N o.dst=true)
  (ht:tElem E.P t=some (e,size,bytes)) (hz:tZero E.P e=some z) (hzl:z.length=size) (hs0:0<size) (hs:ev σ s=.c (.osl g size 0 n)) (hg:h.get g=some (.cells e m f)) (hm:n*size≤m) (hx:ev σ x=.c cx) (hsrc:Src h size cx k f2) (hsol:∀j,j<k*size→(f2 j).solid=true) (hk:0<k)
  (h63:n+k≤maxLen) (hby:(n+k)*bytes≤140737488355328) (hh2:h.del g=h2)
  (kk:∀g',g'∉h2.keys→aw E (.ops all rest::K) (σ.setO o.dst (.c (.osl g' size 0 (n+k)))) ((g',.cells e ((n+k)*size) (appF f (n*size) f2))::h2)):aw E (.ops all (o::rest)::K) σ h:=fun a w st=>by
 subst hh2
 have r1:=ev_rep st s
 have r2:=ev_rep st x
 rw [hs] at r1
 rw [hx] at r2
 obtain⟨c,hv1,hnc,hcm,cs0,ty0,⟨_,hb0⟩,hcs0⟩:=r1
 obtain⟨cs,hb,hn,hj⟩:=st.heap g _ (Heap.get_mem hg)
 rw [hb] at hb0
 injection hb0 with hb0
 injection hb0 with hb0 _
 subst hb0
 obtain⟨A,d,hv2,hA⟩:=hsrc.cells st.heap r2
 obtain⟨ad,rfl,hc⟩:=hA (Nat.mul_pos hk hs0)
 obtain⟨news,hnl,hnews⟩:=list_of_cells (k*size) hc
 obtain⟨g',c',w',cs',hrun,hb',hcs',hle',hcm',hold,hnew,hat,hfr⟩:=append_own (P:=E.P) (ty:=o.type) (d:=d) ht hz hzl hb (by simpa using hcs0) hnc hcm hnl (fun j u e=>(hnews j u e).1)
  (fun u hu'=>by
   obtain⟨j,hj',rfl⟩:=List.getElem_of_mem hu'
   exact solid_one (hsol j om) (hnews j _ (List.getElem?_eq_getElem hj')).2) h63 hby
 have hmul:(n+k)*size=n*size+k*size:=Nat.add_mul _ _ _
 have hsz':(n+k)*size≤cs'.size:=Nat.le_trans (Nat.mul_le_mul_right _ hle') hcs'
 obtain⟨st',hnot⟩:=st.replace (ob':=.cells e ((n+k)*size) (appF f (n*size) f2)) hg hfr hat (fun kp=>⟨cs',hb',hsz',fun j hjl=>by
  unfold appF
  by_cases hjn:j<n*size
  ·rw [if_pos hjn,hold j hjn]
   obtain⟨u,hu,hr⟩:=hj j om
   exact⟨u,hu,hr.keep kp⟩
  ·rw [if_neg hjn]
   have hjk:j-n*size<k*size:=by omega
   have:=hnew (j-n*size) hjk
   rw [show n*size+(j-n*size)=j from by omega] at this
   rw [this]
   have hlt:j-n*size<news.length:=by omega
   exact⟨news[j-n*size],List.getElem?_eq_getElem hlt,(hnews _ _ (List.getElem?_eq_getElem hlt)).2.keep kp⟩⟩)
 have st2:=st'.put hd (r:=.c (.osl g' size 0 (n+k))) (v:=.slice (some ⟨g',0,none⟩) (n+k) c') ⟨c',rfl,hle',hcm',cs',e,⟨_,hb'⟩,by simp [hcs']⟩
 have hk':=kk g' hnot _ _ st2
 show wpList _ _ _ _ _ _
 unfold wpList
 rw [if_pos (st.wanted hw)]
 refine .inl ?_
 unfold Oper.wp
 rw [exec_append hop (by rw [hv1,hv2];exact hrun)]
 exact hk'
theorem aw_appendN {t e size bytes k:Nat} {z:List CV} {f2:Nat→CV} {s x:Operand} {cx:CV} (hop:o.op=.call {callee:=.builtin .append,args:= #[s,x],argTypes:= #[t,t]}) (hw:wantA all σ o=some true) (hd:dstOk E.N o.dst=true)
  (ht:tElem E.P t=some (e,size,bytes)) (hz:tZero E.P e=some z) (hzl:z.length=size) (hs0:0<size) (hs:ev σ s=.c .nils) (hx:ev σ x=.c cx) (hsrc:Src h size cx k f2) (hk:0<k)
  (h63:k≤maxLen) (hby:k*bytes≤140737488355328)
  (kk:∀g',g'∉h.keys→aw E (.ops all rest::K) (σ.setO o.dst (.c (.osl g' size 0 k))) ((g',.cells e (k*size) f2)::h)):aw E (.ops all (o::rest)::K) σ h:=by
 refine aw_new (r:=fun g=>.c (.osl g size 0 k)) (ob:=.cells e (k*size) f2) hw hd (fun a w st=> ?_) kk
 have r1:=ev_rep st s
 have r2:=ev_rep st x
 rw [hs] at r1
 rw [hx] at r2
 obtain⟨A0,hv1⟩:=r1
 obtain⟨A,d,hv2,hA⟩:=hsrc.cells st.heap r2
 obtain⟨ad,rfl,hc⟩:=hA (Nat.mul_pos hk hs0)
 obtain⟨news,hnl,hnews⟩:=list_of_cells (k*size) hc
 obtain⟨c',w',cs',hrun,hb',hcs',hle',hcm',hnew,hfr⟩:=append_new (P:=E.P) (ty:=o.type) (d:=d) ht hz hzl hnl (fun j u e=>(hnews j u e).1) hk h63 hby
 have hlt:w.heap.size<w'.heap.size:=(Array.getElem?_eq_some_iff.1 hb').1
 have hnk:w.heap.size∉h.keys:=fun hm=>Nat.lt_irrefl _ (st.klt hm)
 have kp:Keeps (Stab E.C h w) (Stab E.C ((w.heap.size,.cells e (k*size) f2)::h) w') w w':=
  ⟨fun t b hb=>⟨hb.1,Nat.lt_of_lt_of_le hb.2.1 hfr.size,by
   have:=hb.2.1
   simp only [Heap.keys,List.map_cons,List.mem_cons,not_or]
   exact⟨by omega,hb.2.2⟩⟩,fun t b hb=>hfr.block b hb.2.1 (fun x=>x),hfr.has⟩
 refine⟨_,w',exec_append hop (by rw [hv1,hv2];exact hrun),hfr,hlt,⟨cs',hb',Nat.le_trans (Nat.mul_le_mul_right _ hle') hcs',fun j hjl=> ?_⟩,c',rfl,hle',hcm',cs',e,⟨_,hb'⟩,by simp [hcs']⟩
 rw [hnew j hjl]
 have hl:j<news.length:=by omega
 exact⟨news[j],List.getElem?_eq_getElem hl,(hnews _ _ (List.getElem?_eq_getElem hl)).2.keep kp⟩
theorem run_append_zero {P:Program} {t ty e size bytes n c d:Nat} {A B:Option Addr} {w:World} (ht:tElem P t=some (e,size,bytes)) (hnc:n≤c):(Builtin.append_ #[t,t] ty #[.slice A n c,.slice B 0 d]).run P w=.ok (.slice A n c) w:=by
 obtain⟨hu,inf,hi,hsz,hbb⟩:=tElem_spec ht
 cases A<;>cases B<;>simp [Builtin.append_,run_underlying hu,sizeOf,typeInfo,hi,Builtin.lenOf,Builtin.firstCells,loadCells,loadCellsFrom,hnc,storeCells]
def isSlice:CV→Bool
 |.nils=>true
 |.osl _ _ _ _=>true
 |_=>false
theorem aw_append0 {t e size bytes:Nat} {f2:Nat→CV} {s x:Operand} {cs cx:CV} (hop:o.op=.call {callee:=.builtin .append,args:= #[s,x],argTypes:= #[t,t]}) (hw:wantA all σ o=some true) (hd:dstOk E.N o.dst=true)
  (ht:tElem E.P t=some (e,size,bytes)) (hs:ev σ s=.c cs) (hsl:isSlice cs=true) (hx:ev σ x=.c cx) (hsrc:Src h size cx 0 f2) (hσ:σ.setO o.dst (.c cs)=σ')
  (kk:aw E (.ops all rest::K) σ' h):aw E (.ops all (o::rest)::K) σ h:=by
 subst hσ
 refine aw_step hw (fun a w st=> ?_) kk
 have r1:=ev_rep st s
 have r2:=ev_rep st x
 rw [hs] at r1
 rw [hx] at r2
 obtain⟨B,d,hv2,_⟩:=hsrc.cells st.heap r2
 have hv1:∃A n c,a.eval s=.slice A n c∧n≤c:=by
  cases cs<;>simp only [isSlice,reduceCtorEq] at hsl
  ·obtain⟨A,hv⟩:=r1;exact⟨A,0,0,hv,Nat.le_refl _⟩
  ·obtain⟨c,hv,hle,_⟩:=r1;exact⟨_,_,c,hv,hle⟩
 obtain⟨A,n,c,hv1,hnc⟩:=hv1
 refine⟨a.eval s,w,.inl (exec_append hop ?_),st.put hd r1⟩
 rw [hv1,hv2]
 exact run_append_zero ht hnc
end
end Go.AI
namespace Go.AI
def looks (all:List Oper) (o:Oper):List Nat:=
 (o.op.operands.toList.filterMap fun|.tmp t=>some t|_=>none)++
 (match o.guard with
  |some (g,_)=>((all[g]?).bind (·.dst)).toList
  |none=>[])
def edge (o:Oper) (j:Nat):Bool:=o.after.any fun e=>e.on==j&&Region.binds .any e
def lexAt (l:List Oper) (i:Nat) (o:Oper):Bool:=
 (o.after.all fun e=> !Region.binds .any e||decide (e.on<i))&&
 (l.zipIdx.all fun(p,j)=>match p.dst with
  |none=>true
  |some d=>(!(looks l o).contains d||(if j<i then edge o j else if i<j then edge p i else true))&&(j==i||o.dst !=some d))
def lexOk (l:List Oper):Bool:=l.zipIdx.all fun(o,i)=>lexAt l i o
def tailOk (l:List Oper) (n:Nat):Bool:=l.zipIdx.all fun(o,i)=>decide (i<n)||(List.range i).all fun j=>edge o j
section
variable {E : Env} {K : List It} {σ σ' : Sl} {h : Heap} {l : List Oper} {o : Oper}
def Calm (E:Env) (h:Heap) (l:List Oper) (σ:Sl) (o:Oper) (r:AV):Prop:=
 dstOk E.N o.dst=true∧∀(σ':Sl) (a:Act) (w:World) (Q:Exit→Act→World→Prop),(∀t∈looks l o,σ'.get t=σ.get t)→St E.N E.C σ' h a w→
  if Region.wanted o (yielded l.toArray a.tmps) then o.wp E.P a w (fun a' w'=>St E.N E.C (σ'.setO o.dst r) h a' w') Q else r=.tup []
theorem ev_same {σ':Sl} {x:Operand} (hx:x∈o.op.operands) (hs:∀t∈looks l o,σ'.get t=σ.get t):ev σ' x=ev σ x:=by
 cases x with
 |tmp t=>exact hs t (by
  unfold looks
  refine List.mem_append_left _ (List.mem_filterMap.2 ⟨.tmp t,by simpa using hx,rfl⟩))
 |const v=>rfl
 |global g=>rfl
 |func f=>rfl
theorem want_same {σ':Sl} (hs:∀t∈looks l o,σ'.get t=σ.get t):wantA l σ' o=wantA l σ o:=by
 unfold wantA
 cases hg:o.guard with
 |none=>rfl
 |some p=>
  obtain⟨j,want⟩:=p
  simp only
  cases hj:(l[j]?).bind (·.dst) with
  |none=>rfl
  |some t=>
   have:σ'.get t=σ.get t:=hs t (by unfold looks;rw [hg];simp [hj])
   simp only [this]
theorem Calm.pure {nw:Bool} {q:Prop} {r:AV} (hw:wantA l σ o=some true) (hb:pureOp E.P nw h (ev σ) o.op=some (q,r)) (hq:q) (hd:dstOk E.N o.dst=true):Calm E h l σ o r:=by
 refine⟨hd,fun σ' a w Q hs s=> ?_⟩
 rw [if_pos (s.wanted ((want_same hs).trans hw))]
 obtain⟨v,hrun,hr⟩:=pureOp_ok (fun _=>rfl) hb hq (Stab E.C h w) w a.eval Stab.mono' (fun x hx=>by rw [←ev_same hx hs];exact ev_rep s x) s.heap
 unfold Oper.wp
 rw [hrun o rfl]
 exact s.put hd hr
theorem Calm.skip (hw:wantA l σ o=some false) (hd:dstOk E.N o.dst=true):Calm E h l σ o (.tup []):=by
 refine⟨hd,fun σ' a w Q hs s=> ?_⟩
 rw [if_neg (by rw [s.wanted ((want_same hs).trans hw)];simp)]
theorem Calm.call {f:FuncId} {xs:List Operand} {ts:Array TypeId} {args:List AV} {r:AV} (hf:Fa E.P f args r) (hop:o.op=.call {callee:=.value (.func f),args:=xs.toArray,argTypes:=ts}) (hw:wantA l σ o=some true) (hd:dstOk E.N o.dst=true)
  (le:LeA h (xs.map (ev σ)) args):Calm E h l σ o r:=by
 refine⟨hd,fun σ' a w Q hs s=> ?_⟩
 rw [if_pos (s.wanted ((want_same hs).trans hw))]
 have he:xs.map (ev σ')=xs.map (ev σ):=List.map_congr_left fun x hx=>ev_same (by rw [hop];simp [Op.operands,Call.operands,hx]) hs
 unfold Oper.wp
 have hrun:(execOp a.eval o).run E.P w=.ok (.enter f (xs.map a.eval).toArray) w:=by
  simp only [execOp,hop,resolve,Act.eval,Deferred.ofValue,invoke,Sem.run_bind]
  have:=hf.1.run (#[]++(Array.map a.eval xs.toArray)++ #[]) w
  simp only [Sem.run_pure,Result.andThen_ok]
  rw [show((xs.map a.eval).toArray)=(#[]++(Array.map a.eval xs.toArray)++ #[]) from by simp]
  exact this
 rw [hrun]
 show Calls _ _ _ _ _
 refine(hf.use s (by rw [he];exact le)).mono ?_
 rintro e w' ⟨v,rfl,hr,hfr⟩
 exact(s.later hfr).put hd hr
def sigL:List (Oper×AV)→List Bool→Sl→Sl
 |(o,r)::ps,b::bs,σ=>sigL ps bs (if b then σ.setO o.dst r else σ)
 |_,_,σ=>σ
theorem setO_get (σ:Sl) (d:Option Nat) (r:AV) (t:Nat):(σ.setO d r).get t=if d=some t then r else σ.get t:=by
 cases d with
 |none=>simp [Sl.setO]
 |some d=>simp [Sl.setO,Sl.get_set]
theorem sigL_get_none:∀(ps:List (Oper×AV)) (bs:List Bool) (σ:Sl) (t:Nat),(∀(j:Nat) (p:Oper×AV),ps[j]?=some p→bs[j]?=some true→p.1.dst≠some t)→(sigL ps bs σ).get t=σ.get t
 |[],_,_,_,_=>by simp [sigL]
 |_::_,[],_,_,_=>by simp [sigL]
 |(o,r)::ps,b::bs,σ,t,hn=>by
  simp only [sigL]
  rw [sigL_get_none ps bs _ t (fun j p hp hb=>hn (j+1) p (by simpa using hp) (by simpa using hb))]
  cases b with
  |false=>rfl
  |true=>
   rw [if_pos rfl,setO_get,if_neg]
   exact hn 0 (o,r) rfl rfl
theorem sigL_get_some:∀(ps:List (Oper×AV)) (bs:List Bool) (σ:Sl) (t i:Nat) (o:Oper) (r:AV),ps[i]?=some (o,r)→bs[i]?=some true→o.dst=some t→(∀(j:Nat) (p:Oper×AV),j≠i→ps[j]?=some p→p.1.dst≠some t)→(sigL ps bs σ).get t=r
 |[],_,_,_,_,_,_,hp,_,_,_=>by simp at hp
 |_::_,[],_,_,_,_,_,_,hb,_,_=>by simp at hb
 |(o',r')::ps,b::bs,σ,t,0,o,r,hp,hb,ho,hn=>by
  simp only [List.getElem?_cons_zero,Option.some.injEq,Prod.mk.injEq] at hp hb
  obtain⟨rfl,rfl⟩:=hp
  subst hb
  simp only [sigL]
  rw [sigL_get_none ps bs _ t (fun j p hp _=>hn (j+1) p om (by simpa using hp)),if_pos trivial,setO_get,if_pos ho]
 |(o',r')::ps,b::bs,σ,t,i+1,o,r,hp,hb,ho,hn=>by
  simp only [sigL]
  exact sigL_get_some ps bs _ t i o r (by simpa using hp) (by simpa using hb) ho (fun j p hj hp=>hn (j+1) p om (by simpa using hp))
inductive Dr (E:Env) (h:Heap) (l:List Oper):List (Oper×AV)→Sl→Sl→Prop
 |nil {σ:Sl}:Dr E h l [] σ σ
 |cons {o:Oper} {r:AV} {ps:List (Oper×AV)} {σ σ':Sl}:Calm E h l σ o r→Dr E h l ps (σ.setO o.dst r) σ'→Dr E h l ((o,r)::ps) σ σ'
theorem Dr.at_ {ps:List (Oper×AV)} (d:Dr E h l ps σ σ'):∀(i:Nat) (o:Oper) (r:AV),ps[i]?=some (o,r)→Calm E h l (sigL ps ((List.range ps.length).map fun j=>decide (j<i)) σ) o r:=by
 induction d with
 |nil=>intro i o r hp;simp at hp
 | @cons o' r' ps σ σ' hc _ ih=>
   intro i o r hp
   simp only [List.length_cons,List.range_succ_eq_map,List.map_cons,List.map_map,sigL]
   cases i with
   |zero=>
    simp only [List.getElem?_cons_zero,Option.some.injEq,Prod.mk.injEq] at hp
    obtain⟨rfl,rfl⟩:=hp
    have:∀(ps:List (Oper×AV)) (n:Nat) (σ:Sl),sigL ps ((List.range n).map ((fun j=>decide (j<0))∘Nat.succ)) σ=σ:=by
     intro ps
     induction ps with
     |nil=>intro n σ;simp [sigL]
     |cons p ps ih2=>
      intro n σ
      cases n with
      |zero=>simp [sigL]
      |succ n=>
       obtain⟨q,r⟩:=p
       simp only [List.range_succ_eq_map,List.map_cons,List.map_map,sigL]
       simp only [Function.comp,Nat.not_lt_zero,decide_false] at ih2⊢
       exact ih2 n σ
    simp only [Nat.lt_irrefl,decide_false]
    rw [this]
    exact hc
   |succ i=>
    have:=ih i o r (by simpa using hp)
    have e:((fun j=>decide (j<i+1))∘Nat.succ)=fun j=>decide (j<i):=by funext j;simp [Function.comp]
    rw [e]
    simpa using this
theorem Dr.end_ {ps:List (Oper×AV)} (d:Dr E h l ps σ σ'):σ'=sigL ps ((List.range ps.length).map fun _=>true) σ:=by
 induction d with
 |nil=>rfl
 | @cons o' r' ps σ σ' _ _ ih=>
   simp only [List.length_cons,List.range_succ_eq_map,List.map_cons,List.map_map,sigL,if_true]
   exact ih
theorem mem_ready {listed:Array Bool} {i:Nat} (hs:listed.size=l.length):i∈Region.ready .any l.toArray listed↔i<l.length∧listed.getD i false=false∧∀o,l[i]?=some o→∀e∈o.after,Region.binds .any e=true→listed.getD e.on false=true:=by
 unfold Region.ready
 simp only [List.mem_filter,List.mem_range,List.size_toArray,Bool.and_eq_true,Bool.not_eq_true']
 constructor
 ·rintro ⟨hi,h1,h2⟩
  refine⟨hi,?_,fun o ho e he hb=> ?_⟩
  ·simp only [Array.getD,hs,hi,dif_pos] at h1⊢;exact h1
  ·rw [show l.toArray[i]?=some o from by simpa using ho] at h2
   simp only [Option.map_some,Option.getD_some,Array.all_eq_true] at h2
   obtain⟨j,hj,rfl⟩:=Array.getElem_of_mem he
   have:=h2 j hj
   rw [hb] at this
   simpa using this
 ·rintro ⟨hi,h1,h2⟩
  refine⟨hi,?_,?_⟩
  ·simp only [Array.getD,hs,hi,dif_pos] at h1⊢;exact h1
  ·have ho:l[i]?=some l[i]:=List.getElem?_eq_getElem hi
   rw [show l.toArray[i]?=some l[i] from by simp [hi]]
   simp only [Option.map_some,Option.getD_some,Array.all_eq_true]
   intro j hj
   have:=h2 _ ho l[i].after[j] (Array.getElem_mem hj)
   cases hb:Region.binds .any l[i].after[j] with
   |false=>simp
   |true=>simp [this hb]
theorem lexOk_at (hok:lexOk l=true) {i:Nat} {o:Oper} (ho:l[i]?=some o):lexAt l i o=true:=by
 unfold lexOk at hok
 rw [List.all_eq_true] at hok
 have:=hok (o,i) (by rw [List.mem_zipIdx_iff_getElem?];exact ho)
 exact this
theorem lex_back (hok:lexOk l=true) {i:Nat} {o:Oper} (ho:l[i]?=some o) {e:Edge} (he:e∈o.after) (hb:Region.binds .any e=true):e.on<i:=by
 have:=lexOk_at hok ho
 unfold lexAt at this
 simp only [Bool.and_eq_true,Array.all_eq_true] at this
 obtain⟨j,hj,rfl⟩:=Array.getElem_of_mem he
 have:=this.1 j hj
 rw [hb] at this
 simpa using this
theorem lex_pair (hok:lexOk l=true) {i j d:Nat} {o p:Oper} (ho:l[i]?=some o) (hp:l[j]?=some p) (hd:p.dst=some d):
  (d∈looks l o→(j<i→edge o j=true)∧(i<j→edge p i=true))∧(j≠i→o.dst≠some d):=by
 have:=lexOk_at hok ho
 unfold lexAt at this
 simp only [Bool.and_eq_true,List.all_eq_true] at this
 have h2:=this.2 (p,j) (by rw [List.mem_zipIdx_iff_getElem?];exact hp)
 simp only [hd,Bool.and_eq_true,Bool.or_eq_true,Bool.not_eq_true',List.contains_eq_mem,decide_eq_false_iff_not,beq_iff_eq,bne_iff_ne] at h2
 refine⟨fun hm=> ?_,fun hne=>h2.2.resolve_left hne⟩
 have h3:=h2.1.resolve_left (fun hn=>hn hm)
 exact⟨fun hlt=>by rw [if_pos hlt] at h3;exact h3,fun hlt=>by rw [if_neg om,if_pos hlt] at h3;exact h3⟩
theorem edge_mem {o:Oper} {j:Nat} (he:edge o j=true):∃e∈o.after,e.on=j∧Region.binds .any e=true:=by
 unfold edge at he
 rw [Array.any_eq_true] at he
 obtain⟨i,hi,h1⟩:=he
 simp only [Bool.and_eq_true,beq_iff_eq] at h1
 exact⟨_,Array.getElem_mem hi,h1.1,h1.2⟩
theorem tail_edge {n:Nat} (ht:tailOk l n=true) {i:Nat} {o:Oper} (ho:l[i]?=some o) (hn:n≤i) {j:Nat} (hj:j<i):edge o j=true:=by
 unfold tailOk at ht
 rw [List.all_eq_true] at ht
 have:=ht (o,i) (by rw [List.mem_zipIdx_iff_getElem?];exact ho)
 simp only [Bool.or_eq_true,decide_eq_true_eq,List.all_eq_true,List.mem_range] at this
 exact this.resolve_left om j hj
theorem getD_set {listed:Array Bool} {i j:Nat} (hi:i<listed.size):(listed.setIfInBounds i true).getD j false=if j=i then true else listed.getD j false:=by
 by_cases h:j=i
 ·subst h;simp [Array.getD,hi]
 ·rw [if_neg h,Array.getD_eq_getD_getElem?,Array.getD_eq_getD_getElem?,Array.getElem?_setIfInBounds_ne (fun e=>h e.symm)]
theorem tail_any {n:Nat} (hok:lexOk l=true) (ht:tailOk l n=true) {Q:Exit→Act→World→Prop}:∀(fuel i:Nat) (listed:Array Bool) (a:Act) (w:World),n≤i→i+fuel=l.length→listed.size=l.length→(∀j,j<l.length→listed.getD j false=decide (j<i))→
  wpList E.P l.toArray Q (l.drop i) a w→wpAny E.P .any l.toArray Q fuel listed a w
 |0,i,listed,a,w,_,hf,hs,hl,k=>by
  have:l.drop i=[]:=List.drop_eq_nil_of_le om
  rw [this] at k
  refine⟨?_,k⟩
  rw [List.eq_nil_iff_forall_not_mem]
  intro j hj
  obtain⟨h1,h2,_⟩:=(mem_ready hs).1 hj
  rw [hl j h1] at h2
  simp at h2
  omega
 |fuel+1,i,listed,a,w,hn,hf,hs,hl,k=>by
  have hi:i<l.length:=by omega
  have ho:l[i]?=some l[i]:=List.getElem?_eq_getElem hi
  have hready:i∈Region.ready .any l.toArray listed:=(mem_ready hs).2 ⟨hi,by rw [hl i hi];simp,fun o ho' e he hb=>by
   have:=lex_back hok ho' he hb
   rw [hl e.on om];simpa using this⟩
  refine⟨fun e=>by rw [e] at hready;simp at hready,fun j hj=> ?_⟩
  obtain⟨h1,h2,h3⟩:=(mem_ready hs).1 hj
  have hji:j=i:=by
   rw [hl j h1] at h2
   simp only [decide_eq_false_iff_not,Nat.not_lt] at h2
   rcases Nat.lt_or_ge i j with hlt|hge
   ·obtain⟨e,he,hon,hb⟩:=edge_mem (tail_edge ht (List.getElem?_eq_getElem h1) om hlt)
    have:=h3 _ (List.getElem?_eq_getElem h1) e he hb
    rw [hon,hl i hi] at this
    simp at this
   ·omega
  subst hji
  rw [List.drop_eq_getElem_cons hi] at k
  unfold wpOp
  rw [show l.toArray[j]?=some l[j] from by simp [hi]]
  have hstep:∀a w,wpList E.P l.toArray Q (l.drop (j+1)) a w→wpAny E.P .any l.toArray Q fuel (listed.setIfInBounds j true) a w:=fun a w k'=>
   tail_any hok ht fuel (j+1) _ a w om om (by simpa using hs) (fun q hq=>by
    rw [getD_set om,hl q hq]
    by_cases h:q=j
    ·subst h;simp
    ·rw [if_neg h];congr 1;simp;omega) k'
  simp only [wpList] at k
  simp only
  split
  ·rename_i hw
   rw [if_pos hw] at k
   exact k.imp (Oper.wp_mono hstep) id
  ·rename_i hw
   rw [if_neg hw] at k
   exact hstep _ _ k
def marks (n:Nat) (listed:Array Bool):List Bool:=(List.range n).map fun j=>listed.getD j false
theorem marks_get {n:Nat} {listed:Array Bool} {j:Nat} (hj:j<n):(marks n listed)[j]?=some (listed.getD j false):=by simp [marks,hj]
def unl (L:Nat→Bool):Nat→Nat
 |0=>0
 |n+1=>unl L n+cond (L n) 0 1
theorem unl_congr {L L':Nat→Bool}:∀n,(∀j,j<n→L j=L' j)→unl L n=unl L' n
 |0,_=>rfl
 |n+1,hc=>by simp only [unl,unl_congr n (fun j hj=>hc j om),hc n om]
theorem unl_pos {L:Nat→Bool}:∀n,0<unl L n→∃j,j<n∧L j=false∧∀q,q<j→L q=true
 |0,hp=>by simp [unl] at hp
 |n+1,hp=>by
  rcases Nat.eq_zero_or_pos (unl L n) with h0|h0
  ·refine⟨n,by omega,?_,?_⟩
   ·simp only [unl,h0] at hp
    cases hL:L n with
    |false=>rfl
    |true=>rw [hL] at hp;simp at hp
   ·intro q hq
    cases hL:L q with
    |true=>rfl
    |false=>
     have:∀m,q<m→0<unl L m:=by
      intro m
      induction m with
      |zero=>intro h;omega
      |succ m ih=>
       intro h
       simp only [unl]
       rcases Nat.lt_or_ge q m with h1|h1
       ·have:=ih h1;omega
       ·have:q=m:=by omega
        subst this;rw [hL];simp
     have:=this n hq
     omega
  ·obtain⟨j,h1,h2,h3⟩:=unl_pos n h0
   exact⟨j,by omega,h2,h3⟩
theorem unl_zero {L:Nat→Bool}:∀n,unl L n=0→∀j,j<n→L j=true
 |0,_,j,hj=>by omega
 |n+1,hz,j,hj=>by
  simp only [unl] at hz
  rcases Nat.lt_or_ge j n with h1|h1
  ·exact unl_zero n om j h1
  ·have:j=n:=by omega
   subst this
   cases hL:L j with
   |true=>rfl
   |false=>rw [hL] at hz;simp at hz
theorem unl_set {L:Nat→Bool} {i:Nat}:∀n,i<n→L i=false→unl (fun j=>if j=i then true else L j) n+1=unl L n
 |0,hi,_=>by omega
 |n+1,hi,hL=>by
  simp only [unl]
  rcases Nat.lt_or_ge i n with h1|h1
  ·have:=unl_set n h1 hL
   have hx:(if n=i then true else L n)=L n:=if_neg om
   simp only [hx]
   omega
  ·have:i=n:=by omega
   subst this
   rw [unl_congr (L':=L) i (fun j hj=>by rw [if_neg om])]
   simp [hL]
theorem draw_any {n:Nat} {ps:List (Oper×AV)} (hok:lexOk l=true) (ht:tailOk l n=true) (hn:n≤l.length) (hps:ps.map (·.1)=l.take n) (d:Dr E h l ps σ σ') {Q:Exit→Act→World→Prop}
  (k:∀a w,St E.N E.C σ' h a w→wpList E.P l.toArray Q (l.drop n) a w):∀(u:Nat) (listed:Array Bool) (a:Act) (w:World),unl (fun j=>listed.getD j false) n=u→listed.size=l.length→
  (∀i o,l[i]?=some o→listed.getD i false=true→∀e∈o.after,Region.binds .any e=true→listed.getD e.on false=true)→(∀j,n≤j→j<l.length→listed.getD j false=false)→
  St E.N E.C (sigL ps (marks n listed) σ) h a w→wpAny E.P .any l.toArray Q (u+(l.length-n)) listed a w:=by
 have hpl:ps.length=n:=by have:=congrArg List.length hps;simp at this;omega
 have hpi:∀(j:Nat) (p:Oper×AV),ps[j]?=some p→l[j]?=some p.1∧j<n:=by
  intro j p hp
  have hj:j<ps.length:=(List.getElem?_eq_some_iff.1 hp).1
  have h1:(ps.map (·.1))[j]?=some p.1:=by simp [hp]
  rw [hps,List.getElem?_take] at h1
  split at h1
  ·exact⟨h1,by omega⟩
  ·cases h1
 intro u
 induction u with
 |zero=>
  intro listed a w hu hs _ htl st
  have hall:=unl_zero n hu
  rw [Nat.zero_add]
  refine tail_any hok ht (l.length-n) n listed a w (Nat.le_refl _) om hs (fun j hj=> ?_) (k a w ?_)
  ·rcases Nat.lt_or_ge j n with h1|h1
   ·rw [hall j h1];simp [h1]
   ·rw [htl j h1 hj];simp;omega
  ·have e:marks n listed=(List.range ps.length).map fun _=>true:=by
    unfold marks
    rw [hpl]
    exact List.map_congr_left fun j hj=>hall j (by simpa using hj)
   rw [d.end_,←e]
   exact st
 |succ u ih=>
  intro listed a w hu hs hcl htl st
  rw [show u+1+(l.length-n)=(u+(l.length-n))+1 from by omega]
  obtain⟨j0,hj0,hj1,hj2⟩:=unl_pos (L:=fun j=>listed.getD j false) n om
  have hready:j0∈Region.ready .any l.toArray listed:=(mem_ready hs).2 ⟨by omega,hj1,fun o ho e he hb=>hj2 _ (lex_back hok ho he hb)⟩
  refine⟨fun e=>by rw [e] at hready;simp at hready,fun i hi=> ?_⟩
  obtain⟨h1,h2,h3⟩:=(mem_ready hs).1 hi
  have ho:l[i]?=some l[i]:=List.getElem?_eq_getElem h1
  have hin:i<n:=by
   rcases Nat.lt_or_ge i n with hlt|hge
   ·exact hlt
   ·obtain⟨e,he,hon,hb⟩:=edge_mem (tail_edge ht ho hge (show j0<i from by omega))
    have:=h3 _ ho e he hb
    rw [hon] at this
    rw [hj1] at this
    cases this
  have hpi':ps[i]?=some ps[i]:=List.getElem?_eq_getElem om
  obtain⟨hp1,_⟩:=hpi i _ hpi'
  rw [ho] at hp1
  injection hp1 with hp1
  obtain⟨hd,hc⟩:=d.at_ i ps[i].1 ps[i].2 hpi'
  have hsame:∀t∈looks l ps[i].1,(sigL ps (marks n listed) σ).get t=(sigL ps ((List.range ps.length).map fun j=>decide (j<i)) σ).get t:=by
   intro t htl'
   by_cases hex:∃(j:Nat) (p:Oper×AV),ps[j]?=some p∧j<i∧p.1.dst=some t
   ·obtain⟨j,p,hp,hji,hdt⟩:=hex
    obtain⟨hlp,hjn⟩:=hpi j p hp
    have huniq:∀(j':Nat) (p':Oper×AV),j'≠j→ps[j']?=some p'→p'.1.dst≠some t:=fun j' p' hne hp'=>
     (lex_pair hok (hpi j' p' hp').1 hlp hdt).2 (fun e=>hne e.symm)
    obtain⟨e,he,hon,hb⟩:=edge_mem (((lex_pair hok (by rw [←hp1];exact ho) hlp hdt).1 htl').1 hji)
    have hlj:listed.getD j false=true:=by rw [←hon];exact h3 _ ho e (by rw [hp1];exact he) hb
    rw [sigL_get_some ps _ σ t j p.1 p.2 hp (by rw [marks_get hjn,hlj]) hdt huniq,
     sigL_get_some ps _ σ t j p.1 p.2 hp (by simp [show j<ps.length from by omega,hji]) hdt huniq]
   ·rw [sigL_get_none ps _ σ t (fun j p hp hb hdt=> ?_),sigL_get_none ps _ σ t (fun j p hp hb hdt=> ?_)]
    ·have hjl:j<ps.length:=(List.getElem?_eq_some_iff.1 hp).1
     simp [hjl] at hb
     exact hex ⟨j,p,hp,hb,hdt⟩
    ·obtain⟨hlp,hjn⟩:=hpi j p hp
     rw [marks_get hjn] at hb
     injection hb with hb
     rcases Nat.lt_trichotomy j i with hlt|heq|hgt
     ·exact hex ⟨j,p,hp,hlt,hdt⟩
     ·subst heq;rw [h2] at hb;cases hb
     ·obtain⟨e,he,hon,hb'⟩:=edge_mem (((lex_pair hok (by rw [←hp1];exact ho) hlp hdt).1 htl').2 hgt)
      have:=hcl j _ hlp hb e he hb'
      rw [hon,h2] at this
      cases this
  have hnext:∀a' w',St E.N E.C ((sigL ps (marks n listed) σ).setO ps[i].1.dst ps[i].2) h a' w'→wpAny E.P .any l.toArray Q (u+(l.length-n)) (listed.setIfInBounds i true) a' w':=by
   intro a' w' st'
   have his:i<listed.size:=by omega
   refine ih _ a' w' ?_ (by simpa using hs) (fun q o hq hlq e he hb=> ?_) (fun j hj hjl=> ?_) ?_
   ·have hfun:(fun j=>(listed.setIfInBounds i true).getD j false)=fun j=>if j=i then true else listed.getD j false:=funext fun j=>getD_set his
    rw [hfun]
    have:=unl_set (L:=fun j=>listed.getD j false) n hin h2
    omega
   ·rw [getD_set his] at hlq⊢
    by_cases hqi:q=i
    ·subst hqi
     by_cases hei:e.on=q
     ·rw [if_pos hei]
     ·rw [if_neg hei];exact h3 o hq e he hb
    ·rw [if_neg hqi] at hlq
     have:=hcl q o hq hlq e he hb
     by_cases hei:e.on=i
     ·rw [if_pos hei]
     ·rw [if_neg hei];exact this
   ·rw [getD_set his,if_neg om];exact htl j hj hjl
   ·refine St.weak st' (fun t=>.inr ?_) (List.Sublist.refl _)
    rw [setO_get]
    by_cases hdt:ps[i].1.dst=some t
    ·rw [if_pos hdt]
     have huniq:∀(j':Nat) (p':Oper×AV),j'≠i→ps[j']?=some p'→p'.1.dst≠some t:=fun j' p' hne hp'=>
      (lex_pair hok (hpi j' p' hp').1 (hpi i _ hpi').1 hdt).2 (fun e=>hne e.symm)
     exact sigL_get_some ps _ σ t i ps[i].1 ps[i].2 hpi' (by rw [marks_get hin,getD_set his,if_pos rfl]) hdt huniq
    ·rw [if_neg hdt]
     by_cases hex:∃(j:Nat) (p:Oper×AV),ps[j]?=some p∧listed.getD j false=true∧p.1.dst=some t
     ·obtain⟨j,p,hp,hlj,hdt'⟩:=hex
      obtain⟨hlp,hjn⟩:=hpi j p hp
      have huniq:∀(j':Nat) (p':Oper×AV),j'≠j→ps[j']?=some p'→p'.1.dst≠some t:=fun j' p' hne hp'=>
       (lex_pair hok (hpi j' p' hp').1 hlp hdt').2 (fun e=>hne e.symm)
      rw [sigL_get_some ps _ σ t j p.1 p.2 hp (by rw [marks_get hjn,getD_set his];split<;>first|rfl|rw [hlj]) hdt' huniq,
       sigL_get_some ps _ σ t j p.1 p.2 hp (by rw [marks_get hjn,hlj]) hdt' huniq]
     ·rw [sigL_get_none ps _ σ t (fun j p hp hb hdt'=> ?_),sigL_get_none ps _ σ t (fun j p hp hb hdt'=> ?_)]
      ·obtain⟨_,hjn⟩:=hpi j p hp
       rw [marks_get hjn] at hb
       injection hb with hb
       exact hex ⟨j,p,hp,hb,hdt'⟩
      ·obtain⟨_,hjn⟩:=hpi j p hp
       rw [marks_get hjn,getD_set his] at hb
       injection hb with hb
       split at hb
       ·rename_i hji;subst hji;rw [hpi'] at hp;injection hp with hp;subst hp;exact hdt hdt'
       ·exact hex ⟨j,p,hp,hb,hdt'⟩
  have hcalm:=hc _ a w Q hsame st
  unfold wpOp
  rw [show l.toArray[i]?=some l[i] from by simp [h1]]
  simp only
  rw [hp1]
  split
  ·rename_i hw
   rw [if_pos hw] at hcalm
   exact .inl (Oper.wp_mono hnext hcalm)
  ·rename_i hw
   rw [if_neg hw] at hcalm
   have st2:=st.put hd (r:=.tup []) (v:=undef) ⟨[],rfl,trivial⟩
   rw [←hcalm] at st2
   exact hnext _ _ st2
theorem aw_draw {id:Nat} (n:Nat) {ps:List (Oper×AV)} (hm:E.P.follows .mixedOrders=true) (hok:(lexOk l&&tailOk l n&&decide (n≤l.length))=true) (hps:ps.map (·.1)=l.take n) (d:Dr E h l ps σ σ') (k:aw E (.ops l (l.drop n)::K) σ' h):
  aw E (.code (.region id l.toArray true)::K) σ h:=fun a w s=>by
 simp only [Bool.and_eq_true,decide_eq_true_eq] at hok
 refine wp_region_any hm ?_
 have s':=s.later (Fr.drew (fun _=>False) w (w.drawn+1))
 have e0:∀j,(Array.replicate l.length false).getD j false=false:=fun j=>by
  rw [Array.getD_eq_getD_getElem?]
  simp only [Array.getElem?_replicate]
  split<;>rfl
 have hun:∀m,unl (fun j=>(Array.replicate l.length false).getD j false) m=m:=by
  intro m
  induction m with
  |zero=>rfl
  |succ m ih=>rw [unl,ih,e0];rfl
 have:=draw_any (Q:=exW E K) hok.1.1 hok.1.2 hok.2 hps d (fun a w st=>k a w st) n (Array.replicate l.length false) a {w with drawn:=w.drawn+1} (hun n) (by simp) (fun i o _ hl=>by rw [e0] at hl;cases hl) (fun j _ _=>e0 j) (by
  refine s'.weak (fun t=>.inr ?_) (List.Sublist.refl _)
  rw [sigL_get_none ps _ σ t (fun j p hp hb=> ?_)]
  exfalso
  have hjl:j<ps.length:=(List.getElem?_eq_some_iff.1 hp).1
  have hpl:ps.length=n:=by have:=congrArg List.length hps;simp at this;omega
  rw [marks_get om,e0] at hb
  cases hb)
 rw [show n+(l.length-n)=l.length from by omega] at this
 simpa using this
def DrK (E:Env) (h:Heap) (l:List Oper) (K:List It) (k:Nat) (rest:List Oper) (σ:Sl):Prop:=
 ∃ps σ',ps.map (·.1)=rest.take k∧Dr E h l ps σ σ'∧aw E (.ops l (rest.drop k)::K) σ' h
theorem aw_dr {id:Nat} (n:Nat) (hm:E.P.follows .mixedOrders=true) (hok:(lexOk l&&tailOk l n&&decide (n≤l.length))=true) (k:DrK E h l K n l σ):aw E (.code (.region id l.toArray true)::K) σ h:=by
 obtain⟨ps,σ',h1,h2,h3⟩:=k
 exact aw_draw n hm hok h1 h2 h3
theorem drk_nil {rest:List Oper} (k:aw E (.ops l rest::K) σ h):DrK E h l K 0 rest σ:=⟨[],σ,by simp,.nil,by simpa using k⟩
theorem drk_cons {rest:List Oper} {n:Nat} {r:AV} (hc:Calm E h l σ o r) (k:DrK E h l K n rest (σ.setO o.dst r)):DrK E h l K (n+1) (o::rest) σ:=by
 obtain⟨ps,σ',h1,h2,h3⟩:=k
 exact⟨(o,r)::ps,σ',by simp [h1],.cons hc h2,by simpa using h3⟩
theorem drk_call {rest:List Oper} {n:Nat} {f:FuncId} {xs:List Operand} {ts:Array TypeId} {args:List AV} {r:AV} (hf:Fa E.P f args r) (hop:o.op=.call {callee:=.value (.func f),args:=xs.toArray,argTypes:=ts}) (hw:wantA l σ o=some true) (hd:dstOk E.N o.dst=true)
 (le:LeA h (xs.map (ev σ)) args) (k:DrK E h l K n rest (σ.setO o.dst r)):DrK E h l K (n+1) (o::rest) σ:=drk_cons (Calm.call hf hop hw hd le) k
end
end Go.AI
namespace Go.AI
attribute [go_sem] wide Bool.false_eq_true sameB runOps wantA pureOp ev Sl.get Sl.set Sl.setO cst cstC binAV binI binInt binSh loadAV indexAV fieldAV sliceAV boundAV buildAV lenCV cellsAt nilAV isNil Heap.get Heap.set Heap.del
attribute [go_sem] Option.map_some Option.map_none Option.bind_some List.getElem?_cons_zero List.getElem?_cons_succ Nat.mul_one Nat.add_zero Nat.zero_add Nat.sub_zero Nat.zero_mul Int.toNat_natCast
@[go_sem] theorem pick_bool (t p q:Bool):pickAV t (.c (.bool p)) (.c (.bool q))=.c (.bool (bif t then p else q)):=rfl
@[go_sem] theorem pick_true (x y:AV):pickAV true x y=x:=by rw [pickAV_eq];rfl
@[go_sem] theorem pick_false (x y:AV):pickAV false x y=y:=by rw [pickAV_eq];rfl
abbrev ws (t:Bool) (xs:List Nat):CV:=.row t 1 xs.length fun j=>.int .u32 (xs.getD j 0:Nat)
def wf (zs:List Nat) (j:Nat):CV:=.int .u32 (zs.getD j 0:Nat)
@[go_sem] theorem wf_at (zs:List Nat) (j:Nat):wf zs j=.int .u32 (zs.getD j 0:Nat):=rfl
theorem updF_wf {zs:List Nat} {i v:Nat} (hi:i<zs.length):updF (wf zs) i [.int .u32 (v:Int)]=wf (zs.set i v):=by
 funext j
 simp only [updF]
 by_cases e:j=i
 ·subst e;simp [hi,wf]
 ·rw [if_neg e]
  show CV.int .u32 (zs.getD j 0:Nat)=CV.int .u32 ((zs.set i v).getD j 0:Nat)
  rw [List.getD_eq_getElem?_getD,List.getD_eq_getElem?_getD,List.getElem?_set_ne (fun h=>e h.symm)]
theorem make_wf (n:Nat):(fun j=>ofL [.int .u32 0] (j%1))=wf (List.replicate n 0):=by
 funext j
 show ofL [CV.int .u32 0] (j%1)=CV.int .u32 ((List.replicate n 0).getD j 0:Nat)
 rw [Nat.mod_one,List.getD_eq_getElem?_getD,List.getElem?_replicate]
 split<;>rfl
theorem shr_u64_32 (a:Int):shrZ .u64 a 32=a/4294967296:=by
 rw [shrZ_eq]
 show a.fdiv 4294967296=_
 rw [Int.fdiv_eq_ediv_of_nonneg _ om]
theorem shr_i64_32 (a:Int):shrZ .i64 a 32=a/4294967296:=by
 rw [shrZ_eq]
 show a.fdiv 4294967296=_
 rw [Int.fdiv_eq_ediv_of_nonneg _ om]
theorem shr_u64_63 (a:Int):shrZ .u64 a 63=a/9223372036854775808:=by
 rw [shrZ_eq]
 show a.fdiv 9223372036854775808=_
 rw [Int.fdiv_eq_ediv_of_nonneg _ om]
theorem shr63_nat (D:Nat):shrZ .u64 (D:Int) 63=((D/9223372036854775808:Nat):Int):=by rw [shr_u64_63];omega
attribute [go_sem] shr_i64_32 shr_u64_32 LeA List.map_cons List.map_nil AV.cells Option.getD_some Option.getD_none
@[go_sem] theorem ofL_at:∀(cs:List CV) (k:Nat),ofL cs k=(cs[k]?).getD .any
  |[],_=>rfl
  |_::_,0=>rfl
  |_::cs,k+1=>by rw [List.getElem?_cons_succ];exact ofL_at cs k
@[go_sem] theorem toNat_add_nat (a b:Nat):((a:Int)+(b:Int)).toNat=a+b:=by omega
@[go_sem] theorem toNat_add_one (a:Nat):((a:Int)+1).toNat=a+1:=by omega
@[go_sem] theorem toNat_sub_one (a:Nat):((a:Int)-1).toNat=a-1:=by omega
theorem c_int {k:IntKind} {a b:Int} (e:a=b):AV.c (.int k a)=.c (.int k b):=by rw [e]
attribute [go_sem] Sl.sub cond_true cond_false
theorem ler_ws {h:Heap} {t:Bool} {xs:List Nat}:LeR h (ws true xs) (ws t xs):=.row fun _ _=>.int _ _
theorem ler_oslws {h:Heap} {t:Bool} {g off n m:Nat} {ty:TypeId} {f:Nat→CV} {ys:List Nat} (hg:h.get g=some (.cells ty m f)) (hm:off+n≤m) (hn:n=ys.length) (hf:∀j,j<n→f (off+j)=.int .u32 (ys.getD j 0:Nat)):LeR h (.osl g 1 off n) (ws t ys):=by
 subst hn
 exact .osl hg om (fun j hj=>by rw [hf j om];exact .int _ _)
theorem lec_oslws {h:Heap} {g off n m:Nat} {ty:TypeId} {f:Nat→CV} {ys:List Nat} (hg:h.get g=some (.cells ty m f)) (hm:off+n≤m) (hn:n=ys.length) (hf:∀j,j<n→f (off+j)=.int .u32 (ys.getD j 0:Nat)):LeC h (.osl g 1 off n) (ws false ys):=by
 subst hn
 exact .osl hg om (fun j hj=>by rw [hf j om];exact .refl _)
theorem ler_int {h:Heap} {k:IntKind} {a b:Int} (e:a=b):LeR h (.int k a) (.int k b):=by subst e;exact .int _ _
theorem ler_bool {h:Heap} {a b:Bool} (e:a=b):LeR h (.bool a) (.bool b):=by subst e;exact .bool _
@[go_sem] theorem envP (P:Program) (fn:Func) (C:Ctx) (r:AV):(envOf P fn C r).P=P:=rfl
@[go_sem] theorem resAV1 (P:Program) (σ:Sl) (h:Heap) (t:Nat):resAV P σ h [.tmp t]=some (σ.get t):=rfl
attribute [go_sem] resAV rvAV List.mapM_cons List.mapM_nil
theorem wrap_u32_nat (n:Nat):wrapZ .u32 (n:Int)=((n%4294967296:Nat):Int):=by rw [wrapZ_eq,IntKind.wrap_u32];omega
theorem wrap_u64 {x:Int} (h0:0≤x) (h1:x≤18446744073709551615):IntKind.u64.wrap x=x:=wrap_inRange ⟨h0,h1⟩
theorem wrap_u32 {x:Int} (h0:0≤x) (h1:x≤4294967295):IntKind.u32.wrap x=x:=wrap_inRange ⟨h0,h1⟩
theorem wrap_i64 {x:Int} (h0: -9223372036854775808≤x) (h1:x≤9223372036854775807):IntKind.i64.wrap x=x:=wrap_inRange ⟨h0,h1⟩
attribute [go_sem] Nat.reduceEqDiff reduceIte Nat.reduceAdd Nat.reduceSub Nat.reduceMul Nat.reduceLeDiff Nat.reduceLT Int.reduceToNat List.length_cons List.length_nil Bool.not_true Bool.not_false
section
variable {E : Env} {K : List It} {σ : Sl} {h : Heap} {all l rest : List Oper} {o : Oper}
theorem wa1 {x y:Code} (k:aw E (.code x::.code y::K) σ h):aw E (.code (.seq x y)::K) σ h:=aw_seq k
theorem wa2 {id:Nat} {c:Code} (k:aw E (.code c::.blk id::K) σ h):aw E (.code (.block id c)::K) σ h:=aw_block k
theorem wa3 (k:aw E K σ h):aw E (.code .skip::K) σ h:=aw_skip k
theorem wa4 {id:Nat} (k:aw E K σ h):aw E (.blk id::K) σ h:=aw_blk k
theorem wa5 {id:Nat} {K':List It} (hk:exitK id K=some K') (k:aw E K' σ h):aw E (.code (.exit id)::K) σ h:=aw_exit hk k
theorem wa6 {id:Nat} (k:aw E (.ops l l::K) σ h):aw E (.code (.region id l.toArray false)::K) σ h:=aw_region k
theorem wa7 (k:aw E K σ h):aw E (.ops l []::K) σ h:=aw_ops_nil k
theorem wa8 (k:aw E (.ops l rest::K) σ h):DrK E h l K 0 rest σ:=drk_nil k
theorem wl2 {t:Bool} {s n:Nat} {f:Nat→CV}:LeC h (.row true s n f) (.row t s n f):=.row (fun _=>rfl) fun _ _=>.refl _
theorem lel_refl {h:Heap}:∀xs:List CV,LeL h xs xs
 |[]=>trivial
 |x::xs=>⟨.refl x,lel_refl xs⟩
end
end Go.AI
namespace Go.AI
def DoneH (C:Ctx) (Q:AV→Heap→Prop):Ending→World→Prop:=fun e w'=>∃v r h',e=.returned v∧Q r h'∧h'.keys.Nodup∧(∀g∈h'.keys,C.own0 g∨C.w0.heap.size≤g)∧
 Rep (Stab C h' w') w' r v∧(∀g o,(g,o)∈h'→ORep (Stab C h' w') w' g o)∧Fr C.own0 C.w0 w'
def Fh (P:Program) (f:FuncId) (hc:Heap) (args:List AV) (Q:AV→Heap→Prop):Prop:=
 Callable P f∧∀(C:Ctx) (vs:List Value),(∀b,C.own0 b↔b∈hc.keys)→hc.keys.Nodup→(∀g o,(g,o)∈hc→ORep C.S0 C.w0 g o)→RepT C.S0 C.w0 args vs→Calls P f vs.toArray C.w0 (DoneH C Q)
def envOfH (P:Program) (fn:Func) (C:Ctx) (Q:AV→Heap→Prop):Env:={P,N:=fn.ntmps,C,Q:=bodyPost P fn (DoneH C Q)}
@[go_sem] theorem envPH (P:Program) (fn:Func) (C:Ctx) (Q:AV→Heap→Prop):(envOfH P fn C Q).P=P:=rfl
@[go_sem] theorem envCH (P:Program) (fn:Func) (C:Ctx) (Q:AV→Heap→Prop):(envOfH P fn C Q).C=C:=rfl
@[go_sem] theorem envC (P:Program) (fn:Func) (C:Ctx) (r:AV):(envOf P fn C r).C=C:=rfl
theorem keysPerm {h h':Heap} (hp:h.Perm h') (g:Nat):g∈h.keys↔g∈h'.keys:=(hp.map (·.1)).mem_iff
theorem nodupPerm {h h':Heap} (hp:h.Perm h') (hn:h.keys.Nodup):h'.keys.Nodup:=((hp.map (fun p:Nat×AObj=>p.1)).nodup_iff).1 hn
section
variable {E : Env} {K : List It} {σ σ' : Sl} {h : Heap} {all rest : List Oper} {o : Oper}
theorem doneh_of {P:Program} {fn:Func} {C:Ctx} {Q:AV→Heap→Prop} {x:AV} {a:Act} {w:World} (s:St fn.ntmps C σ h a w) {rvs:List ResultVar} (hrs:fn.results=rvs.toArray) (hx:resAV P σ h rvs=some x)
  (hfl:∀xs,x=.tup xs→xs.all AV.flat=true) (hq:Q x h):a.defers=[]∧∃v,(results fn a.tmps).run P w=.ok v w∧DoneH C Q (.returned v) w:=by
 obtain⟨v,hv,hr⟩:=results_run s hrs hx hfl
 exact⟨s.defers,v,hv,v,x,h,rfl,hq,s.nodup,s.keys,hr,s.heap,s.frame⟩
theorem aw_reth {P:Program} {fn:Func} {C:Ctx} {Q:AV→Heap→Prop} {x:AV} {rvs:List ResultVar} (hrs:fn.results=rvs.toArray) (hx:resAV P σ h rvs=some x) (hfl:∀xs,x=.tup xs→xs.all AV.flat=true)
 (hq:Q x h):aw (envOfH P fn C Q) (.code .ret::K) σ h:=fun a w s=>wp_ret (exW_ret a w (doneh_of s hrs hx hfl hq))
theorem aw_endh {P:Program} {fn:Func} {C:Ctx} {Q:AV→Heap→Prop} {x:AV} {rvs:List ResultVar} (hrs:fn.results=rvs.toArray) (hx:resAV P σ h rvs=some x) (hfl:∀xs,x=.tup xs→xs.all AV.flat=true)
 (hq:Q x h):aw (envOfH P fn C Q) [] σ h:=fun a w s=>doneh_of s hrs hx hfl hq
theorem aw_rethq {P:Program} {fn:Func} {C:Ctx} {Q:AV→Heap→Prop} {rvs:List ResultVar} (hrs:fn.results=rvs.toArray) (k:∀R:Option AV→Prop,(∀x,flatR x=true→Q x h→R (some x))→R (resAV P σ h rvs)):
  aw (envOfH P fn C Q) (.code .ret::K) σ h:=by
 have:=k (fun y=>y=resAV P σ h rvs→aw (envOfH P fn C Q) (.code .ret::K) σ h) (fun x hf hq e=>aw_reth hrs e.symm (flatR_spec hf) hq)
 exact this rfl
theorem aw_endhq {P:Program} {fn:Func} {C:Ctx} {Q:AV→Heap→Prop} {rvs:List ResultVar} (hrs:fn.results=rvs.toArray) (k:∀R:Option AV→Prop,(∀x,flatR x=true→Q x h→R (some x))→R (resAV P σ h rvs)):
  aw (envOfH P fn C Q) [] σ h:=by
 have:=k (fun y=>y=resAV P σ h rvs→aw (envOfH P fn C Q) [] σ h) (fun x hf hq e=>aw_endh hrs e.symm (flatR_spec hf) hq)
 exact this rfl
theorem fh_of_body {P:Program} {f:FuncId} {fn:Func} {c:Code} {hc:Heap} {args:List AV} {Q:AV→Heap→Prop} (hf:P.funcs[f]?=some fn) (hb:fn.body=some c) (hn:(fn.name== "runtime.NumGoroutine")=false) (hl:args.length≤fn.ntmps)
  (k:∀C:Ctx,(∀b,C.own0 b↔b∈hc.keys)→aw (envOfH P fn C Q) [.code c] (initS 0 args) hc):Fh P f hc args Q:=by
 refine⟨⟨fn,hf,by rw [hb];rfl,hn⟩,fun C vs hC hnd ho hr=> ?_⟩
 refine calls_of_wp hf hb (R:=DoneH C Q) ?_
 have hk:=k C hC
 have kp:Keeps C.S0 (Stab C hc C.w0) C.w0 C.w0:=⟨fun t b hb=>⟨.inl hb,C.lt t b hb,fun hm=>C.apart t b hb ((hC b).2 hm)⟩,fun _ _ _=>rfl,fun _ _ x=>x⟩
 have hlen:=hr.len
 refine hk _ _ ⟨?_,rfl,fun t=> ?_,fun g o hm=>ORep.keep kp rfl (ho g o hm),hnd,fun g hg=>.inl ((hC g).2 hg),Fr.refl _ _⟩
 ·show(vs.toArray++Array.replicate (fn.ntmps-vs.toArray.size) undef).size=fn.ntmps
  simp;omega
 ·rw [initS_get]
  simp only [Nat.zero_le,if_true,Nat.sub_zero]
  refine Rep.keep kp ?_
  have h1:=RepT.getD args vs hr t
  have h2:(vs.toArray++Array.replicate (fn.ntmps-vs.toArray.size) undef).getD t undef=vs.getD t undef:=by
   rw [Array.getD_eq_getD_getElem?,List.getD_eq_getElem?_getD]
   by_cases ht:t<vs.length
   ·rw [Array.getElem?_append_left (by simpa using ht)];simp
   ·rw [Array.getElem?_append_right (by simpa using ht)]
    rw [List.getElem?_eq_none om]
    simp [Array.getElem?_replicate]
    split<;>rfl
  rw [h2]
  exact h1
theorem LeC.rep0 {S:Bool→Nat→Prop} {w:World} (hm:∀b,S true b→S false b) {x y:CV} {v:Value} (le:LeC [] x y) (hr:RepC S w x v):RepC S w y v:=
 (le.rep hm (fun g o hg=>by simp at hg) hr).keep ⟨fun t b hb=>hb.elim id (fun x=>by simp [Heap.keys] at x),fun _ _ _=>rfl,fun _ _ x=>x⟩
theorem Le0.rep0 {S:Bool→Nat→Prop} {w:World} (hm:∀b,S true b→S false b) {x y:AV} {v:Value} (le:Le0 [] x y) (hr:Rep S w x v):Rep0 S w y v:=
 (le.rep hm (fun g o hg=>by simp at hg) hr).keep ⟨fun t b hb=>hb.elim id (fun x=>by simp [Heap.keys] at x),fun _ _ _=>rfl,fun _ _ x=>x⟩
theorem LeA.rep0 {N:Nat} {C:Ctx} {a:Act} {w:World} (s:St N C σ h a w):∀{xs:List Operand} {ys:List AV},LeA [] (xs.map (ev σ)) ys→RepT (Stab C h w) w ys (xs.map a.eval)
 |[],[],_=>trivial
 |x::xs,y::ys,le=>⟨le.1.rep0 Stab.mono' (ev_rep s x),LeA.rep0 s le.2⟩
 |[],_::_,le=>le.elim
 |_::_,[],le=>le.elim
theorem Fh.use {P:Program} {N:Nat} {C:Ctx} {a:Act} {w:World} {f:FuncId} {vs:List Value} {args:List AV} {hc hr:Heap} {Q:AV→Heap→Prop} (hf:Fh P f hc args Q) (s:St N C σ h a w) (hp:h.Perm (hc++hr)) (le:RepT (Stab C h w) w args vs):
  Calls P f vs.toArray w fun e w'=>∃v r h',e=.returned v∧Q r h'∧(∀g∈h'.keys,g∉hr.keys)∧St N C σ (h'++hr) a w'∧Rep (Stab C (h'++hr) w') w' r v:=by
 have hkk:∀g,g∈h.keys↔g∈hc.keys∨g∈hr.keys:=fun g=>by
  rw [keysPerm hp];simp [Heap.keys,List.mem_append,or_and_right,exists_or]
 have hnd:(hc.keys++hr.keys).Nodup:=by
  have:(hc++hr).keys.Nodup:=nodupPerm hp s.nodup
  simpa [Heap.keys] using this
 have hdisj:∀g,g∈hc.keys→g∉hr.keys:=fun g h1 h2=>(List.nodup_append.1 hnd).2.2 g h1 g h2 rfl
 let C':Ctx:={w0:=w,S0:=Stab C h w,own0:=fun b=>b∈hc.keys,mono:=Stab.mono',apart:=fun t b hb hm=>hb.2.2 ((hkk b).2 (.inl hm)),lt:=fun t b hb=>hb.2.1}
 refine(hf.2 C' vs (fun b=>Iff.rfl) (List.nodup_append.1 hnd).1 (fun g o hm=>s.heap g o (hp.mem_iff.2 (List.mem_append_left _ hm))) le).mono ?_
 rintro e w' ⟨v,r,h',he,hq,hnd',hk',hrep,ho,hfr⟩
 have hfresh:∀g∈h'.keys,g∉hr.keys:=fun g hg hm=>by
  rcases hk' g hg with h1|h1
  ·exact hdisj g h1 hm
  ·have:=s.klt ((hkk g).2 (.inr hm));have h2:w.heap.size≤g:=h1;omega
 have hka:∀g,g∈(h'++hr).keys↔g∈h'.keys∨g∈hr.keys:=fun g=>by simp [Heap.keys,List.mem_append,or_and_right,exists_or]
 have kp1:Keeps (Stab C' h' w') (Stab C (h'++hr) w') w' w':=by
  refine⟨fun t b hb=> ?_,fun _ _ _=>rfl,fun _ _ x=>x⟩
  obtain⟨h1,h2,h3⟩:=hb
  rcases h1 with h1|h1
  ·have h1':Stab C h w t b:=h1
   refine⟨h1'.1,h2,fun hm=> ?_⟩
   rcases(hka b).1 hm with hm|hm
   ·exact h3 hm
   ·exact h1'.2.2 ((hkk b).2 (.inr hm))
  ·have h1':w.heap.size≤b:=h1
   refine⟨.inr (Nat.le_trans s.frame.size h1'),h2,fun hm=> ?_⟩
   rcases(hka b).1 hm with hm|hm
   ·exact h3 hm
   ·have:=s.klt ((hkk b).2 (.inr hm));omega
 have kp2:Keeps (Stab C h w) (Stab C (h'++hr) w') w w':=by
  refine⟨fun t b hb=>⟨hb.1,Nat.lt_of_lt_of_le hb.2.1 hfr.size,fun hm=> ?_⟩,fun t b hb=>hfr.block b hb.2.1 (fun hm=>hb.2.2 ((hkk b).2 (.inl hm))),hfr.has⟩
  rcases(hka b).1 hm with hm|hm
  ·rcases hk' b hm with h1|h1
   ·exact hb.2.2 ((hkk b).2 (.inl h1))
   ·have h2:w.heap.size≤b:=h1;have:=hb.2.1;omega
  ·exact hb.2.2 ((hkk b).2 (.inr hm))
 refine⟨v,r,h',he,hq,hfresh,⟨s.size,s.defers,fun t=>Rep.keep kp2 (s.slots t),fun g ob hm=> ?_,?_,fun g hg=> ?_,?_⟩,Rep.keep kp1 hrep⟩
 ·rcases List.mem_append.1 hm with hm|hm
  ·exact ORep.keep kp1 rfl (ho g ob hm)
  ·have h1:=s.heap g ob (hp.mem_iff.2 (List.mem_append_right _ hm))
   exact ORep.keep kp2 (hfr.block g h1.lt (fun h2=>hdisj g h2 (List.mem_map.2 ⟨_,hm,rfl⟩))) h1
 ·show(List.map (·.1) (h'++hr)).Nodup
  rw [List.map_append]
  refine List.nodup_append.2 ⟨hnd',(List.nodup_append.1 hnd).2.1,fun x hx y hy e=> ?_⟩
  subst e
  exact hfresh x hx hy
 ·rcases(hka g).1 hg with hg|hg
  ·rcases hk' g hg with h1|h1
   ·exact s.keys g ((hkk g).2 (.inl h1))
   ·exact .inr (Nat.le_trans s.frame.size h1)
  ·exact s.keys g ((hkk g).2 (.inr hg))
 ·refine s.frame.trans hfr (fun x hx hlt=> ?_)
  exact(s.keys x ((hkk x).2 (.inl hx))).resolve_right om
theorem aw_callh {f:FuncId} {xs:List Operand} {ts:Array TypeId} {hc hr:Heap} {args:List AV} {Q:AV→Heap→Prop} (hf:Fh E.P f hc args Q) (hop:o.op=.call {callee:=.value (.func f),args:=xs.toArray,argTypes:=ts}) (hw:wantA all σ o=some true) (hd:dstOk E.N o.dst=true)
  (hp:h.Perm (hc++hr)) (le:LeA [] (xs.map (ev σ)) args) (k:∀r h',Q r h'→(∀g∈h'.keys,g∉hr.keys)→aw E (.ops all rest::K) (σ.setO o.dst r) (h'++hr)):aw E (.ops all (o::rest)::K) σ h:=fun a w s=>by
 show wpList _ _ _ _ _ _
 unfold wpList
 rw [if_pos (s.wanted hw)]
 refine .inl ?_
 unfold Oper.wp
 have hrun:(execOp a.eval o).run E.P w=.ok (.enter f (xs.map a.eval).toArray) w:=by
  simp only [execOp,hop,resolve,Act.eval,Deferred.ofValue,invoke,Sem.run_bind]
  have:=hf.1.run (#[]++(Array.map a.eval xs.toArray)++ #[]) w
  simp only [Sem.run_pure,Result.andThen_ok]
  rw [show((xs.map a.eval).toArray)=(#[]++(Array.map a.eval xs.toArray)++ #[]) from by simp]
  exact this
 rw [hrun]
 show Calls _ _ _ _ _
 refine(hf.use s hp (LeA.rep0 s le)).mono ?_
 rintro e w' ⟨v,r,h',rfl,hq,hfr,s',hrep⟩
 exact k r h' hq hfr _ _ (s'.put hd hrep)
theorem aw_perm {h':Heap} (hp:h.Perm h') (k:aw E K σ h'):aw E K σ h:=fun a w s=>by
 have hkk:∀b,b∈h.keys↔b∈h'.keys:=keysPerm hp
 have kp:Keeps (Stab E.C h w) (Stab E.C h' w) w w:=⟨fun t b hb=>⟨hb.1,hb.2.1,fun hm=>hb.2.2 ((hkk b).2 hm)⟩,fun _ _ _=>rfl,fun _ _ e=>e⟩
 exact k a w ⟨s.size,s.defers,fun t=>Rep.keep kp (s.slots t),fun g o hm=>ORep.keep kp rfl (s.heap g o (hp.mem_iff.2 hm)),nodupPerm hp s.nodup,fun g hg=>s.keys g ((hkk g).2 hg),s.frame⟩
theorem aw_frz {t g s off n m:Nat} {ty:TypeId} {f:Nat→CV} {σ':Sl} {h':Heap} (ht:σ.get t=.c (.osl g s off n)) (hg:h.get g=some (.cells ty m f)) (hm:off+n*s≤m) (hn:¬E.C.own0 g) (hσ:σ.set t (.c (.row true s n fun j=>f (off+j)))=σ') (hh:h.del g=h')
  (k:aw E K σ' h'):aw E K σ h:=fun a w st=>by
 subst hσ hh
 refine k a w ?_
 have hgm:(g,_)∈h:=Heap.get_mem hg
 have hkg:g∈h.keys:=List.mem_map.2 ⟨_,hgm,rfl⟩
 have hsub:=Heap.del_sub h g
 have hks:∀b,b∈(h.del g).keys→b∈h.keys:=fun b hb=>by
  obtain⟨p,hp,e⟩:=List.mem_map.1 hb
  exact List.mem_map.2 ⟨p,hsub.subset hp,e⟩
 have kp:Keeps (Stab E.C h w) (Stab E.C (h.del g) w) w w:=⟨fun t b hb=>⟨hb.1,hb.2.1,fun hm=>hb.2.2 (hks b hm)⟩,fun _ _ _=>rfl,fun _ _ e=>e⟩
 refine⟨st.size,st.defers,fun t'=> ?_,fun g' o' hm'=>ORep.keep kp rfl (st.heap g' o' (hsub.subset hm')),(hsub.map _).nodup st.nodup,fun g' hg'=>st.keys g' (hks g' hg'),st.frame⟩
 rw [Sl.get_set]
 by_cases e:t=t'
 ·subst e
  rw [if_pos rfl]
  have h1:=st.slots t
  rw [ht] at h1
  obtain⟨c,hv,hc,_,_⟩:=h1
  obtain⟨cs,hb,hcs,hj⟩:=st.heap g _ hgm
  refine⟨some ⟨g,off,none⟩,c,hv,hc,fun _=>⟨⟨g,off,none⟩,rfl,⟨.inr ((st.keys g hkg).resolve_left hn),st.klt hkg,Heap.del_not h g st.nodup⟩,fun j hjl=> ?_⟩⟩
  obtain⟨u,hu,hr⟩:=hj (off+j) om
  exact⟨u,by rw [add_mk,cell_own hb];exact hu,hr.keep kp⟩
 ·rw [if_neg e]
  exact Rep.keep kp (st.slots t')
end
end Go.AI
namespace Go.AI
attribute [go_sem] List.cons_append List.nil_append List.append_nil
section
variable {E : Env} {K : List It} {σ σ' : Sl} {h : Heap} {all rest : List Oper} {o : Oper}
theorem aw_cut {α:Type} {c:Code} (S:α→Sl) (H:α→Heap) (F:α→Prop) (k1:aw E (.code c::.stop (fun σ' h'=>∃x,Sl.sub (S x) σ'∧(H x).Sublist h'∧F x)::K) σ h) (k2:∀x,F x→aw E K (S x) (H x)):aw E (.code c::K) σ h:=fun a w s=>by
 have:=k1 a w s
 refine wp_mono this ?_
 intro e a' w' hq
 cases e with
 |normal=>
  obtain⟨σ2,h2,⟨x,r1,r2,r3⟩,s2⟩:=hq
  exact k2 x r3 a' w' (s2.weak (Sl.sub_le r1) r2)
 |exit id=>exact hq
 |goto l=>exact hq
 |ret=>exact hq
 |panic c=>exact hq
 |outgrown=>exact hq
theorem aw_conv {t:Nat} {v:AV} (hc:∀S w u,Rep S w (σ.get t) u→Rep S w v u) (hσ:σ.set t v=σ') (k:aw E K σ' h):aw E K σ h:=fun a w s=>by
 subst hσ
 refine k a w ⟨s.size,s.defers,fun t'=> ?_,s.heap,s.nodup,s.keys,s.frame⟩
 rw [Sl.get_set]
 by_cases e:t=t'
 ·subst e;rw [if_pos rfl];exact hc _ _ _ (s.slots t)
 ·rw [if_neg e];exact s.slots t'
theorem repC_row {S:Bool→Nat→Prop} {w:World} {t:Bool} {s n:Nat} {f f':Nat→CV} {u:Value} (hf:∀j,j<n*s→∀x,RepC S w (f j) x→RepC S w (f' j) x) (hr:RepC S w (.row t s n f) u):RepC S w (.row t s n f') u:=by
 obtain⟨A,c,hv,hc,hn⟩:=hr
 refine⟨A,c,hv,hc,fun h0=> ?_⟩
 obtain⟨ad,hA,hS,hj⟩:=hn h0
 refine⟨ad,hA,hS,fun j hjl=> ?_⟩
 obtain⟨x,hx,hr⟩:=hj j hjl
 exact⟨x,hx,hf j hjl x hr⟩
theorem aw_frzw {t g off n m:Nat} {ty:TypeId} {zs ys:List Nat} {σ':Sl} {h':Heap} (ht:σ.get t=.c (.osl g 1 off n)) (hg:h.get g=some (.cells ty m (wf zs))) (hm:off+n≤m) (hn:¬E.C.own0 g) (hl:n=ys.length) (hy:∀j,j<n→zs.getD (off+j) 0=ys.getD j 0) (hσ:σ.set t (.c (ws true ys))=σ') (hh:h.del g=h')
  (k:aw E K σ' h'):aw E K σ h:=by
 subst hσ hl
 refine aw_frz ht hg om hn rfl hh (aw_conv (t:=t) (v:=.c (ws true ys)) (fun S w u hr=> ?_) rfl ?_)
 ·rw [Sl.get_set,if_pos rfl] at hr
  refine repC_row (fun j hj x hx=> ?_) hr
  have:wf zs (off+j)=.int .u32 (ys.getD j 0:Nat):=by rw [wf_at,hy j om]
  rw [this] at hx
  exact hx
 ·have e:∀(σ:Sl) (v v':AV),(σ.set t v).set t v'=σ.set t v':=by
   intro σ v v'
   induction σ with
   |nil=>simp [Sl.set]
   |cons p σ ih=>
    obtain⟨s,x⟩:=p
    by_cases h:s=t
    ·subst h;simp [Sl.set]
    ·simp [Sl.set,h,ih]
  rw [e];exact k
end
end Go.AI
namespace Go.AI
def Heap.ne (g:Nat):Heap→Prop
 |[]=>True
 |(g',_)::h=>((g=g')=False∧(g'=g)=False)∧Heap.ne g h
theorem Heap.ne_of {g:Nat}:∀{h:Heap},g∉h.keys→Heap.ne g h
 |[],_=>trivial
 |(g',_)::h,hg=>by
  simp only [Heap.keys,List.map_cons,List.mem_cons,not_or] at hg
  exact⟨⟨eq_false hg.1,eq_false fun e=>hg.1 e.symm⟩,Heap.ne_of hg.2⟩
theorem Sl.set_same:∀{σ:Sl} {t:Nat} {v:AV},σ.get t=v→v≠.c .any→σ.set t v=σ
 |[],t,v,h,hn=>by simp [Sl.get] at h;exact absurd h.symm hn
 |(s,x)::σ,t,v,h,hn=>by
  by_cases e:s=t
  ·subst e;simp [Sl.get] at h;subst h;simp [Sl.set]
  ·simp only [Sl.get,e,if_false] at h
   simp only [Sl.set,e,if_false,Sl.set_same h hn]
section
variable {E : Env} {K : List It} {σ σ' : Sl} {h : Heap} {all rest : List Oper} {o : Oper}
theorem aw_split (t:Nat) {b:Bool} (hb:σ.get t=.c (.bool b)) (k1:b=true→aw E K (σ.set t (.c (.bool true))) h) (k2:b=false→aw E K (σ.set t (.c (.bool false))) h):aw E K σ h:=by
 cases b with
 |true=>have:=k1 rfl;rwa [Sl.set_same hb (fun e=>by cases e)] at this
 |false=>have:=k2 rfl;rwa [Sl.set_same hb (fun e=>by cases e)] at this
theorem drk_split (t:Nat) {b:Bool} {l:List Oper} {n:Nat} (hb:σ.get t=.c (.bool b)) (k1:b=true→DrK E h l K n rest (σ.set t (.c (.bool true)))) (k2:b=false→DrK E h l K n rest (σ.set t (.c (.bool false)))):DrK E h l K n rest σ:=by
 cases b with
 |true=>have:=k1 rfl;rwa [Sl.set_same hb (fun e=>by cases e)] at this
 |false=>have:=k2 rfl;rwa [Sl.set_same hb (fun e=>by cases e)] at this
theorem aw_condT {t:Nat} {x y:Code} (hb:σ.get t=.c (.bool true)) (k:aw E (.code x::K) σ h):aw E (.code (.cond (.tmp t) x y)::K) σ h:=
 aw_cond hb (fun _=>k) (fun e=>by cases e)
theorem aw_condF {t:Nat} {x y:Code} (hb:σ.get t=.c (.bool false)) (k:aw E (.code y::K) σ h):aw E (.code (.cond (.tmp t) x y)::K) σ h:=
 aw_cond hb (fun e=>by cases e) (fun _=>k)
theorem aw_keep (σ':Sl) (h':Heap) (hs:Sl.sub σ' σ) (hh:h'.Sublist h) (k:aw E K σ' h'):aw E K σ h:=aw_weak (Sl.sub_le hs) hh k
end
end Go.AI
namespace Go.PN
abbrev BS:=List UInt8
def bAt (l:BS) (i:Nat):Nat:=(l.getD i 0).toNat
def cutS (l:BS) (i e:Nat):BS:=(l.drop i).take (e-i)
end Go.PN
namespace Go.AI
open Go.PN
abbrev sB (l:List UInt8):ByteArray:=⟨l.toArray⟩
def strAt (a:ByteArray) (i:Nat):Int:=((bAt a.data.toList i:Nat):Int)
def strCut (a:ByteArray) (i e:Nat):ByteArray:=⟨(cutS a.data.toList i e).toArray⟩
@[go_sem] theorem strAt_sb (l:BS) (i:Nat):strAt ⟨l.toArray⟩ i=((bAt l i:Nat):Int):=rfl
@[go_sem] theorem strCut_sb (l:BS) (i e:Nat):strCut ⟨l.toArray⟩ i e=⟨(cutS l i e).toArray⟩:=rfl
@[go_sem] theorem sb_size (l:BS):ByteArray.size ⟨l.toArray⟩=l.length:=rfl
@[go_sem] theorem sb_append (a b:BS):(⟨a.toArray⟩:ByteArray)++(⟨b.toArray⟩:ByteArray)=⟨(a++b).toArray⟩:=by apply ByteArray.ext;simp
theorem sb_loop (l:List UInt8):∀(k i:Nat) (r:List UInt8),l.length-i=k→ByteArray.toList.loop ⟨l.toArray⟩ i r=r.reverse++l.drop i
 |0,i,r,hk=>by
  rw [ByteArray.toList.loop,if_neg (show¬i<(⟨l.toArray⟩:ByteArray).size from by show¬i<l.length;omega),List.drop_of_length_le om,List.append_nil]
 |k+1,i,r,hk=>by
  have hi:i<l.length:=by omega
  rw [ByteArray.toList.loop,if_pos (show i<(⟨l.toArray⟩:ByteArray).size from hi),sb_loop l k (i+1) _ om]
  have:(⟨l.toArray⟩:ByteArray).get! i=l[i]:=by
   show l.toArray[i]! =_
   simp [hi]
  rw [this,List.drop_eq_getElem_cons hi]
  simp
theorem sb_toList (l:List UInt8):(sB l).toList=l:=by
 unfold ByteArray.toList
 rw [sb_loop l _ 0 [] rfl];rfl
@[go_sem] theorem sb_lt (a b:List UInt8):strLt (sB a) (sB b)=Op.bytesLess a b:=by unfold strLt;rw [sb_toList,sb_toList]
theorem sb_get (a:List UInt8) (i:Nat):(sB a)[i]?=a[i]?:=by
 by_cases h:i<a.length
 ·rw [getElem?_pos (⟨a.toArray⟩:ByteArray) i h,List.getElem?_eq_getElem h];rfl
 ·rw [getElem?_neg (⟨a.toArray⟩:ByteArray) i h,List.getElem?_eq_none om]
@[go_sem] theorem sb_strEq (a b:List UInt8):strEq ⟨a.toArray⟩ ⟨b.toArray⟩=(a==b):=by unfold strEq;rw [show(⟨a.toArray⟩:ByteArray).toList=a from sb_toList a,show(⟨b.toArray⟩:ByteArray).toList=b from sb_toList b]
theorem sb_of (a:ByteArray):a=sB a.data.toList:=by cases a;rfl
theorem sb_cut (l:BS) (i e:Nat) (h:e≤l.length):(sB l).extract i e=sB (cutS l i e):=by
 apply ByteArray.ext
 simp [cutS,List.take_drop]
def tStr (P:Program) (t:TypeId):Bool:=match P.underlying t with
 |some .string=>true
 |_=>false
theorem tStr_spec {P:Program} {t:TypeId} (h:tStr P t=true):P.underlying t=some .string:=by
 unfold tStr at h
 split at h
 ·assumption
 ·cases h
section
variable {P : Program} {h : Heap} {ρ : Operand → AV}
theorem POk.lenA {t:TypeId} {x:Operand} {a:ByteArray} (ht:tStr P t=true) (hx:ρ x=.c (.str a)):POk P h ρ (.call {callee:=.builtin .len,args:= #[x],argTypes:= #[t]}) (.c (.int .i64 (a.size:Int))):=fun S w e _ ho _=>by
 have h2:e x=.string a:=by have:=ho x (by simp [Op.operands,Call.operands]);rw [hx] at this;exact this
 exact⟨.int .i64 a.size,fun o hop=>by simp [execOp,hop,resolve,invoke,Go.builtin,Builtin.len_,h2,run_underlying (tStr_spec ht),goInt],rfl⟩
theorem POk.indexA {t:TypeId} {x ix:Operand} {k:IntKind} {a:ByteArray} {i:Int} (ht:tStr P t=true) (hx:ρ x=.c (.str a)) (hix:ρ ix=.c (.int k i)) (h0:0≤i) (h1:i<a.size):POk P h ρ (.index t x ix) (.c (.int .u8 (strAt a i.toNat))):=fun S w e _ ho _=>by
 obtain⟨n,rfl⟩:=Int.eq_ofNat_of_zero_le h0
 have e1:e x=.string a:=by have:=ho x (by simp [Op.operands]);rw [hx] at this;exact this
 have e2:e ix=.int k (n:Int):=by have:=ho ix (by simp [Op.operands]);rw [hix] at this;exact this
 have hi:n<a.size:=by omega
 refine⟨_,fun o hop=> ?_,rfl⟩
 have hg:=sb_get a.data.toList n
 rw [←sb_of a] at hg
 have hl:n<a.data.toList.length:=by rw [Array.length_toList];exact hi
 rw [List.getElem?_eq_getElem hl] at hg
 unfold strAt bAt
 rw [Int.toNat_natCast,List.getD_eq_getElem?_getD,List.getElem?_eq_getElem hl]
 simp [execOp,hop,e1,e2,Instr.index,asIntOf,run_underlying (tStr_spec ht),hg]
theorem POk.sliceA {t:TypeId} {x:Operand} {lo hi:Option Operand} {a:ByteArray} {i j:Int} (ht:tStr P t=true) (hx:ρ x=.c (.str a)) (hlo:match lo with|none=>i=0|some y=>∃k,ρ y=.c (.int k i)) (hhi:match hi with|none=>j=a.size|some y=>∃k,ρ y=.c (.int k j)) (h0:0≤i) (h1:i≤j) (h2:j≤a.size):
  POk P h ρ (.slice t x lo hi none) (.c (.str (strCut a i.toNat j.toNat))):=fun S w e _ ho _=>by
 obtain⟨n,rfl⟩:=Int.eq_ofNat_of_zero_le h0
 obtain⟨m,rfl⟩:=Int.eq_ofNat_of_zero_le (Int.le_trans h0 h1)
 have e1:e x=.string a:=by have:=ho x (by simp [Op.operands]);rw [hx] at this;exact this
 have hn:n≤m:=by omega
 have hm:m≤a.size:=by omega
 have hc:a.extract n m=strCut a n m:=by
  conv=>lhs;rw [sb_of a]
  exact sb_cut _ _ _ (by rw [Array.length_toList];exact hm)
 refine⟨.string (strCut a n m),fun o hop=> ?_,rfl⟩
 cases lo with
 |none=>
  have hn0:n=0:=by have:((n:Nat):Int)=0:=hlo;omega
  subst hn0
  cases hi with
  |none=>
   have hm0:m=a.size:=by have:((m:Nat):Int)=a.size:=hhi;omega
   subst hm0
   have hc':strCut a 0 a.size=a:=by rw [←hc];simp
   simp [execOp,hop,e1,Instr.sliceAt,Instr.slice,Instr.sliceBounds,run_underlying (tStr_spec ht),hc']
  |some z=>
   obtain⟨k,hz⟩:=hhi
   have e3:e z=.int k (m:Int):=by have:=ho z (by simp [Op.operands]);rw [hz] at this;exact this
   simp [execOp,hop,e1,e3,Instr.sliceAt,Instr.slice,Instr.sliceBounds,Instr.sliceBound,asIntOf,run_underlying (tStr_spec ht),hc,hm,hn]
 |some y=>
  obtain⟨k,hy⟩:=hlo
  have e2:e y=.int k (n:Int):=by have:=ho y (by simp [Op.operands]);rw [hy] at this;exact this
  cases hi with
  |none=>
   have hm0:m=a.size:=by have:((m:Nat):Int)=a.size:=hhi;omega
   subst hm0
   simp [execOp,hop,e1,e2,Instr.sliceAt,Instr.slice,Instr.sliceBounds,Instr.sliceBound,asIntOf,run_underlying (tStr_spec ht),hc,hn]
  |some z=>
   obtain⟨k',hz⟩:=hhi
   have e3:e z=.int k' (m:Int):=by have:=ho z (by simp [Op.operands]);rw [hz] at this;exact this
   simp [execOp,hop,e1,e2,e3,Instr.sliceAt,Instr.slice,Instr.sliceBounds,Instr.sliceBound,asIntOf,run_underlying (tStr_spec ht),hc,hm,hn]
def strIx (P:Program) (t:TypeId):AV→AV→Option (Prop×AV)
 |.c (.str a),.c (.int _ i)=>some (tStr P t=true∧0≤i∧i<(a.size:Int),.c (.int .u8 (strAt a i.toNat)))
 |_,_=>none
def strSl (P:Program) (ρ:Operand→AV) (t:TypeId) (a:ByteArray):Option Operand→Option Operand→Option (Prop×AV)
 |some y,some z=>match ρ y,ρ z with
  |.c (.int _ i),.c (.int _ j)=>some (tStr P t=true∧0≤i∧i≤j∧j≤(a.size:Int),.c (.str (strCut a i.toNat j.toNat)))
  |_,_=>none
 |some y,none=>match ρ y with
  |.c (.int _ i)=>some (tStr P t=true∧0≤i∧i≤(a.size:Int),.c (.str (strCut a i.toNat a.size)))
  |_=>none
 |none,some z=>match ρ z with
  |.c (.int _ j)=>some (tStr P t=true∧0≤j∧j≤(a.size:Int),.c (.str (strCut a 0 j.toNat)))
  |_=>none
 |none,none=>none
theorem strIx_ok {t:TypeId} {x ix:Operand} {req:Prop} {r:AV} (hb:strIx P t (ρ x) (ρ ix)=some (req,r)) (hreq:req):POk P h ρ (.index t x ix) r:=by
 unfold strIx at hb
 split at hb
 ·rename_i hx hix
  simp only [Option.some.injEq,Prod.mk.injEq] at hb
  obtain⟨rfl,rfl⟩:=hb
  exact POk.indexA hreq.1 hx hix hreq.2.1 hreq.2.2
 ·cases hb
theorem strSl_ok {t:TypeId} {x:Operand} {a:ByteArray} {lo hi:Option Operand} {req:Prop} {r:AV} (hx:ρ x=.c (.str a)) (hb:strSl P ρ t a lo hi=some (req,r)) (hreq:req):POk P h ρ (.slice t x lo hi none) r:=by
 unfold strSl at hb
 split at hb
 ·split at hb
  ·rename_i hy hz
   simp only [Option.some.injEq,Prod.mk.injEq] at hb
   obtain⟨rfl,rfl⟩:=hb
   exact POk.sliceA hreq.1 hx ⟨_,hy⟩ ⟨_,hz⟩ hreq.2.1 hreq.2.2.1 hreq.2.2.2
  ·cases hb
 ·split at hb
  ·rename_i hy
   simp only [Option.some.injEq,Prod.mk.injEq] at hb
   obtain⟨rfl,rfl⟩:=hb
   have:=POk.sliceA (h:=h) (lo:=some _) (hi:=none) (j:=(a.size:Int)) hreq.1 hx ⟨_,hy⟩ rfl hreq.2.1 hreq.2.2 (Int.le_refl _)
   simpa using this
  ·cases hb
 ·split at hb
  ·rename_i hz
   simp only [Option.some.injEq,Prod.mk.injEq] at hb
   obtain⟨rfl,rfl⟩:=hb
   exact POk.sliceA (h:=h) (lo:=none) (hi:=some _) (i:=0) hreq.1 hx rfl ⟨_,hz⟩ (Int.le_refl _) hreq.2.1 hreq.2.2
  ·cases hb
 ·cases hb
end
end Go.AI
namespace Go.AI
def okPart:AV→Bool
 |.tup _=>false
 |.c x=>x.solid
 |.agg xs=>xs.all CV.solid
theorem okPart_spec {x:AV} (h:okPart x=true):(∀xs,x≠.tup xs)∧x.cells.all CV.solid=true:=by
 cases x with
 |tup xs=>cases h
 |c x=>exact⟨(fun _ e=>by cases e),by simpa [okPart,AV.cells] using h⟩
 |agg xs=>exact⟨(fun _ e=>by cases e),by simpa [okPart,AV.cells] using h⟩
def okParts (ρ:Operand→AV):List (Nat×Operand)→Bool
 |[]=>true
 |p::ps=>okPart (ρ p.2)&&okParts ρ ps
theorem okParts_spec {ρ:Operand→AV}:∀{ps:List (Nat×Operand)},okParts ρ ps=true→∀p∈ps,(∀xs,ρ p.2≠.tup xs)∧(ρ p.2).cells.all CV.solid=true
 |[],_,p,hp=>by simp at hp
 |q::ps,h,p,hp=>by
  simp only [okParts,Bool.and_eq_true] at h
  rcases List.mem_cons.1 hp with e|hp
  ·subst e;exact okPart_spec h.1
  ·exact okParts_spec h.2 p hp
section
variable {P : Program} {h : Heap} {ρ : Operand → AV}
def mapCells (ρ:Operand→AV):List (Nat×Operand)→List (Nat×List CV)
 |[]=>[]
 |p::ps=>(p.1,(ρ p.2).cells)::mapCells ρ ps
theorem mapCells_eq (ρ:Operand→AV):∀ps:List (Nat×Operand),mapCells ρ ps=ps.map fun p=>(p.1,(ρ p.2).cells)
 |[]=>rfl
 |p::ps=>by simp [mapCells,mapCells_eq ρ ps]
def build2 (P:Program) (ρ:Operand→AV) (t:TypeId) (ps:List (Nat×Operand)):Option (Prop×AV):=
 match tFlds P t,tZero P t with
 |some fl,some z=>match fillC fl z (mapCells ρ ps) with
  |some out=>some (okParts ρ ps=true,.agg out)
  |none=>none
 |_,_=>none
theorem build2_ok {t:TypeId} {ps:List (Nat×Operand)} {req:Prop} {r:AV} (hb:build2 P ρ t ps=some (req,r)) (hreq:req):POk P h ρ (.build t ps.toArray) r:=by
 unfold build2 at hb
 split at hb
 ·rename_i fl z hfl hz
  split at hb
  ·rename_i out hout
   simp only [Option.some.injEq,Prod.mk.injEq] at hb
   obtain⟨rfl,rfl⟩:=hb
   refine buildAV_ok (req:=∀p∈ps,(∀xs,ρ p.2≠.tup xs)∧(ρ p.2).cells.all CV.solid=true) ?_ (okParts_spec hreq)
   unfold buildAV
   rw [hfl,hz]
   simp only
   rw [←mapCells_eq,hout]
  ·cases hb
 ·cases hb
def isStr (P:Program) (t:TypeId):Bool:=match P.underlying t with
 |some (.struct _)=>true
 |_=>false
theorem isStr_spec {t:TypeId} (h:isStr P t=true):P.underlying t=some (.struct (P.fieldsOf t)):=by
 unfold isStr at h
 unfold Program.fieldsOf
 split at h
 ·rename_i fs hfs;rw [hfs]
 ·cases h
def tEqS (P:Program) (t:TypeId):Option Nat:=
 if !P.stoodInHeld t&& !P.eqGuardType P.depth t&&(P.fieldsOf t).toList.zipIdx.all (fun p=>p.1.name != "_" &&p.1.offset==p.2&&(tInt P p.1.type).isSome)&&isStr P t then some (P.fieldsOf t).size else none
def intsC:List CV→Option (List Int)
 |[]=>some []
 |.int .i64 n::l=>match intsC l with
  |some ns=>some (n::ns)
  |none=>none
 |_=>none
theorem intsC_rep {S:Bool→Nat→Prop} {w:World}:∀{cs:List CV} {ns:List Int} {us:List Value},intsC cs=some ns→RepL S w cs us→us=ns.map (Value.int .i64)
 |[],ns,us,h1,h2=>by
  simp [intsC] at h1;subst h1
  cases us with
  |nil=>rfl
  |cons u us=>exact h2.elim
 |c::cs,ns,us,h1,h2=>by
  cases us with
  |nil=>exact h2.elim
  |cons u us=>
   unfold intsC at h1
   split at h1
   ·rename_i heq;cases heq
   ·rename_i n l heq
    cases heq
    split at h1
    ·rename_i ns' hns
     injection h1 with h1
     subst h1
     have hu:u=.int .i64 n:=h2.1
     rw [hu,List.map_cons,intsC_rep hns h2.2]
    ·cases h1
   ·cases h1
def eqZ:List Int→List Int→Bool
 |[],[]=>true
 |a::iu,b::bs=>a==b&&eqZ iu bs
 |_,_=>false
theorem eqZ_eq:∀{iu bs:List Int},eqZ iu bs=decide (iu=bs)
 |[],[]=>by simp [eqZ]
 |a::iu,b::bs=>by
  simp only [eqZ,eqZ_eq (iu:=iu) (bs:=bs),List.cons.injEq,Bool.decide_and]
  rfl
 |[],b::bs=>by simp [eqZ]
 |a::iu,[]=>by simp [eqZ]
theorem run_eqFields_ints {P:Program} (w:World) (xs ys:Array Value) (iu bs:List Int) (hx:xs=(iu.map (Value.int .i64)).toArray) (hy:ys=(bs.map (Value.int .i64)).toArray) (hl:iu.length=bs.length):
  ∀(fs:List Field) (k:Nat),(fs.zipIdx k).all (fun p=>p.1.name != "_" &&p.1.offset==p.2&&(tInt P p.1.type).isSome)=true→k+fs.length=iu.length→(Op.eqFields 9999 xs ys fs).run P w=.ok (eqZ (iu.drop k) (bs.drop k)) w
 |[],k,_,hk=>by
  rw [List.drop_of_length_le (by simp at hk;omega),List.drop_of_length_le (by simp at hk;omega)]
  simp [Op.eqFields,eqZ]
 |f::fs,k,hf,hk=>by
  simp only [List.zipIdx_cons,List.all_cons,Bool.and_eq_true,bne_iff_ne,ne_eq,beq_iff_eq] at hf
  obtain⟨⟨⟨hn,ho⟩,hi⟩,hr⟩:=hf
  simp only [List.length_cons] at hk
  have hka:k<iu.length:=by omega
  have hkb:k<bs.length:=by omega
  obtain⟨kk,hkk⟩:=Option.isSome_iff_exists.1 hi
  have hu:=tInt_spec hkk
  have hag:(isAgg f.type).run P w=.ok false w:=by simp [isAgg,run_underlying hu]
  have e1:xs[k]?=some (Value.int .i64 (iu[k])):=by rw [hx];simp [hka]
  have e2:ys[k]?=some (Value.int .i64 (bs[k])):=by rw [hy];simp [hkb]
  have p1:(part f.type xs f.offset).run P w=.ok (.int .i64 (iu[k])) w:=by
   unfold part
   simp only [Sem.run_bind,hag,Result.andThen_ok,Bool.false_eq_true,if_false,ho,e1,Sem.run_pure]
  have p2:(part f.type ys f.offset).run P w=.ok (.int .i64 (bs[k])) w:=by
   unfold part
   simp only [Sem.run_bind,hag,Result.andThen_ok,Bool.false_eq_true,if_false,ho,e2,Sem.run_pure]
  have p3:(Op.equalIn 9999 f.type (.int .i64 (iu[k])) (.int .i64 (bs[k]))).run P w=.ok (iu[k]==bs[k]) w:=run_equalIn_int w 9998 f.type .i64 kk _ _ hu
  have ih:=run_eqFields_ints w xs ys iu bs hx hy hl fs (k+1) (by simpa using hr) om
  rw [List.drop_eq_getElem_cons hka,List.drop_eq_getElem_cons hkb]
  simp only [Op.eqFields,hn,not_false_eq_true,if_true,Sem.run_bind,p1,p2,p3,Result.andThen_ok,eqZ,ne_eq]
  cases hab:(iu[k]==bs[k]) with
  |true=>simpa using ih
  |false=>simp
theorem intsC_len:∀{cs:List CV} {ns:List Int},intsC cs=some ns→ns.length=cs.length
 |[],ns,h=>by simp [intsC] at h;subst h;rfl
 |c::cs,ns,h=>by
  unfold intsC at h
  split at h
  ·rename_i heq;cases heq
  ·rename_i n l heq
   cases heq
   split at h
   ·rename_i ns' hns
    injection h with h
    subst h
    simp [intsC_len hns]
   ·cases h
  ·cases h
theorem tEqS_run {t n:Nat} (ht:tEqS P t=some n) {iu bs:List Int} (ha:iu.length=n) (hb:bs.length=n) (w:World):(Op.equalIn 10000 t (.agg (iu.map (Value.int .i64)).toArray) (.agg (bs.map (Value.int .i64)).toArray)).run P w=.ok (eqZ iu bs) w∧P.eqGuardType P.depth t=false:=by
 unfold tEqS at ht
 split at ht
 ·rename_i hc
  simp only [Bool.and_eq_true,Bool.not_eq_true'] at hc
  obtain⟨⟨⟨h1,h2⟩,h3⟩,h4⟩:=hc
  injection ht with ht
  refine⟨?_,h2⟩
  have hu:=isStr_spec h4
  rw [show(10000:Nat)=9999+1 from rfl,run_equalIn_agg w 9999 t _ _ hu h1]
  have:=run_eqFields_ints (P:=P) w _ _ iu bs rfl rfl om (P.fieldsOf t).toList 0 h3 (by simp;omega)
  simpa using this
 ·cases ht
def eqAgg (P:Program) (op:BinOp) (t:TypeId) (xs ys:List CV):Option (Prop×AV):=
 match tEqS P t,intsC xs,intsC ys,op with
 |some n,some iu,some bs,.eql=>some (xs.length=n∧ys.length=n,.c (.bool (eqZ iu bs)))
 |some n,some iu,some bs,.neq=>some (xs.length=n∧ys.length=n,.c (.bool (!eqZ iu bs)))
 |_,_,_,_=>none
theorem POk.eqAgg {op:BinOp} {t t':TypeId} {x y:Operand} {xs ys:List CV} {req:Prop} {r:AV} (hx:ρ x=.agg xs) (hy:ρ y=.agg ys) (hr:AI.eqAgg P op t xs ys=some (req,r)) (hreq:req):POk P h ρ (.binOp op t x y t') r:=fun S w e _ ho _=>by
 have h1:=ho x (by simp [Op.operands])
 have h2:=ho y (by simp [Op.operands])
 rw [hx] at h1
 rw [hy] at h2
 obtain⟨us,hu,hru⟩:=h1
 obtain⟨vs,hv,hrv⟩:=h2
 unfold AI.eqAgg at hr
 split at hr
 ·rename_i n iu bs ht ha hb
  simp only [Option.some.injEq,Prod.mk.injEq] at hr
  obtain⟨rfl,rfl⟩:=hr
  obtain⟨r1,r2⟩:=tEqS_run ht (iu:=iu) (bs:=bs) (by rw [intsC_len ha];exact hreq.1) (by rw [intsC_len hb];exact hreq.2) w
  have e1:=intsC_rep ha hru
  have e2:=intsC_rep hb hrv
  refine⟨.bool (eqZ iu bs),fun o hop=>exec_bin hop ?_ ?_,rfl⟩
  ·rw [hu,hv];exact run_eqGuard_agg w _ _ _ _ _ _ r2
  ·rw [hu,hv,run_eql_struct,e1,e2,r1];rfl
 ·rename_i n iu bs ht ha hb
  simp only [Option.some.injEq,Prod.mk.injEq] at hr
  obtain⟨rfl,rfl⟩:=hr
  obtain⟨r1,r2⟩:=tEqS_run ht (iu:=iu) (bs:=bs) (by rw [intsC_len ha];exact hreq.1) (by rw [intsC_len hb];exact hreq.2) w
  have e1:=intsC_rep ha hru
  have e2:=intsC_rep hb hrv
  refine⟨.bool (!eqZ iu bs),fun o hop=>exec_bin hop ?_ ?_,rfl⟩
  ·rw [hu,hv];exact run_eqGuard_agg w _ _ _ _ _ _ r2
  ·rw [hu,hv,run_neq_struct,e1,e2,r1];rfl
 ·cases hr
def tZI (P:Program) (t:TypeId):Option (IntKind×Int):=match (P.info? t).bind (·.zero) with
 |some (.int k n)=>some (k,n)
 |_=>none
theorem tZI_run {t:TypeId} {k:IntKind} {n:Int} (h:tZI P t=some (k,n)) (w:World):(zeroValue t).run P w=.ok (.int k n) w:=by
 unfold tZI at h
 split at h
 ·rename_i k' n' he
  simp only [Option.some.injEq,Prod.mk.injEq] at h
  obtain⟨rfl,rfl⟩:=h
  cases hi:P.info? t with
  |none=>rw [hi] at he;cases he
  |some i=>
   rw [hi] at he
   have hz:i.zero=some (.int k' n'):=he
   simp [zeroValue,typeInfo,hi,hz]
 ·cases h
def assertAV (P:Program) (t:TypeId):AV→Option (Prop×AV)
 |.c (.ifc u c)=>match tInt P t with
  |some _=>if u=t then some (True,.tup [.c c,.c (.bool true)]) else none
  |none=>none
 |.c .nilI=>match tInt P t,tZI P t with
  |some _,some (k,z)=>some (True,.tup [.c (.int k z),.c (.bool false)])
  |_,_=>none
 |_=>none
theorem POk.assertA {x:Operand} {xt t:TypeId} {req:Prop} {r:AV} (hr:assertAV P t (ρ x)=some (req,r)) (hreq:req):POk P h ρ (.typeAssert x xt t true) r:=fun S w e _ ho _=>by
 have h1:=ho x (by simp [Op.operands])
 unfold assertAV at hr
 split at hr
 ·rename_i u c hx
  rw [hx] at h1
  obtain⟨v,hv,hc⟩:=h1
  split at hr
  ·rename_i k hk
   split at hr
   ·rename_i e1
    subst e1
    simp only [Option.some.injEq,Prod.mk.injEq] at hr
    obtain⟨rfl,rfl⟩:=hr
    refine⟨.tuple #[v,.bool true],fun o hop=> ?_,[v,.bool true],rfl,hc,rfl,trivial⟩
    simp [execOp,hop,hv,Instr.typeAssert,run_underlying (tInt_spec hk)]
   ·cases hr
  ·cases hr
 ·rename_i hx
  rw [hx] at h1
  have hv:e x=.nilIface:=h1
  split at hr
  ·rename_i k0 k z hk hz
   simp only [Option.some.injEq,Prod.mk.injEq] at hr
   obtain⟨rfl,rfl⟩:=hr
   refine⟨.tuple #[.int k z,.bool false],fun o hop=> ?_,[.int k z,.bool false],rfl,rfl,rfl,trivial⟩
   simp [execOp,hop,hv,Instr.typeAssert,run_underlying (tInt_spec hk),tZI_run hz]
  ·cases hr
 ·cases hr
theorem POk.nilCheckR {x:Operand} {n:Nat} {f:Nat→CV} (hx:ρ x=.c (.rptr n f)):POk P h ρ (.nilCheck x) (.c (.rptr n f)):=fun S w e _ ho _=>by
 have h1:=ho x (by simp [Op.operands])
 rw [hx] at h1
 have h1':=h1
 obtain⟨ad,hv,_⟩:=h1
 exact⟨e x,fun o hop=>by simp only [execOp,hop,hv];rfl,h1'⟩
noncomputable def pureOp2 (P:Program) (nw:Bool) (h:Heap) (ρ:Operand→AV):Op→Option (Prop×AV)
 |.build t ⟨ps⟩=>build2 P ρ t ps
 |.typeAssert x _ t true=>assertAV P t (ρ x)
 |.binOp op t x y t'=>match ρ x,ρ y with
  |.agg xs,.agg ys=>eqAgg P op t xs ys
  |a,b=>binAV P nw op t y a b
 |.nilCheck x=>match ρ x with
  |.c (.rptr n f)=>some (True,.c (.rptr n f))
  |.c (.optr g off)=>some (True,.c (.optr g off))
  |_=>none
 |.index t x ix=>strIx P t (ρ x) (ρ ix)
 |.slice t x lo hi none=>match ρ x with
  |.c (.str a)=>strSl P ρ t a lo hi
  |_=>sliceAV P ρ t x lo hi
 |.call {callee:=.builtin .len,args:=⟨[x]⟩,argTypes:=⟨[t]⟩}=>match ρ x with
  |.c (.str a)=>some (tStr P t=true,.c (.int .i64 (a.size:Int)))
  |.c c=>match tElem P t with
   |some _=>(lenCV c).map fun(n:Nat)=>(True,.c (.int .i64 (n:Int)))
   |none=>none
  |_=>none
 |op=>pureOp P nw h ρ op
theorem pureOp2_ok {nw:Bool} {op:Op} {req:Prop} {r:AV} (hk:∀v,ρ (.const v)=cst v) (hb:pureOp2 P nw h ρ op=some (req,r)) (hreq:req):POk P h ρ op r:=by
 unfold pureOp2 at hb
 split at hb
 ·exact build2_ok hb hreq
 ·exact POk.assertA hb hreq
 ·split at hb
  ·rename_i hx hy;exact POk.eqAgg hx hy hb hreq
  ·exact binAV_ok hk hb hreq
 ·split at hb
  ·rename_i hx
   simp only [Option.some.injEq,Prod.mk.injEq] at hb;obtain⟨rfl,rfl⟩:=hb;exact POk.nilCheckR hx
  ·rename_i hx
   simp only [Option.some.injEq,Prod.mk.injEq] at hb;obtain⟨rfl,rfl⟩:=hb;exact POk.nilCheckO hx
  ·cases hb
 ·exact strIx_ok hb hreq
 ·split at hb
  ·rename_i hx;exact strSl_ok hx hb hreq
  ·exact sliceAV_ok hb hreq
 ·split at hb
  ·rename_i hx
   simp only [Option.some.injEq,Prod.mk.injEq] at hb;obtain⟨rfl,rfl⟩:=hb;exact POk.lenA hreq hx
  ·rename_i c _ hx
   split at hb
   ·rename_i ht
    cases hn:lenCV c with
    |none=>rw [hn] at hb;cases hb
    |some n=>
     rw [hn] at hb
     simp only [Option.map_some,Option.some.injEq,Prod.mk.injEq] at hb;obtain⟨rfl,rfl⟩:=hb;exact POk.lenS ht hx hn
   ·cases hb
  ·cases hb
 ·exact pureOp_ok hk hb hreq
noncomputable def runOp2 (P:Program) (nw:Bool) (h:Heap) (all:List Oper) (o:Oper) (σ:Sl):Option (Prop×Sl):=
 match wantA all σ o with
 |some true=>match pureOp2 P nw h (ev σ) o.op with
  |some (q,r)=>some (q,σ.setO o.dst r)
  |none=>none
 |some false=>some (True,σ.setO o.dst (.tup []))
 |none=>none
end
section
variable {E : Env} {K : List It} {σ σ' : Sl} {h : Heap} {all rest : List Oper} {o : Oper}
theorem aw_2q (nw:Bool) (hd:dstOk E.N o.dst=true) (k:∀R:Option (Prop×Sl)→Prop,(∀q σ',q→aw E (.ops all rest::K) σ' h→R (some (q,σ')))→R (runOp2 E.P nw h all o σ)):aw E (.ops all (o::rest)::K) σ h:=by
 have:=k (fun x=>x=runOp2 E.P nw h all o σ→aw E (.ops all (o::rest)::K) σ h) (fun q σ' hq ha e=>by
  unfold runOp2 at e
  split at e
  ·rename_i hw
   split at e
   ·rename_i q1 r hp
    simp only [Option.some.injEq,Prod.mk.injEq] at e
    obtain⟨rfl,rfl⟩:=e
    exact aw_pure hw (pureOp2_ok (fun _=>rfl) hp hq) hd rfl ha
   ·cases e
  ·rename_i hw
   simp only [Option.some.injEq,Prod.mk.injEq] at e
   obtain⟨rfl,rfl⟩:=e
   exact aw_skipped hw hd rfl ha
  ·cases e)
 exact this rfl
theorem Calm.pure2 {l:List Oper} {nw:Bool} {q:Prop} {r:AV} (hw:wantA l σ o=some true) (hb:pureOp2 E.P nw h (ev σ) o.op=some (q,r)) (hq:q) (hd:dstOk E.N o.dst=true):Calm E h l σ o r:=by
 refine⟨hd,fun σ' a w Q hs s=> ?_⟩
 rw [if_pos (s.wanted ((want_same hs).trans hw))]
 obtain⟨v,hrun,hr⟩:=pureOp2_ok (fun _=>rfl) hb hq (Stab E.C h w) w a.eval Stab.mono' (fun x hx=>by rw [←ev_same hx hs];exact ev_rep s x) s.heap
 unfold Oper.wp
 rw [hrun o rfl]
 exact s.put hd hr
theorem drk_2q {l rest:List Oper} {n:Nat} (nw:Bool) (hd:dstOk E.N o.dst=true) (k:∀R:Option (Prop×Sl)→Prop,(∀q σ',q→DrK E h l K n rest σ'→R (some (q,σ')))→R (runOp2 E.P nw h l o σ)):DrK E h l K (n+1) (o::rest) σ:=by
 have:=k (fun x=>x=runOp2 E.P nw h l o σ→DrK E h l K (n+1) (o::rest) σ) (fun q σ' hq ha e=>by
  unfold runOp2 at e
  split at e
  ·rename_i hw
   split at e
   ·rename_i q1 r hp
    simp only [Option.some.injEq,Prod.mk.injEq] at e
    obtain⟨rfl,rfl⟩:=e
    exact drk_cons (Calm.pure2 hw hp hq hd) ha
   ·cases e
  ·rename_i hw
   simp only [Option.some.injEq,Prod.mk.injEq] at e
   obtain⟨rfl,rfl⟩:=e
   exact drk_cons (Calm.skip hw hd) ha
  ·cases e)
 exact this rfl
end
attribute [go_sem] strIx strSl pureOp2 runOp2 build2 okPart okParts mapCells fillC putC CV.solid eqAgg intsC eqZ assertAV List.set_cons_zero List.set_cons_succ Bool.and_true Bool.true_and Bool.and_self and_true true_and and_self List.all_cons List.all_nil
section
variable {E : Env} {K : List It} {σ : Sl} {h : Heap} {all l rest : List Oper} {o : Oper}
theorem wb1 (hd:dstOk E.N o.dst=true) (k:∀R:Option (Prop×Sl)→Prop,(∀q σ',aw E (.ops all rest::K) σ' h→(hq:q:=by(try simp only [inRange])<;>and_intros<;>first|exact True.intro|omega|trivial)→R (some (q,σ')))→R (runOp2 E.P true h all o σ)):aw E (.ops all (o::rest)::K) σ h:=
 aw_2q true hd fun R r=>k R fun q σ' ha hq=>r q σ' hq ha
theorem wd1 {n:Nat} (hd:dstOk E.N o.dst=true) (k:∀R:Option (Prop×Sl)→Prop,(∀q σ',DrK E h l K n rest σ'→(hq:q:=by(try simp only [inRange])<;>and_intros<;>first|exact True.intro|omega|trivial)→R (some (q,σ')))→R (runOp2 E.P true h l o σ)):DrK E h l K (n+1) (o::rest) σ:=
 drk_2q true hd fun R r=>k R fun q σ' ha hq=>r q σ' hq ha
end
end Go.AI
namespace Go.AI
def gs (og:Option Nat) (s n:Nat):CV:=match og with
 |none=>.nils
 |some g=>.osl g s 0 n
def gh (og:Option Nat) (ty:TypeId) (m:Nat) (f:Nat→CV):Heap:=match og with
 |none=>[]
 |some g=>[(g,.cells ty m f)]
@[go_sem] theorem lenCV_gs_some (g s n:Nat):lenCV (gs (some g) s n)=some n:=rfl
section
variable {E : Env} {K : List It} {σ σ' : Sl} {h : Heap} {all rest : List Oper} {o o1 o2 : Oper}
theorem ORep.cong {S:Bool→Nat→Prop} {w:World} {g n:Nat} {ty:TypeId} {f f':Nat→CV} (hf:∀j,j<n→f j=f' j) (hr:ORep S w g (.cells ty n f)):ORep S w g (.cells ty n f'):=by
 obtain⟨cs,hb,hn,hj⟩:=hr
 exact⟨cs,hb,hn,fun j hjl=>by rw [←hf j hjl];exact hj j hjl⟩
theorem aw_conv1 {g n:Nat} {ty:TypeId} {f f':Nat→CV} {h:Heap} (hf:∀j,j<n→f j=f' j) (k:aw E K σ ((g,.cells ty n f')::h)):aw E K σ ((g,.cells ty n f)::h):=fun a w s=>by
 refine k a w ⟨s.size,s.defers,s.slots,fun g' o' hm=> ?_,s.nodup,s.keys,s.frame⟩
 rcases List.mem_cons.1 hm with e|hm
 ·injection e with e1 e2
  subst e1 e2
  exact ORep.cong hf (s.heap _ _ (List.mem_cons_self ..))
 ·exact s.heap g' o' (List.mem_cons_of_mem _ hm)
theorem Heap.del_ne:∀{h:Heap} {g:Nat} {o:AObj} {g0:Nat},g0≠g→Heap.del ((g0,o)::h) g=(g0,o)::h.del g:=by
 intro h g o g0 hne
 simp [Heap.del,hne]
theorem Heap.del_app:∀{pre:Heap} {g:Nat} {o:AObj},g∉pre.keys→Heap.del (pre++[(g,o)]) g=pre
 |[],g,o,_=>by simp [Heap.del]
 |(g0,o0)::pre,g,o,hn=>by
  simp only [Heap.keys,List.map_cons,List.mem_cons,not_or] at hn
  rw [List.cons_append,Heap.del_ne (fun e=>hn.1 e.symm),Heap.del_app hn.2]
theorem Heap.get_app:∀{pre:Heap} {g:Nat} {o:AObj},g∉pre.keys→Heap.get (pre++[(g,o)]) g=some o
 |[],g,o,_=>by simp [Heap.get]
 |(g0,o0)::pre,g,o,hn=>by
  simp only [Heap.keys,List.map_cons,List.mem_cons,not_or] at hn
  rw [List.cons_append]
  simp only [Heap.get,fun e:g0=g=>hn.1 e.symm,if_false]
  rw [if_neg (fun e:g0=g=>hn.1 e.symm)]
  exact Heap.get_app hn.2
theorem aw_nd (k:h.keys.Nodup→aw E K σ h):aw E K σ h:=fun a w s=>k s.nodup a w s
theorem aw_push {t e size bytes n d1 s:Nat} {z:List CV} {og:Option Nat} {f f':Nat→CV} {pre:Heap} {x:Operand} {v:AV} (hop1:o1.op=.buildSlice t 1 #[(0,x)]) (hop2:o2.op=.call {callee:=.builtin .append,args:= #[.tmp s,.tmp d1],argTypes:= #[t,t]})
  (hw1:wantA all σ o1=some true) (hg2:o2.guard=none) (hd1:o1.dst=some d1) (hdk:dstOk E.N o1.dst=true) (hd2:dstOk E.N o2.dst=true)
  (ht:tElem E.P t=some (e,size,bytes)) (hz:tZero E.P e=some z) (hzl:z.length=size) (hs0:0<size) (hsz:size≤16777216)
  (hs:σ.get s=.c (gs og size n)) (hsd:s≠d1) (hog:og=none→n=0) (hx:ev σ x=v) (hok:okPart v=true) (hvl:v.cells.length=size) (hh:h=pre++gh og e (n*size) f)
  (h63:n+1≤maxLen) (hby:(n+1)*bytes≤140737488355328) (hf:∀j,j<(n+1)*size→appF f (n*size) (ofL v.cells) j=f' j)
  (kk:∀g',g'∉pre.keys→aw E (.ops all rest::K) ((σ.set d1 (.c .any)).setO o2.dst (.c (gs (some g') size (n+1)))) (pre++gh (some g') e ((n+1)*size) f')):aw E (.ops all (o1::o2::rest)::K) σ h:=by
 subst hh
 obtain⟨ok1,ok2⟩:=okPart_spec hok
 have hfl:v.flat=true:=by
  cases v with
  |tup xs=>exact absurd rfl (ok1 xs)
  |c x=>rfl
  |agg xs=>rfl
 refine aw_buildSlice (xs:=[x]) (cells:=v.cells) hop1 hw1 hdk ht (by rw [hz];rfl) rfl om om (by intro y hy;simp only [List.mem_singleton] at hy;subst hy;rw [hx];exact⟨hfl,ok2,hvl⟩) (by simp [hx]) fun gt hgt=> ?_
 rw [hd1]
 have hw2:∀σ2,wantA all σ2 o2=some true:=fun σ2=>by unfold wantA;rw [hg2]
 have hev1:ev (Sl.setO σ (some d1) (.c (.osl gt size 0 1))) (.tmp d1)=.c (.osl gt size 0 1):=by simp [ev,Sl.setO,Sl.get_set]
 have hevs:ev (Sl.setO σ (some d1) (.c (.osl gt size 0 1))) (.tmp s)=.c (gs og size n):=by simp only [ev,Sl.setO,Sl.get_set,if_neg (Ne.symm hsd)];exact hs
 have hsrc:∀h0:Heap,Src ((gt,.cells e (1*size) (ofL v.cells))::h0) size (.osl gt size 0 1) 1 (ofL v.cells):=fun h0=>by
  refine .osl (f':=ofL v.cells) (m:=1*size) (ty:=e) (by simp [Heap.get]) om (fun j _=>by rw [Nat.zero_add])
 have hle:∀(A B:AV) (g':Nat),Sl.le ((σ.set d1 (.c .any)).setO o2.dst B) ((Sl.setO σ (some d1) A).setO o2.dst B):=fun A B g' t'=>by
  rw [setO_get,setO_get]
  by_cases e1:o2.dst=some t'
  ·rw [if_pos e1,if_pos e1];exact .inr rfl
  ·rw [if_neg e1,if_neg e1]
   simp only [Sl.setO,Sl.get_set]
   by_cases e2:d1=t'
   ·rw [if_pos e2];exact .inl rfl
   ·rw [if_neg e2,if_neg e2];exact .inr rfl
 have hkp:∀g':Nat,g'∉Heap.keys ((gt,.cells e (1*size) (ofL v.cells))::pre)→g'∉pre.keys:=fun g' hg' hm=>hg' (by simp only [Heap.keys,List.map_cons,List.mem_cons];exact .inr hm)
 have hperm:∀g':Nat,(pre++gh (some g') e ((n+1)*size) f').Sublist ((pre++[(g',.cells e ((n+1)*size) f')])):=fun g'=>List.Sublist.refl _
 cases og with
 |none=>
  have hn0:n=0:=hog rfl
  subst hn0
  refine aw_appendN (cx:=.osl gt size 0 1) (k:=1) (f2:=ofL v.cells) hop2 (hw2 _) hd2 ht hz hzl hs0 hevs hev1 (hsrc _) om om om fun g' hg'=> ?_
  refine aw_conv1 (f':=f') (fun j hj=> ?_) ?_
  ·have:=hf j om
   rw [←this];simp [appF]
  ·have hnew:g'∉pre.keys:=fun hm=>hg' (by simp only [Heap.keys,List.map_cons,List.mem_cons,gh,List.append_nil];exact .inr hm)
   refine aw_perm (h':=(gt,.cells e (1*size) (ofL v.cells))::(pre++[(g',.cells e (1*size) f')])) ?_ ?_
   ·have:(pre++gh none e (0*size) f)=pre:=by simp [gh]
    rw [this]
    refine(List.Perm.swap _ _ _).trans (List.Perm.cons _ ?_)
    exact(List.perm_append_singleton _ _).symm
   ·refine aw_weak (hle _ _ g') (List.Sublist.cons _ (List.Sublist.refl _)) ?_
    have:=kk g' hnew
    simpa [gh,gs] using this
 |some g=>
  refine aw_nd fun hnd=> ?_
  have hnp:g∉pre.keys:=fun hm=>by
   simp only [Heap.keys,gh,List.map_cons,List.map_append,List.map_nil,List.nodup_cons] at hnd
   have:=(List.nodup_append.1 hnd.2).2.2 g hm g (by simp)
   exact this rfl
  have hgtg:gt≠g:=fun e=>hgt (by subst e;simp [Heap.keys,gh])
  refine aw_append (cx:=.osl gt size 0 1) (k:=1) (f2:=ofL v.cells) (g:=g) (m:=n*size) (f:=f) (h2:=(gt,.cells e (1*size) (ofL v.cells))::pre) hop2 (hw2 _) hd2 ht hz hzl hs0 hevs ?_ (Nat.le_refl _) hev1 (hsrc _) ?_ om h63 hby ?_ fun g' hg'=> ?_
  ·show Heap.get ((gt,_)::(pre++[(g,_)])) g=_
   simp only [Heap.get,if_neg hgtg]
   exact Heap.get_app hnp
  ·intro j hj
   have hjl:j<v.cells.length:=by omega
   rw [ofL_get v.cells j v.cells[j] (List.getElem?_eq_getElem hjl)]
   exact List.all_eq_true.1 ok2 _ (List.getElem_mem hjl)
  ·show Heap.del ((gt,_)::(pre++[(g,_)])) g=_
   rw [Heap.del_ne hgtg,Heap.del_app hnp]
  ·refine aw_conv1 (f':=f') hf ?_
   refine aw_perm (h':=(gt,.cells e (1*size) (ofL v.cells))::(pre++[(g',.cells e ((n+1)*size) f')])) ?_ ?_
   ·refine(List.Perm.swap _ _ _).trans (List.Perm.cons _ ?_)
    exact(List.perm_append_singleton _ _).symm
   ·refine aw_weak (hle _ _ g') (List.Sublist.cons _ (List.Sublist.refl _)) ?_
    exact kk g' (hkp g' hg')
def lf {α:Type} (s:Nat) (c:α→List CV) (d:α) (xs:List α) (j:Nat):CV:=ofL (c (xs.getD (j/s) d)) (j%s)
theorem lf_at {α:Type} {s:Nat} {c:α→List CV} {d:α} {xs:List α} {i k:Nat} (hk:k<s):lf s c d xs (i*s+k)=ofL (c (xs.getD i d)) k:=by
 unfold lf
 rw [Nat.mul_comm i s,Nat.mul_add_div om,Nat.mul_add_mod,Nat.div_eq_of_lt hk,Nat.mod_eq_of_lt hk,Nat.add_zero]
theorem lf_push {α:Type} {s n:Nat} {c:α→List CV} {d:α} {xs:List α} (hn:xs.length=n) (v:α) (hs:0<s):∀j,j<(n+1)*s→appF (lf s c d xs) (n*s) (ofL (c v)) j=lf s c d (xs++[v]) j:=fun j hj=>by
 subst hn
 unfold appF
 by_cases h:j<xs.length*s
 ·rw [if_pos h]
  unfold lf
  have:j/s<xs.length:=(Nat.div_lt_iff_lt_mul hs).2 h
  rw [List.getD_eq_getElem?_getD,List.getD_eq_getElem?_getD,List.getElem?_append_left this]
 ·rw [if_neg h]
  obtain⟨k,rfl⟩:∃k,j=xs.length*s+k:=⟨j-xs.length*s,by omega⟩
  have hk:k<s:=by rw [Nat.succ_mul] at hj;omega
  rw [lf_at hk,Nat.add_sub_cancel_left,List.getD_eq_getElem?_getD,List.getElem?_append_right (Nat.le_refl _),Nat.sub_self]
  rfl
theorem updF_out:∀(cs:List CV) (f:Nat→CV) (k j:Nat),(j<k∨k+cs.length≤j)→updF f k cs j=f j
 |[],f,k,j,_=>rfl
 |c::cs,f,k,j,h=>by
  simp only [updF,List.length_cons] at h⊢
  rw [updF_out cs _ (k+1) j om,if_neg om]
theorem updF_in:∀(cs:List CV) (f:Nat→CV) (k j:Nat),j<cs.length→updF f k cs (k+j)=ofL cs j
 |[],f,k,j,h=>by simp at h
 |c::cs,f,k,0,h=>by
  simp only [updF,ofL,Nat.add_zero]
  rw [updF_out cs _ (k+1) k om,if_pos rfl]
 |c::cs,f,k,j+1,h=>by
  simp only [updF,ofL]
  rw [show k+(j+1)=(k+1)+j from by omega]
  exact updF_in cs _ (k+1) j (by simpa using h)
end
end Go.AI
