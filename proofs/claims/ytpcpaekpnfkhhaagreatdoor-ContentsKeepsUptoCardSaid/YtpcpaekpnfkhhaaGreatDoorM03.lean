/- Parts of one proof, laid by a program. -/
import Derived.Test.YtpcpaekpnfkhhaaGreatDoorM00
import Derived.Test.YtpcpaekpnfkhhaaGreatDoorM02
import Derived.Test.YtpcpaekpnfkhhaaGreatDoorProg
import Derived.KernelRfl
set_option linter.unusedSimpArgs false
set_option linter.unusedVariables false
set_option maxRecDepth 100000
set_option maxHeartbeats 12800000
namespace Go.AI
structure Al where
 i:Nat
 d:Nat
 rf:Nat→AV
 ob:AObj
def addA:List Al→(Nat→Bool)→(Nat→Nat)→Sl→Sl
 |[],_,_,σ=>σ
 |x::al,L,γ,σ=>if L x.i then(addA al L γ σ).set x.d (x.rf (γ x.i)) else addA al L γ σ
def extA:List Al→(Nat→Bool)→(Nat→Nat)→Heap
 |[],_,_=>[]
 |x::al,L,γ=>if L x.i then(γ x.i,x.ob)::extA al L γ else extA al L γ
def edgeT (l:List Oper):Nat→Oper→Nat→Bool
 |0,o,j=>edge o j
 |k+1,o,j=>edge o j||o.after.any fun e=>Region.binds .any e&&(match l[e.on]? with|some p=>edgeT l k p j|none=>false)
section
variable {E : Env} {K : List It} {σ σ' : Sl} {h : Heap} {l : List Oper} {o : Oper}
theorem edgeT_listed {L:Nat→Bool} (hcl:∀i o,l[i]?=some o→L i=true→∀e∈o.after,Region.binds .any e=true→L e.on=true):∀(k:Nat) (o:Oper) (j:Nat),(∀e∈o.after,Region.binds .any e=true→L e.on=true)→edgeT l k o j=true→L j=true
 |0,o,j,hp,he=>by
  obtain⟨e,he',hon,hb⟩:=edge_mem he
  rw [←hon];exact hp e he' hb
 |k+1,o,j,hp,he=>by
  simp only [edgeT,Bool.or_eq_true] at he
  rcases he with he|he
  ·obtain⟨e,he',hon,hb⟩:=edge_mem he
   rw [←hon];exact hp e he' hb
  ·rw [Array.any_eq_true] at he
   obtain⟨i,hi,h1⟩:=he
   simp only [Bool.and_eq_true] at h1
   obtain⟨hb,h2⟩:=h1
   have hl:=hp _ (Array.getElem_mem hi) hb
   split at h2
   ·rename_i p hpp
    exact edgeT_listed hcl k p j (hcl _ p hpp hl) h2
   ·cases h2
def CalmX (E:Env) (h:Heap) (l:List Oper) (σ:Sl) (o:Oper) (r:AV):Prop:=
 dstOk E.N o.dst=true∧∀(σ':Sl) (ext:Heap) (a:Act) (w:World) (Q:Exit→Act→World→Prop),(∀t∈looks l o,σ'.get t=σ.get t)→St E.N E.C σ' (ext++h) a w→
  if Region.wanted o (yielded l.toArray a.tmps) then o.wp E.P a w (fun a' w'=>St E.N E.C (σ'.setO o.dst r) (ext++h) a' w') Q else r=.tup []
def NewX (E:Env) (h:Heap) (l:List Oper) (σ:Sl) (o:Oper) (rf:Nat→AV) (ob:AObj):Prop:=
 dstOk E.N o.dst=true∧∀(σ':Sl) (ext:Heap) (a:Act) (w:World) (Q:Exit→Act→World→Prop),(∀t∈looks l o,σ'.get t=σ.get t)→St E.N E.C σ' (ext++h) a w→
  Region.wanted o (yielded l.toArray a.tmps)=true∧o.wp E.P a w (fun a' w'=>∃g,St E.N E.C (σ'.setO o.dst (rf g)) ((g,ob)::(ext++h)) a' w') Q
inductive DrX (E:Env) (h:Heap) (l:List Oper):Nat→List (Oper×AV)→Sl→Sl→List Al→Prop
 |nil {i:Nat} {σ:Sl}:DrX E h l i [] σ σ []
 |calm {i:Nat} {o:Oper} {r:AV} {ps:List (Oper×AV)} {σ σ':Sl} {al:List Al}:CalmX E h l σ o r→DrX E h l (i+1) ps (σ.setO o.dst r) σ' al→DrX E h l i ((o,r)::ps) σ σ' al
 |new {i d:Nat} {o:Oper} {rf:Nat→AV} {ob:AObj} {ps:List (Oper×AV)} {σ σ':Sl} {al:List Al}:o.dst=some d→NewX E h l σ o rf ob→DrX E h l (i+1) ps (σ.setO o.dst (.c .any)) σ' al→DrX E h l i ((o,.c .any)::ps) σ σ' (⟨i,d,rf,ob⟩::al)
theorem sigL_zero:∀(ps:List (Oper×AV)) (n:Nat) (σ:Sl),sigL ps ((List.range n).map (fun _=>false)) σ=σ:=by
 intro ps
 induction ps with
 |nil=>intro n σ;simp [sigL]
 |cons p ps ih2=>
  intro n σ
  cases n with
  |zero=>simp [sigL]
  |succ n=>
   obtain⟨q,r⟩:=p
   simp only [List.range_succ_eq_map,List.map_cons,List.map_map,sigL]
   exact ih2 n σ
theorem DrX.at_ {i:Nat} {ps:List (Oper×AV)} {al:List Al} (d:DrX E h l i ps σ σ' al):∀(j:Nat) (o:Oper) (r:AV),ps[j]?=some (o,r)→
  (CalmX E h l (sigL ps ((List.range ps.length).map fun q=>decide (q<j)) σ) o r∧∀x∈al,x.i≠i+j)∨
  (r=.c .any∧∃x∈al,x.i=i+j∧o.dst=some x.d∧NewX E h l (sigL ps ((List.range ps.length).map fun q=>decide (q<j)) σ) o x.rf x.ob):=by
 have low:∀{i:Nat} {ps:List (Oper×AV)} {σ σ':Sl} {al:List Al},DrX E h l i ps σ σ' al→∀x∈al,i≤x.i:=by
  intro i ps σ σ' al d
  induction d with
  |nil=>intro x hx;simp at hx
  |calm _ _ ih=>intro x hx;have:=ih x hx;omega
  |new _ _ _ ih=>
   intro x hx
   rcases List.mem_cons.1 hx with rfl|hx
   ·exact Nat.le_refl _
   ·have:=ih x hx;omega
 induction d with
 |nil=>intro j o r hp;simp at hp
 | @calm i o' r' ps σ σ' al hc hd ih=>
   intro j o r hp
   simp only [List.length_cons,List.range_succ_eq_map,List.map_cons,List.map_map,sigL]
   cases j with
   |zero=>
    simp only [List.getElem?_cons_zero,Option.some.injEq,Prod.mk.injEq] at hp
    obtain⟨rfl,rfl⟩:=hp
    left
    have e:((fun q=>decide (q<0))∘Nat.succ)=fun _=>false:=by funext q;simp [Function.comp]
    simp only [Nat.lt_irrefl,decide_false,e]
    exact⟨by rw [sigL_zero];exact hc,fun x hx=>by have:=low hd x hx;omega⟩
   |succ j=>
    have:=ih j o r (by simpa using hp)
    have e:((fun q=>decide (q<j+1))∘Nat.succ)=fun q=>decide (q<j):=by funext q;simp [Function.comp]
    rw [e]
    rw [show i+(j+1)=i+1+j from by omega]
    simpa using this
 | @new i d o' rf ob ps σ σ' al hod hn hd ih=>
   intro j o r hp
   simp only [List.length_cons,List.range_succ_eq_map,List.map_cons,List.map_map,sigL]
   cases j with
   |zero=>
    simp only [List.getElem?_cons_zero,Option.some.injEq,Prod.mk.injEq] at hp
    obtain⟨rfl,rfl⟩:=hp
    right
    have e:((fun q=>decide (q<0))∘Nat.succ)=fun _=>false:=by funext q;simp [Function.comp]
    simp only [Nat.lt_irrefl,decide_false,e]
    refine⟨trivial,_,List.mem_cons_self ..,rfl,hod,?_⟩
    rw [sigL_zero];exact hn
   |succ j=>
    have:=ih j o r (by simpa using hp)
    have e:((fun q=>decide (q<j+1))∘Nat.succ)=fun q=>decide (q<j):=by funext q;simp [Function.comp]
    rw [e]
    rw [show i+(j+1)=i+1+j from by omega]
    rcases this with ⟨h1,h2⟩|⟨h1,x,hx,h2⟩
    ·left
     refine⟨by simpa using h1,fun x hx=> ?_⟩
     rcases List.mem_cons.1 hx with rfl|hx
     ·simp only;omega
     ·exact h2 x hx
    ·right
     exact⟨h1,x,List.mem_cons_of_mem _ hx,by simpa using h2⟩
theorem DrX.end_ {i:Nat} {ps:List (Oper×AV)} {al:List Al} (d:DrX E h l i ps σ σ' al):σ'=sigL ps ((List.range ps.length).map fun _=>true) σ:=by
 induction d with
 |nil=>rfl
 |calm _ _ ih=>
  simp only [List.length_cons,List.range_succ_eq_map,List.map_cons,List.map_map,sigL,if_true]
  exact ih
 |new _ _ _ ih=>
  simp only [List.length_cons,List.range_succ_eq_map,List.map_cons,List.map_map,sigL,if_true]
  exact ih
end
end Go.AI
namespace Go.AI
section
variable {E : Env} {K : List It} {σ σ' : Sl} {h : Heap} {l : List Oper} {o : Oper}
theorem CalmX.pure2 {nw:Bool} {q:Prop} {r:AV} (hw:wantA l σ o=some true) (hb:pureOp2 E.P nw h (ev σ) o.op=some (q,r)) (hq:q) (hd:dstOk E.N o.dst=true):CalmX E h l σ o r:=by
 refine⟨hd,fun σ' ext a w Q hs s=> ?_⟩
 rw [if_pos (s.wanted ((want_same hs).trans hw))]
 obtain⟨v,hrun,hr⟩:=pureOp2_ok (fun _=>rfl) hb hq (Stab E.C (ext++h) w) w a.eval Stab.mono' (fun x hx=>by rw [←ev_same hx hs];exact ev_rep s x) (fun g ob hm=>s.heap g ob (List.mem_append_right _ hm))
 unfold Oper.wp
 rw [hrun o rfl]
 exact s.put hd hr
theorem CalmX.skip (hw:wantA l σ o=some false) (hd:dstOk E.N o.dst=true):CalmX E h l σ o (.tup []):=by
 refine⟨hd,fun σ' ext a w Q hs s=> ?_⟩
 rw [if_neg (by rw [s.wanted ((want_same hs).trans hw)];simp)]
theorem Heap.get_ext:∀{ext h:Heap} {g:Nat} {ob:AObj},(ext++h).keys.Nodup→h.get g=some ob→Heap.get (ext++h) g=some ob
 |[],h,g,ob,_,hg=>hg
 |(g0,o0)::ext,h,g,ob,hn,hg=>by
  simp only [List.cons_append,Heap.keys,List.map_cons,List.nodup_cons] at hn
  have hne:¬g0=g:=fun e=>hn.1 (by
   rw [e]
   exact List.mem_map.2 ⟨(g,ob),List.mem_append_right _ (Heap.get_mem hg),rfl⟩)
  simp only [List.cons_append,Heap.get,if_neg hne]
  exact Heap.get_ext hn.2 hg
theorem LeC.ext {ext h:Heap} (hn:(ext++h).keys.Nodup) {x y:CV} (le:LeC h x y):LeC (ext++h) x y:=by
 induction le with
 |refl x=>exact .refl x
 |any x=>exact .any x
 |nils=>exact .nils
 |row ht _ ih=>exact .row ht ih
 |osl hg hm _ ih=>exact .osl (Heap.get_ext hn hg) hm ih
 |ifc _ ih=>exact .ifc ih
theorem LeL.ext {ext h:Heap} (hn:(ext++h).keys.Nodup):∀{xs ys:List CV},LeL h xs ys→LeL (ext++h) xs ys
 |[],[],_=>trivial
 |_::_,_::_,le=>⟨le.1.ext hn,LeL.ext hn le.2⟩
 |[],_::_,le=>le.elim
 |_::_,[],le=>le.elim
theorem LeA.ext {ext h:Heap} (hn:(ext++h).keys.Nodup):∀{xs ys:List AV},LeA h xs ys→LeA (ext++h) xs ys
 |[],[],_=>trivial
 |_::_,_::_,le=>⟨by
   rcases le.1 with l|l
   ·exact .c (l.ext hn)
   ·exact .agg (LeL.ext hn l),LeA.ext hn le.2⟩
 |[],_::_,le=>le.elim
 |_::_,[],le=>le.elim
theorem CalmX.call {f:FuncId} {xs:List Operand} {ts:Array TypeId} {args:List AV} {r:AV} (hf:Fa E.P f args r) (hop:o.op=.call {callee:=.value (.func f),args:=xs.toArray,argTypes:=ts}) (hw:wantA l σ o=some true) (hd:dstOk E.N o.dst=true)
  (le:LeA h (xs.map (ev σ)) args):CalmX E h l σ o r:=by
 refine⟨hd,fun σ' ext a w Q hs s=> ?_⟩
 rw [if_pos (s.wanted ((want_same hs).trans hw))]
 have he:xs.map (ev σ')=xs.map (ev σ):=List.map_congr_left fun x hx=>ev_same (by rw [hop];simp [Op.operands,Call.operands,hx]) hs
 unfold Oper.wp
 have hrun:(execOp a.eval o).run E.P w=.ok (.enter f (xs.map a.eval).toArray) w:=by
  simp only [execOp,hop,resolve,Act.eval,Deferred.ofValue,invoke,Sem.run_bind]
  have:=hf.1.run (#[]++(Array.map a.eval xs.toArray)++ #[]) w
  simp only [Sem.run_pure,Result.andThen_ok]
  rw [show((xs.map a.eval).toArray)=(#[]++(Array.map a.eval xs.toArray)++ #[]) from by simp]
  exact this
 rw [hrun]
 show Calls _ _ _ _ _
 refine(hf.use s (by rw [he];exact le.ext s.nodup)).mono ?_
 rintro e w' ⟨v,rfl,hr,hfr⟩
 exact(s.later hfr).put hd hr
theorem CalmX.of_run {r:AV} (hw:wantA l σ o=some true) (hd:dstOk E.N o.dst=true)
  (hrun:∀σ' ext a w,(∀x∈o.op.operands,ev σ' x=ev σ x)→St E.N E.C σ' (ext++h) a w→∃v w',(execOp a.eval o).run E.P w=.ok (.value v) w'∧Fr (fun _=>False) w w'∧Rep (Stab E.C (ext++h) w') w' r v):CalmX E h l σ o r:=by
 refine⟨hd,fun σ' ext a w Q hs s=> ?_⟩
 rw [if_pos (s.wanted ((want_same hs).trans hw))]
 obtain⟨v,w',hr,hfr,hrep⟩:=hrun σ' ext a w (fun x hx=>ev_same hx hs) s
 unfold Oper.wp
 rw [hr]
 exact(s.later hfr).put hd hrep
theorem CalmX.empty {t e size bytes:Nat} (hop:o.op=.buildSlice t 0 #[]) (hw:wantA l σ o=some true) (hd:dstOk E.N o.dst=true) (ht:tElem E.P t=some (e,size,bytes)):CalmX E h l σ o (.c .nils):=by
 refine CalmX.of_run hw hd fun σ' ext a w _ s=> ?_
 obtain⟨hu,inf,hi,hsz,_⟩:=tElem_spec ht
 refine⟨.slice (some ⟨w.heap.size,0,none⟩) 0 0,w.alloc (.cells #[] e),?_,Fr.alloc _ _ _,_,rfl⟩
 simp only [execOp,hop,Instr.buildSlice,Sem.run_bind,run_underlying hu,Result.andThen_ok,sizeOf,typeInfo,Sem.run_pure]
 simp only [run_program,hi,Result.andThen_ok,Sem.run_pure,hsz,Nat.zero_mul]
 rw [if_neg om,if_pos trivial]
 simp only [Sem.run_bind,Sem.run_pure,Result.andThen_ok]
 have hf:Instr.fill (fun i=>some (i*size,size)) (Array.map (fun x=>(#[]:Array Value)[x%(#[]:Array Value).size]!) (Array.range 0)) (Array.map (fun x:Nat×Operand=>(x.1,a.eval x.2)) #[]).toList=some #[]:=by simp [Instr.fill]
 rw [hf]
 rfl
theorem CalmX.copy {t e size bytes k:Nat} {z:List CV} {f2:Nat→CV} {s x:Operand} {cx:CV} (hop:o.op=.call {callee:=.builtin .append,args:= #[s,x],argTypes:= #[t,t]}) (hw:wantA l σ o=some true) (hd:dstOk E.N o.dst=true)
  (ht:tElem E.P t=some (e,size,bytes)) (hz:tZero E.P e=some z) (hzl:z.length=size) (hs0:0<size) (hs:ev σ s=.c .nils) (hx:ev σ x=.c cx) (hsrc:Src h size cx k f2)
  (h63:k≤maxLen) (hby:k*bytes≤140737488355328):CalmX E h l σ o (.c (.row true size k f2)):=by
 refine CalmX.of_run hw hd fun σ' ext a w he st=> ?_
 have r1:=ev_rep st s
 have r2:=ev_rep st x
 rw [he s (by rw [hop];simp [Op.operands,Call.operands]),hs] at r1
 rw [he x (by rw [hop];simp [Op.operands,Call.operands]),hx] at r2
 obtain⟨A0,hv1⟩:=r1
 obtain⟨A,d,hv2,hA⟩:=hsrc.cells (fun g ob hm=>st.heap g ob (List.mem_append_right _ hm)) r2
 rcases Nat.eq_zero_or_pos k with hk|hk
 ·subst hk
  refine⟨.slice A0 0 0,w,exec_append hop ?_,Fr.refl _ _,A0,0,rfl,Nat.le_refl _,fun h0=>by simp at h0⟩
  rw [hv1,hv2]
  exact run_append_zero ht (Nat.le_refl _)
 ·obtain⟨ad,rfl,hc⟩:=hA (Nat.mul_pos hk hs0)
  obtain⟨news,hnl,hnews⟩:=list_of_cells (k*size) hc
  obtain⟨c',w',cs',hrun,hb',hcs',hle',hcm',hnew,hfr⟩:=append_new (P:=E.P) (ty:=o.type) (d:=d) (A:=A0) ht hz hzl hnl (fun j u e=>(hnews j u e).1) hk h63 hby
  have hlt:w.heap.size<w'.heap.size:=(Array.getElem?_eq_some_iff.1 hb').1
  have hnk:w.heap.size∉(ext++h).keys:=fun hm=>Nat.lt_irrefl _ (st.klt hm)
  have kp:Keeps (Stab E.C (ext++h) w) (Stab E.C (ext++h) w') w w':=
   ⟨fun t b hb=>⟨hb.1,Nat.lt_of_lt_of_le hb.2.1 hfr.size,hb.2.2⟩,fun t b hb=>hfr.block b hb.2.1 (fun x=>x),hfr.has⟩
  refine⟨_,w',exec_append hop (by rw [hv1,hv2];exact hrun),hfr,_,c',rfl,hle',fun _=>⟨_,rfl,⟨.inr st.frame.size,hlt,hnk⟩,fun j hjl=> ?_⟩⟩
  have hl:j<news.length:=by omega
  refine⟨news[j],?_,(hnews _ _ (List.getElem?_eq_getElem hl)).2.keep kp⟩
  rw [add_mk,cell_own hb',Nat.zero_add,hnew j hjl]
  exact List.getElem?_eq_getElem hl
theorem NewX.of_run {rf:Nat→AV} {ob:AObj} (hw:wantA l σ o=some true) (hd:dstOk E.N o.dst=true)
  (hrun:∀σ' ext a w,(∀x∈o.op.operands,ev σ' x=ev σ x)→St E.N E.C σ' (ext++h) a w→∃v w',(execOp a.eval o).run E.P w=.ok (.value v) w'∧Fr (fun _=>False) w w'∧w.heap.size<w'.heap.size∧
   ORep (Stab E.C ((w.heap.size,ob)::(ext++h)) w') w' w.heap.size ob∧Rep (Stab E.C ((w.heap.size,ob)::(ext++h)) w') w' (rf w.heap.size) v):NewX E h l σ o rf ob:=by
 refine⟨hd,fun σ' ext a w Q hs s=>⟨s.wanted ((want_same hs).trans hw),?_⟩⟩
 obtain⟨v,w',hr,hfr,hlt,ho,hrep⟩:=hrun σ' ext a w (fun x hx=>ev_same hx hs) s
 unfold Oper.wp
 rw [hr]
 exact⟨w.heap.size,(s.new rfl hfr hlt ho).put hd hrep⟩
def noLook (l:List Oper) (n d:Nat):Bool:=(l.take n).all fun o=> !(looks l o).contains d
def DrB (E:Env) (h:Heap) (l:List Oper) (K:List It) (M i k:Nat) (rest:List Oper) (σ:Sl) (pre:List Al):Prop:=
 ∃ps σ' al,ps.map (·.1)=rest.take k∧DrX E h l i ps σ σ' al∧(∀x∈al,noLook l M x.d=true)∧∀γ,aw E (.ops l (rest.drop k)::K) (addA (pre++al) (fun _=>true) γ σ') (extA (pre++al) (fun _=>true) γ++h)
end
attribute [go_sem] addA extA
end Go.AI
namespace Go.AI
section
variable {E : Env} {K : List It} {σ σ' : Sl} {h : Heap} {l : List Oper} {o : Oper}
theorem Oper_wp_imp {P:Program} {o:Oper} {a:Act} {w:World} {K K':Act→World→Prop} {Q Q':Exit→Act→World→Prop} (h:∀a w,K a w→K' a w) (hq:∀e a w,e≠.normal→Q e a w→Q' e a w) (hh:o.wp P a w K Q):o.wp P a w K' Q':=by
 have hl:LetsOut Q→LetsOut Q':=fun⟨a,w,x⟩=>⟨a,w,hq _ _ _ (by simp) x⟩
 unfold Oper.wp at*
 generalize (execOp a.eval o).run P w=r at*
 cases r with
 |ok n w'=>
  cases n<;>simp only [Oper.upon] at hh⊢ <;>
   first
    |exact h _ _ hh
    |exact Calls.mono hh (fun e w'' he=>by cases e<;>first|exact h _ _ he|exact hl he|exact hq _ _ _ (by simp) he)
    |exact Rows.mono hh (fun _ _ he=>h _ _ he)
    |exact hh
 |halt x w'=>cases x<;>simp only [Oper.upon] at hh⊢ <;>first|exact hq _ _ _ (by simp) hh|exact hh|exact hl hh
end
end Go.AI
namespace Go.AI
section
variable {E : Env} {K : List It} {σ σ' : Sl} {h : Heap} {l : List Oper} {o : Oper}
theorem NewX.alloc {t:TypeId} {z:List CV} (hop:o.op=.alloc t) (hw:wantA l σ o=some true) (hd:dstOk E.N o.dst=true) (hz:tZero E.P t=some z):NewX E h l σ o (fun g=>.c (.optr g 0)) (.cells t z.length (ofL z)):=by
 refine NewX.of_run hw hd fun σ' ext a w he s=> ?_
 obtain⟨i,v,hi,hv,rfl⟩:=tZero_spec hz
 refine⟨.pointer (some ⟨w.heap.size,0,none⟩),w.alloc (.cells v.cells.toList.toArray t),?_,Fr.alloc _ _ _,by simp,orep_new (cstL_rep _ _ _),rfl⟩
 simp only [execOp,hop,Instr.alloc,zeroValue,typeInfo,newVar,newRow,Sem.run_bind]
 simp [hi,hv]
end
end Go.AI
namespace Go.AI
def Has0 (FP h:Heap):Prop:=∀p∈FP,p∈h
structure After (l:List Oper) (res:Nat→AV) (σ0:Sl) (seen:Nat→Prop) (σ:Sl):Prop where
 yes:∀j o d,seen j→l[j]?=some o→o.dst=some d→σ.get d=res j
 no:∀t,(∀j o,seen j→l[j]?=some o→o.dst≠some t)→σ.get t=σ0.get t
def depsOk (o:Oper) (seen:List Nat):Bool:=o.after.all fun e=> !Region.binds .any e||seen.contains e.on
theorem deps_mem {o:Oper} {seen:List Nat} (h:depsOk o seen=true) {e:Edge} (he:e∈o.after) (hb:Region.binds .any e=true):e.on∈seen:=by
 unfold depsOk at h
 rw [Array.all_eq_true'] at h
 have:=h e he
 rw [hb] at this
 simpa using this
def cwGo (l:List Oper):List Nat→List Nat→List Nat→List (Nat×Nat)→Bool
 |_,_,_,[]=>true
 |seen,pn,fr,(i,b)::cs=>(match l[i]? with
  |none=>false
  |some o=> !(seen.contains i)&&depsOk o seen&&(pn.all fun p=>edgeT l 12 o p)&&(b !=2||seen.all fun p=>fr.contains p||edgeT l 12 o p))&&cwGo l (i::seen) (if b=0∨b=3 then pn else i::pn) (if b=3 then i::fr else fr) cs
section
variable {E : Env} {K : List It} {l : List Oper} {FP : Heap} {σ σ' : Sl} {h : Heap} {o : Oper}
def Flt (E:Env) (FP:Heap) (l:List Oper) (σ:Sl) (o:Oper) (r:AV):Prop:=dstOk E.N o.dst=true∧∀h,Has0 FP h→Calm E h l σ o r
def Pin (E:Env) (l:List Oper) (σ:Sl) (h:Heap) (o:Oper) (R:AV→Heap→Prop):Prop:=
 ∀(σ':Sl) (K:List It),(∀t∈looks l o,σ'.get t=σ.get t)→aw E (.ops l [o]::.stop (fun σ2 h2=>∃r,R r h2∧σ2=σ'.setO o.dst r)::K) σ' h
inductive CW (E:Env) (l:List Oper) (K:List It):Heap→List (Nat×Nat)→Sl→Heap→Prop
 |nil {FP:Heap} {σ:Sl} {h:Heap}:aw E K σ h→CW E l K FP [] σ h
 |flt {FP:Heap} {i:Nat} {cs:List (Nat×Nat)} {o:Oper} {r:AV} {σ:Sl} {h:Heap}:l[i]?=some o→Flt E FP l σ o r→CW E l K FP cs (σ.setO o.dst r) h→CW E l K FP ((i,0)::cs) σ h
 |fre {FP:Heap} {i:Nat} {cs:List (Nat×Nat)} {o:Oper} {r:AV} {σ:Sl} {h:Heap}:l[i]?=some o→Flt E [] l σ o r→CW E l K FP cs (σ.setO o.dst r) h→CW E l K FP ((i,3)::cs) σ h
 |pin {FP FP':Heap} {i m:Nat} {cs:List (Nat×Nat)} {o:Oper} {R:AV→Heap→Prop} {σ:Sl} {h:Heap}:l[i]?=some o→(m=2∨m=1∧FP'=FP)→Pin E l σ h o R→(∀r h',R r h'→Has0 FP' h')→(∀r h',R r h'→CW E l K FP' cs (σ.setO o.dst r) h')→CW E l K FP ((i,m)::cs) σ h
theorem cwGo_new {cs:List (Nat×Nat)}:∀{seen pn fr:List Nat},cwGo l seen pn fr cs=true→∀i∈cs.map (·.1),i∉seen:=by
 induction cs with
 |nil=>intro seen pn fr _ i hi;cases hi
 |cons c cs ih=>
  intro seen pn fr hg i hi
  obtain⟨c,b⟩:=c
  simp only [cwGo,Bool.and_eq_true] at hg
  obtain⟨h1,h2⟩:=hg
  simp only [List.map_cons,List.mem_cons] at hi
  rcases hi with rfl|hi
  ·split at h1
   ·cases h1
   ·simp only [Bool.and_eq_true,Bool.not_eq_true'] at h1
    have:=h1.1.1.1
    simpa using this
  ·have:=ih h2 i hi
   exact fun hm=>this (List.mem_cons_of_mem _ hm)
theorem cwGo_pin {p:Nat} {cs:List (Nat×Nat)}:∀{seen pn fr:List Nat},cwGo l seen pn fr cs=true→p∈pn→∀i∈cs.map (·.1),∃o,l[i]?=some o∧edgeT l 12 o p=true:=by
 induction cs with
 |nil=>intro seen pn fr _ _ i hi;cases hi
 |cons c cs ih=>
  intro seen pn fr hg hp i hi
  obtain⟨c,b⟩:=c
  simp only [cwGo,Bool.and_eq_true] at hg
  obtain⟨h1,h2⟩:=hg
  simp only [List.map_cons,List.mem_cons] at hi
  rcases hi with rfl|hi
  ·split at h1
   ·cases h1
   ·rename_i o ho
    simp only [Bool.and_eq_true] at h1
    exact⟨o,ho,List.all_eq_true.1 h1.1.2 p hp⟩
  ·refine ih h2 ?_ i hi
   split
   ·exact hp
   ·exact List.mem_cons_of_mem _ hp
structure DInv (E:Env) (l:List Oper) (K:List It) (FP:Heap) (σ0:Sl) (listed:Array Bool) (σa:Sl) (h:Heap) (seen pn fr:List Nat) (cs:List (Nat×Nat)) (σc:Sl) (res:Nat→AV):Prop where
 size:listed.size=l.length
 hcl:∀i o,l[i]?=some o→listed.getD i false=true→∀e∈o.after,Region.binds .any e=true→listed.getD e.on false=true
 go:cwGo l seen pn fr cs=true
 frs:∀i∈fr,i∈seen
 all:∀i,i<l.length→i∈seen∨i∈cs.map (·.1)
 cw:CW E l K FP cs σc h
 fp:Has0 FP h
 closed:∀j∈seen,∀o,l[j]?=some o→∀e∈o.after,Region.binds .any e=true→e.on∈seen
 aft:After l res σ0 (· ∈seen) σc
 pend:∀i∈seen,listed.getD i false=false→∃(seen':List Nat) (σi:Sl) (o:Oper),l[i]?=some o∧(∀j∈seen',j∈seen)∧i∉seen'∧(∀j∈seen',∀o,l[j]?=some o→∀e∈o.after,Region.binds .any e=true→e.on∈seen')∧
  (∀e∈o.after,Region.binds .any e=true→e.on∈seen')∧After l res σ0 (· ∈seen') σi∧Flt E FP l σi o (res i)∧(i∈fr→Flt E [] l σi o (res i))
 pins:∀p∈pn,listed.getD p false=true
 act:After l res σ0 (fun j=>listed.getD j false=true) σa
 sub:∀i,i<l.length→listed.getD i false=true→i∈seen
def lexP (l:List Oper):Bool:=l.zipIdx.all fun(o,i)=>l.zipIdx.all fun(p,j)=>match p.dst with
 |none=>true
 |some d=>(!(looks l o).contains d||(if j<i then edge o j else if i<j then edge p i else true))&&(j==i||o.dst !=some d)
theorem lexP_of (h:lexOk l=true):lexP l=true:=by
 unfold lexOk at h
 unfold lexP
 rw [List.all_eq_true] at h⊢
 intro x hx
 have:=h x hx
 obtain⟨o,i⟩:=x
 simp only [lexAt,Bool.and_eq_true] at this
 exact this.2
theorem lexP_pair (hok:lexP l=true) {i j d:Nat} {o p:Oper} (ho:l[i]?=some o) (hp:l[j]?=some p) (hd:p.dst=some d):
  (d∈looks l o→(j<i→edge o j=true)∧(i<j→edge p i=true))∧(j≠i→o.dst≠some d):=by
 unfold lexP at hok
 rw [List.all_eq_true] at hok
 have:=hok (o,i) (by rw [List.mem_zipIdx_iff_getElem?];exact ho)
 simp only [List.all_eq_true] at this
 have h2:=this (p,j) (by rw [List.mem_zipIdx_iff_getElem?];exact hp)
 simp only [hd,Bool.and_eq_true,Bool.or_eq_true,Bool.not_eq_true',List.contains_eq_mem,decide_eq_false_iff_not,beq_iff_eq,bne_iff_ne] at h2
 refine⟨fun hm=> ?_,fun hne=>h2.2.resolve_left hne⟩
 have h3:=h2.1.resolve_left (fun hn=>hn hm)
 exact⟨fun hlt=>by rw [if_pos hlt] at h3;exact h3,fun hlt=>by rw [if_neg om,if_pos hlt] at h3;exact h3⟩
theorem unl_min {L:Nat→Bool} {ρ:Nat→Nat} {n:Nat}:∀(r j:Nat),ρ j=r→j<n→L j=false→∃j0,j0<n∧L j0=false∧∀q,q<n→ρ q<ρ j0→L q=true:=by
 intro r
 induction r using Nat.strongRecOn with
 |_ r ih=>
  intro j hr hj hL
  by_cases h:∃q,q<n∧ρ q<ρ j∧L q=false
  ·obtain⟨q,q1,q2,q3⟩:=h
   exact ih (ρ q) om q rfl q1 q3
  ·refine⟨j,hj,hL,fun q q1 q2=> ?_⟩
   cases hq:L q with
   |true=>rfl
   |false=>exact absurd ⟨q,q1,q2,hq⟩ h
def Ranked (l:List Oper):Prop:=∃ρ:Nat→Nat,∀i o,l[i]?=some o→∀e∈o.after,Region.binds .any e=true→e.on<l.length∧ρ e.on<ρ i
theorem ranked_of (h:lexOk l=true):Ranked l:=⟨id,fun i o ho e he hb=>by
 have h1:=lex_back h ho he hb
 have h2:=(List.getElem?_eq_some_iff.1 ho).1
 exact⟨by omega,h1⟩⟩
theorem looks_same (hok:lexP l=true) {res:Nat→AV} {σ0 σa σi:Sl} {listed:Array Bool} {seen:List Nat} {i:Nat} (ho:l[i]?=some o) (hcl:∀i o,l[i]?=some o→listed.getD i false=true→∀e∈o.after,Region.binds .any e=true→listed.getD e.on false=true)
  (hni:i∉seen) (hli:listed.getD i false=false) (hcs:∀j∈seen,∀o,l[j]?=some o→∀e∈o.after,Region.binds .any e=true→e.on∈seen) (hds:∀e∈o.after,Region.binds .any e=true→e.on∈seen)
  (hrd:∀e∈o.after,Region.binds .any e=true→listed.getD e.on false=true) (a:After l res σ0 (fun j=>listed.getD j false=true) σa) (b:After l res σ0 (· ∈seen) σi):∀t∈looks l o,σa.get t=σi.get t:=by
 intro t ht
 by_cases hex:∃j p,j∈seen∧l[j]?=some p∧p.dst=some t
 ·obtain⟨j,p,hj,hp,hd⟩:=hex
  rw [b.yes j p t hj hp hd]
  have hne:j≠i:=fun e=>hni (e▸hj)
  obtain⟨e1,e2⟩:=(lexP_pair hok ho hp hd).1 ht
  rcases Nat.lt_or_gt_of_ne hne with hlt|hgt
  ·obtain⟨e,he,hon,hb⟩:=edge_mem (e1 hlt)
   exact a.yes j p t (by rw [←hon];exact hrd e he hb) hp hd
  ·obtain⟨e,he,hon,hb⟩:=edge_mem (e2 hgt)
   exact absurd (by rw [←hon];exact hcs j hj p hp e he hb) hni
 ·rw [b.no t (fun j p hj hp hd=>hex ⟨j,p,hj,hp,hd⟩)]
  refine a.no t fun j p hj hp hd=> ?_
  have hj':listed.getD j false=true:=hj
  have hne:j≠i:=fun e=>by subst e;rw [hli] at hj';cases hj'
  obtain⟨e1,e2⟩:=(lexP_pair hok ho hp hd).1 ht
  rcases Nat.lt_or_gt_of_ne hne with hlt|hgt
  ·obtain⟨e,he,hon,hb⟩:=edge_mem (e1 hlt)
   exact hex ⟨j,p,by rw [←hon];exact hds e he hb,hp,hd⟩
  ·obtain⟨e,he,hon,hb⟩:=edge_mem (e2 hgt)
   have:=hcl j p hp hj' e he hb
   rw [hon,hli] at this
   cases this
theorem After.set (hok:lexP l=true) {res:Nat→AV} {σ0:Sl} {seen:Nat→Prop} {i:Nat} {r:AV} (a:After l res σ0 seen σ) (ho:l[i]?=some o) (hn:¬seen i) (hr:res i=r):After l res σ0 (fun j=>j=i∨seen j) (σ.setO o.dst r):=by
 refine⟨fun j p d hj hp hd=> ?_,fun t ht=> ?_⟩
 ·rw [setO_get]
  rcases hj with rfl|hj
  ·rw [ho] at hp
   injection hp with hp
   subst hp
   rw [if_pos hd,hr]
  ·have hne:j≠i:=fun e=>hn (e▸hj)
   rw [if_neg ((lexP_pair hok ho hp hd).2 hne)]
   exact a.yes j p d hj hp hd
 ·rw [setO_get,if_neg (ht i o (.inl rfl) ho)]
  exact a.no t fun j p hj hp=>ht j p (.inr hj) hp
theorem After.congr {res res':Nat→AV} {σ0:Sl} {seen seen':Nat→Prop} (a:After l res σ0 seen σ) (h1:∀j,j<l.length→(seen' j↔seen j)) (h2:∀j,seen j→res' j=res j):After l res' σ0 seen' σ:=by
 have hlt:∀{j:Nat} {o:Oper},l[j]?=some o→j<l.length:=fun h=>(List.getElem?_eq_some_iff.1 h).1
 refine⟨fun j p d hj hp hd=> ?_,fun t ht=>a.no t fun j p hj hp=>ht j p ((h1 j (hlt hp)).2 hj) hp⟩
 have hj':=(h1 j (hlt hp)).1 hj
 rw [h2 j hj']
 exact a.yes j p d hj' hp hd
theorem Flt.wide {r:AV} (hf:Flt E [] l σ o r):Flt E FP l σ o r:=⟨hf.1,fun h _=>hf.2 h (fun _ hm=>absurd hm List.not_mem_nil)⟩
theorem DInv.adv (hok:lexP l=true) {σ0 σa σc:Sl} {listed:Array Bool} {seen pn:List Nat} {i:Nat} {cs:List (Nat×Nat)} {res:Nat→AV} {fr:List Nat} {b:Nat} (hb:b=0∨b=3) (v:DInv E l K FP σ0 listed σa h seen pn fr ((i,b)::cs) σc res):
  ∃fr' σc' res',DInv E l K FP σ0 listed σa h (i::seen) pn fr' cs σc' res':=by
 obtain⟨size,hcl,go,frs,all,cw,fp,closed,aft,pend,pins,act,sub⟩:=v
 have hni:i∉seen:=cwGo_new go i (by simp)
 have hfr:i∉fr:=fun hm=>hni (frs i hm)
 obtain⟨o,r,ho,hf,hf3,k⟩:∃o r,l[i]?=some o∧Flt E FP l σc o r∧(b=3→Flt E [] l σc o r)∧CW E l K FP cs (σc.setO o.dst r) h:=by
  cases cw with
  |pin _ hm=>exact absurd hm om
  |flt ho hf k=>exact⟨_,_,ho,hf,fun e=>by omega,k⟩
  |fre ho hf k=>exact⟨_,_,ho,hf.wide,fun _=>hf,k⟩
 have hlt:i<l.length:=(List.getElem?_eq_some_iff.1 ho).1
 have hli:listed.getD i false=false:=by
  cases hb:listed.getD i false with
  |false=>rfl
  |true=>exact absurd (sub i hlt hb) hni
 simp only [cwGo,ho,Bool.and_eq_true] at go
 obtain⟨⟨⟨⟨_,g2⟩,_⟩,_⟩,g4⟩:=go
 rw [if_pos hb] at g4
 let res':Nat→AV:=fun j=>if j=i then r else res j
 have hres:∀j,j≠i→res' j=res j:=fun j hj=>if_neg hj
 have hresi:res' i=r:=if_pos rfl
 have hdeps:∀e∈o.after,Region.binds .any e=true→e.on∈seen:=fun e he hb=>deps_mem g2 he hb
 have hclosed':∀j∈i::seen,∀o,l[j]?=some o→∀e∈o.after,Region.binds .any e=true→e.on∈i::seen:=fun j hj p hp e he hb=>by
  rcases List.mem_cons.1 hj with rfl|hj
  ·rw [ho] at hp;injection hp with hp;subst hp
   exact List.mem_cons_of_mem _ (hdeps e he hb)
  ·exact List.mem_cons_of_mem _ (closed j hj p hp e he hb)
 have aft':After l res' σ0 (· ∈seen) σc:=aft.congr (fun _ _=>Iff.rfl) fun j hj=>hres j fun e=>hni (e▸hj)
 have hfr':∀j∈(if b=3 then i::fr else fr),(j=i∧b=3)∨j∈fr:=fun j hj=>by
  split at hj
  ·rename_i e
   rcases List.mem_cons.1 hj with h|h
   ·exact .inl ⟨h,e⟩
   ·exact .inr h
  ·exact .inr hj
 refine⟨if b=3 then i::fr else fr,σc.setO o.dst r,res',size,hcl,g4,fun j hj=> ?_,fun j hj=> ?_,k,fp,hclosed',?_,fun j hj hl=> ?_,pins,?_,fun j hj hl=>List.mem_cons_of_mem _ (sub j hj hl)⟩
 ·rcases hfr' j hj with ⟨h,_⟩|h
  ·rw [h];exact List.mem_cons_self ..
  ·exact List.mem_cons_of_mem _ (frs j h)
 ·rcases all j hj with hm|hm
  ·exact .inl (List.mem_cons_of_mem _ hm)
  ·simp only [List.map_cons,List.mem_cons] at hm
   rcases hm with rfl|hm
   ·exact .inl (List.mem_cons_self ..)
   ·exact .inr hm
 ·exact(aft'.set hok ho hni hresi).congr (fun j _=>List.mem_cons) fun _ _=>rfl
 ·rcases List.mem_cons.1 hj with rfl|hj
  ·exact⟨seen,σc,o,ho,fun q hq=>List.mem_cons_of_mem _ hq,hni,closed,hdeps,aft',by rw [hresi];exact hf,fun hm=>by
    rw [hresi]
    rcases hfr' _ hm with ⟨_,e⟩|e
    ·exact hf3 e
    ·exact absurd e hfr⟩
  ·obtain⟨seen',σi,p,hp,h1,h2,h3,h4,h5,h6,h7⟩:=pend j hj hl
   exact⟨seen',σi,p,hp,fun q hq=>List.mem_cons_of_mem _ (h1 q hq),h2,h3,h4,h5.congr (fun _ _=>Iff.rfl) fun q hq=>hres q fun e=>hni (e▸h1 q hq),by rw [hres j fun e=>hni (e▸hj)];exact h6,fun hm=>by
    rw [hres j fun e=>hni (e▸hj)]
    rcases hfr' _ hm with ⟨e,_⟩|e
    ·exact absurd (e▸hj) hni
    ·exact h7 e⟩
 ·exact act.congr (fun _ _=>Iff.rfl) fun j hj=>hres j fun e=>by subst e;rw [hli] at hj;cases hj
theorem list_step {listed:Array Bool} {i:Nat} (hs:listed.size=l.length) (hi:i<l.length) {o:Oper} (ho:l[i]?=some o) (hcl:∀i o,l[i]?=some o→listed.getD i false=true→∀e∈o.after,Region.binds .any e=true→listed.getD e.on false=true)
  (hrd:∀e∈o.after,Region.binds .any e=true→listed.getD e.on false=true):∀j p,l[j]?=some p→(listed.setIfInBounds i true).getD j false=true→∀e∈p.after,Region.binds .any e=true→(listed.setIfInBounds i true).getD e.on false=true:=by
 intro j p hp hj e he hb
 rw [getD_set om] at hj⊢
 by_cases hei:e.on=i
 ·rw [if_pos hei]
 ·rw [if_neg hei]
  by_cases hji:j=i
  ·subst hji
   rw [ho] at hp;injection hp with hp;subst hp
   exact hrd e he hb
  ·rw [if_neg hji] at hj
   exact hcl j p hp hj e he hb
theorem draw_cw (hok:lexP l=true) (hrk:Ranked l) {σ0:Sl}:∀(u:Nat) (FP:Heap) (listed:Array Bool) (σa:Sl) (h:Heap) (a:Act) (w:World),unl (fun j=>listed.getD j false) l.length=u→(∃seen pn fr cs σc res,DInv E l K FP σ0 listed σa h seen pn fr cs σc res)→St E.N E.C σa h a w→wpAny E.P .any l.toArray (exW E K) u listed a w:=by
 intro u
 induction u with
 |zero=>
  rintro FP listed σa h a w hu ⟨seen,pn,fr,cs,σc,res,v⟩ st
  have hall:=unl_zero l.length hu
  refine⟨?_,?_⟩
  ·rw [List.eq_nil_iff_forall_not_mem]
   intro j hj
   obtain⟨h1,h2,_⟩:=(mem_ready v.size).1 hj
   rw [hall j h1] at h2
   cases h2
  ·obtain⟨size,hcl,go,frs,all,cw,fp,closed,aft,pend,pins,act,sub⟩:=v
   have hcs:cs=[]:=by
    cases cs with
    |nil=>rfl
    |cons c cs=>
     have hni:=cwGo_new go c.1 (by simp)
     have:c.1<l.length:=by
      obtain⟨c,b⟩:=c
      simp only [cwGo,Bool.and_eq_true] at go
      have g1:=go.1
      split at g1
      ·cases g1
      ·rename_i o ho
       exact(List.getElem?_eq_some_iff.1 ho).1
     exact absurd (sub _ this (hall _ this)) hni
   subst hcs
   cases cw with
   |nil k=>
   refine k a w (st.weak (fun t=>.inr ?_) (List.Sublist.refl _))
   by_cases hex:∃j p,j<l.length∧l[j]?=some p∧p.dst=some t
   ·obtain⟨j,p,hj,hp,hd⟩:=hex
    rw [aft.yes j p t (sub j hj (hall j hj)) hp hd,act.yes j p t (hall j hj) hp hd]
   ·have hno:∀j (p:Oper),l[j]?=some p→p.dst≠some t:=fun j p hp hd=>hex ⟨j,p,(List.getElem?_eq_some_iff.1 hp).1,hp,hd⟩
    rw [aft.no t fun j p _ hp=>hno j p hp,act.no t fun j p _ hp=>hno j p hp]
 |succ u ih=>
  rintro FP listed σa h a w hu ⟨seen,pn,fr,cs,σc,res,v⟩ st
  obtain⟨ρ,hρ⟩:=hrk
  obtain⟨j1,hj3,hj4,_⟩:=unl_pos (L:=fun j=>listed.getD j false) l.length om
  obtain⟨j0,hj0,hj1,hj2⟩:=unl_min (L:=fun j=>listed.getD j false) (ρ:=ρ) _ j1 rfl hj3 hj4
  have hready:j0∈Region.ready .any l.toArray listed:=(mem_ready v.size).2 ⟨hj0,hj1,fun o ho e he hb=>hj2 _ (hρ _ o ho e he hb).1 (hρ _ o ho e he hb).2⟩
  refine⟨fun e=>by rw [e] at hready;simp at hready,fun i hi=> ?_⟩
  obtain⟨h1,h2,h3⟩:=(mem_ready v.size).1 hi
  have ho:l[i]?=some l[i]:=List.getElem?_eq_getElem h1
  have hrd:=h3 _ ho
  have hun:unl (fun j=>(listed.setIfInBounds i true).getD j false) l.length=u:=by
   have hfun:(fun j=>(listed.setIfInBounds i true).getD j false)=fun j=>if j=i then true else listed.getD j false:=funext fun j=>getD_set (by rw [v.size];exact h1)
   rw [hfun]
   have:=unl_set (L:=fun j=>listed.getD j false) l.length h1 h2
   omega
  clear hready hj0 hj1 hj2 j0
  have key:∀(n:Nat) (seen pn fr:List Nat) (cs:List (Nat×Nat)) (σc:Sl) (res:Nat→AV),cs.length=n→DInv E l K FP σ0 listed σa h seen pn fr cs σc res→wpOp E.P l.toArray (exW E K) i (wpAny E.P .any l.toArray (exW E K) u (listed.setIfInBounds i true)) a w:=by
   intro n
   induction n with
   |zero=>
    intro seen pn fr cs σc res hn v
    have hcs:cs=[]:=List.eq_nil_of_length_eq_zero hn
    subst hcs
    have his:i∈seen:=(v.all i h1).resolve_right (by simp)
    obtain⟨seen',σi,o,ho',q1,q2,q3,q4,q5,q6,_⟩:=v.pend i his h2
    rw [ho] at ho'
    injection ho' with ho'
    subst ho'
    have hsame:=looks_same hok ho v.hcl q2 h2 q3 q4 hrd v.act q5
    have hc:=(q6.2 h v.fp).2 σa a w (exW E K) hsame st
    have hnext:∀a' w',St E.N E.C (σa.setO l[i].dst (res i)) h a' w'→wpAny E.P .any l.toArray (exW E K) u (listed.setIfInBounds i true) a' w':=fun a' w' st'=>by
     refine ih FP _ _ h a' w' hun ⟨seen,pn,fr,[],σc,res,by simpa using v.size,list_step v.size h1 ho v.hcl hrd,v.go,v.frs,v.all,v.cw,v.fp,v.closed,v.aft,fun j hj hl=> ?_,fun p hp=> ?_,?_,fun j hj hl=> ?_⟩ st'
     ·rw [getD_set (by have:=v.size;omega)] at hl
      split at hl
      ·cases hl
      ·exact v.pend j hj hl
     ·rw [getD_set (by have:=v.size;omega)]
      split
      ·rfl
      ·exact v.pins p hp
     ·refine(v.act.set hok ho (by rw [h2];simp) rfl).congr (fun j _=> ?_) fun _ _=>rfl
      rw [getD_set (by have:=v.size;omega)]
      by_cases hji:j=i<;>simp [hji]
     ·rw [getD_set (by have:=v.size;omega)] at hl
      split at hl
      ·rename_i e;rw [e];exact his
      ·exact v.sub j hj hl
    unfold wpOp
    rw [show l.toArray[i]?=some l[i] from by simp [h1]]
    simp only
    split
    ·rename_i hw
     rw [if_pos hw] at hc
     exact .inl (Oper.wp_mono hnext hc)
    ·rename_i hw
     rw [if_neg hw] at hc
     have st2:=st.put q6.1 (r:=.tup []) (v:=undef) ⟨[],rfl,trivial⟩
     rw [←hc] at st2
     exact hnext _ _ st2
   |succ n ihn=>
    intro seen pn fr cs σc res hn v
    by_cases his:i∈seen
    ·obtain⟨seen',σi,o,ho',q1,q2,q3,q4,q5,q6,_⟩:=v.pend i his h2
     rw [ho] at ho'
     injection ho' with ho'
     subst ho'
     have hsame:=looks_same hok ho v.hcl q2 h2 q3 q4 hrd v.act q5
     have hc:=(q6.2 h v.fp).2 σa a w (exW E K) hsame st
     have hnext:∀a' w',St E.N E.C (σa.setO l[i].dst (res i)) h a' w'→wpAny E.P .any l.toArray (exW E K) u (listed.setIfInBounds i true) a' w':=fun a' w' st'=>by
      refine ih FP _ _ h a' w' hun ⟨seen,pn,fr,cs,σc,res,by simpa using v.size,list_step v.size h1 ho v.hcl hrd,v.go,v.frs,v.all,v.cw,v.fp,v.closed,v.aft,fun j hj hl=> ?_,fun p hp=> ?_,?_,fun j hj hl=> ?_⟩ st'
      ·rw [getD_set (by have:=v.size;omega)] at hl
       split at hl
       ·cases hl
       ·exact v.pend j hj hl
      ·rw [getD_set (by have:=v.size;omega)]
       split
       ·rfl
       ·exact v.pins p hp
      ·refine(v.act.set hok ho (by rw [h2];simp) rfl).congr (fun j _=> ?_) fun _ _=>rfl
       rw [getD_set (by have:=v.size;omega)]
       by_cases hji:j=i<;>simp [hji]
      ·rw [getD_set (by have:=v.size;omega)] at hl
       split at hl
       ·rename_i e;rw [e];exact his
       ·exact v.sub j hj hl
     unfold wpOp
     rw [show l.toArray[i]?=some l[i] from by simp [h1]]
     simp only
     split
     ·rename_i hw
      rw [if_pos hw] at hc
      exact .inl (Oper.wp_mono hnext hc)
     ·rename_i hw
      rw [if_neg hw] at hc
      have st2:=st.put q6.1 (r:=.tup []) (v:=undef) ⟨[],rfl,trivial⟩
      rw [←hc] at st2
      exact hnext _ _ st2
    ·match cs,hn,v with
     |(c,b)::cs,hn,v=>
      by_cases hb:b=0∨b=3
      ·obtain⟨fr',σc',res',v'⟩:=v.adv hok hb
       exact ihn _ _ _ cs _ _ (by simpa using hn) v'
      obtain⟨size,hcl,go,frs,all,cw,fp,closed,aft,pend,pins,act,sub⟩:=v
      cases cw with
      |flt=>exact absurd (.inl rfl) hb
      |fre=>exact absurd (.inr rfl) hb
      | @pin _ FP' _ _ _ o R _ _ hoc hmk hpin kf k=>
      have hcl':c<l.length:=(List.getElem?_eq_some_iff.1 hoc).1
      have hcn:c∉seen:=cwGo_new go c (by simp)
      have hlc:listed.getD c false=false:=by
       cases hb:listed.getD c false with
       |false=>rfl
       |true=>exact absurd (sub c hcl' hb) hcn
      simp only [cwGo,hoc,Bool.and_eq_true] at go
      obtain⟨⟨⟨⟨_,g2⟩,_⟩,g3⟩,g4⟩:=go
      rw [if_neg hb,if_neg (fun e=>hb (.inr e))] at g4
      have g4':cwGo l (c::seen) (c::pn) fr cs=true:=g4
      have hic:i=c:=by
       rcases all i h1 with hm|hm
       ·exact absurd hm his
       ·simp only [List.map_cons,List.mem_cons] at hm
        rcases hm with hm|hm
        ·exact hm
        ·obtain⟨o',ho',he⟩:=cwGo_pin g4' (List.mem_cons_self ..) i hm
         rw [ho] at ho'
         injection ho' with ho'
         subst ho'
         have:=edgeT_listed (L:=fun j=>listed.getD j false) (fun i o hi=>hcl i o hi) 12 l[i] c hrd he
         rw [hlc] at this
         cases this
      subst hic
      rw [ho] at hoc
      injection hoc with hoc
      subst hoc
      have hdeps:∀e∈l[i].after,Region.binds .any e=true→e.on∈seen:=fun e he hb=>deps_mem g2 he hb
      have hsame:=looks_same hok ho hcl hcn h2 closed hdeps hrd act aft
      have kk:=hpin σa K hsame a w st
      have hall:b=2→∀j∈seen,j∈fr∨listed.getD j false=true:=fun hm j hj=>by
       subst hm
       simp only [bne_self_eq_false,Bool.false_or] at g3
       have:=List.all_eq_true.1 g3 j hj
       rw [Bool.or_eq_true] at this
       rcases this with h|h
       ·exact .inl (by simpa using h)
       ·exact .inr (edgeT_listed (L:=fun j=>listed.getD j false) (fun i o hi=>hcl i o hi) 12 l[i] j hrd h)
      have hnext:∀a' w',exW E (.stop (fun σ2 h2=>∃r,R r h2∧σ2=σa.setO l[i].dst r)::K) .normal a' w'→wpAny E.P .any l.toArray (exW E K) u (listed.setIfInBounds i true) a' w':=by
       rintro a' w' ⟨σ2,h',⟨r,hR,rfl⟩,st'⟩
       have fp':=kf r h' hR
       have cw':=k r h' hR
       let res':Nat→AV:=fun j=>if j=i then r else res j
       have hres:∀j,j≠i→res' j=res j:=fun j hj=>if_neg hj
       have hresi:res' i=r:=if_pos rfl
       have aft':After l res' σ0 (· ∈seen) σc:=aft.congr (fun _ _=>Iff.rfl) fun j hj=>hres j fun e=>hcn (e▸hj)
       have act':After l res' σ0 (fun j=>listed.getD j false=true) σa:=act.congr (fun _ _=>Iff.rfl) fun j hj=>hres j fun e=>by subst e;rw [h2] at hj;cases hj
       refine ih FP' _ _ h' a' w' hun ⟨i::seen,i::pn,fr,cs,σc.setO l[i].dst r,res',by simpa using size,list_step size h1 ho hcl hrd,g4',fun j hj=>List.mem_cons_of_mem _ (frs j hj),fun j hj=> ?_,cw',fp',fun j hj p hp e he hb=> ?_,(aft'.set hok ho hcn hresi).congr (fun j _=>List.mem_cons) fun _ _=>rfl,fun j hj hl=> ?_,fun p hp=> ?_,?_,fun j hj hl=> ?_⟩ st'
       ·rcases all j hj with hm|hm
        ·exact .inl (List.mem_cons_of_mem _ hm)
        ·simp only [List.map_cons,List.mem_cons] at hm
         rcases hm with rfl|hm
         ·exact .inl (List.mem_cons_self ..)
         ·exact .inr hm
       ·rcases List.mem_cons.1 hj with rfl|hj
        ·rw [ho] at hp;injection hp with hp;subst hp
         exact List.mem_cons_of_mem _ (hdeps e he hb)
        ·exact List.mem_cons_of_mem _ (closed j hj p hp e he hb)
       ·rw [getD_set om] at hl
        split at hl
        ·cases hl
        ·rename_i hji
         have hj':j∈seen:=(List.mem_cons.1 hj).resolve_left hji
         obtain⟨seen',σi,p,hp,q1,q2,q3,q4,q5,q6,q7⟩:=pend j hj' hl
         rcases hmk with hm2|⟨_,rfl⟩
         ·rcases hall hm2 j hj' with hfr|hl2
          ·exact⟨seen',σi,p,hp,fun q hq=>List.mem_cons_of_mem _ (q1 q hq),q2,q3,q4,q5.congr (fun _ _=>Iff.rfl) fun q hq=>hres q fun e=>hcn (e▸q1 q hq),by rw [hres j hji];exact(q7 hfr).wide,fun hm=>by rw [hres j hji];exact q7 hm⟩
          ·rw [hl2] at hl;cases hl
         ·exact⟨seen',σi,p,hp,fun q hq=>List.mem_cons_of_mem _ (q1 q hq),q2,q3,q4,q5.congr (fun _ _=>Iff.rfl) fun q hq=>hres q fun e=>hcn (e▸q1 q hq),by rw [hres j hji];exact q6,fun hm=>by rw [hres j hji];exact q7 hm⟩
       ·rw [getD_set om]
        split
        ·rfl
        ·rename_i hpi
         exact pins p ((List.mem_cons.1 hp).resolve_left hpi)
       ·refine(act'.set hok ho (by rw [h2];simp) hresi).congr (fun j _=> ?_) fun _ _=>rfl
        rw [getD_set om]
        by_cases hji:j=i<;>simp [hji]
       ·rw [getD_set om] at hl
        split at hl
        ·rename_i e;rw [e];exact List.mem_cons_self ..
        ·exact List.mem_cons_of_mem _ (sub j hj hl)
      have hq:∀e a w,e≠.normal→exW E (.stop (fun σ2 h2=>∃r,R r h2∧σ2=σa.setO l[i].dst r)::K) e a w→exW E K e a w:=fun e a w hne hq=>by
       cases e with
       |normal=>exact absurd rfl hne
       |exit id=>exact hq
       |goto l=>exact hq
       |ret=>exact hq
       |panic c=>exact hq
       |outgrown=>exact hq
      unfold wpOp
      rw [show l.toArray[i]?=some l[i] from by simp [h1]]
      change wpList E.P l.toArray _ [l[i]] a w at kk
      simp only [wpList] at kk
      simp only
      split
      ·rename_i hw
       rw [if_pos hw] at kk
       exact kk.imp (Oper_wp_imp hnext hq) (fun x=>⟨x.1,x.2.elim fun a h=>h.elim fun w h=>⟨a,w,hq _ _ _ (by simp) h⟩⟩)
      ·rename_i hw
       rw [if_neg hw] at kk
       exact hnext _ _ kk
  exact key cs.length seen pn fr cs σc res rfl v
theorem aw_cw {id:Nat} (FP:Heap) (cs:List (Nat×Nat)) (hm:E.P.follows .mixedOrders=true) (hok:(lexOk l&&cwGo l [] [] [] cs&&((List.range l.length).all fun i=>(cs.map (·.1)).contains i))=true) (hFP:Has0 FP h) (k:CW E l K FP cs σ h):
  aw E (.code (.region id l.toArray true)::K) σ h:=fun a w s=>by
 simp only [Bool.and_eq_true] at hok
 obtain⟨⟨hlx,hgo⟩,hall⟩:=hok
 refine wp_region_any hm ?_
 have s':=s.later (Fr.drew (fun _=>False) w (w.drawn+1))
 have e0:∀j,(Array.replicate l.length false).getD j false=false:=fun j=>by
  rw [Array.getD_eq_getD_getElem?]
  simp only [Array.getElem?_replicate]
  split<;>rfl
 have hun:∀m,unl (fun j=>(Array.replicate l.length false).getD j false) m=m:=by
  intro m
  induction m with
  |zero=>rfl
  |succ m ih=>rw [unl,ih,e0];rfl
 have:=draw_cw (E:=E) (K:=K) (σ0:=σ) (lexP_of hlx) (ranked_of hlx) l.length FP (Array.replicate l.length false) σ h a {w with drawn:=w.drawn+1} (hun _) ⟨[],[],[],cs,σ,fun _=>.c .any,by simp,fun i o _ hl=>(by rw [e0] at hl;cases hl),hgo,fun i hi=>absurd hi List.not_mem_nil,fun i hi=>.inr ?_,k,hFP,fun j hj=>absurd hj List.not_mem_nil,⟨fun j _ _ hj=>absurd hj List.not_mem_nil,fun _ _=>rfl⟩,fun i hi=>absurd hi List.not_mem_nil,fun p hp=>absurd hp List.not_mem_nil,⟨fun j _ _ hj=>(by rw [e0] at hj;cases hj),fun _ _=>rfl⟩,fun i _ hl=>(by rw [e0] at hl;cases hl)⟩ s'
 ·simpa using this
 ·have:=List.all_eq_true.1 hall i (List.mem_range.2 hi)
  simpa using this
theorem Flt.pure {nw:Bool} {q:Prop} {r:AV} (hw:wantA l σ o=some true) (hb:pureOp2 E.P nw FP (ev σ) o.op=some (q,r)) (hq:q) (hd:dstOk E.N o.dst=true):Flt E FP l σ o r:=by
 refine⟨hd,fun h hfp=>⟨hd,fun σ' a w Q hs s=> ?_⟩⟩
 rw [if_pos (s.wanted ((want_same hs).trans hw))]
 obtain⟨v,hrun,hr⟩:=pureOp2_ok (fun _=>rfl) hb hq (Stab E.C h w) w a.eval Stab.mono' (fun x hx=>by rw [←ev_same hx hs];exact ev_rep s x) (fun g o hm=>s.heap g o (hfp _ hm))
 unfold Oper.wp
 rw [hrun o rfl]
 exact s.put hd hr
theorem Flt.skip (hw:wantA l σ o=some false) (hd:dstOk E.N o.dst=true):Flt E FP l σ o (.tup []):=⟨hd,fun _ _=>Calm.skip hw hd⟩
theorem cw_1q {i:Nat} {cs:List (Nat×Nat)} (ho:l[i]?=some o) (hd:dstOk E.N o.dst=true) (k:∀R:Option (Prop×Sl)→Prop,(∀q σ',CW E l K FP cs σ' h→(hq:q:=by(try simp only [inRange])<;>and_intros<;>first|exact True.intro|omega|trivial)→R (some (q,σ')))→R (runOp2 E.P true FP l o σ)):CW E l K FP ((i,0)::cs) σ h:=by
 have:=k (fun x=>x=runOp2 E.P true FP l o σ→CW E l K FP ((i,0)::cs) σ h) (fun q σ' ha hq e=>by
  unfold runOp2 at e
  split at e
  ·rename_i hw
   split at e
   ·rename_i q1 r hp
    injection e with e
    injection e with e1 e2
    subst e1 e2
    exact .flt ho (Flt.pure hw hp hq hd) ha
   ·cases e
  ·rename_i hw
   injection e with e
   injection e with e1 e2
   subst e1 e2
   exact .flt ho (Flt.skip hw hd) ha
  ·cases e)
 exact this rfl
end
end Go.AI
namespace Go.AI
section
variable {E : Env} {K : List It} {l : List Oper} {FP : Heap} {σ σ' : Sl} {h : Heap} {o : Oper} {i : Nat} {cs : List (Nat × Nat)}
theorem wc1 (ho:l[i]?=some o) (hd:dstOk E.N o.dst=true) (k:∀R:Option (Prop×Sl)→Prop,(∀q σ',CW E l K FP cs σ' h→(hq:q:=by(try simp only [inRange])<;>and_intros<;>first|exact True.intro|omega|trivial)→R (some (q,σ')))→R (runOp2 E.P true FP l o σ)):CW E l K FP ((i,0)::cs) σ h:=cw_1q ho hd k
theorem wc2 (k:aw E K σ h):CW E l K FP [] σ h:=.nil k
theorem evs_same {σ':Sl} {xs:List Operand} (hx:∀x∈xs,x∈o.op.operands) (hs:∀t∈looks l o,σ'.get t=σ.get t):xs.map (ev σ')=xs.map (ev σ):=List.map_congr_left fun x h=>ev_same (hx x h) hs
theorem cw_callh {FP':Heap} {m:Nat} {f:FuncId} {xs:List Operand} {ts:Array TypeId} {hc hr:Heap} {args:List AV} {Q:AV→Heap→Prop} (ho:l[i]?=some o) (hf:Fh E.P f hc args Q) (hop:o.op=.call {callee:=.value (.func f),args:=xs.toArray,argTypes:=ts}) (hw:wantA l σ o=some true) (hd:dstOk E.N o.dst=true)
  (hp:h.Perm (hc++hr)) (le:LeA [] (xs.map (ev σ)) args) (hFP:∀r h',Q r h'→Has0 FP' (h'++hr)) (k:∀r h',Q r h'→(∀g∈h'.keys,g∉hr.keys)→CW E l K FP' cs (σ.setO o.dst r) (h'++hr)) (hm:m=2∨m=1∧FP'=FP:=by first|exact .inl rfl|exact .inr ⟨rfl,rfl⟩):CW E l K FP ((i,m)::cs) σ h:=by
 refine .pin ho hm (R:=fun r h2=>∃h',Q r h'∧(∀g∈h'.keys,g∉hr.keys)∧h2=h'++hr) (fun σ' K hs=> ?_) ?_ ?_
 ·have he:xs.map (ev σ')=xs.map (ev σ):=evs_same (fun x hx=>by rw [hop];simp [Op.operands,Call.operands,hx]) hs
  exact aw_callh hf hop ((want_same hs).trans hw) hd hp (by rw [he];exact le) fun r h' hq hfr=>aw_ops_nil (aw_stop ⟨r,⟨h',hq,hfr,rfl⟩,rfl⟩)
 ·rintro r h2 ⟨h',hq,_,rfl⟩;exact hFP r h' hq
 ·rintro r h2 ⟨h',hq,hfr,rfl⟩;exact k r h' hq hfr
theorem cw_store {FP':Heap} {mk t g off m n:Nat} {ty:TypeId} {ag:Bool} {f:Nat→CV} {a x:Operand} {v:AV} {h':Heap} (ho:l[i]?=some o) (hop:o.op=.store t a x) (hw:wantA l σ o=some true) (hd:dstOk E.N o.dst=true) (hdn:o.dst=none) (ha:ev σ a=.c (.optr g off)) (hx:ev σ x=v)
  (hg:h.get g=some (.cells ty m f)) (ht:tSz E.P t=some (ag,n)) (hnt:∀xs,v≠.tup xs) (hs:v.cells.all CV.solid=true) (hlen:v.cells.length=n) (hle:off+n≤m)
  (hh:h.set g (.cells ty m (updF f off v.cells))=h') (hFP:Has0 FP' h') (k:CW E l K FP' cs σ h') (hm:mk=2∨mk=1∧FP'=FP:=by first|exact .inl rfl|exact .inr ⟨rfl,rfl⟩):CW E l K FP ((i,mk)::cs) σ h:=by
 refine .pin ho hm (R:=fun _ h2=>h2=h') (fun σ' K hsm=> ?_) ?_ ?_
 ·exact aw_store hop ((want_same hsm).trans hw) hd hdn ((ev_same (by rw [hop];simp [Op.operands]) hsm).trans ha) ((ev_same (by rw [hop];simp [Op.operands]) hsm).trans hx) hg ht hnt hs hlen hle hh (aw_ops_nil (aw_stop ⟨.c .any,rfl,by rw [hdn];rfl⟩))
 ·rintro _ _ rfl;exact hFP
 ·rintro _ _ rfl;rw [hdn];exact k
theorem cw_alloc {FP':Heap} {m:Nat} {t:TypeId} {z:List CV} (ho:l[i]?=some o) (hop:o.op=.alloc t) (hw:wantA l σ o=some true) (hd:dstOk E.N o.dst=true) (hz:tZero E.P t=some z) (hFP:Has0 FP' h)
  (k:∀g,g∉h.keys→CW E l K FP' cs (σ.setO o.dst (.c (.optr g 0))) ((g,.cells t z.length (ofL z))::h)) (hm:m=2∨m=1∧FP'=FP:=by first|exact .inl rfl|exact .inr ⟨rfl,rfl⟩):CW E l K FP ((i,m)::cs) σ h:=by
 refine .pin ho hm (R:=fun r h2=>∃g,g∉h.keys∧r=.c (.optr g 0)∧h2=(g,.cells t z.length (ofL z))::h) (fun σ' K hs=> ?_) ?_ ?_
 ·exact aw_alloc hop ((want_same hs).trans hw) hd hz fun g hg=>aw_ops_nil (aw_stop ⟨_,⟨g,hg,rfl,rfl⟩,rfl⟩)
 ·rintro r h2 ⟨g,_,_,rfl⟩;exact fun p hp=>List.mem_cons_of_mem _ (hFP p hp)
 ·rintro r h2 ⟨g,hg,rfl,rfl⟩;exact k g hg
theorem Flt.call {f:FuncId} {xs:List Operand} {ts:Array TypeId} {args:List AV} {r:AV} (hf:Fa E.P f args r) (hop:o.op=.call {callee:=.value (.func f),args:=xs.toArray,argTypes:=ts}) (hw:wantA l σ o=some true) (hd:dstOk E.N o.dst=true)
 (le:∀h,Has0 FP h→LeA h (xs.map (ev σ)) args):Flt E FP l σ o r:=⟨hd,fun h hfp=>Calm.call hf hop hw hd (le h hfp)⟩
theorem cw_callq {f:FuncId} {xs:List Operand} {ts:Array TypeId} {args:List AV} {r:AV} (ho:l[i]?=some o) (hf:Fa E.P f args r) (hop:o.op=.call {callee:=.value (.func f),args:=xs.toArray,argTypes:=ts}) (hw:wantA l σ o=some true) (hd:dstOk E.N o.dst=true)
 (le:∀h,Has0 FP h→LeA h (xs.map (ev σ)) args) (k:CW E l K FP cs (σ.setO o.dst r) h):CW E l K FP ((i,0)::cs) σ h:=.flt ho (Flt.call hf hop hw hd le) k
theorem has0_nil {h:Heap}:Has0 [] h:=fun p hp=>absurd hp List.not_mem_nil
theorem has0_cons {p:Nat×AObj} {FP h:Heap} (h1:p∈h) (h2:Has0 FP h):Has0 (p::FP) h:=fun q hq=>by
 rcases List.mem_cons.1 hq with rfl|hq
 ·exact h1
 ·exact h2 q hq
theorem has0_skip {p:Nat×AObj} {FP h:Heap} (h1:Has0 FP h):Has0 FP (p::h):=fun q hq=>List.mem_cons_of_mem _ (h1 q hq)
end
end Go.AI
namespace Go.AI
theorem qa {a : Nat × AObj} {h : Heap} (h1 : a ∈ h := by simp) : Has0 [a] h := has0_cons h1 has0_nil
theorem qb {α : Type} {a b : α} (h : a = b := by first|rfl|simp only [Nat.mul_one,List.nil_append,List.cons_append]<;>rfl) : a = b := h
theorem qc {p : Prop} (h : p := by unfold maxLen;omega) : p := h
theorem qd {t : Nat} {P : Operand → Prop} (h : P (.tmp t) := by exact ⟨rfl,rfl,rfl⟩) : ∀ x ∈ [Operand.tmp t], P x := by intro x hx;simp only [List.mem_singleton] at hx;subst hx;exact h
end Go.AI
namespace Go.AI
structure Hold (X:Prop):Prop where
 out:X
theorem o0:True:=True.intro
theorem oj {a b:Prop} (x:a) (y:b):a∧b:=⟨x,y⟩
theorem yG {F X G:Prop} (f:F) (x:X) (k:F→Hold X→G:=by intro f x;(repeat first|apply wa1|apply wa2|apply wa3|apply wa4|apply wa5 rfl|apply wa6|apply wa7|(refine wb1 rfl fun R r=>?_;simp only[go_sem,f];with_reducible show R (some _);with_reducible refine r _ _ ?_;clear r R)|apply wa8|(refine wd1 rfl fun R r=>?_;simp only[go_sem,f];with_reducible show R (some _);with_reducible refine r _ _ ?_;clear r R)|apply wc2|(refine wc1 rfl rfl fun R r=>?_;simp only[go_sem,f];with_reducible show R (some _);with_reducible refine r _ _ ?_;clear r R));exact x.out):G:=k f ⟨x⟩
theorem xG {X G:Prop} (x:X) (k:Hold X→G:=by intro x;(repeat first|apply wa1|apply wa2|apply wa3|apply wa4|apply wa5 rfl|apply wa6|apply wa7|(refine wb1 rfl fun R r=>?_;simp only[go_sem];with_reducible show R (some _);with_reducible refine r _ _ ?_;clear r R)|apply wa8|(refine wd1 rfl fun R r=>?_;simp only[go_sem];with_reducible show R (some _);with_reducible refine r _ _ ?_;clear r R)|apply wc2|(refine wc1 rfl rfl fun R r=>?_;simp only[go_sem];with_reducible show R (some _);with_reducible refine r _ _ ?_;clear r R));exact x.out):G:=k ⟨x⟩
theorem yH {F X G:Prop} (f:F) (x:X) (k:F→Hold X→G:=by intro f x;(repeat first|apply wa7|(refine wb1 rfl fun R r=>?_;simp only[go_sem,f];with_reducible show R (some _);with_reducible refine r _ _ ?_;clear r R)|apply wa8|(refine wd1 rfl fun R r=>?_;simp only[go_sem,f];with_reducible show R (some _);with_reducible refine r _ _ ?_;clear r R)|apply wc2|(refine wc1 rfl rfl fun R r=>?_;simp only[go_sem,f];with_reducible show R (some _);with_reducible refine r _ _ ?_;clear r R));exact x.out):G:=k f ⟨x⟩
theorem yI {F X G:Prop} (f:F) (x:X) (k:F→Hold X→G:=by intro f x;(repeat first|apply wa1|apply wa3|apply wa4|apply wa5 rfl|apply wa6|apply wa7|(refine wb1 rfl fun R r=>?_;simp only[go_sem,f];with_reducible show R (some _);with_reducible refine r _ _ ?_;clear r R)|apply wa8|(refine wd1 rfl fun R r=>?_;simp only[go_sem,f];with_reducible show R (some _);with_reducible refine r _ _ ?_;clear r R)|apply wc2|(refine wc1 rfl rfl fun R r=>?_;simp only[go_sem,f];with_reducible show R (some _);with_reducible refine r _ _ ?_;clear r R));exact x.out):G:=k f ⟨x⟩
theorem xI {X G:Prop} (x:X) (k:Hold X→G:=by intro x;(repeat first|apply wa1|apply wa3|apply wa4|apply wa5 rfl|apply wa6|apply wa7|(refine wb1 rfl fun R r=>?_;simp only[go_sem];with_reducible show R (some _);with_reducible refine r _ _ ?_;clear r R)|apply wa8|(refine wd1 rfl fun R r=>?_;simp only[go_sem];with_reducible show R (some _);with_reducible refine r _ _ ?_;clear r R)|apply wc2|(refine wc1 rfl rfl fun R r=>?_;simp only[go_sem];with_reducible show R (some _);with_reducible refine r _ _ ?_;clear r R));exact x.out):G:=k ⟨x⟩
theorem xO {X G:Prop} (x:X) (k:Hold X→G:=by intro x;(first|(refine wb1 rfl fun R r=>?_;simp only[go_sem];with_reducible show R (some _);with_reducible refine r _ _ ?_;clear r R)|(refine wd1 rfl fun R r=>?_;simp only[go_sem];with_reducible show R (some _);with_reducible refine r _ _ ?_;clear r R)|apply wc2|(refine wc1 rfl rfl fun R r=>?_;simp only[go_sem];with_reducible show R (some _);with_reducible refine r _ _ ?_;clear r R));exact x.out):G:=k ⟨x⟩
theorem yS {F X G:Prop} (f:F) (x:X) (k:F→Hold X→G:=by intro f x;(try simp only[go_sem,f]);exact x.out):G:=k f ⟨x⟩
theorem xS {X G:Prop} (x:X) (k:Hold X→G:=by intro x;(try simp only[go_sem]);exact x.out):G:=k ⟨x⟩
theorem yT {F X G C:Prop} (c:C) (f:F) (x:X) (k:C→F→Hold X→G:=by intro c f x;refine aw_retq c rfl fun R r=>?_;simp only[go_sem,f];refine r _ rfl ?_;clear r R;exact x.out):G:=k c f ⟨x⟩
theorem xT {X G C:Prop} (c:C) (x:X) (k:C→Hold X→G:=by intro c x;refine aw_retq c rfl fun R r=>?_;simp only[go_sem];refine r _ rfl ?_;clear r R;exact x.out):G:=k c ⟨x⟩
theorem yU {F X G:Prop} (f:F) (x:X) (k:F→Hold X→G:=by intro f x;refine aw_rethq rfl fun R r=>?_;simp only[go_sem,f];refine r _ rfl ?_;clear r R;exact x.out):G:=k f ⟨x⟩
theorem xU {X G:Prop} (x:X) (k:Hold X→G:=by intro x;refine aw_rethq rfl fun R r=>?_;simp only[go_sem];refine r _ rfl ?_;clear r R;exact x.out):G:=k ⟨x⟩
theorem yV {F X G:Prop} (f:F) (x:X) (k:F→Hold X→G:=by intro f x;refine aw_endhq rfl fun R r=>?_;simp only[go_sem,f];refine r _ rfl ?_;clear r R;exact x.out):G:=k f ⟨x⟩
theorem xV {X G:Prop} (x:X) (k:Hold X→G:=by intro x;refine aw_endhq rfl fun R r=>?_;simp only[go_sem];refine r _ rfl ?_;clear r R;exact x.out):G:=k ⟨x⟩
theorem zE {F P:Prop} (f:F) (k:F→P:=by intro f;simp only[go_sem,f]<;>rfl):P:=k f
theorem eE {P:Prop} (k:P:=by simp only[go_sem]<;>rfl):P:=k
theorem zB {F P:Prop} (f:F) (k:F→P:=by intro f;simp only[go_sem,f]<;>and_intros<;>first|exact True.intro|(with_reducible rfl)|exact c_int om|rfl):P:=k f
theorem eB {P:Prop} (k:P:=by simp only[go_sem]<;>and_intros<;>first|exact True.intro|(with_reducible rfl)|exact c_int om|rfl):P:=k
theorem zZ {α:Type} {l:List α}:l.Sublist l:=List.Sublist.refl l
theorem zL {F P:Prop} (f:F) (k:F→P:=by intro f;first|exact True.intro|simp only[go_sem,f]<;>and_intros<;>first|exact True.intro|exact .c (.refl _)|exact .c wl2|exact .agg (lel_refl _)|exact .agg (by simp only[LeL];and_intros<;>first|exact True.intro|exact .refl _|exact wl2)|exact .c .nils):P:=k f
theorem eL {P:Prop} (k:P:=by first|exact True.intro|simp only[go_sem]<;>and_intros<;>first|exact True.intro|exact .c (.refl _)|exact .c wl2|exact .agg (lel_refl _)|exact .agg (by simp only[LeL];and_intros<;>first|exact True.intro|exact .refl _|exact wl2)|exact .c .nils):P:=k
section
variable {E : Env} {K : List It} {σ : Sl} {h : Heap} {all l rest : List Oper} {o : Oper} {F : Prop}
theorem yC {f:FuncId} {xs:List Operand} {ts:Array TypeId} {args:List AV} {r:AV} {X:Prop} (q:F) (hf:Fa E.P f args r) (x:X) (hop:o.op=.call {callee:=.value (.func f),args:=xs.toArray,argTypes:=ts}:=by exact rfl) (hw:wantA all σ o=some true:=by exact rfl) (hd:dstOk E.N o.dst=true:=by exact rfl)
 (le:F→LeA h (xs.map (ev σ)) args:=by intro f;first|exact True.intro|simp only[go_sem,f]<;>and_intros<;>first|exact True.intro|exact .c (.refl _)|exact .c wl2|exact .agg (lel_refl _)|exact .agg (by simp only[LeL];and_intros<;>first|exact True.intro|exact .refl _|exact wl2)|exact .c .nils) (k:F→Hold X→aw E (.ops all rest::K) (σ.setO o.dst r) h:=by intro f x;(try simp only[go_sem,f]);exact x.out):aw E (.ops all (o::rest)::K) σ h:=aw_callq hf hop hw hd (le q) (k q ⟨x⟩)
theorem xC {f:FuncId} {xs:List Operand} {ts:Array TypeId} {args:List AV} {r:AV} {X:Prop} (hf:Fa E.P f args r) (x:X) (hop:o.op=.call {callee:=.value (.func f),args:=xs.toArray,argTypes:=ts}:=by exact rfl) (hw:wantA all σ o=some true:=by exact rfl) (hd:dstOk E.N o.dst=true:=by exact rfl)
 (le:LeA h (xs.map (ev σ)) args:=by first|exact True.intro|simp only[go_sem]<;>and_intros<;>first|exact True.intro|exact .c (.refl _)|exact .c wl2|exact .agg (lel_refl _)|exact .agg (by simp only[LeL];and_intros<;>first|exact True.intro|exact .refl _|exact wl2)|exact .c .nils) (k:Hold X→aw E (.ops all rest::K) (σ.setO o.dst r) h:=by intro x;(try simp only[go_sem]);exact x.out):aw E (.ops all (o::rest)::K) σ h:=aw_callq hf hop hw hd le (k ⟨x⟩)
theorem yB {t:TypeId} {y:Operand} {v:AV} {X N:Nat→Prop} (q:F) (x:∀g,N g→X g) (hop:o.op=.box t y:=by exact rfl) (hw:wantA all σ o=some true:=by exact rfl) (hd:dstOk E.N o.dst=true:=by exact rfl) (hx:F→ev σ y=v:=by intro f;simp only[go_sem,f]<;>rfl) (hnt:∀xs,v≠.tup xs:=by exact fun _ e=>by cases e) (hs:v.cells.all CV.solid=true:=by first|exact rfl|exact solid_gs3)
  (hn:∀g,g∉h.keys→N g:=by intro g h;replace h:=Heap.ne_of h;(first|dsimp only [Heap.ne,gh] at h|dsimp only [Heap.ne] at h|skip);exact h) (k:F→∀g,N g→Hold (X g)→aw E (.ops all rest::K) (σ.setO o.dst (.c (.optr g 0))) ((g,.cells t v.cells.length (ofL v.cells))::h):=by intro f g e x;(try simp only[go_sem,f,e]);exact x.out):aw E (.ops all (o::rest)::K) σ h:=
 aw_box hop hw hd (hx q) hnt hs fun g hg=>k q g (hn g hg) ⟨x g (hn g hg)⟩
theorem xB {t:TypeId} {y:Operand} {v:AV} {X N:Nat→Prop} (x:∀g,N g→X g) (hop:o.op=.box t y:=by exact rfl) (hw:wantA all σ o=some true:=by exact rfl) (hd:dstOk E.N o.dst=true:=by exact rfl) (hx:ev σ y=v:=by simp only[go_sem]<;>rfl) (hnt:∀xs,v≠.tup xs:=by exact fun _ e=>by cases e) (hs:v.cells.all CV.solid=true:=by first|exact rfl|exact solid_gs3)
  (hn:∀g,g∉h.keys→N g:=by intro g h;replace h:=Heap.ne_of h;(first|dsimp only [Heap.ne,gh] at h|dsimp only [Heap.ne] at h|skip);exact h) (k:∀g,N g→Hold (X g)→aw E (.ops all rest::K) (σ.setO o.dst (.c (.optr g 0))) ((g,.cells t v.cells.length (ofL v.cells))::h):=by intro g e x;(try simp only[go_sem,e]);exact x.out):aw E (.ops all (o::rest)::K) σ h:=
 aw_box hop hw hd hx hnt hs fun g hg=>k g (hn g hg) ⟨x g (hn g hg)⟩
theorem yA {t:TypeId} {z:List CV} {X N:Nat→Prop} (q:F) (x:∀g,N g→X g) (hop:o.op=.alloc t:=by exact rfl) (hw:wantA all σ o=some true:=by exact rfl) (hd:dstOk E.N o.dst=true:=by exact rfl) (hz:F→tZero E.P t=some z:=by intro f;simp only[go_sem,f]<;>rfl)
  (hn:∀g,g∉h.keys→N g:=by intro g h;replace h:=Heap.ne_of h;(first|dsimp only [Heap.ne,gh] at h|dsimp only [Heap.ne] at h|skip);exact h) (k:F→∀g,N g→Hold (X g)→aw E (.ops all rest::K) (σ.setO o.dst (.c (.optr g 0))) ((g,.cells t z.length (ofL z))::h):=by intro f g e x;(try simp only[go_sem,f,e]);exact x.out):aw E (.ops all (o::rest)::K) σ h:=
 aw_alloc hop hw hd (hz q) fun g hg=>k q g (hn g hg) ⟨x g (hn g hg)⟩
theorem xA {t:TypeId} {z:List CV} {X N:Nat→Prop} (x:∀g,N g→X g) (hop:o.op=.alloc t:=by exact rfl) (hw:wantA all σ o=some true:=by exact rfl) (hd:dstOk E.N o.dst=true:=by exact rfl) (hz:tZero E.P t=some z:=by simp only[go_sem]<;>rfl)
  (hn:∀g,g∉h.keys→N g:=by intro g h;replace h:=Heap.ne_of h;(first|dsimp only [Heap.ne,gh] at h|dsimp only [Heap.ne] at h|skip);exact h) (k:∀g,N g→Hold (X g)→aw E (.ops all rest::K) (σ.setO o.dst (.c (.optr g 0))) ((g,.cells t z.length (ofL z))::h):=by intro g e x;(try simp only[go_sem,e]);exact x.out):aw E (.ops all (o::rest)::K) σ h:=
 aw_alloc hop hw hd hz fun g hg=>k g (hn g hg) ⟨x g (hn g hg)⟩
theorem yW {t g off m n:Nat} {ty:TypeId} {ag:Bool} {fc:Nat→CV} {a y:Operand} {v:AV} {h':Heap} (q:F) (k:aw E (.ops all rest::K) σ h') (hop:o.op=.store t a y:=by exact rfl) (hw:wantA all σ o=some true:=by exact rfl) (hd:dstOk E.N o.dst=true:=by exact rfl) (hdn:o.dst=none:=by exact rfl) (ha:F→ev σ a=.c (.optr g off):=by intro f;simp only[go_sem,f]<;>rfl) (hx:F→ev σ y=v:=by intro f;simp only[go_sem,f]<;>rfl)
 (hg:F→h.get g=some (.cells ty m fc):=by intro f;simp only[go_sem,f]<;>rfl) (ht:F→tSz E.P t=some (ag,n):=by intro f;simp only[go_sem,f]<;>rfl) (hnt:∀xs,v≠.tup xs:=by exact fun _ e=>by cases e) (hs:v.cells.all CV.solid=true:=by first|rfl|exact solid_gs3) (hlen:v.cells.length=n:=by rfl) (hle:off+n≤m:=by first|omega|simp)
 (hh:h.set g (.cells ty m (updF fc off v.cells))=h':=by exact rfl):aw E (.ops all (o::rest)::K) σ h:=aw_store hop hw hd hdn (ha q) (hx q) (hg q) (ht q) hnt hs hlen hle hh k
theorem xW {t g off m n:Nat} {ty:TypeId} {ag:Bool} {fc:Nat→CV} {a y:Operand} {v:AV} {h':Heap} (k:aw E (.ops all rest::K) σ h') (hop:o.op=.store t a y:=by exact rfl) (hw:wantA all σ o=some true:=by exact rfl) (hd:dstOk E.N o.dst=true:=by exact rfl) (hdn:o.dst=none:=by exact rfl) (ha:ev σ a=.c (.optr g off):=by simp only[go_sem]<;>rfl) (hx:ev σ y=v:=by simp only[go_sem]<;>rfl)
 (hg:h.get g=some (.cells ty m fc):=by simp only[go_sem]<;>rfl) (ht:tSz E.P t=some (ag,n):=by simp only[go_sem]<;>rfl) (hnt:∀xs,v≠.tup xs:=by exact fun _ e=>by cases e) (hs:v.cells.all CV.solid=true:=by first|rfl|exact solid_gs3) (hlen:v.cells.length=n:=by rfl) (hle:off+n≤m:=by first|omega|simp)
 (hh:h.set g (.cells ty m (updF fc off v.cells))=h':=by exact rfl):aw E (.ops all (o::rest)::K) σ h:=aw_store hop hw hd hdn ha hx hg ht hnt hs hlen hle hh k
theorem yF {t:Nat} {y z:Code} {b:Bool} (q:F) (k1:b=true→aw E (.code y::K) σ h) (k2:b=false→aw E (.code z::K) σ h) (hb:F→σ.get t=.c (.bool b):=by intro f;simp only[go_sem,f]<;>rfl):aw E (.code (.cond (.tmp t) y z)::K) σ h:=aw_cond (hb q) k1 k2
theorem xF {t:Nat} {y z:Code} {b:Bool} (k1:b=true→aw E (.code y::K) σ h) (k2:b=false→aw E (.code z::K) σ h) (hb:σ.get t=.c (.bool b):=by simp only[go_sem]<;>rfl):aw E (.code (.cond (.tmp t) y z)::K) σ h:=aw_cond hb k1 k2
theorem yP {t:Nat} {y z:Code} (q:F) (k:aw E (.code y::K) σ h) (hb:F→σ.get t=.c (.bool true):=by intro f;simp only[go_sem,f]<;>rfl):aw E (.code (.cond (.tmp t) y z)::K) σ h:=aw_condT (hb q) k
theorem xP {t:Nat} {y z:Code} (k:aw E (.code y::K) σ h) (hb:σ.get t=.c (.bool true):=by simp only[go_sem]<;>rfl):aw E (.code (.cond (.tmp t) y z)::K) σ h:=aw_condT hb k
theorem yN {t:Nat} {y z:Code} (q:F) (k:aw E (.code z::K) σ h) (hb:F→σ.get t=.c (.bool false):=by intro f;simp only[go_sem,f]<;>rfl):aw E (.code (.cond (.tmp t) y z)::K) σ h:=aw_condF (hb q) k
theorem xN {t:Nat} {y z:Code} (k:aw E (.code z::K) σ h) (hb:σ.get t=.c (.bool false):=by simp only[go_sem]<;>rfl):aw E (.code (.cond (.tmp t) y z)::K) σ h:=aw_condF hb k
end
end Go.AI
namespace Go.AI
theorem xGNGV {X G:Prop} (x:X) (k:Hold X→G:=by intro x;refine xG ?_;refine xN ?_;refine xG ?_;refine xV ?_;exact x.out):G:=k ⟨x⟩
theorem xGPG {X G:Prop} (x:X) (k:Hold X→G:=by intro x;refine xG ?_;refine xP ?_;refine xG ?_;exact x.out):G:=k ⟨x⟩
theorem xGT {X G C:Prop} (c:C) (x:X) (k:C→Hold X→G:=by intro c x;refine xG ?_;refine xT c ?_;exact x.out):G:=k c ⟨x⟩
theorem xSG {X G:Prop} (x:X) (k:Hold X→G:=by intro x;refine xS ?_;refine xG ?_;exact x.out):G:=k ⟨x⟩
theorem xSGT {X G C:Prop} (c:C) (x:X) (k:C→Hold X→G:=by intro c x;refine xS ?_;refine xG ?_;refine xT c ?_;exact x.out):G:=k c ⟨x⟩
theorem xSGU {X G:Prop} (x:X) (k:Hold X→G:=by intro x;refine xS ?_;refine xG ?_;refine xU ?_;exact x.out):G:=k ⟨x⟩
theorem yGT {F X G C:Prop} (c:C) (f:F) (x:X) (k:C→F→Hold X→G:=by intro c f x;refine yG f ?_;refine yT c f ?_;exact x.out):G:=k c f ⟨x⟩
theorem ySG {F X G:Prop} (f:F) (x:X) (k:F→Hold X→G:=by intro f x;refine yS f ?_;refine yG f ?_;exact x.out):G:=k f ⟨x⟩
theorem ySGV {F X G:Prop} (f:F) (x:X) (k:F→Hold X→G:=by intro f x;refine yS f ?_;refine yG f ?_;refine yV f ?_;exact x.out):G:=k f ⟨x⟩
end Go.AI
namespace Go.Proofs.YtpcpaekpnfkhhaaGreatDoor
open Go.AI
@[go_sem] theorem ty_e_ws:tElem Tryz.prog 50=some (168,1,4):=by kernel_rfl
@[go_sem] theorem ty_s_u32:tSz Tryz.prog 168=some (false,1):=by kernel_rfl
@[go_sem] theorem ty_z_u32:tZero Tryz.prog 168=some [.int .u32 0]:=by kernel_rfl
@[go_sem] theorem ty_i_u32:tInt Tryz.prog 168=some .u32:=by kernel_rfl
@[go_sem] theorem ty_i_u64:tInt Tryz.prog 39=some .u64:=by kernel_rfl
@[go_sem] theorem ty_i_int:tInt Tryz.prog 3=some .i64:=by kernel_rfl
@[go_sem] theorem ty_b_bool:tBool Tryz.prog 4=true:=by kernel_rfl
@[go_sem] theorem ty_i_err:tInt Tryz.prog 69=some .i64:=by kernel_rfl
@[go_sem] theorem ty_f_err:tIfc Tryz.prog 33=true:=by kernel_rfl
@[go_sem] theorem ty_mixed:Tryz.prog.follows .mixedOrders=true:=by kernel_rfl
end Go.Proofs.YtpcpaekpnfkhhaaGreatDoor
namespace Go.PN
def val:List Nat→Nat
 |[]=>0
 |x::xs=>x+4294967296*val xs
def words (n:Nat):List Nat:=if h:n=0 then [] else n%4294967296::words (n/4294967296)
termination_by n
decreasing_by omega
theorem words_zero:words 0=[]:=by rw [words];simp
theorem words_cons {n:Nat} (h:n≠0):words n=n%4294967296::words (n/4294967296):=by rw [words];simp [h]
theorem words_mk {x v:Nat} (hx:x<4294967296) (h:x≠0∨v≠0):words (x+4294967296*v)=x::words v:=by
 rw [words_cons om]
 congr 1
 ·omega
 ·congr 1;omega
theorem val_words (n:Nat):val (words n)=n:=by
 induction n using Nat.strongRecOn with
 |ind n ih=>
  by_cases h:n=0
  ·subst h;rw [words_zero];rfl
  ·rw [words_cons h,val,ih _ om];omega
theorem words_lt (n:Nat):∀x∈words n,x<4294967296:=by
 induction n using Nat.strongRecOn with
 |ind n ih=>
  by_cases h:n=0
  ·subst h;rw [words_zero];simp
  ·rw [words_cons h]
   intro x hx
   simp only [List.mem_cons] at hx
   rcases hx with rfl|hx
   ·omega
   ·exact ih _ om x hx
theorem words_eq_nil {n:Nat}:words n=[]↔n=0:=by
 constructor
 ·intro h
  have:=val_words n
  rw [h] at this
  exact this.symm
 ·rintro rfl;exact words_zero
theorem words_inj {a b:Nat} (h:words a=words b):a=b:=by rw [←val_words a,h,val_words]
theorem val_zero {xs:List Nat} (h:∀x∈xs,x=0):val xs=0:=by
 induction xs with
 |nil=>rfl
 |cons x xs ih=>rw [val,ih (fun y hy=>h y (by simp [hy])),h x (by simp)]
theorem trim_eq:∀(xs:List Nat) (n:Nat),(∀x∈xs,x<4294967296)→n≤xs.length→(∀j,n≤j→xs.getD j 0=0)→(n=0∨xs.getD (n-1) 0≠0)→words (val xs)=xs.take n
 |[],n,_,hn,_,_=>by simp at hn;subst hn;simp [val,words_zero]
 |x::xs,0,hx,_,hz,_=>by
  have:val (x::xs)=0:=val_zero (fun y hy=>by
   obtain⟨j,hj,rfl⟩:=List.getElem_of_mem hy
   have:=hz j (Nat.zero_le _)
   rw [List.getD_eq_getElem?_getD,List.getElem?_eq_getElem hj] at this
   exact this)
  rw [this,words_zero];rfl
 |x::xs,n+1,hx,hn,hz,hl=>by
  have hx0:x<4294967296:=hx x (by simp)
  have ih:=trim_eq xs n (fun y hy=>hx y (by simp [hy])) (by simpa using hn) (fun j hj=>by simpa using hz (j+1) om) (by
   cases n with
   |zero=>exact .inl rfl
   |succ n=>right;simpa using hl.resolve_left om)
  rw [val,words_mk hx0,ih]
  ·rfl
  ·cases n with
   |zero=>left;simpa using hl.resolve_left om
   |succ n=>
    right
    intro h0
    rw [h0,words_zero] at ih
    have:=congrArg List.length ih
    simp at this hn
    omega
def Plain (xs:List Nat):Prop:=xs=[]∨xs.getD (xs.length-1) 0≠0
theorem words_val {xs:List Nat} (hx:∀x∈xs,x<4294967296) (hp:Plain xs):words (val xs)=xs:=by
 have:=trim_eq xs xs.length hx (Nat.le_refl _) (fun j hj=>by rw [List.getD_eq_getElem?_getD,List.getElem?_eq_none hj];rfl) (by
  rcases hp with rfl|hp
  ·left;rfl
  ·exact .inr hp)
 rwa [List.take_length] at this
theorem words_plain (n:Nat):Plain (words n):=by
 induction n using Nat.strongRecOn with
 |ind n ih=>
  by_cases h:n=0
  ·subst h;left;exact words_zero
  ·right
   rw [words_cons h]
   by_cases h2:n/4294967296=0
   ·rw [h2,words_zero];simp;omega
   ·have:=ih _ (by omega:n/4294967296<n)
    rcases this with e|e
    ·rw [words_eq_nil] at e;exact absurd e h2
    ·have hl:0<(words (n/4294967296)).length:=by
      rcases Nat.eq_zero_or_pos (words (n/4294967296)).length with h0|h0
      ·rw [List.length_eq_zero_iff,words_eq_nil] at h0;exact absurd h0 h2
      ·exact h0
     rw [List.length_cons,show(words (n/4294967296)).length+1-1=((words (n/4294967296)).length-1)+1 from by omega]
     simpa using e
theorem val_lt:∀(xs:List Nat),(∀x∈xs,x<4294967296)→val xs<4294967296^xs.length
 |[],_=>by simp [val]
 |x::xs,hx=>by
  have h1:=val_lt xs (fun y hy=>hx y (by simp [hy]))
  have h2:=hx x (by simp)
  rw [val,List.length_cons,Nat.pow_succ]
  omega
theorem val_append (xs ys:List Nat):val (xs++ys)=val xs+4294967296^xs.length*val ys:=by
 induction xs with
 |nil=>simp [val]
 |cons x xs ih=>rw [List.cons_append,val,val,ih,List.length_cons,Nat.pow_succ,Nat.mul_add,←Nat.add_assoc,←Nat.mul_assoc,Nat.mul_comm 4294967296 (4294967296^xs.length)]
theorem getD_lt {xs:List Nat} (hx:∀x∈xs,x<4294967296) (i:Nat):xs.getD i 0<4294967296:=by
 rw [List.getD_eq_getElem?_getD]
 cases h:xs[i]? with
 |none=>simp
 |some x=>exact hx x (List.mem_of_getElem? h)
theorem getD_ge {xs:List Nat} {i:Nat} (h:xs.length≤i):xs.getD i 0=0:=by
 rw [List.getD_eq_getElem?_getD,List.getElem?_eq_none h];rfl
theorem getD_take {xs:List Nat} {n j:Nat} (h:j<n):(xs.take n).getD j 0=xs.getD j 0:=by
 rw [List.getD_eq_getElem?_getD,List.getD_eq_getElem?_getD,List.getElem?_take,if_pos h]
theorem val_take_succ (xs:List Nat) (i:Nat):val (xs.take (i+1))=val (xs.take i)+4294967296^i*xs.getD i 0:=by
 by_cases h:i<xs.length
 ·rw [List.take_succ_eq_append_getElem h,val_append,List.getD_eq_getElem?_getD,List.getElem?_eq_getElem h]
  simp [val,List.length_take,Nat.min_eq_left (Nat.le_of_lt h)]
 ·rw [getD_ge om,List.take_of_length_le om,List.take_of_length_le om];simp
theorem take_set (zs:List Nat) (i v:Nat):(zs.set i v).take i=zs.take i:=by
 apply List.ext_getElem?
 intro j
 simp only [List.getElem?_take]
 by_cases h:j<i
 ·rw [if_pos h,if_pos h,List.getElem?_set_ne om]
 ·rw [if_neg h,if_neg h]
theorem getD_set {zs:List Nat} {i v:Nat} (h:i<zs.length):(zs.set i v).getD i 0=v:=by
 simp [List.getD_eq_getElem?_getD,h]
theorem val_set_take {zs:List Nat} {i v:Nat} (h:i<zs.length):val ((zs.set i v).take (i+1))=val (zs.take i)+4294967296^i*v:=by
 rw [val_take_succ,take_set,getD_set h]
theorem val_replicate (n:Nat):val (List.replicate n 0)=0:=val_zero (fun x hx=>(List.mem_replicate.1 hx).2)
theorem set_lt {zs:List Nat} {i v:Nat} (hz:∀x∈zs,x<4294967296) (hv:v<4294967296):∀x∈zs.set i v,x<4294967296:=fun x hx=>by
 rcases List.mem_or_eq_of_mem_set hx with h|h
 ·exact hz x h
 ·omega
theorem replicate_lt (n:Nat):∀x∈List.replicate n 0,x<4294967296:=fun x hx=>by rw [(List.mem_replicate.1 hx).2];omega
def cmpN (a b:Nat):Int:=if a<b then-1 else if a=b then 0 else 1
theorem words_pow_lt (n:Nat):n<4294967296^(words n).length:=by
 have:=val_lt (words n) (words_lt n)
 rwa [val_words] at this
theorem words_len_le {n k:Nat} (h:n<4294967296^k):(words n).length≤k:=by
 induction k generalizing n with
 |zero=>have:n=0:=by simpa using h
        subst this;rw [words_zero];simp
 |succ k ih=>
  by_cases h0:n=0
  ·subst h0;rw [words_zero];simp
  ·rw [words_cons h0,List.length_cons]
   have:= @ih (n/4294967296) (by rw [Nat.pow_succ] at h;exact Nat.div_lt_of_lt_mul om)
   omega
theorem words_pow_le {n:Nat} (h:n≠0):4294967296^((words n).length-1)≤n:=by
 rcases Nat.lt_or_ge n (4294967296^((words n).length-1)) with hlt|hge
 ·have:=words_len_le hlt
  have hl:(words n).length≠0:=fun e=>h (words_eq_nil.1 (List.length_eq_zero_iff.1 e))
  omega
 ·exact hge
theorem words_val_len (xs:List Nat) (hx:∀x∈xs,x<4294967296):(words (val xs)).length≤xs.length:=words_len_le (val_lt xs hx)
theorem words_len_mono {a b:Nat} (h:a≤b):(words a).length≤(words b).length:=words_len_le (Nat.lt_of_le_of_lt h (words_pow_lt b))
theorem cmpN_len_lt {a b:Nat} (h:(words a).length<(words b).length):cmpN a b= -1:=by
 have:a<b:=by
  rcases Nat.lt_or_ge a b with h1|h1
  ·exact h1
  ·have:=words_len_mono h1;omega
 simp [cmpN,this]
theorem cmpN_len_gt {a b:Nat} (h:(words b).length<(words a).length):cmpN a b=1:=by
 have:b<a:=by
  rcases Nat.lt_or_ge b a with h1|h1
  ·exact h1
  ·have:=words_len_mono h1;omega
 unfold cmpN
 rw [if_neg om,if_neg om]
theorem drop_getD (xs:List Nat) {i:Nat} (h:i<xs.length):xs.drop i=xs.getD i 0::xs.drop (i+1):=by
 rw [List.drop_eq_getElem_cons h,List.getD_eq_getElem?_getD,List.getElem?_eq_getElem h];rfl
theorem val_drop (xs:List Nat) (i:Nat):val (xs.drop i)=xs.getD i 0+4294967296*val (xs.drop (i+1)):=by
 by_cases h:i<xs.length
 ·rw [List.drop_eq_getElem_cons h,val,List.getD_eq_getElem?_getD,List.getElem?_eq_getElem h];rfl
 ·rw [getD_ge om,List.drop_eq_nil_of_le om,List.drop_eq_nil_of_le om];rfl
theorem val_split (xs:List Nat) (i:Nat) (h:i≤xs.length):val xs=val (xs.take i)+4294967296^i*val (xs.drop i):=by
 have:=val_append (xs.take i) (xs.drop i)
 rwa [List.take_append_drop,List.length_take,Nat.min_eq_left h] at this
theorem val_take_lt (xs:List Nat) (hx:∀x∈xs,x<4294967296) (i:Nat) (h:i≤xs.length):val (xs.take i)<4294967296^i:=by
 have:=val_lt (xs.take i) (fun x hm=>hx x (List.mem_of_mem_take hm))
 rwa [List.length_take,Nat.min_eq_left h] at this
theorem word_lt {xs ys:List Nat} {i:Nat} (hx:∀x∈xs,x<4294967296) (hy:∀x∈ys,x<4294967296) (h1:i<xs.length) (h2:i<ys.length) (hd:xs.drop (i+1)=ys.drop (i+1)) (hlt:xs.getD i 0<ys.getD i 0):val xs<val ys:=by
 rw [val_split xs i om,val_split ys i om,val_drop xs i,val_drop ys i,hd]
 have h3:=val_take_lt xs hx i om
 have h5:4294967296^i*(xs.getD i 0+4294967296*val (ys.drop (i+1))+1)≤4294967296^i*(ys.getD i 0+4294967296*val (ys.drop (i+1))):=Nat.mul_le_mul_left _ om
 rw [Nat.mul_add,Nat.mul_one] at h5
 omega
theorem add_step {xs ys zs:List Nat} {i c:Nat} (hi:i<zs.length) (h:val (zs.take i)+4294967296^i*c=val (xs.take i)+val (ys.take i)):
  val ((zs.set i ((c+(xs.getD i 0+ys.getD i 0))%4294967296)).take (i+1))+4294967296^(i+1)*((c+(xs.getD i 0+ys.getD i 0))/4294967296)=val (xs.take (i+1))+val (ys.take (i+1)):=by
 rw [val_set_take hi,val_take_succ,val_take_succ,Nat.pow_succ]
 generalize xs.getD i 0=x at*
 generalize ys.getD i 0=y at*
 have e:(c+(x+y))%4294967296+4294967296*((c+(x+y))/4294967296)=c+(x+y):=Nat.mod_add_div _ _
 have e2:4294967296^i*((c+(x+y))%4294967296)+4294967296^i*4294967296*((c+(x+y))/4294967296)=4294967296^i*(c+(x+y)):=by
  rw [Nat.mul_assoc,←Nat.mul_add,e]
 rw [Nat.mul_add,Nat.mul_add] at e2
 omega
def subD (x y b:Nat):Nat:=(x+18446744073709551616-y-b)%18446744073709551616
theorem val_set {zs:List Nat} {j v:Nat} (h:j<zs.length):val (zs.set j v)+4294967296^j*zs.getD j 0=val zs+4294967296^j*v:=by
 have h1:=val_split (zs.set j v) j (by simp;omega)
 have h2:=val_split zs j om
 rw [take_set] at h1
 have h3:=val_drop (zs.set j v) j
 have h4:=val_drop zs j
 have h5:(zs.set j v).drop (j+1)=zs.drop (j+1):=by
  apply List.ext_getElem?
  intro q
  rw [List.getElem?_drop,List.getElem?_drop,List.getElem?_set_ne om]
 rw [getD_set h,h5] at h3
 rw [h3] at h1
 rw [h4] at h2
 rw [h1,h2,Nat.mul_add,Nat.mul_add]
 omega
theorem getD_zero_of_lt {zs:List Nat} {m j:Nat} (h:val zs<4294967296^m) (hj:m≤j):zs.getD j 0=0:=by
 by_cases hl:j<zs.length
 ·have h1:=val_split zs j om
  rw [val_drop zs j] at h1
  rcases Nat.eq_zero_or_pos (zs.getD j 0) with h0|h0
  ·exact h0
  ·have h2:(4294967296:Nat)^m≤4294967296^j:=Nat.pow_le_pow_right om hj
   have h3:=Nat.mul_le_mul_left (4294967296^j) (show 1≤zs.getD j 0+4294967296*val (zs.drop (j+1)) from by omega)
   omega
 ·exact getD_ge om
theorem getD_set_ne {zs:List Nat} {i j v:Nat} (h:i≠j):(zs.set i v).getD j 0=zs.getD j 0:=by
 rw [List.getD_eq_getElem?_getD,List.getD_eq_getElem?_getD,List.getElem?_set_ne h]
theorem mul_bound {x y:Nat} (hx:x<4294967296) (hy:y<4294967296):x*y≤18446744065119617025:=by
 have:=Nat.mul_le_mul (show x≤4294967295 from by omega) (show y≤4294967295 from by omega)
 omega
theorem drop_set {zs:List Nat} {i v:Nat} (h:i<zs.length):(zs.set i v).drop i=v::zs.drop (i+1):=by
 rw [drop_getD _ (by simpa using h),getD_set h]
 congr 1
 apply List.ext_getElem?
 intro q
 rw [List.getElem?_drop,List.getElem?_drop,List.getElem?_set_ne om]
theorem small_step {xs zs:List Nat} {m b r:Nat} (hb:0<b) (hm:m<zs.length) (h:val (xs.drop (m+1))=b*val (zs.drop (m+1))+r):
  val (xs.drop m)=b*val ((zs.set m ((r*4294967296+xs.getD m 0)/b)).drop m)+(r*4294967296+xs.getD m 0)%b:=by
 rw [val_drop,drop_set hm,val,h]
 generalize xs.getD m 0=x
 have e:=Nat.div_add_mod (r*4294967296+x) b
 generalize (r*4294967296+x)/b=q at*
 generalize (r*4294967296+x)%b=t at*
 have e2:b*(q+4294967296*val (zs.drop (m+1)))=b*q+4294967296*(b*val (zs.drop (m+1))):=by
  rw [Nat.mul_add,Nat.mul_left_comm]
 rw [e2]
 omega
end Go.PN
namespace Go.Proofs.YtpcpaekpnfkhhaaGreatDoor
open Go.AI Go.PN
attribute [local irreducible] aw Fa Fh DrK
theorem word_fa (xs:List Nat) (i:Nat) (hx:∀x∈xs,x<4294967296):Fa Tryz.prog 339 [.c (ws false xs),.c (.int .i64 i)] (.c (.int .u64 (xs.getD i 0:Nat))):=by
 refine fa_of_body Tryz.func339 rfl rfl (by simp [Tryz.ntmps339]) fun C hC=> ?_
 have hb:=getD_lt hx i
 simp only [initS,Nat.reduceAdd]
 refine xG ?_
 refine aw_cond eE (fun hb=> ?_) (fun hb=> ?_)
 ·simp only [decide_eq_true_eq] at hb
  refine xGT hC ?_
  exact .one (.c (ler_int rfl))
 ·simp only [decide_eq_false_iff_not] at hb
  refine xGT hC ?_
  refine .one (.c (ler_int ?_))
  rw [getD_ge om];rfl
theorem trim_fa (xs:List Nat) (hx:∀x∈xs,x<4294967296) (hl:xs.length≤1099511627776):Fa Tryz.prog 299 [.c (ws false xs)] (.c (ws true (words (val xs)))):=by
 refine fa_of_body Tryz.func299 rfl rfl (by simp [Tryz.ntmps299]) fun C hC=> ?_
 simp only [initS,Nat.reduceAdd]
 refine xG ?_
 refine aw_lp (fun m:Nat=>[(0,.c (ws false xs)),(3,.c (.int .i64 m))]) (fun _=>[]) (fun m=>m≤xs.length∧(∀j,m≤j→xs.getD j 0=0)) id xs.length eB zZ ⟨Nat.le_refl _,fun j hj=>getD_ge hj⟩ ?_
 rintro m ⟨hm,hz⟩
 have hend:(m=0∨xs.getD (m-1) 0≠0)→words (val xs)=xs.take m:=trim_eq xs m hx hm hz
 by_cases h0:0<m
 ·have hd:decide ((m:Int)>0)=true:=by simp;omega
  apply aw_seq
  apply aw_seq
  refine aw_rp true (by simp only [go_sem,Nat.reduceEqDiff,reduceIte,hd]<;>rfl) (by(try simp only [inRange])<;>and_intros<;>first|exact True.intro|omega|trivial) rfl ?_
  have e1:((m:Int)-1).toNat=m-1:=by omega
  refine aw_cond eE (fun hb=> ?_) (fun hb=> ?_)
  ·have hb':xs.getD (m-1) 0=0:=by simpa using hb
   refine xG ?_
   refine aw_stop ⟨m-1,by simp only [id];omega,eB,zZ,by omega,fun j hj=> ?_⟩
   by_cases hjm:j=m-1
   ·rw [hjm];exact hb'
   ·exact hz j om
  ·have hb':xs.getD (m-1) 0≠0:=by simpa using hb
   have hm0:((m:Int)==0)=false:=by simp;omega
   refine xG ?_
   refine aw_cond eE (fun hb=> ?_) (fun hb=> ?_)
   ·rw [hm0] at hb;cases hb
   ·refine xG ?_
    refine aw_buildSlice (xs:=[]) (cells:=[]) rfl rfl rfl ty_e_ws (by rw [envP,ty_z_u32];rfl) rfl om om (by simp) rfl fun g hg=> ?_
    simp only [go_sem,Nat.reduceEqDiff,reduceIte]
    refine xG ?_
    refine aw_append rfl rfl rfl ty_e_ws ty_z_u32 rfl om eE eE om eE .row (fun _ _=>rfl) h0 qc om eE fun g' hg'=> ?_
    simp only [go_sem,Nat.reduceEqDiff,reduceIte]
    refine xGT hC ?_
    refine .one (.c ?_)
    rw [hend (.inr hb')]
    refine ler_oslws eE om (by simp;omega) (fun j hj=> ?_)
    simp only [appF,Nat.not_lt_zero,if_false,Nat.sub_zero,Nat.zero_add]
    rw [getD_take hj]
 ·have hm0:m=0:=by omega
  subst hm0
  have hd:decide (((0:Nat):Int)>0)=false:=by simp
  apply aw_seq
  apply aw_seq
  refine aw_rp true (by simp only [go_sem,Nat.reduceEqDiff,reduceIte,hd]<;>rfl) (by(try simp only [inRange])<;>and_intros<;>first|exact True.intro|omega|trivial) rfl ?_
  refine aw_cond eE (fun hb=> ?_) (fun _=> ?_)
  ·cases hb
  refine xG ?_
  refine aw_cond eE (fun _=> ?_) (fun hb=> ?_)
  ·refine xGT hC ?_
   refine .one (.c ?_)
   rw [hend (.inl rfl)]
   exact .nils
  ·cases hb
end Go.Proofs.YtpcpaekpnfkhhaaGreatDoor
namespace Go.AI
theorem ofInt64 (a:Nat):(BitVec.ofInt 64 (a:Int)).toNat=a%18446744073709551616:=by
 rw [BitVec.ofInt_natCast,BitVec.toNat_ofNat]
theorem or_u64 (a b:Nat) (ha:a<18446744073709551616) (hb:b<18446744073709551616):orZ .u64 (a:Int) (b:Int)=((a|||b:Nat):Int):=by
 have hx:a|||b<2^64:=Nat.or_lt_two_pow om om
 rw [orZ_eq]
 show IntKind.u64.wrap (((BitVec.ofInt 64 (a:Int))|||(BitVec.ofInt 64 (b:Int))).toNat:Int)=_
 rw [BitVec.toNat_or,ofInt64,ofInt64,Nat.mod_eq_of_lt ha,Nat.mod_eq_of_lt hb,IntKind.wrap_u64]
 omega
theorem or_join (x y:Nat) (hy:y<4294967296):x*4294967296|||y=x*4294967296+y:=by
 have:=Nat.two_pow_add_eq_or_of_lt (i:=32) (b:=y) om x
 rw [Nat.mul_comm x,←this]
theorem or_u64_join (x y:Nat) (hx:x<4294967296) (hy:y<4294967296):orZ .u64 ((x*4294967296:Nat):Int) (y:Int)=((x*4294967296+y:Nat):Int):=by
 rw [or_u64 _ _ om om,or_join x y hy]
def j32 (x y:Nat):Nat:=x*4294967296+y
theorem or_u64_j32 (x y:Nat) (hx:x<4294967296) (hy:y<4294967296):orZ .u64 ((x*4294967296:Nat):Int) (y:Int)=((j32 x y:Nat):Int):=or_u64_join x y hx hy
theorem or_u64_join' (x y:Nat) (hx:x<4294967296) (hy:y<4294967296):orZ .u64 (y:Int) ((x*4294967296:Nat):Int)=((x*4294967296+y:Nat):Int):=by
 rw [or_u64 _ _ om om,Nat.or_comm,or_join x y hy]
theorem or_u32 (a b:Nat) (ha:a<4294967296) (hb:b<4294967296):orZ .u32 (a:Int) (b:Int)=((a|||b:Nat):Int):=by
 have hx:a|||b<2^32:=Nat.or_lt_two_pow om om
 rw [orZ_eq]
 show IntKind.u32.wrap (((BitVec.ofInt 32 (a:Int))|||(BitVec.ofInt 32 (b:Int))).toNat:Int)=_
 rw [BitVec.toNat_or,BitVec.ofInt_natCast,BitVec.ofInt_natCast,BitVec.toNat_ofNat,BitVec.toNat_ofNat,Nat.mod_eq_of_lt om,Nat.mod_eq_of_lt om,IntKind.wrap_u32]
 omega
theorem shl_u64_32 (x:Nat) (hx:x<4294967296):shlZ .u64 (x:Int) 32=((x*4294967296:Nat):Int):=by
 rw [shlZ_eq]
 show IntKind.u64.wrap ((x:Int)*4294967296)=_
 rw [IntKind.wrap_u64];omega
theorem nat_div_32 (y:Nat):(y:Int)/4294967296=((y/4294967296:Nat):Int):=by omega
theorem pow_lt_32 {n:Nat} (hn:n≤32):2^n≤4294967296:=Nat.pow_le_pow_right (n:=2) om hn
theorem shl_u64 (x n:Nat) (hx:x<4294967296) (hn:n≤32):shlZ .u64 (x:Int) (n:Int)=((x*2^n:Nat):Int):=by
 have h1:=pow_lt_32 hn
 have h2:x*2^n≤4294967295*4294967296:=Nat.mul_le_mul om h1
 rw [shlZ_eq]
 show IntKind.u64.wrap ((x:Int)*2^(min (n:Int).toNat 64))=_
 rw [Int.toNat_natCast,Nat.min_eq_left om,IntKind.wrap_u64]
 have e:(x:Int)*2^n=((x*2^n:Nat):Int):=by simp
 rw [e]
 omega
theorem shr_u64 (x n:Nat) (hn:n≤64):shrZ .u64 (x:Int) (n:Int)=((x/2^n:Nat):Int):=by
 rw [shrZ_eq]
 show(x:Int).fdiv (2^(min (n:Int).toNat 64))=_
 rw [Int.toNat_natCast,Nat.min_eq_left hn]
 have e:(2:Int)^n=((2^n:Nat):Int):=by simp
 rw [e,Int.fdiv_eq_ediv_of_nonneg _ (Int.natCast_nonneg _)]
 rfl
theorem quo_u64 (a b:Nat) (ha:a<18446744073709551616):quoZ .u64 (a:Int) (b:Int)=((a/b:Nat):Int):=by
 rw [quoZ_eq]
 show IntKind.u64.wrap ((a:Int).tdiv b)=_
 have h:=Nat.div_le_self a b
 have e:(a:Int).tdiv (b:Int)=((a/b:Nat):Int):=rfl
 rw [e,IntKind.wrap_u64]
 generalize a/b=q at*
 omega
theorem rem_nat (a b:Nat):remZ (a:Int) (b:Int)=((a%b:Nat):Int):=by rw [remZ_eq];exact Int.ofNat_tmod a b
end Go.AI
namespace Go.Proofs.YtpcpaekpnfkhhaaGreatDoor
open Go.AI Go.PN
attribute [local irreducible] aw Fa Fh DrK
theorem small_fa (xs:List Nat) (b:Nat) (hx:∀x∈xs,x<4294967296) (hlx:xs.length≤68719476736) (hb0:0<b) (hb:b<4294967296):
  Fa Tryz.prog 300 [.c (ws false xs),.c (.int .u32 b)] (.tup [.c (ws true (words (val xs/b))),.c (.int .u32 (val xs%b:Nat))]):=by
 refine fa_of_body Tryz.func300 rfl rfl (by simp [Tryz.ntmps300]) fun C hC=> ?_
 simp only [initS,Nat.reduceAdd]
 refine xG ?_
 refine aw_make (n:=xs.length) (c:=xs.length) rfl rfl rfl ty_e_ws ty_z_u32 rfl om eE eE rfl rfl om om om fun g hg=> ?_
 rw [make_wf xs.length]
 refine xSG ?_
 refine aw_lp (fun x:Nat×Nat×List Nat=>[(0,.c (ws false xs)),(1,.c (.int .u32 b)),(6,.c (.osl g 1 0 xs.length)),(7,.c (.int .u64 x.2.1)),(8,.c (.int .i64 ((x.1:Int)-1)))]) (fun x=>[(g,.cells 168 xs.length (wf x.2.2))])
  (fun x=>x.1≤xs.length∧x.2.1<b∧x.2.2.length=xs.length∧(∀y∈x.2.2,y<4294967296)∧val (xs.drop x.1)=b*val (x.2.2.drop x.1)+x.2.1) (fun x=>x.1) (xs.length,0,List.replicate xs.length 0) eB zZ
  ⟨Nat.le_refl _,hb0,by simp,replicate_lt _,by simp [val]⟩ ?_
 rintro ⟨m,r,zs⟩ ⟨hm,hr,hzl,hz,hv⟩
 dsimp only at hm hr hzl hz hv⊢
 refine xG ?_
 refine aw_cond eE (fun hb1=> ?_) (fun hb1=> ?_)
 ·have hm1:1≤m:=dT hb1
  have e1:((m:Int)-1).toNat=m-1:=by omega
  have hxi:=getD_lt hx (m-1)
  have hst:=small_step (xs:=xs) (zs:=zs) (m:=m-1) (r:=r) hb0 om (by rw [show m-1+1=m from by omega];exact hv)
  refine xG ?_
  rw [shl_u64_32 r om,or_u64_join r _ om hxi]
  have hs:r*4294967296+xs.getD (m-1) 0<b*4294967296:=by
   have:(r+1)*4294967296≤b*4294967296:=Nat.mul_le_mul_right _ hr
   omega
  have hq:(r*4294967296+xs.getD (m-1) 0)/b<4294967296:=Nat.div_lt_of_lt_mul hs
  have hrm:(r*4294967296+xs.getD (m-1) 0)%b<b:=Nat.mod_lt _ hb0
  have hsl:r*4294967296+xs.getD (m-1) 0<18446744073709551616:=by omega
  generalize r*4294967296+xs.getD (m-1) 0=s at hs hq hrm hsl hst⊢
  refine xG ?_
  rw [quo_u64 s b hsl,wrap_u32_nat,Nat.mod_eq_of_lt hq]
  refine xW ?_
  refine xS ?_
  rw [updF_wf om]
  refine xG ?_
  rw [rem_nat]
  refine aw_stop ⟨(m-1,s%b,zs.set (m-1) (s/b)),by dsimp only;omega,eB,zZ,by dsimp only;omega,hrm,by simpa using hzl,set_lt hz hq,hst⟩
 ·have hm0:m=0:=dF hb1
  subst hm0
  refine xG ?_
  refine aw_callq (trim_fa zs hz om) rfl rfl rfl (by refine xS ?_;exact .c (lec_oslws eE om om (fun j _=>by rw [Nat.zero_add];rfl))) ?_
  refine xSGT hC ?_
  simp only [List.drop_zero] at hv
  have e1:val xs/b=val zs:=by rw [hv,Nat.mul_add_div hb0,Nat.div_eq_of_lt hr,Nat.add_zero]
  have e2:val xs%b=r:=by rw [hv,Nat.mul_add_mod,Nat.mod_eq_of_lt hr]
  rw [e1,e2,wrap_u32_nat,Nat.mod_eq_of_lt om]
  exact .tup ⟨.c ler_ws,.c (.int _ _),trivial⟩
end Go.Proofs.YtpcpaekpnfkhhaaGreatDoor
namespace Go.PN
theorem getD_replicate (n j:Nat):(List.replicate n 0).getD j 0=0:=by
 rw [List.getD_eq_getElem?_getD,List.getElem?_replicate];split<;>rfl
theorem two_pow_split {n:Nat} (hn:n≤32):(4294967296:Nat)=2^n*2^(32-n):=by
 rw [←Nat.pow_add,show n+(32-n)=32 from by omega]
theorem shl_mod (x n:Nat) (hn:n≤32):x*2^n%4294967296=2^n*(x%2^(32-n)):=by
 rw [two_pow_split hn,Nat.mul_comm x,Nat.mul_mod_mul_left]
theorem or_low {z x n:Nat} (hn:n≤32) (hz:z<2^n):z|||x*2^n%4294967296=z+x*2^n%4294967296:=by
 rw [shl_mod x n hn,Nat.or_comm,←Nat.two_pow_add_eq_or_of_lt hz,Nat.add_comm]
theorem or_low_lt {z x n:Nat} (hn:n≤32) (hz:z<2^n):z+x*2^n%4294967296<4294967296:=by
 rw [shl_mod x n hn]
 have h1:x%2^(32-n)+1≤2^(32-n):=Nat.mod_lt _ (Nat.two_pow_pos _)
 have h2:=Nat.mul_le_mul_left (2^n) h1
 rw [←two_pow_split hn,Nat.mul_add] at h2
 omega
theorem shl_hi {x n:Nat} (hx:x<4294967296):x*2^n/4294967296<2^n:=by
 rw [Nat.div_lt_iff_lt_mul om,Nat.mul_comm (2^n)]
 exact Nat.mul_lt_mul_of_pos_right hx (Nat.two_pow_pos _)
theorem left_step {xs zs:List Nat} {i n:Nat} (hi:i+1<zs.length) (h0:zs.getD (i+1) 0=0) (h:val zs=val (xs.take i)*2^n):
  val ((zs.set i (zs.getD i 0+xs.getD i 0*2^n%4294967296)).set (i+1) (xs.getD i 0*2^n/4294967296))=val (xs.take (i+1))*2^n:=by
 have h1:=val_set (zs:=zs) (j:=i) (v:=zs.getD i 0+xs.getD i 0*2^n%4294967296) om
 have h2:=val_set (zs:=zs.set i (zs.getD i 0+xs.getD i 0*2^n%4294967296)) (j:=i+1) (v:=xs.getD i 0*2^n/4294967296) (by simpa using hi)
 rw [getD_set_ne om,h0] at h2
 rw [val_take_succ,Nat.add_mul,←h]
 generalize hy:xs.getD i 0*2^n=y at h1 h2⊢
 have h3:4294967296^i*xs.getD i 0*2^n=4294967296^i*y:=by rw [Nat.mul_assoc,hy]
 have h4:4294967296^i*y=4294967296^i*(y%4294967296)+4294967296^(i+1)*(y/4294967296):=by
  rw [Nat.pow_succ,Nat.mul_assoc,←Nat.mul_add];congr 1;omega
 rw [Nat.mul_add] at h1
 rw [h3,h4]
 omega
def rgt (n:Nat):List Nat→List Nat
 |[]=>[]
 |x::xs=>(x+xs.getD 0 0*4294967296)/2^n%4294967296::rgt n xs
theorem rgt_length (n:Nat):∀xs,(rgt n xs).length=xs.length
 |[]=>rfl
 |_::xs=>by simp [rgt,rgt_length n xs]
theorem rgt_getD (n:Nat) (xs:List Nat):∀(i:Nat),i<xs.length→(rgt n xs).getD i 0=(xs.getD i 0+xs.getD (i+1) 0*4294967296)/2^n%4294967296:=by
 induction xs with
 |nil=>intro i h;simp at h
 |cons x xs ih=>
  intro i h
  cases i with
  |zero=>simp only [rgt,List.getD_cons_zero,List.getD_cons_succ]
  |succ i=>
   simp only [rgt,List.getD_cons_succ]
   exact ih i (by simpa using h)
theorem rgt_lt (n:Nat) (xs:List Nat):∀x∈rgt n xs,x<4294967296:=by
 induction xs with
 |nil=>intro x h;simp [rgt] at h
 |cons y xs ih=>
  intro x h
  simp only [rgt,List.mem_cons] at h
  rcases h with h|h
  ·rw [h];exact Nat.mod_lt _ om
  ·exact ih x h
theorem rgt_val {n:Nat} (hn:n≤32) (xs:List Nat):(∀x∈xs,x<4294967296)→val (rgt n xs)=val xs/2^n:=by
 induction xs with
 |nil=>intro _;simp [rgt,val]
 |cons x xs ih0=>
  intro hx
  have ih:=ih0 (fun y hy=>hx y (List.mem_cons_of_mem _ hy))
  have hxx:=hx x (by simp)
  have hV:val xs=xs.getD 0 0+4294967296*val (xs.drop 1):=by have:=val_drop xs 0;simpa using this
  simp only [rgt,val,ih]
  generalize hx':xs.getD 0 0=x' at hV⊢
  generalize val (xs.drop 1)=r at hV
  generalize hVv:val xs=V at hV⊢
  have hN:0<2^n:=Nat.two_pow_pos n
  have hB:=two_pow_split hn
  have hM:0<2^(32-n):=Nat.two_pow_pos _
  generalize 2^n=N at hN hB⊢
  generalize 2^(32-n)=M at hB hM
  have e1:x'%N=V%N:=by rw [hV,hB,Nat.mul_assoc,Nat.add_mul_mod_self_left]
  have e2:(x+x'*4294967296)/N=(x+x'%N*4294967296)/N+x'/N*4294967296:=by
   have hq:x'=N*(x'/N)+x'%N:=(Nat.div_add_mod x' N).symm
   have:x+x'*4294967296=(x+x'%N*4294967296)+N*(x'/N*4294967296):=by
    conv=>lhs;rw [hq]
    rw [Nat.add_mul,Nat.mul_assoc];omega
   rw [this,Nat.add_mul_div_left _ _ hN]
  have e3:(x+4294967296*V)/N=(x+V%N*4294967296)/N+V/N*4294967296:=by
   have hq:V=N*(V/N)+V%N:=(Nat.div_add_mod V N).symm
   have:x+4294967296*V=(x+V%N*4294967296)+N*(V/N*4294967296):=by
    conv=>lhs;rw [hq]
    rw [Nat.mul_add,←Nat.mul_assoc,Nat.mul_comm 4294967296 N,Nat.mul_assoc,Nat.mul_comm 4294967296 (V/N),Nat.mul_comm 4294967296 (V%N)];omega
   rw [this,Nat.add_mul_div_left _ _ hN]
  have hs:(x+x'%N*4294967296)/N<4294967296:=by
   rw [Nat.div_lt_iff_lt_mul hN]
   have h1:x'%N+1≤N:=Nat.mod_lt _ hN
   have h2:=Nat.mul_le_mul_right 4294967296 h1
   rw [Nat.mul_comm 4294967296 N]
   omega
  rw [e2,Nat.add_mul_mod_self_right,Nat.mod_eq_of_lt hs,e3,e1]
  omega
theorem take_step {us vs zs:List Nat} {i c b n:Nat} (hi:i<zs.length) (hu:us.getD i 0<4294967296) (hb:b≤1) (h:val (zs.take i)+n*val (vs.take i)=val (us.take i)+4294967296^i*(c+b)):
  val ((zs.set i (subD (us.getD i 0) ((c+n*vs.getD i 0)%4294967296) b%4294967296)).take (i+1))+n*val (vs.take (i+1))=
   val (us.take (i+1))+4294967296^(i+1)*((c+n*vs.getD i 0)/4294967296+subD (us.getD i 0) ((c+n*vs.getD i 0)%4294967296) b/9223372036854775808)∧
   subD (us.getD i 0) ((c+n*vs.getD i 0)%4294967296) b/9223372036854775808≤1:=by
 rw [val_set_take hi,val_take_succ vs,val_take_succ us,Nat.mul_add,Nat.pow_succ]
 have e0:n*(4294967296^i*vs.getD i 0)=4294967296^i*(n*vs.getD i 0):=by rw [←Nat.mul_assoc,Nat.mul_comm n,Nat.mul_assoc]
 rw [e0]
 generalize hU:us.getD i 0=u at*
 generalize hV:n*vs.getD i 0=p at*
 generalize hP:4294967296^i=P at*
 have hm:(c+p)%4294967296<4294967296:=Nat.mod_lt _ om
 have hdm:=Nat.div_add_mod (c+p) 4294967296
 generalize (c+p)%4294967296=l at*
 generalize (c+p)/4294967296=q at*
 refine⟨?_,by unfold subD;omega⟩
 have key:u+4294967296*(subD u l b/9223372036854775808)=subD u l b%4294967296+l+b:=by unfold subD;omega
 generalize subD u l b%4294967296=d at*
 generalize subD u l b/9223372036854775808=b' at*
 have k2:=congrArg (P* ·) key
 simp only [Nat.mul_add] at k2
 have k3:=congrArg (P* ·) hdm
 simp only [Nat.mul_add] at k3
 simp only [Nat.mul_add] at h⊢
 rw [Nat.mul_assoc P 4294967296 q,Nat.mul_assoc P 4294967296 b']
 omega
theorem take_carry {c n y:Nat} (hc:c<4294967296) (hn:n<4294967296) (hy:y<4294967296):c+n*y<18446744073709551616∧(c+n*y)/4294967296<4294967296:=by
 have:=mul_bound hn hy
 omega
theorem guess_down {V W D v1 v2 head w2 wr g rest:Nat} (hV:(v1*4294967296+v2)*D≤V) (hW:W=(head*4294967296+w2)*D+wr) (hr:wr<D) (hg:g*v1+rest=head) (hc:rest*4294967296+w2<g*v2):W<g*V:=by
 have h1:head*4294967296+w2+1≤g*(v1*4294967296+v2):=by
  rw [←hg,Nat.mul_add,←Nat.mul_assoc,Nat.add_mul];omega
 have h2:(head*4294967296+w2+1)*D≤g*V:=by
  refine Nat.le_trans (Nat.mul_le_mul_right D h1) ?_
  rw [Nat.mul_assoc]
  exact Nat.mul_le_mul_left g hV
 rw [Nat.add_mul,Nat.one_mul] at h2
 omega
theorem guess_up {V W D v1 v2 head w2 wr g rest vr:Nat} (hV:V=(v1*4294967296+v2)*D+vr) (hvr:vr<D) (hv1:1≤v1) (hW:W=(head*4294967296+w2)*D+wr) (hg:g*v1+rest=head) (hlt:g<4294967296) (hc:g*v2≤rest*4294967296+w2):g*V<W+V:=by
 have h1:g*(v1*4294967296+v2)≤head*4294967296+w2:=by
  rw [←hg,Nat.mul_add,←Nat.mul_assoc,Nat.add_mul];omega
 have h2:g*((v1*4294967296+v2)*D)≤(head*4294967296+w2)*D:=by
  rw [←Nat.mul_assoc];exact Nat.mul_le_mul_right D h1
 have h3:g*vr≤4294967296*D:=Nat.mul_le_mul (Nat.le_of_lt hlt) (Nat.le_of_lt hvr)
 have h4:4294967296*D≤(v1*4294967296+v2)*D:=Nat.mul_le_mul_right D om
 have hD:0<D:=by omega
 have h5:g*vr<4294967296*D∨D=0:=by
  rcases Nat.eq_zero_or_pos g with h|h
  ·subst h;left;omega
  ·left
   have:g*vr<g*D:=Nat.mul_lt_mul_of_pos_left hvr h
   have h6:g*D≤4294967296*D:=Nat.mul_le_mul_right D (Nat.le_of_lt hlt)
   omega
 have h7:g*V=g*((v1*4294967296+v2)*D)+g*vr:=by rw [hV,Nat.mul_add]
 omega
theorem guess_small {v1 head u1 g rest:Nat} (hh:head≤v1*4294967296+u1) (hu:u1<4294967296) (hg:g*v1+rest=head) (hr:4294967296≤rest):g<4294967296:=by
 rcases Nat.lt_or_ge g 4294967296 with h|h
 ·exact h
 ·have h2:=Nat.mul_le_mul_right v1 h
  rw [Nat.mul_comm 4294967296 v1] at h2
  omega
def win (ys:List Nat) (off:Nat) (zs:List Nat):List Nat:=ys.take off++(zs++ys.drop (off+zs.length))
theorem win_length {ys zs:List Nat} {off:Nat} (h:off+zs.length≤ys.length):(win ys off zs).length=ys.length:=by
 simp [win];omega
theorem win_getD {ys zs:List Nat} {off i:Nat} (h:off≤ys.length) (hi:i<zs.length):(win ys off zs).getD (off+i) 0=zs.getD i 0:=by
 unfold win
 rw [List.getD_eq_getElem?_getD,List.getElem?_append_right (by simp;omega),List.getElem?_append_left (by simp;omega),List.getD_eq_getElem?_getD]
 congr 2;simp;omega
theorem win_set {ys zs:List Nat} {off i v:Nat} (h:off≤ys.length) (hi:i<zs.length):(win ys off zs).set (off+i) v=win ys off (zs.set i v):=by
 unfold win
 rw [List.set_append,if_neg (by simp;omega),List.set_append,if_pos (by simp;omega)]
 simp only [List.length_set,List.length_take]
 rw [show off+i-min off ys.length=i from by omega]
theorem win_self {ys:List Nat} {off L:Nat} (h:off+L≤ys.length):win ys off ((ys.drop off).take L)=ys:=by
 unfold win
 rw [show off+((ys.drop off).take L).length=off+L from by simp;omega,←List.drop_drop,List.take_append_drop,List.take_append_drop]
theorem val_win {ys zs:List Nat} {off:Nat} (h:off≤ys.length):val (win ys off zs)=val (ys.take off)+4294967296^off*(val zs+4294967296^zs.length*val (ys.drop (off+zs.length))):=by
 unfold win
 rw [val_append,val_append,List.length_take,Nat.min_eq_left h]
theorem win_lt {ys zs:List Nat} {off:Nat} (hy:∀x∈ys,x<4294967296) (hz:∀x∈zs,x<4294967296):∀x∈win ys off zs,x<4294967296:=fun x hx=>by
 unfold win at hx
 simp only [List.mem_append] at hx
 rcases hx with h|h|h
 ·exact hy x (List.mem_of_mem_take h)
 ·exact hz x h
 ·exact hy x (List.mem_of_mem_drop h)
end Go.PN
namespace Go.Proofs.YtpcpaekpnfkhhaaGreatDoor
open Go.AI Go.PN
attribute [local irreducible] aw Fa Fh DrK
theorem left_fh (xs:List Nat) (n:Nat) (hx:∀x∈xs,x<4294967296) (hlx:xs.length≤68719476736) (hn:n<32):
  Fh Tryz.prog 325 [] [.c (ws false xs),.c (.int .i64 n)] (fun r h=>∃g zs,r=.c (.osl g 1 0 (xs.length+1))∧h=[(g,.cells 168 (xs.length+1) (wf zs))]∧zs.length=xs.length+1∧(∀y∈zs,y<4294967296)∧val zs=val xs*2^n):=by
 refine fh_of_body Tryz.func325 rfl rfl (by simp [Tryz.ntmps325]) fun C hC=> ?_
 simp only [initS,Nat.reduceAdd]
 refine xG ?_
 refine aw_make (n:=xs.length+1) (c:=xs.length+1) rfl rfl rfl ty_e_ws ty_z_u32 rfl om eE eE rfl rfl om om om fun g hg=> ?_
 rw [make_wf (xs.length+1)]
 refine xSG ?_
 refine aw_lp (fun x:Nat×List Nat=>[(0,.c (ws false xs)),(1,.c (.int .i64 n)),(5,.c (.osl g 1 0 (xs.length+1))),(13,.c (ws false xs)),(14,.c (.int .i64 xs.length)),(15,.c (.int .i64 x.1))]) (fun x=>[(g,.cells 168 (xs.length+1) (wf x.2))])
  (fun x=>x.1≤xs.length∧x.2.length=xs.length+1∧(∀y∈x.2,y<4294967296)∧x.2.getD x.1 0<2^n∧(∀j,x.1<j→x.2.getD j 0=0)∧val x.2=val (xs.take x.1)*2^n) (fun x=>xs.length-x.1) (0,List.replicate (xs.length+1) 0) eB zZ
  ⟨by omega,by simp,replicate_lt _,by rw [getD_replicate];exact Nat.two_pow_pos n,fun j _=>getD_replicate _ _,by simp [val_replicate,val]⟩ ?_
 rintro ⟨i,zs⟩ ⟨hi,hzl,hz,hlow,hhi,hv⟩
 dsimp only at hi hzl hz hlow hhi hv⊢
 refine xG ?_
 refine aw_cond eE (fun hb1=> ?_) (fun hb1=> ?_)
 ·have hi1:i<xs.length:=dT hb1
  have hxi:=getD_lt hx i
  refine xG ?_
  rw [shl_u64 _ n hxi om]
  refine xG ?_
  have hml:xs.getD i 0*2^n%4294967296<4294967296:=Nat.mod_lt _ om
  rw [wrap_u32_nat,or_u32 _ _ (by have:=getD_lt hz i;omega) hml,or_low om hlow]
  have hvl:=or_low_lt (x:=xs.getD i 0) om hlow
  have hst:=left_step (xs:=xs) (zs:=zs) (i:=i) (n:=n) om (hhi _ om) hv
  have hhl:=shl_hi (n:=n) hxi
  have hp32:2^n≤4294967296:=pow_lt_32 om
  refine xW ?_
  refine xS ?_
  rw [updF_wf om]
  refine xG ?_
  rw [nat_div_32,wrap_u32_nat,Nat.mod_eq_of_lt (show xs.getD i 0*2^n/4294967296<4294967296 from by omega)]
  refine xW ?_
  refine xS ?_
  rw [updF_wf (by simp;omega)]
  refine xG ?_
  refine aw_stop ⟨(i+1,_),by dsimp only;omega,eB,zZ,by dsimp only;omega,by simpa using hzl,set_lt (set_lt hz hvl) om,?_,fun j hj=> ?_,hst⟩
  ·dsimp only
   rw [PN.getD_set (by simp;omega)];exact hhl
  ·dsimp only at hj⊢
   rw [PN.getD_set_ne om,PN.getD_set_ne om];exact hhi j om
 ·have hi1:i=xs.length:=dF hb1
  subst hi1
  refine xG ?_
  refine xU ?_
  exact⟨g,zs,rfl,rfl,hzl,hz,by rw [hv,List.take_length]⟩
theorem right_fa (xs:List Nat) (n:Nat) (hx:∀x∈xs,x<4294967296) (hlx:xs.length≤68719476738) (hn:n<32):
  Fa Tryz.prog 328 [.c (ws false xs),.c (.int .i64 n)] (.c (ws true (rgt n xs))):=by
 refine fa_of_body Tryz.func328 rfl rfl (by simp [Tryz.ntmps328]) fun C hC=> ?_
 simp only [initS,Nat.reduceAdd]
 refine xG ?_
 refine aw_make (n:=xs.length) (c:=xs.length) rfl rfl rfl ty_e_ws ty_z_u32 rfl om eE eE rfl rfl om om om fun g hg=> ?_
 rw [make_wf xs.length]
 refine xSG ?_
 refine aw_lp (fun x:Nat×List Nat=>[(0,.c (ws false xs)),(1,.c (.int .i64 n)),(5,.c (.osl g 1 0 xs.length)),(11,.c (.int .i64 xs.length)),(12,.c (.int .i64 x.1))]) (fun x=>[(g,.cells 168 xs.length (wf x.2))])
  (fun x=>x.1≤xs.length∧x.2.length=xs.length∧(∀j,j<x.1→x.2.getD j 0=(rgt n xs).getD j 0)) (fun x=>xs.length-x.1) (0,List.replicate xs.length 0) eB zZ
  ⟨by omega,by simp,fun j hj=>by dsimp only at hj;omega⟩ ?_
 rintro ⟨i,zs⟩ ⟨hi,hzl,hv⟩
 dsimp only at hi hzl hv⊢
 refine xG ?_
 refine aw_cond eE (fun hb1=> ?_) (fun hb1=> ?_)
 ·have hi1:i<xs.length:=dT hb1
  have hxi:=getD_lt hx i
  have hxj:=getD_lt hx (i+1)
  refine xG ?_
  refine aw_callq (word_fa xs i hx) rfl rfl rfl eL ?_
  refine xSG ?_
  refine aw_callq (word_fa xs (i+1) hx) rfl rfl rfl eL ?_
  refine xSG ?_
  rw [shl_u64_32 _ hxj,or_u64_join' _ _ hxj hxi]
  refine xG ?_
  rw [shr_u64 _ n om,wrap_u32_nat]
  have hr:=rgt_getD n xs i hi1
  rw [Nat.add_comm (xs.getD i 0)] at hr
  refine xW ?_
  refine xS ?_
  rw [updF_wf om]
  refine xG ?_
  refine aw_stop ⟨(i+1,_),by dsimp only;omega,eB,zZ,by dsimp only;omega,by simpa using hzl,fun j hj=> ?_⟩
  dsimp only at hj⊢
  by_cases e:j=i
  ·rw [e,PN.getD_set om,hr]
  ·rw [PN.getD_set_ne om];exact hv j om
 ·have hi1:i=xs.length:=dF hb1
  subst hi1
  refine xGT hC ?_
  refine .one (.c (ler_oslws eE om (rgt_length n xs).symm (fun j hj=> ?_)))
  rw [Nat.zero_add,wf_at,hv j hj]
theorem cmp_fa (xs ys:List Nat) (hx:∀x∈xs,x<4294967296) (hy:∀x∈ys,x<4294967296) (hlx:xs.length≤68719476736) (hly:ys.length≤68719476736):
  Fa Tryz.prog 233 [.c (ws false xs),.c (ws false ys)] (.c (.int .i64 (cmpN (val xs) (val ys)))):=by
 refine fa_of_body Tryz.func233 rfl rfl (by simp [Tryz.ntmps233]) fun C hC=> ?_
 simp only [initS,Nat.reduceAdd]
 refine xG ?_
 refine aw_callq (trim_fa xs hx om) rfl rfl rfl eL ?_
 refine xSG ?_
 refine aw_callq (trim_fa ys hy om) rfl rfl rfl eL ?_
 refine xS ?_
 generalize hvx:val xs=a
 generalize hvy:val ys=b
 have hla:(words a).length≤68719476736:=by rw [←hvx];exact Nat.le_trans (words_val_len xs hx) hlx
 have hlb:(words b).length≤68719476736:=by rw [←hvy];exact Nat.le_trans (words_val_len ys hy) hly
 refine xG ?_
 refine aw_cond eE (fun hb=> ?_) (fun hb=> ?_)
 ·have hne:(words a).length≠(words b).length:=by simp at hb;omega
  refine xG ?_
  refine aw_cond eE (fun hb=> ?_) (fun hb=> ?_)
  ·have hlt:(words a).length<(words b).length:=by simpa using hb
   refine xGT hC ?_
   exact .one (.c (ler_int (cmpN_len_lt hlt).symm))
  ·have hge:¬((words a).length:Int)<(words b).length:=by simpa using hb
   refine xGT hC ?_
   exact .one (.c (ler_int (cmpN_len_gt om).symm))
 ·have hlen:(words a).length=(words b).length:=by simp at hb;omega
  refine xG ?_
  refine aw_lp (fun m:Nat=>[(0,.c (ws true (words a))),(1,.c (ws true (words b))),(5,.c (.int .i64 ((m:Int)-1)))]) (fun _=>[]) (fun m=>m≤(words a).length∧(words a).drop m=(words b).drop m) id (words a).length eB zZ
   ⟨Nat.le_refl _,by rw [List.drop_eq_nil_of_le (Nat.le_refl _),List.drop_eq_nil_of_le om]⟩ ?_
  rintro m ⟨hm,hd⟩
  refine xG ?_
  refine aw_cond eE (fun hb=> ?_) (fun hb=> ?_)
  ·have hm1:1≤m:=dT hb
   have e1:((m:Int)-1).toNat=m-1:=by omega
   refine xG ?_
   refine aw_dr 9 ty_mixed (by kernel_rfl) ?_
   refine xG ?_
   refine aw_cond eE (fun hb=> ?_) (fun hb1=> ?_)
   ·have hlt:(words a).getD (m-1) 0<(words b).getD (m-1) 0:=dT hb
    refine xGT hC ?_
    have:=word_lt (words_lt a) (words_lt b) om om (by rw [show m-1+1=m from by omega];exact hd) hlt
    rw [val_words,val_words] at this
    exact .one (.c (ler_int (by simp [cmpN,this])))
   ·have hge:¬((words a).getD (m-1) 0<(words b).getD (m-1) 0):=dF hb1
    refine xG ?_
    refine aw_dr 9 ty_mixed (by kernel_rfl) ?_
    refine xG ?_
    refine aw_cond eE (fun hb=> ?_) (fun hb2=> ?_)
    ·have hgt:(words b).getD (m-1) 0<(words a).getD (m-1) 0:=dT hb
     refine xGT hC ?_
     have:=word_lt (words_lt b) (words_lt a) om om (by rw [show m-1+1=m from by omega];exact hd.symm) hgt
     rw [val_words,val_words] at this
     exact .one (.c (ler_int (by unfold cmpN;rw [if_neg om,if_neg om])))
    ·have hle:¬((words b).getD (m-1) 0<(words a).getD (m-1) 0):=dF hb2
     refine xG ?_
     refine aw_stop ⟨m-1,by simp only [id];omega,eB,zZ,by omega,?_⟩
     rw [drop_getD (words a) (i:=m-1) om,drop_getD (words b) (i:=m-1) om,show m-1+1=m from by omega,hd]
     congr 1
     omega
  ·have hm0:m=0:=dF hb
   subst hm0
   refine xGT hC ?_
   have:a=b:=words_inj (by simpa using hd)
   exact .one (.c (ler_int (by simp [cmpN,this])))
theorem of_fa (n:Int) (h0: -9223372036854775808≤n) (h1:n≤9223372036854775807):Fa Tryz.prog 298 [.c (.int .i64 n)] (.c (ws true (words n.toNat))):=by
 refine fa_of_body Tryz.func298 rfl rfl (by simp [Tryz.ntmps298]) fun C hC=> ?_
 simp only [initS,Nat.reduceAdd]
 refine xG ?_
 refine aw_cond eE (fun hb=> ?_) (fun hb=> ?_)
 ·have hn:n≤0:=of_decide_eq_true hb
  refine xGT hC ?_
  rw [show n.toNat=0 from by omega,words_zero]
  exact .one (.c .nils)
 ·have hn:¬n≤0:=of_decide_eq_false hb
  refine xG ?_
  have e1:wrapZ .u32 n=((n.toNat%4294967296:Nat):Int):=by rw [wrapZ_eq,IntKind.wrap_u32];omega
  have e2:wrapZ .u32 (n/4294967296)=((n.toNat/4294967296:Nat):Int):=by rw [wrapZ_eq,IntKind.wrap_u32];omega
  rw [e1,e2]
  refine aw_buildSlice (xs:=[.tmp 6,.tmp 9]) (cells:=[.int .u32 ((n.toNat%4294967296:Nat):Int),.int .u32 ((n.toNat/4294967296:Nat):Int)]) rfl rfl rfl ty_e_ws (by rw [envP,ty_z_u32];rfl) rfl om om (by intro x hx;simp only [List.mem_cons,List.not_mem_nil,or_false] at hx;rcases hx with rfl|rfl<;>exact⟨rfl,rfl,rfl⟩) eE fun g hg=> ?_
  refine xS ?_
  refine aw_callq (trim_fa [n.toNat%4294967296,n.toNat/4294967296] (by intro x hx;simp only [List.mem_cons,List.not_mem_nil,or_false] at hx;rcases hx with rfl|rfl<;>omega) (by simp)) rfl rfl rfl
   (by refine xS ?_;exact .c (lec_oslws eE om rfl (fun j hj=>by match j,hj with|0,_=>rfl|1,_=>rfl))) ?_
  refine xSGT hC ?_
  rw [show val [n.toNat%4294967296,n.toNat/4294967296]=n.toNat from by simp [val];omega]
  exact .one (.c ler_ws)
theorem wrap_subD {x y b:Nat} (hx:x<4294967296) (hy:y<4294967296) (hb:b≤1):wrapZ .u64 (wrapZ .u64 ((x:Int)-(y:Int))-(b:Int))=((subD x y b:Nat):Int):=by
 rw [wrapZ_eq,wrapZ_eq,IntKind.wrap_u64,IntKind.wrap_u64];unfold subD
 rcases Nat.lt_or_ge x y with h|h
 ·have e:((x:Int)-y)%18446744073709551616=x-y+18446744073709551616:=by omega
  rw [e];omega
 ·have e:((x:Int)-y)%18446744073709551616=x-y:=by omega
  rw [e];omega
theorem take_fh (g off L n:Nat) (ys us vs:List Nat) (hus:us=(ys.drop off).take L) (hL:off+L≤ys.length) (hy:∀x∈ys,x<4294967296) (hv:∀x∈vs,x<4294967296) (hly:ys.length≤68719476738) (hn:n<4294967296) (hvl:vs.length<L):
  Fh Tryz.prog 326 [(g,.cells 168 ys.length (wf ys))] [.c (.osl g 1 off L),.c (ws false vs),.c (.int .u64 n)]
   (fun r h=>∃(b:Nat) (zs:List Nat),r=.c (.bool ((b:Int)==1))∧h=[(g,.cells 168 ys.length (wf (win ys off zs)))]∧zs.length=L∧(∀y∈zs,y<4294967296)∧b≤1∧val zs+n*val vs=val us+4294967296^L*b):=by
 refine fh_of_body Tryz.func326 rfl rfl (by simp [Tryz.ntmps326]) fun C hC=> ?_
 have hu:∀x∈us,x<4294967296:=fun x hx=>hy x (List.mem_of_mem_drop (List.mem_of_mem_take (hus▸hx)))
 have hul:us.length=L:=by rw [hus];simp;omega
 have hself:win ys off us=ys:=by rw [hus];exact win_self hL
 simp only [initS,Nat.reduceAdd]
 refine xG ?_
 refine aw_lp (fun x:Nat×Nat×Nat×List Nat=>[(0,.c (.osl g 1 off L)),(1,.c (ws false vs)),(2,.c (.int .u64 n)),(7,.c (.int .u64 x.2.1)),(8,.c (.int .u64 x.2.2.1)),(12,.c (.int .i64 L)),(13,.c (.int .i64 x.1))]) (fun x=>[(g,.cells 168 ys.length (wf (win ys off x.2.2.2)))])
  (fun x=>x.1≤L∧x.2.1<4294967296∧x.2.2.1≤1∧x.2.2.2.length=L∧(∀y∈x.2.2.2,y<4294967296)∧(∀j,x.1≤j→x.2.2.2.getD j 0=us.getD j 0)∧(vs.length<x.1→x.2.1=0)∧val (x.2.2.2.take x.1)+n*val (vs.take x.1)=val (us.take x.1)+4294967296^x.1*(x.2.1+x.2.2.1)) (fun x=>L-x.1) (0,0,0,us) eB (by rw [hself];exact zZ)
  ⟨Nat.zero_le _,by simp,Nat.zero_le _,hul,hu,fun _ _=>rfl,fun _=>rfl,by simp [val]⟩ ?_
 rintro ⟨i,c,b,zs⟩ ⟨hi,hc,hbb,hzl,hz,hsame,hc0,hval⟩
 dsimp only at hi hc hbb hzl hz hsame hc0 hval⊢
 refine xG ?_
 refine aw_cond eE (fun hb=> ?_) (fun hb=> ?_)
 ·have hin:i<L:=dT hb
  have hui:=getD_lt hu i
  have hvi:=getD_lt hv i
  have hwi:(win ys off zs).getD (off+i) 0=us.getD i 0:=by rw [win_getD om om,hsame i (Nat.le_refl _)]
  obtain⟨hcl,hcq⟩:=take_carry hc hn hvi
  refine xG ?_
  refine aw_callq (word_fa vs i hv) rfl rfl rfl eL ?_
  refine xSG ?_
  obtain⟨st1,st2⟩:=take_step (zs:=zs) (n:=n) (vs:=vs) om hui hbb hval
  have hT:(c:Int)+(n:Int)*((vs.getD i 0:Nat):Int)=((c+n*vs.getD i 0:Nat):Int):=by rw [Int.natCast_add,Int.natCast_mul]
  have hc2:vs.length<i+1→(c+n*vs.getD i 0)/4294967296=0:=fun hlt=>by rw [getD_ge om];omega
  rw [hwi,hT]
  generalize c+n*vs.getD i 0=T at hcl hcq st1 st2 hc2⊢
  have hTm:T%4294967296<4294967296:=Nat.mod_lt _ om
  rw [wrap_u32_nat]
  refine xO ?_
  (refine aw_2q false rfl (fun R hR=> ?_);simp only [go_sem];(with_reducible refine hR _ _ ?_ ?_);(focus (((try simp only [inRange])<;>and_intros<;>first|exact True.intro|omega|trivial);done));clear hR R)
  refine xO ?_
  (refine aw_2q false rfl (fun R hR=> ?_);simp only [go_sem];(with_reducible refine hR _ _ ?_ ?_);(focus (((try simp only [inRange])<;>and_intros<;>first|exact True.intro|omega|trivial);done));clear hR R)
  rw [wrap_subD hui hTm hbb]
  generalize subD (us.getD i 0) (T%4294967296) b=D at st1 st2⊢
  obtain⟨v,b2,e1,e2,hvl,st⟩:∃v b2:Nat,wrapZ .u32 (D:Int)=(v:Int)∧shrZ .u64 (D:Int) 63=(b2:Int)∧v<4294967296∧(val ((zs.set i v).take (i+1))+n*val (vs.take (i+1))=val (us.take (i+1))+4294967296^(i+1)*(T/4294967296+b2)∧b2≤1):=
   ⟨_,_,wrap_u32_nat D,shr63_nat D,Nat.mod_lt _ om,st1,st2⟩
  clear st1 st2
  refine xG ?_
  rw [e1]
  refine xW ?_
  refine xS ?_
  rw [updF_wf (by rw [win_length om];omega),win_set om om]
  refine xG ?_
  rw [e2,nat_div_32]
  refine aw_stop ⟨(i+1,T/4294967296,b2,zs.set i v),by dsimp only;omega,eB,zZ,by dsimp only;omega,hcq,st.2,by simpa using hzl,set_lt hz hvl,fun j hj=> ?_,hc2,st.1⟩
  dsimp only at hj⊢
  rw [PN.getD_set_ne om];exact hsame j om
 ·have hin:i=L:=dF hb
  subst hin
  refine xG ?_
  refine xU ?_
  rw [hc0 hvl,List.take_of_length_le (show zs.length≤i from by omega),List.take_of_length_le (show vs.length≤i from by omega),List.take_of_length_le (show us.length≤i from by omega),Nat.zero_add] at hval
  exact⟨b,zs,rfl,rfl,hzl,hz,hbb,hval⟩
theorem give_fh (g off L:Nat) (ys us vs:List Nat) (hus:us=(ys.drop off).take L) (hL:off+L≤ys.length) (hy:∀x∈ys,x<4294967296) (hv:∀x∈vs,x<4294967296) (hly:ys.length≤68719476738) (hvl:vs.length<L):
  Fh Tryz.prog 327 [(g,.cells 168 ys.length (wf ys))] [.c (.osl g 1 off L),.c (ws false vs)]
   (fun r h=>∃(c:Nat) (zs:List Nat),r=.tup []∧h=[(g,.cells 168 ys.length (wf (win ys off zs)))]∧zs.length=L∧(∀y∈zs,y<4294967296)∧val zs+4294967296^L*c=val us+val vs):=by
 refine fh_of_body Tryz.func327 rfl rfl (by simp [Tryz.ntmps327]) fun C hC=> ?_
 have hu:∀x∈us,x<4294967296:=fun x hx=>hy x (List.mem_of_mem_drop (List.mem_of_mem_take (hus▸hx)))
 have hul:us.length=L:=by rw [hus];simp;omega
 have hself:win ys off us=ys:=by rw [hus];exact win_self hL
 simp only [initS,Nat.reduceAdd]
 refine xG ?_
 refine aw_lp (fun x:Nat×Nat×List Nat=>[(0,.c (.osl g 1 off L)),(1,.c (ws false vs)),(4,.c (.int .u64 x.2.1)),(7,.c (.int .i64 L)),(8,.c (.int .i64 x.1))]) (fun x=>[(g,.cells 168 ys.length (wf (win ys off x.2.2)))])
  (fun x=>x.1≤L∧x.2.1≤1∧x.2.2.length=L∧(∀y∈x.2.2,y<4294967296)∧(∀j,x.1≤j→x.2.2.getD j 0=us.getD j 0)∧val (x.2.2.take x.1)+4294967296^x.1*x.2.1=val (us.take x.1)+val (vs.take x.1)) (fun x=>L-x.1) (0,0,us) eB (by rw [hself];exact zZ)
  ⟨Nat.zero_le _,Nat.zero_le _,hul,hu,fun _ _=>rfl,by simp [val]⟩ ?_
 rintro ⟨i,c,zs⟩ ⟨hi,hc,hzl,hz,hsame,hval⟩
 dsimp only at hi hc hzl hz hsame hval⊢
 refine xG ?_
 refine aw_cond eE (fun hb=> ?_) (fun hb=> ?_)
 ·have hin:i<L:=dT hb
  have hui:=getD_lt hu i
  have hvi:=getD_lt hv i
  have hwi:(win ys off zs).getD (off+i) 0=us.getD i 0:=by rw [win_getD om om,hsame i (Nat.le_refl _)]
  refine xG ?_
  refine aw_dr 12 ty_mixed (by kernel_rfl) ?_
  refine xO ?_
  refine xO ?_
  refine xO ?_
  refine xO ?_
  refine xO ?_
  rw [hwi]
  refine xG ?_
  refine drk_call (word_fa vs i hv) rfl rfl rfl eL ?_
  refine xSG ?_
  have ew:wrapZ .u32 ((c:Int)+(((us.getD i 0:Nat):Int)+((vs.getD i 0:Nat):Int)))=(((c+(us.getD i 0+vs.getD i 0))%4294967296:Nat):Int):=by rw [wrapZ_eq,IntKind.wrap_u32];omega
  rw [ew]
  refine xW ?_
  refine xS ?_
  rw [updF_wf (by rw [win_length om];omega),win_set om om]
  refine xG ?_
  refine aw_stop ⟨(i+1,(c+(us.getD i 0+vs.getD i 0))/4294967296,zs.set i ((c+(us.getD i 0+vs.getD i 0))%4294967296)),by dsimp only;omega,eB,zZ,by dsimp only;omega,by dsimp only;omega,by simpa using hzl,set_lt hz om,fun j hj=> ?_,add_step om hval⟩
  dsimp only at hj⊢
  rw [PN.getD_set_ne om];exact hsame j om
 ·have hin:i=L:=dF hb
  subst hin
  refine xG ?_
  refine xV ?_
  rw [List.take_of_length_le (show zs.length≤i from by omega),List.take_of_length_le (show vs.length≤i from by omega),List.take_of_length_le (show us.length≤i from by omega)] at hval
  exact⟨c,zs,rfl,rfl,hzl,hz,hval⟩
end Go.Proofs.YtpcpaekpnfkhhaaGreatDoor
