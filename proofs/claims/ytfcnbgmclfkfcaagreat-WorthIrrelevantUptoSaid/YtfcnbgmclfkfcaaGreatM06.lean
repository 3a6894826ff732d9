/- Parts of one proof, laid by a program. -/
import Derived.Test.YtfcnbgmclfkfcaaGreatM00
import Derived.Test.YtfcnbgmclfkfcaaGreatM05
set_option linter.unusedSimpArgs false
set_option linter.unusedVariables false
namespace Go.AI
section
variable {E : Env} {K : List It} {σ σ' : Sl} {h : Heap} {l : List Oper} {o : Oper}
theorem CalmX.pure2 {nw:Bool} {q:Prop} {r:AV} (hw:wantA l σ o=some true) (hb:pureOp2 E.P nw h (ev σ) o.op=some (q,r)) (hq:q) (hd:dstOk E.N o.dst=true):CalmX E h l σ o r:=by
 refine⟨hd,fun σ' ext a w Q hs s=> ?_⟩
 rw [if_pos (s.wanted ((want_same hs).trans hw))]
 obtain⟨v,hrun,hr⟩:=pureOp2_ok (fun _=>rfl) hb hq (Stab E.C (ext++h) w) w a.eval Stab.mono' (fun x hx=>by rw [←ev_same hx hs];exact ev_rep s x) (fun g ob hm=>s.heap g ob (List.mem_append_right _ hm))
 unfold Oper.wp
 rw [hrun o rfl]
 exact s.put hd hr
theorem CalmX.skip (hw:wantA l σ o=some false) (hd:dstOk E.N o.dst=true):CalmX E h l σ o (.tup []):=by
 refine⟨hd,fun σ' ext a w Q hs s=> ?_⟩
 rw [if_neg (by rw [s.wanted ((want_same hs).trans hw)];simp)]
theorem Heap.get_ext:∀{ext h:Heap} {g:Nat} {ob:AObj},(ext++h).keys.Nodup→h.get g=some ob→Heap.get (ext++h) g=some ob
 |[],h,g,ob,_,hg=>hg
 |(g0,o0)::ext,h,g,ob,hn,hg=>by
  simp only [List.cons_append,Heap.keys,List.map_cons,List.nodup_cons] at hn
  have hne:¬g0=g:=fun e=>hn.1 (by
   rw [e]
   exact List.mem_map.2 ⟨(g,ob),List.mem_append_right _ (Heap.get_mem hg),rfl⟩)
  simp only [List.cons_append,Heap.get,if_neg hne]
  exact Heap.get_ext hn.2 hg
theorem LeC.ext {ext h:Heap} (hn:(ext++h).keys.Nodup) {x y:CV} (le:LeC h x y):LeC (ext++h) x y:=by
 induction le with
 |refl x=>exact .refl x
 |any x=>exact .any x
 |nils=>exact .nils
 |row ht _ ih=>exact .row ht ih
 |osl hg hm _ ih=>exact .osl (Heap.get_ext hn hg) hm ih
 |ifc _ ih=>exact .ifc ih
theorem LeL.ext {ext h:Heap} (hn:(ext++h).keys.Nodup):∀{xs ys:List CV},LeL h xs ys→LeL (ext++h) xs ys
 |[],[],_=>trivial
 |_::_,_::_,le=>⟨le.1.ext hn,LeL.ext hn le.2⟩
 |[],_::_,le=>le.elim
 |_::_,[],le=>le.elim
theorem LeA.ext {ext h:Heap} (hn:(ext++h).keys.Nodup):∀{xs ys:List AV},LeA h xs ys→LeA (ext++h) xs ys
 |[],[],_=>trivial
 |_::_,_::_,le=>⟨by
   rcases le.1 with l|l
   ·exact .c (l.ext hn)
   ·exact .agg (LeL.ext hn l),LeA.ext hn le.2⟩
 |[],_::_,le=>le.elim
 |_::_,[],le=>le.elim
theorem CalmX.call {f:FuncId} {xs:List Operand} {ts:Array TypeId} {args:List AV} {r:AV} (hf:Fa E.P f args r) (hop:o.op=.call {callee:=.value (.func f),args:=xs.toArray,argTypes:=ts}) (hw:wantA l σ o=some true) (hd:dstOk E.N o.dst=true)
 (le:LeA h (xs.map (ev σ)) args):CalmX E h l σ o r:=by
 refine⟨hd,fun σ' ext a w Q hs s=> ?_⟩
 rw [if_pos (s.wanted ((want_same hs).trans hw))]
 have he:xs.map (ev σ')=xs.map (ev σ):=List.map_congr_left fun x hx=>ev_same (by rw [hop];simp [Op.operands,Call.operands,hx]) hs
 unfold Oper.wp
 have hrun:(execOp a.eval o).run E.P w=.ok (.enter f (xs.map a.eval).toArray) w:=by
  simp only [execOp,hop,resolve,Act.eval,Deferred.ofValue,invoke,Sem.run_bind]
  have:=hf.1.run (#[]++(Array.map a.eval xs.toArray)++ #[]) w
  simp only [Sem.run_pure,Result.andThen_ok]
  rw [show((xs.map a.eval).toArray)=(#[]++(Array.map a.eval xs.toArray)++ #[]) from by simp]
  exact this
 rw [hrun]
 show Calls _ _ _ _ _
 refine(hf.use s (by rw [he];exact le.ext s.nodup)).mono ?_
 rintro e w' ⟨v,rfl,hr,hfr⟩
 exact(s.later hfr).put hd hr
theorem CalmX.of_run {r:AV} (hw:wantA l σ o=some true) (hd:dstOk E.N o.dst=true)
 (hrun:∀σ' ext a w,(∀x∈o.op.operands,ev σ' x=ev σ x)→St E.N E.C σ' (ext++h) a w→∃v w',(execOp a.eval o).run E.P w=.ok (.value v) w'∧Fr (fun _=>False) w w'∧Rep (Stab E.C (ext++h) w') w' r v):CalmX E h l σ o r:=by
 refine⟨hd,fun σ' ext a w Q hs s=> ?_⟩
 rw [if_pos (s.wanted ((want_same hs).trans hw))]
 obtain⟨v,w',hr,hfr,hrep⟩:=hrun σ' ext a w (fun x hx=>ev_same hx hs) s
 unfold Oper.wp
 rw [hr]
 exact(s.later hfr).put hd hrep
theorem CalmX.empty {t e size bytes:Nat} (hop:o.op=.buildSlice t 0 #[]) (hw:wantA l σ o=some true) (hd:dstOk E.N o.dst=true) (ht:tElem E.P t=some (e,size,bytes)):CalmX E h l σ o (.c .nils):=by
 refine CalmX.of_run hw hd fun σ' ext a w _ s=> ?_
 obtain⟨hu,inf,hi,hsz,_⟩:=tElem_spec ht
 refine⟨.slice (some ⟨w.heap.size,0,none⟩) 0 0,w.alloc (.cells #[] e),?_,Fr.alloc _ _ _,_,rfl⟩
 simp only [execOp,hop,Instr.buildSlice,Sem.run_bind,run_underlying hu,Result.andThen_ok,sizeOf,typeInfo,Sem.run_pure]
 simp only [run_program,hi,Result.andThen_ok,Sem.run_pure,hsz,Nat.zero_mul]
 rw [if_neg om,if_pos trivial]
 simp only [Sem.run_bind,Sem.run_pure,Result.andThen_ok]
 have hf:Instr.fill (fun i=>some (i*size,size)) (Array.map (fun x=>(#[]:Array Value)[x%(#[]:Array Value).size]!) (Array.range 0)) (Array.map (fun x:Nat×Operand=>(x.1,a.eval x.2)) #[]).toList=some #[]:=by simp [Instr.fill]
 rw [hf]
 rfl
theorem CalmX.copy {t e size bytes k:Nat} {z:List CV} {f2:Nat→CV} {s x:Operand} {cx:CV} (hop:o.op=.call {callee:=.builtin .append,args:= #[s,x],argTypes:= #[t,t]}) (hw:wantA l σ o=some true) (hd:dstOk E.N o.dst=true)
 (ht:tElem E.P t=some (e,size,bytes)) (hz:tZero E.P e=some z) (hzl:z.length=size) (hs0:0<size) (hs:ev σ s=.c .nils) (hx:ev σ x=.c cx) (hsrc:Src h size cx k f2)
 (h63:k≤maxLen) (hby:k*bytes≤140737488355328):CalmX E h l σ o (.c (.row true size k f2)):=by
 refine CalmX.of_run hw hd fun σ' ext a w he st=> ?_
 have r1:=ev_rep st s
 have r2:=ev_rep st x
 rw [he s (by rw [hop];simp [Op.operands,Call.operands]),hs] at r1
 rw [he x (by rw [hop];simp [Op.operands,Call.operands]),hx] at r2
 obtain⟨A0,hv1⟩:=r1
 obtain⟨A,d,hv2,hA⟩:=hsrc.cells (fun g ob hm=>st.heap g ob (List.mem_append_right _ hm)) r2
 rcases Nat.eq_zero_or_pos k with hk|hk
 ·subst hk
  refine⟨.slice A0 0 0,w,exec_append hop ?_,Fr.refl _ _,A0,0,rfl,Nat.le_refl _,fun h0=>by simp at h0⟩
  rw [hv1,hv2]
  exact run_append_zero ht (Nat.le_refl _)
 ·obtain⟨ad,rfl,hc⟩:=hA (Nat.mul_pos hk hs0)
  obtain⟨news,hnl,hnews⟩:=list_of_cells (k*size) hc
  obtain⟨c',w',cs',hrun,hb',hcs',hle',hcm',hnew,hfr⟩:=append_new (P:=E.P) (ty:=o.type) (d:=d) (A:=A0) ht hz hzl hnl (fun j u e=>(hnews j u e).1) hk h63 hby
  have hlt:w.heap.size<w'.heap.size:=(Array.getElem?_eq_some_iff.1 hb').1
  have hnk:w.heap.size∉(ext++h).keys:=fun hm=>Nat.lt_irrefl _ (st.klt hm)
  have kp:Keeps (Stab E.C (ext++h) w) (Stab E.C (ext++h) w') w w':=
   ⟨fun t b hb=>⟨hb.1,Nat.lt_of_lt_of_le hb.2.1 hfr.size,hb.2.2⟩,fun t b hb=>hfr.block b hb.2.1 (fun x=>x),hfr.has⟩
  refine⟨_,w',exec_append hop (by rw [hv1,hv2];exact hrun),hfr,_,c',rfl,hle',fun _=>⟨_,rfl,⟨.inr st.frame.size,hlt,hnk⟩,fun j hjl=> ?_⟩⟩
  have hl:j<news.length:=by omega
  refine⟨news[j],?_,(hnews _ _ (List.getElem?_eq_getElem hl)).2.keep kp⟩
  rw [add_mk,cell_own hb',Nat.zero_add,hnew j hjl]
  exact List.getElem?_eq_getElem hl
theorem NewX.of_run {rf:Nat→AV} {ob:AObj} (hw:wantA l σ o=some true) (hd:dstOk E.N o.dst=true)
 (hrun:∀σ' ext a w,(∀x∈o.op.operands,ev σ' x=ev σ x)→St E.N E.C σ' (ext++h) a w→∃v w',(execOp a.eval o).run E.P w=.ok (.value v) w'∧Fr (fun _=>False) w w'∧w.heap.size<w'.heap.size∧
  ORep (Stab E.C ((w.heap.size,ob)::(ext++h)) w') w' w.heap.size ob∧Rep (Stab E.C ((w.heap.size,ob)::(ext++h)) w') w' (rf w.heap.size) v):NewX E h l σ o rf ob:=by
 refine⟨hd,fun σ' ext a w Q hs s=>⟨s.wanted ((want_same hs).trans hw),?_⟩⟩
 obtain⟨v,w',hr,hfr,hlt,ho,hrep⟩:=hrun σ' ext a w (fun x hx=>ev_same hx hs) s
 unfold Oper.wp
 rw [hr]
 exact⟨w.heap.size,(s.new rfl hfr hlt ho).put hd hrep⟩
theorem NewX.make {t e size bytes n c:Nat} {z:List CV} {xl xc:Operand} {kl kc:IntKind} {nl nc:Int} (hop:o.op=.makeSlice t xl xc) (hw:wantA l σ o=some true) (hd:dstOk E.N o.dst=true) (ht:tElem E.P t=some (e,size,bytes))
 (hz:tZero E.P e=some z) (hzl:z.length=size) (hs0:0<size) (hl:ev σ xl=.c (.int kl nl)) (hc:ev σ xc=.c (.int kc nc)) (hn:nl=n) (hcn:nc=c) (hnc:n≤c) (hby:bytes*c≤281474976710656) (hc63:c≤9223372036854775807):
 NewX E h l σ o (fun g=>.c (.osl g size 0 n)) (.cells e (c*size) (fun j=>ofL z (j%size))):=by
 refine NewX.of_run hw hd fun σ' ext a w he s=> ?_
 obtain⟨hu,inf,hi,hsz,hbb⟩:=tElem_spec ht
 obtain⟨i',zv,hi',hzv,rfl⟩:=tZero_spec hz
 rw [hi] at hi'
 injection hi' with hi'
 subst hi'
 have h1:a.eval xl=.int kl n:=by have:=ev_rep s xl;rw [he xl (by rw [hop];simp [Op.operands]),hl,hn] at this;exact this
 have h2:a.eval xc=.int kc c:=by have:=ev_rep s xc;rw [he xc (by rw [hop];simp [Op.operands]),hc,hcn] at this;exact this
 have hb':(inf.bytes:Int)*(c:Int)≤281474976710656:=by
  have h:((inf.bytes*c:Nat):Int)≤281474976710656:=by rw [hbb];omega
  rwa [Int.natCast_mul] at h
 have hr:=run_make (P:=E.P) w t e inf zv hu hi hzv kl kc n c om om hb' om
 simp only [Int.toNat_natCast] at hr
 refine⟨.slice (some ⟨w.heap.size,0,none⟩) n c,w.alloc (.cells (madeCells zv.cells (c*inf.size)) e),?_,Fr.alloc _ _ _,by simp,?_,?_⟩
 ·simp only [execOp,hop,h1,h2,Sem.run_bind,hr,Result.andThen_ok]
  rfl
 ·refine⟨_,heap_alloc_new w _,by rw [size_madeCells,hsz];exact Nat.le_refl _,fun j hj=> ?_⟩
  have hzs:zv.cells.size=size:=by simpa using hzl
  have hlt:j%size<zv.cells.size:=by rw [hzs];exact Nat.mod_lt _ hs0
  refine⟨zv.cells[j%size],?_,?_⟩
  ·have hlt':j%size<zv.cells.size:=hlt
   simp only [madeCells,hsz,hzs]
   simp [hj,hlt',getElem!_pos]
  ·exact ofL_map_cst zv.cells.toList (j%size) (by simpa using hlt) _ _
 ·exact⟨c,rfl,hnc,by unfold maxLen;omega,_,e,⟨_,heap_alloc_new w _⟩,by rw [size_madeCells,hsz];simp⟩
def noLook (l:List Oper) (n d:Nat):Bool:=(l.take n).all fun o=> !(looks l o).contains d
theorem noLook_spec {n d:Nat} (hn:noLook l n d=true) (i:Nat) (o:Oper) (hi:i<n) (ho:l[i]?=some o):d∉looks l o:=fun hm=>by
 unfold noLook at hn
 rw [List.all_eq_true] at hn
 have:o∈l.take n:=List.mem_of_getElem? (i:=i) (by rw [List.getElem?_take,if_pos hi];exact ho)
 have:=hn o this
 simp [hm] at this
def DrB (E:Env) (h:Heap) (l:List Oper) (K:List It) (M i k:Nat) (rest:List Oper) (σ:Sl) (pre:List Al):Prop:=
 ∃ps σ' al,ps.map (·.1)=rest.take k∧DrX E h l i ps σ σ' al∧(∀x∈al,noLook l M x.d=true)∧∀γ,aw E (.ops l (rest.drop k)::K) (addA (pre++al) (fun _=>true) γ σ') (extA (pre++al) (fun _=>true) γ++h)
theorem aw_drB {id:Nat} (n:Nat) (hm:E.P.follows .mixedOrders=true) (hok:(lexOk l&&tailT l n&&decide (n≤l.length))=true) (k:DrB E h l K n 0 n l σ []):aw E (.code (.region id l.toArray true)::K) σ h:=fun a w s=>by
 obtain⟨ps,σ',al,hps,d,hnl,k⟩:=k
 simp only [Bool.and_eq_true,decide_eq_true_eq] at hok
 refine wp_region_any hm ?_
 have s':=s.later (Fr.drew (fun _=>False) w (w.drawn+1))
 have e0:∀j,(Array.replicate l.length false).getD j false=false:=fun j=>by
  rw [Array.getD_eq_getD_getElem?]
  simp only [Array.getElem?_replicate]
  split<;>rfl
 have hun:∀m,unl (fun j=>(Array.replicate l.length false).getD j false) m=m:=by
  intro m
  induction m with
  |zero=>rfl
  |succ m ih=>rw [unl,ih,e0];rfl
 have hadd0:∀(L:Nat→Bool) (al:List Al) (σ:Sl) (γ:Nat→Nat),(∀j,L j=false)→addA al L γ σ=σ∧extA al L γ=[]:=by
  intro L al σ γ hL
  induction al with
  |nil=>exact⟨rfl,rfl⟩
  |cons x al ih=>simp only [addA,extA,hL,Bool.false_eq_true,if_false];exact ih
 have hadd:=fun(al:List Al) (σ:Sl) (γ:Nat→Nat)=>hadd0 (fun j=>(Array.replicate l.length false).getD j false) al σ γ e0
 have:=drawX_any (Q:=exW E K) hok.1.1 hok.1.2 hok.2 hps d (fun x hx i o hi ho=>noLook_spec (hnl x hx) i o hi ho) (fun γ a w st=>k γ a w st) n (Array.replicate l.length false) (fun _=>0) a {w with drawn:=w.drawn+1} (hun n) (by simp) (fun i o _ hl=>by rw [e0] at hl;cases hl) (fun j _ _=>e0 j) (by
  rw [(hadd al _ _).1,(hadd al σ _).2,List.nil_append]
  refine s'.weak (fun t=>.inr ?_) (List.Sublist.refl _)
  rw [sigL_get_none ps _ σ t (fun j p hp hb=> ?_)]
  exfalso
  have hjl:j<ps.length:=(List.getElem?_eq_some_iff.1 hp).1
  have hpl:ps.length=n:=by have:=congrArg List.length hps;simp at this;omega
  rw [marks_get om,e0] at hb
  cases hb)
 rw [show n+(l.length-n)=l.length from by omega] at this
 simpa using this
theorem drb_nil {M i:Nat} {rest:List Oper} {pre:List Al} (k:∀γ,aw E (.ops l rest::K) (addA pre (fun _=>true) γ σ) (extA pre (fun _=>true) γ++h)):DrB E h l K M i 0 rest σ pre:=
 ⟨[],σ,[],by simp,.nil,by simp,fun γ=>by simpa using k γ⟩
theorem drb_calm {M i n:Nat} {rest:List Oper} {pre:List Al} {r:AV} (hc:CalmX E h l σ o r) (k:DrB E h l K M (i+1) n rest (σ.setO o.dst r) pre):DrB E h l K M i (n+1) (o::rest) σ pre:=by
 obtain⟨ps,σ',al,h1,h2,h3,h4⟩:=k
 exact⟨(o,r)::ps,σ',al,by simp [h1],.calm hc h2,h3,by simpa using h4⟩
theorem drb_new {M i n d:Nat} {rest:List Oper} {pre:List Al} {rf:Nat→AV} {ob:AObj} (hd:o.dst=some d) (hc:NewX E h l σ o rf ob) (hn:noLook l M d=true) (k:DrB E h l K M (i+1) n rest (σ.set d (.c .any)) (pre++[⟨i,d,rf,ob⟩])):DrB E h l K M i (n+1) (o::rest) σ pre:=by
 obtain⟨ps,σ',al,h1,h2,h3,h4⟩:=k
 refine⟨(o,.c .any)::ps,σ',⟨i,d,rf,ob⟩::al,by simp [h1],.new hd hc (by rw [hd];exact h2),fun x hx=> ?_,fun γ=> ?_⟩
 ·rcases List.mem_cons.1 hx with rfl|hx
  ·exact hn
  ·exact h3 x hx
 ·have:=h4 γ
  simpa using this
theorem drb_2q {M i n:Nat} {rest:List Oper} {pre:List Al} (nw:Bool) (hd:dstOk E.N o.dst=true) (k:∀R:Option (Prop×Sl)→Prop,(∀q σ',q→DrB E h l K M (i+1) n rest σ' pre→R (some (q,σ')))→R (runOp2 E.P nw h l o σ)):DrB E h l K M i (n+1) (o::rest) σ pre:=by
 have:=k (fun x=>x=runOp2 E.P nw h l o σ→DrB E h l K M i (n+1) (o::rest) σ pre) (fun q σ' hq ha e=>by
  unfold runOp2 at e
  split at e
  ·rename_i hw
   split at e
   ·rename_i q1 r hp
    simp only [Option.some.injEq,Prod.mk.injEq] at e
    obtain⟨rfl,rfl⟩:=e
    exact drb_calm (CalmX.pure2 hw hp hq hd) ha
   ·cases e
  ·rename_i hw
   simp only [Option.some.injEq,Prod.mk.injEq] at e
   obtain⟨rfl,rfl⟩:=e
   exact drb_calm (CalmX.skip hw hd) ha
  ·cases e)
 exact this rfl
end
attribute [go_sem] addA extA
end Go.AI
namespace Go.AI
section
variable {E : Env} {K : List It} {σ σ' : Sl} {h : Heap} {l : List Oper} {o : Oper}
theorem Oper_wp_imp {P:Program} {o:Oper} {a:Act} {w:World} {K K':Act→World→Prop} {Q Q':Exit→Act→World→Prop} (h:∀a w,K a w→K' a w) (hq:∀e a w,e≠.normal→Q e a w→Q' e a w) (hh:o.wp P a w K Q):o.wp P a w K' Q':=by
 have hl:LetsOut Q→LetsOut Q':=fun⟨a,w,x⟩=>⟨a,w,hq _ _ _ (by simp) x⟩
 unfold Oper.wp at*
 generalize (execOp a.eval o).run P w=r at*
 cases r with
 |ok n w'=>
  cases n<;>simp only [Oper.upon] at hh⊢ <;>
   first
    |exact h _ _ hh
    |exact Calls.mono hh (fun e w'' he=>by cases e<;>first|exact h _ _ he|exact hl he|exact hq _ _ _ (by simp) he)
    |exact Rows.mono hh (fun _ _ he=>h _ _ he)
    |exact hh
 |halt x w'=>cases x<;>simp only [Oper.upon] at hh⊢ <;>first|exact hq _ _ _ (by simp) hh|exact hh|exact hl hh
end
end Go.AI
namespace Go.AI
section
variable {E : Env} {K : List It} {σ σ' : Sl} {h : Heap} {l : List Oper} {o : Oper}
theorem tailG_any {n:Nat} (hok:lexOk l=true) (hE:∀i o,l[i]?=some o→∀j,n≤j→j<i→edgeT l 12 o j=true) {Q:Exit→Act→World→Prop}:∀(fuel i:Nat) (listed:Array Bool) (a:Act) (w:World),n≤i→i+fuel=l.length→listed.size=l.length→(∀j,j<l.length→listed.getD j false=decide (j<i))→
 wpList E.P l.toArray Q (l.drop i) a w→wpAny E.P .any l.toArray Q fuel listed a w
 |0,i,listed,a,w,_,hf,hs,hl,k=>by
  have:l.drop i=[]:=List.drop_eq_nil_of_le om
  rw [this] at k
  refine⟨?_,k⟩
  rw [List.eq_nil_iff_forall_not_mem]
  intro j hj
  obtain⟨h1,h2,_⟩:=(mem_ready hs).1 hj
  rw [hl j h1] at h2
  simp at h2
  omega
 |fuel+1,i,listed,a,w,hn,hf,hs,hl,k=>by
  have hi:i<l.length:=by omega
  have ho:l[i]?=some l[i]:=List.getElem?_eq_getElem hi
  have hcl:∀q o,l[q]?=some o→listed.getD q false=true→∀e∈o.after,Region.binds .any e=true→listed.getD e.on false=true:=fun q o hq hlq e he hb=>by
   have hql:q<l.length:=(List.getElem?_eq_some_iff.1 hq).1
   rw [hl q hql] at hlq
   have:=lex_back hok hq he hb
   simp only [decide_eq_true_eq] at hlq
   rw [hl e.on om];simp;omega
  have hready:i∈Region.ready .any l.toArray listed:=(mem_ready hs).2 ⟨hi,by rw [hl i hi];simp,fun o ho' e he hb=>by
   have:=lex_back hok ho' he hb
   rw [hl e.on om];simpa using this⟩
  refine⟨fun e=>by rw [e] at hready;simp at hready,fun j hj=> ?_⟩
  obtain⟨h1,h2,h3⟩:=(mem_ready hs).1 hj
  have hji:j=i:=by
   rw [hl j h1] at h2
   simp only [decide_eq_false_iff_not,Nat.not_lt] at h2
   rcases Nat.lt_or_ge i j with hlt|hge
   ·have:=edgeT_listed (L:=fun q=>listed.getD q false) hcl 12 _ i (h3 _ (List.getElem?_eq_getElem h1)) (hE j _ (List.getElem?_eq_getElem h1) i om hlt)
    simp only [hl i hi] at this
    simp at this
   ·omega
  subst hji
  rw [List.drop_eq_getElem_cons hi] at k
  unfold wpOp
  rw [show l.toArray[j]?=some l[j] from by simp [hi]]
  have hstep:∀a w,wpList E.P l.toArray Q (l.drop (j+1)) a w→wpAny E.P .any l.toArray Q fuel (listed.setIfInBounds j true) a w:=fun a w k'=>
   tailG_any hok hE fuel (j+1) _ a w om om (by simpa using hs) (fun q hq=>by
    rw [getD_set om,hl q hq]
    by_cases h:q=j
    ·subst h;simp
    ·rw [if_neg h];congr 1;simp;omega) k'
  simp only [wpList] at k
  simp only
  split
  ·rename_i hw
   rw [if_pos hw] at k
   exact k.imp (Oper.wp_mono hstep) id
  ·rename_i hw
   rw [if_neg hw] at k
   exact hstep _ _ k
set_option maxHeartbeats 1000000 in
theorem drawL_any {n q:Nat} {ps:List (Oper×AV)} {al:List Al} (hok:lexOk l=true) (hA:∀i o,n≤i→l[i]?=some o→∀j,j<i→(j=q∧i=n)∨edgeT l 12 o j=true) (hqn:q<n) (hnl':n<l.length) (hps:ps.map (·.1)=l.take n) (d:DrX E h l 0 ps σ σ' al) (hqal:∀x∈al,x.i≠q) (hnl:∀x∈al,∀i o,i<n→l[i]?=some o→x.d∉looks l o) {Q:Exit→Act→World→Prop}
 (k:∀γ a w,St E.N E.C (addA al (fun _=>true) γ σ') (extA al (fun _=>true) γ++h) a w→wpList E.P l.toArray Q (l.drop n) a w)
 (k2:∀γ a w,St E.N E.C (addA al (fun j=>decide (j≠q)) γ (sigL ps ((List.range n).map fun j=>decide (j≠q)) σ)) (extA al (fun j=>decide (j≠q)) γ++h) a w→∀on oq,l[n]?=some on→l[q]?=some oq→wpList E.P l.toArray Q (on::oq::l.drop (n+1)) a w):∀(u:Nat) (listed:Array Bool) (γ:Nat→Nat) (a:Act) (w:World),unl (fun j=>listed.getD j false) n=u→listed.size=l.length→
 (∀i o,l[i]?=some o→listed.getD i false=true→∀e∈o.after,Region.binds .any e=true→listed.getD e.on false=true)→(∀j,n≤j→j<l.length→listed.getD j false=false)→
 St E.N E.C (addA al (fun j=>listed.getD j false) γ (sigL ps (marks n listed) σ)) (extA al (fun j=>listed.getD j false) γ++h) a w→wpAny E.P .any l.toArray Q (u+(l.length-n)) listed a w:=by
 have hn:n≤l.length:=by omega
 have hpl:ps.length=n:=by have:=congrArg List.length hps;simp at this;omega
 have hpi:∀(j:Nat) (p:Oper×AV),ps[j]?=some p→l[j]?=some p.1∧j<n:=by
  intro j p hp
  have hj:j<ps.length:=(List.getElem?_eq_some_iff.1 hp).1
  have h1:(ps.map (·.1))[j]?=some p.1:=by simp [hp]
  rw [hps,List.getElem?_take] at h1
  split at h1
  ·exact⟨h1,by omega⟩
  ·cases h1
 obtain⟨hal,hnd⟩:=d.al_
 have halp:∀x∈al,x.i<n∧∃p,ps[x.i]?=some p∧p.1.dst=some x.d:=fun x hx=>by
  obtain⟨_,h2,p,h3,h4⟩:=hal x hx
  exact⟨by omega,p,by simpa using h3,h4⟩
 have hone:∀x∈al,∀(j:Nat) (p:Oper×AV),ps[j]?=some p→p.1.dst=some x.d→j=x.i:=fun x hx j p hp hd=>by
  obtain⟨hxn,q,hq,hqd⟩:=halp x hx
  rcases Nat.decEq j x.i with hne|he
  ·exact absurd hd ((lex_pair hok (hpi j p hp).1 (hpi x.i q hq).1 hqd).2 (fun e=>hne e.symm))
  ·exact he
 have huniq:∀x∈al,∀y∈al,y.d=x.d→y=x:=fun x hx y hy e=>by
  obtain⟨_,q,hq,hqd⟩:=halp y hy
  have hi:=hone x hx y.i q hq (by rw [hqd,e])
  have:∀(l:List Al),(l.map (·.i)).Nodup→x∈l→y∈l→y=x:=by
   intro l
   induction l with
   |nil=>intro _ hm;simp at hm
   |cons z l ih=>
    intro hnd h1 h2
    simp only [List.map_cons,List.nodup_cons] at hnd
    rcases List.mem_cons.1 h1 with e1|m1<;>rcases List.mem_cons.1 h2 with e2|m2
    ·rw [e1,e2]
    ·exact absurd (List.mem_map.2 ⟨y,m2,by rw [hi,e1]⟩) hnd.1
    ·exact absurd (List.mem_map.2 ⟨x,m1,by rw [←hi,e2]⟩) hnd.1
    ·exact ih hnd.2 m1 m2
  exact this al hnd hx hy
 intro u
 induction u with
 |zero=>
  intro listed γ a w hu hs _ htl st
  have hall:=unl_zero n hu
  rw [Nat.zero_add]
  refine tailG_any hok (fun i o hi j h1 h2=>(hA i o om hi j h2).resolve_left om) (l.length-n) n listed a w (Nat.le_refl _) om hs (fun j hj=> ?_) (k γ a w ?_)
  ·rcases Nat.lt_or_ge j n with h1|h1
   ·rw [hall j h1];simp [h1]
   ·rw [htl j h1 hj];simp;omega
  ·have e:marks n listed=(List.range ps.length).map fun _=>true:=by
    unfold marks
    rw [hpl]
    exact List.map_congr_left fun j hj=>hall j (by simpa using hj)
   have hc:∀x∈al,(fun j=>listed.getD j false) x.i=(fun _=>true) x.i∧γ x.i=γ x.i:=fun x hx=>⟨hall x.i (halp x hx).1,rfl⟩
   rw [d.end_,←e,←addA_congr (L:=fun j=>listed.getD j false) (L':=fun _=>true) (γ:=γ) (γ':=γ) hc,←extA_congr (L:=fun j=>listed.getD j false) (L':=fun _=>true) (γ:=γ) (γ':=γ) hc]
   exact st
 |succ u ih=>
  intro listed γ a w hu hs hcl htl st
  rw [show u+1+(l.length-n)=(u+(l.length-n))+1 from by omega]
  obtain⟨j0,hj0,hj1,hj2⟩:=unl_pos (L:=fun j=>listed.getD j false) n om
  have hready:j0∈Region.ready .any l.toArray listed:=(mem_ready hs).2 ⟨by omega,hj1,fun o ho e he hb=>hj2 _ (lex_back hok ho he hb)⟩
  refine⟨fun e=>by rw [e] at hready;simp at hready,fun i hi=> ?_⟩
  obtain⟨h1,h2,h3⟩:=(mem_ready hs).1 hi
  have ho:l[i]?=some l[i]:=List.getElem?_eq_getElem h1
  rcases Nat.lt_or_ge i n with hin|hge
  rotate_left
  ·
   have hall:∀j,j<n→j≠q→listed.getD j false=true:=fun j hj hne=>
    edgeT_listed (L:=fun q=>listed.getD q false) hcl 12 _ j (h3 _ ho) ((hA i _ hge ho j om).resolve_left (fun x=>hne x.1))
   have hj0q:j0=q:=Classical.byContradiction fun hne=>by
    have:=hall j0 hj0 hne
    rw [hj1] at this;cases this
   have hin:i=n:=Classical.byContradiction fun hne=>by
    have:=edgeT_listed (L:=fun q=>listed.getD q false) hcl 12 _ j0 (h3 _ ho) ((hA i _ hge ho j0 om).resolve_left (fun x=>hne x.2))
    simp only [hj1] at this;cases this
   subst hin hj0q
   have hu0:u=0:=by
    have h5:=unl_set (L:=fun j=>listed.getD j false) i hj0 hj1
    have h6:∀m,m≤i→unl (fun j=>if j=j0 then true else listed.getD j false) m=0:=by
     intro m
     induction m with
     |zero=>intro _;rfl
     |succ m ihm=>
      intro hm
      rw [unl,ihm om]
      by_cases e:m=j0
      ·rw [if_pos e];rfl
      ·rw [if_neg e,hall m om e];rfl
    rw [h6 i (Nat.le_refl _)] at h5
    omega
   subst hu0
   have hqo:l[j0]?=some l[j0]:=List.getElem?_eq_getElem om
   have kk:=k2 γ a w (by
    have e:marks i listed=(List.range i).map fun j=>decide (j≠j0):=by
     unfold marks
     refine List.map_congr_left fun j hj=> ?_
     rw [List.mem_range] at hj
     by_cases e:j=j0
     ·subst e;rw [hj1];simp
     ·rw [hall j hj e];simp [e]
    have hc:∀x∈al,(fun j=>listed.getD j false) x.i=(fun j=>decide (j≠j0)) x.i∧γ x.i=γ x.i:=fun x hx=>⟨by show listed.getD x.i false=decide (x.i≠j0);rw [hall x.i (halp x hx).1 (hqal x hx)];simp [hqal x hx],rfl⟩
    rw [←e,←addA_congr (L:=fun j=>listed.getD j false) (γ:=γ) hc,←extA_congr (L:=fun j=>listed.getD j false) (γ:=γ) hc]
    exact st) l[i] l[j0] ho hqo
   have his:i<listed.size:=by omega
   have hL1:∀j,j<l.length→(listed.setIfInBounds i true).getD j false=(decide (j≤i)&&decide (j≠j0)):=fun j hj=>by
    rw [getD_set his]
    by_cases e1:j=i
    ·subst e1;rw [if_pos rfl];simp;omega
    ·rw [if_neg e1]
     rcases Nat.lt_or_ge j i with hlt|hge2
     ·by_cases e2:j=j0
      ·subst e2;rw [hj1];simp
      ·rw [hall j hlt e2];simp [e2];omega
     ·rw [htl j hge2 hj];simp;omega
   have hcl1:∀m o,l[m]?=some o→(listed.setIfInBounds i true).getD m false=true→∀e∈o.after,Region.binds .any e=true→(listed.setIfInBounds i true).getD e.on false=true:=fun m o hm hlm e he hb=>by
    rw [getD_set his] at hlm⊢
    by_cases hmi:m=i
    ·subst hmi
     by_cases hei:e.on=m
     ·rw [if_pos hei]
     ·rw [if_neg hei];exact h3 o hm e he hb
    ·rw [if_neg hmi] at hlm
     have:=hcl m o hm hlm e he hb
     by_cases hei:e.on=i
     ·rw [if_pos hei]
     ·rw [if_neg hei];exact this
   have hstep:∀a w,wpList E.P l.toArray Q (l[j0]::l.drop (i+1)) a w→wpAny E.P .any l.toArray Q (0+(l.length-i)) (listed.setIfInBounds i true) a w:=by
    intro a w kq
    rw [show 0+(l.length-i)=(l.length-(i+1))+1 from by omega]
    have hs1:(listed.setIfInBounds i true).size=l.length:=by simpa using hs
    have hrq:j0∈Region.ready .any l.toArray (listed.setIfInBounds i true):=(mem_ready hs1).2 ⟨by omega,by rw [hL1 j0 om];simp,fun o ho' e he hb=>by
     have:=lex_back hok ho' he hb
     rw [hL1 e.on om];simp;omega⟩
    refine⟨fun e=>by rw [e] at hrq;simp at hrq,fun m hm=> ?_⟩
    obtain⟨g1,g2,g3⟩:=(mem_ready hs1).1 hm
    have hmq:m=j0:=Classical.byContradiction fun hne=>by
     have hgt:i<m:=by
      rw [hL1 m g1] at g2
      refine Classical.byContradiction fun hn=> ?_
      rw [decide_eq_true (show m≤i from by omega),decide_eq_true hne] at g2
      cases g2
     have:=edgeT_listed (L:=fun q=>(listed.setIfInBounds i true).getD q false) hcl1 12 _ j0 (g3 _ (List.getElem?_eq_getElem g1)) ((hA m _ om (List.getElem?_eq_getElem g1) j0 om).resolve_left (fun x=>by omega))
     simp only [hL1 j0 om] at this
     simp at this
    subst hmq
    have hnext:∀a w,wpList E.P l.toArray Q (l.drop (i+1)) a w→wpAny E.P .any l.toArray Q (l.length-(i+1)) ((listed.setIfInBounds i true).setIfInBounds m true) a w:=fun a w k'=>
     tailG_any hok (n:=i+1) (fun i' o hi' j h1 h2=>(hA i' o om hi' j h2).resolve_left om) (l.length-(i+1)) (i+1) _ a w (Nat.le_refl _) om (by simpa using hs) (fun j hj=>by
      rw [getD_set (by simpa using (show m<listed.size from by omega)),hL1 j hj]
      by_cases e:j=m
      ·subst e;rw [if_pos rfl];simp;omega
      ·rw [if_neg e];simp [e];omega) k'
    unfold wpOp
    rw [show l.toArray[m]?=some l[m] from by simp [show m<l.length from by omega]]
    simp only [wpList] at kq
    simp only
    split
    ·rename_i hw
     rw [if_pos hw] at kq
     exact kq.imp (Oper.wp_mono hnext) id
    ·rename_i hw
     rw [if_neg hw] at kq
     exact hnext _ _ kq
   unfold wpOp
   rw [show l.toArray[i]?=some l[i] from by simp [h1]]
   change wpList E.P l.toArray Q (l[i]::(l[j0]::l.drop (i+1))) a w at kk
   unfold wpList at kk
   simp only
   split
   ·rename_i hw
    rw [if_pos hw] at kk
    exact kk.imp (Oper.wp_mono hstep) id
   ·rename_i hw
    rw [if_neg hw] at kk
    exact hstep _ _ kk
  have hpi':ps[i]?=some ps[i]:=List.getElem?_eq_getElem om
  obtain⟨hp1,_⟩:=hpi i _ hpi'
  rw [ho] at hp1
  injection hp1 with hp1
  have hat:=d.at_ i ps[i].1 ps[i].2 hpi'
  rw [Nat.zero_add] at hat
  have hsame:∀t∈looks l ps[i].1,(addA al (fun j=>listed.getD j false) γ (sigL ps (marks n listed) σ)).get t=(sigL ps ((List.range ps.length).map fun j=>decide (j<i)) σ).get t:=by
   intro t htl'
   rw [addA_out fun x hx _ e=>hnl x hx i l[i] hin ho (by rw [hp1,e];exact htl')]
   by_cases hex:∃(j:Nat) (p:Oper×AV),ps[j]?=some p∧j<i∧p.1.dst=some t
   ·obtain⟨j,p,hp,hji,hdt⟩:=hex
    obtain⟨hlp,hjn⟩:=hpi j p hp
    have huniq:∀(j':Nat) (p':Oper×AV),j'≠j→ps[j']?=some p'→p'.1.dst≠some t:=fun j' p' hne hp'=>
     (lex_pair hok (hpi j' p' hp').1 hlp hdt).2 (fun e=>hne e.symm)
    obtain⟨e,he,hon,hb⟩:=edge_mem (((lex_pair hok (by rw [←hp1];exact ho) hlp hdt).1 htl').1 hji)
    have hlj:listed.getD j false=true:=by rw [←hon];exact h3 _ ho e (by rw [hp1];exact he) hb
    rw [sigL_get_some ps _ σ t j p.1 p.2 hp (by rw [marks_get hjn,hlj]) hdt huniq,
     sigL_get_some ps _ σ t j p.1 p.2 hp (by simp [show j<ps.length from by omega,hji]) hdt huniq]
   ·rw [sigL_get_none ps _ σ t (fun j p hp hb hdt=> ?_),sigL_get_none ps _ σ t (fun j p hp hb hdt=> ?_)]
    ·have hjl:j<ps.length:=(List.getElem?_eq_some_iff.1 hp).1
     simp [hjl] at hb
     exact hex ⟨j,p,hp,hb,hdt⟩
    ·obtain⟨hlp,hjn⟩:=hpi j p hp
     rw [marks_get hjn] at hb
     injection hb with hb
     rcases Nat.lt_trichotomy j i with hlt|heq|hgt
     ·exact hex ⟨j,p,hp,hlt,hdt⟩
     ·subst heq;rw [h2] at hb;cases hb
     ·obtain⟨e,he,hon,hb'⟩:=edge_mem (((lex_pair hok (by rw [←hp1];exact ho) hlp hdt).1 htl').2 hgt)
      have:=hcl j _ hlp hb e he hb'
      rw [hon,h2] at this
      cases this
  have his:i<listed.size:=by omega
  have hsig:∀t,(sigL ps (marks n (listed.setIfInBounds i true)) σ).get t=((sigL ps (marks n listed) σ).setO ps[i].1.dst ps[i].2).get t:=by
   intro t
   rw [setO_get]
   by_cases hdt:ps[i].1.dst=some t
   ·rw [if_pos hdt]
    have huniq:∀(j':Nat) (p':Oper×AV),j'≠i→ps[j']?=some p'→p'.1.dst≠some t:=fun j' p' hne hp'=>
     (lex_pair hok (hpi j' p' hp').1 (hpi i _ hpi').1 hdt).2 (fun e=>hne e.symm)
    exact sigL_get_some ps _ σ t i ps[i].1 ps[i].2 hpi' (by rw [marks_get hin,getD_set his,if_pos rfl]) hdt huniq
   ·rw [if_neg hdt]
    by_cases hex:∃(j:Nat) (p:Oper×AV),ps[j]?=some p∧listed.getD j false=true∧p.1.dst=some t
    ·obtain⟨j,p,hp,hlj,hdt'⟩:=hex
     obtain⟨hlp,hjn⟩:=hpi j p hp
     have huniq:∀(j':Nat) (p':Oper×AV),j'≠j→ps[j']?=some p'→p'.1.dst≠some t:=fun j' p' hne hp'=>
      (lex_pair hok (hpi j' p' hp').1 hlp hdt').2 (fun e=>hne e.symm)
     rw [sigL_get_some ps _ σ t j p.1 p.2 hp (by rw [marks_get hjn,getD_set his];split<;>first|rfl|rw [hlj]) hdt' huniq,
      sigL_get_some ps _ σ t j p.1 p.2 hp (by rw [marks_get hjn,hlj]) hdt' huniq]
    ·rw [sigL_get_none ps _ σ t (fun j p hp hb hdt'=> ?_),sigL_get_none ps _ σ t (fun j p hp hb hdt'=> ?_)]
     ·obtain⟨_,hjn⟩:=hpi j p hp
      rw [marks_get hjn] at hb
      injection hb with hb
      exact hex ⟨j,p,hp,hb,hdt'⟩
     ·obtain⟨_,hjn⟩:=hpi j p hp
      rw [marks_get hjn,getD_set his] at hb
      injection hb with hb
      split at hb
      ·rename_i hji;subst hji;rw [hpi'] at hp;injection hp with hp;subst hp;exact hdt hdt'
      ·exact hex ⟨j,p,hp,hb,hdt'⟩
  have hL:(fun j=>(listed.setIfInBounds i true).getD j false)=fun j=>if j=i then true else listed.getD j false:=funext fun j=>getD_set his
  have hgo:∀(γ':Nat→Nat) a' w',St E.N E.C (addA al (fun j=>if j=i then true else listed.getD j false) γ' (sigL ps (marks n (listed.setIfInBounds i true)) σ)) (extA al (fun j=>if j=i then true else listed.getD j false) γ'++h) a' w'→wpAny E.P .any l.toArray Q (u+(l.length-n)) (listed.setIfInBounds i true) a' w':=by
   intro γ' a' w' st'
   refine ih _ γ' a' w' ?_ (by simpa using hs) (fun q o hq hlq e he hb=> ?_) (fun j hj hjl=> ?_) (by rw [hL];exact st')
   ·rw [hL]
    have:=unl_set (L:=fun j=>listed.getD j false) n hin h2
    omega
   ·rw [getD_set his] at hlq⊢
    by_cases hqi:q=i
    ·subst hqi
     by_cases hei:e.on=q
     ·rw [if_pos hei]
     ·rw [if_neg hei];exact h3 o hq e he hb
    ·rw [if_neg hqi] at hlq
     have:=hcl q o hq hlq e he hb
     by_cases hei:e.on=i
     ·rw [if_pos hei]
     ·rw [if_neg hei];exact this
   ·rw [getD_set his,if_neg om];exact htl j hj hjl
  unfold wpOp
  rw [show l.toArray[i]?=some l[i] from by simp [h1]]
  simp only
  rw [hp1]
  rcases hat with ⟨⟨hd,hc⟩,hno⟩|⟨hany,x,hx,hxi,hxd,hd,hc⟩
  ·
   have hnext:∀a' w',St E.N E.C ((addA al (fun j=>listed.getD j false) γ (sigL ps (marks n listed) σ)).setO ps[i].1.dst ps[i].2) (extA al (fun j=>listed.getD j false) γ++h) a' w'→wpAny E.P .any l.toArray Q (u+(l.length-n)) (listed.setIfInBounds i true) a' w':=by
    intro a' w' st'
    refine hgo γ a' w' ?_
    have hcg:∀x∈al,(fun j=>if j=i then true else listed.getD j false) x.i=(fun j=>listed.getD j false) x.i∧γ x.i=γ x.i:=fun x hx=>⟨by simp [hno x hx],rfl⟩
    rw [extA_congr (L:=fun j=>if j=i then true else listed.getD j false) (L':=fun j=>listed.getD j false) (γ:=γ) (γ':=γ) hcg,addA_congr (L:=fun j=>if j=i then true else listed.getD j false) (L':=fun j=>listed.getD j false) (γ:=γ) (γ':=γ) hcg]
    refine St.weak st' (fun t=>.inr ?_) (List.Sublist.refl _)
    by_cases hex:∃x∈al,listed.getD x.i false=true∧x.d=t
    ·obtain⟨x,hx,hlx,rfl⟩:=hex
     rw [addA_in hx hlx (huniq x hx),setO_get,if_neg (fun e=>hno x hx (hone x hx i _ hpi' e).symm),addA_in hx hlx (huniq x hx)]
    ·have hout:∀x∈al,(fun j=>listed.getD j false) x.i=true→x.d≠t:=fun x hx hlx e=>hex ⟨x,hx,hlx,e⟩
     rw [addA_out hout,hsig,setO_get,setO_get,addA_out hout]
   have hcalm:=hc _ _ a w Q hsame st
   split
   ·rename_i hw
    rw [if_pos hw] at hcalm
    exact .inl (Oper.wp_mono hnext hcalm)
   ·rename_i hw
    rw [if_neg hw] at hcalm
    have st2:=st.put hd (r:=.tup []) (v:=undef) ⟨[],rfl,trivial⟩
    rw [←hcalm] at st2
    exact hnext _ _ st2
  ·
   obtain⟨hw,hnew⟩:=hc _ _ a w Q hsame st
   rw [if_pos hw]
   refine .inl (Oper.wp_mono ?_ hnew)
   rintro a' w' ⟨g,st'⟩
   refine hgo (fun j=>if j=i then g else γ j) a' w' ?_
   have hli:listed.getD x.i false=false:=by rw [hxi];exact h2
   have hperm:=extA_new (L:=fun j=>listed.getD j false) (γ:=γ) (g:=g) hx hli hnd
   rw [hxi] at hperm
   refine St.perm (h:=((g,x.ob)::(extA al (fun j=>listed.getD j false) γ++h))) ?_ ?_
   ·rw [←List.cons_append]
    exact(hperm.append_right h).symm
   refine St.weak st' (fun t=>.inr ?_) (List.Sublist.refl _)
   by_cases hxt:x.d=t
   ·subst hxt
    have:=addA_in (L:=fun j=>if j=i then true else listed.getD j false) (γ:=fun j=>if j=i then g else γ j) (σ:=sigL ps (marks n (listed.setIfInBounds i true)) σ) hx (by simp [hxi]) (huniq x hx)
    rw [this,setO_get,if_pos hxd]
    simp [hxi]
   ·rw [setO_get,if_neg (fun e=>hxt (by rw [hxd] at e;injection e))]
    by_cases hex:∃y∈al,listed.getD y.i false=true∧y.d=t
    ·obtain⟨y,hy,hly,rfl⟩:=hex
     have hyi:y.i≠i:=fun e=>by rw [e,h2] at hly;cases hly
     have e1:=addA_in (L:=fun j=>if j=i then true else listed.getD j false) (γ:=fun j=>if j=i then g else γ j) (σ:=sigL ps (marks n (listed.setIfInBounds i true)) σ) hy (by simp [hyi,hly]) (huniq y hy)
     rw [e1,addA_in hy hly (huniq y hy)]
     simp [hyi]
    ·have hout:∀y∈al,(fun j=>listed.getD j false) y.i=true→y.d≠t:=fun y hy hly e=>hex ⟨y,hy,hly,e⟩
     have hout':∀y∈al,(fun j=>if j=i then true else listed.getD j false) y.i=true→y.d≠t:=fun y hy hly e=>by
      by_cases hyi:y.i=i
      ·have:y=x:=by
        obtain⟨_,q,hq,hqd⟩:=halp y hy
        rw [hyi,hpi'] at hq
        injection hq with hq
        rw [←hq,hxd] at hqd
        injection hqd with hqd
        exact huniq x hx y hy hqd.symm
       exact hxt (by rw [←this];exact e)
      ·simp only [hyi,if_false] at hly
       exact hout y hy hly e
     rw [addA_out hout',hsig,setO_get,if_neg (fun e=>hxt (by rw [hxd] at e;injection e)),addA_out hout]
def DrG (E:Env) (h:Heap) (l:List Oper) (Fin:Sl→List Al→Prop) (M i k:Nat) (rest:List Oper) (σ:Sl) (pre:List Al):Prop:=
 ∃ps σ' al,ps.map (·.1)=rest.take k∧DrX E h l i ps σ σ' al∧(∀x∈al,noLook l M x.d=true)∧Fin σ' (pre++al)
section
variable {Fin : Sl → List Al → Prop} {M i n : Nat} {rest : List Oper} {pre : List Al}
theorem drg_nil (k:Fin σ pre):DrG E h l Fin M i 0 rest σ pre:=⟨[],σ,[],by simp,.nil,by simp,by simpa using k⟩
theorem drg_calm {r:AV} (hc:CalmX E h l σ o r) (k:DrG E h l Fin M (i+1) n rest (σ.setO o.dst r) pre):DrG E h l Fin M i (n+1) (o::rest) σ pre:=by
 obtain⟨ps,σ',al,h1,h2,h3,h4⟩:=k
 exact⟨(o,r)::ps,σ',al,by simp [h1],.calm hc h2,h3,h4⟩
theorem drg_new {d:Nat} {rf:Nat→AV} {ob:AObj} (hd:o.dst=some d) (hc:NewX E h l σ o rf ob) (hn:noLook l M d=true) (k:DrG E h l Fin M (i+1) n rest (σ.set d (.c .any)) (pre++[⟨i,d,rf,ob⟩])):DrG E h l Fin M i (n+1) (o::rest) σ pre:=by
 obtain⟨ps,σ',al,h1,h2,h3,h4⟩:=k
 refine⟨(o,.c .any)::ps,σ',⟨i,d,rf,ob⟩::al,by simp [h1],.new hd hc (by rw [hd];exact h2),fun x hx=> ?_,by simpa using h4⟩
 rcases List.mem_cons.1 hx with rfl|hx
 ·exact hn
 ·exact h3 x hx
theorem drg_2q (hd:dstOk E.N o.dst=true) (k:∀R:Option (Prop×Sl)→Prop,(∀q σ',DrG E h l Fin M (i+1) n rest σ' pre→(hq:q:=by(try simp only [inRange])<;>and_intros<;>first|exact True.intro|omega|trivial)→R (some (q,σ')))→R (runOp2 E.P true h l o σ)):DrG E h l Fin M i (n+1) (o::rest) σ pre:=by
 have:=k (fun x=>x=runOp2 E.P true h l o σ→DrG E h l Fin M i (n+1) (o::rest) σ pre) (fun q σ' ha hq e=>by
  unfold runOp2 at e
  split at e
  ·rename_i hw
   split at e
   ·rename_i q1 r hp
    simp only [Option.some.injEq,Prod.mk.injEq] at e
    obtain⟨rfl,rfl⟩:=e
    exact drg_calm (CalmX.pure2 hw hp hq hd) ha
   ·cases e
  ·rename_i hw
   simp only [Option.some.injEq,Prod.mk.injEq] at e
   obtain⟨rfl,rfl⟩:=e
   exact drg_calm (CalmX.skip hw hd) ha
  ·cases e)
 exact this rfl
end
theorem NewX.alloc {t:TypeId} {z:List CV} (hop:o.op=.alloc t) (hw:wantA l σ o=some true) (hd:dstOk E.N o.dst=true) (hz:tZero E.P t=some z):NewX E h l σ o (fun g=>.c (.optr g 0)) (.cells t z.length (ofL z)):=by
 refine NewX.of_run hw hd fun σ' ext a w he s=> ?_
 obtain⟨i,v,hi,hv,rfl⟩:=tZero_spec hz
 refine⟨.pointer (some ⟨w.heap.size,0,none⟩),w.alloc (.cells v.cells.toList.toArray t),?_,Fr.alloc _ _ _,by simp,orep_new (cstL_rep _ _ _),rfl⟩
 simp only [execOp,hop,Instr.alloc,zeroValue,typeInfo,newVar,newRow,Sem.run_bind]
 simp [hi,hv]
def lateT (l:List Oper) (n q:Nat):Bool:=l.zipIdx.all fun(o,i)=>decide (i<n)||(List.range i).all fun j=>(decide (j=q)&&decide (i=n))||edgeT l 12 o j
theorem lateT_edge {n q:Nat} (ht:lateT l n q=true) {i:Nat} {o:Oper} (ho:l[i]?=some o) (hn:n≤i) {j:Nat} (hj:j<i):(j=q∧i=n)∨edgeT l 12 o j=true:=by
 unfold lateT at ht
 rw [List.all_eq_true] at ht
 have:=ht (o,i) (by rw [List.mem_zipIdx_iff_getElem?];exact ho)
 simp only [Bool.or_eq_true,Bool.and_eq_true,decide_eq_true_eq,List.all_eq_true,List.mem_range] at this
 exact this.resolve_left om j hj
theorem aw_drL {id:Nat} (n q dq:Nat) (hm:E.P.follows .mixedOrders=true) (hok:(lexOk l&&lateT l n q&&decide (q<n)&&decide (n<l.length)&&((l[q]?).bind (·.dst)==some dq))=true)
 (k:DrG E h l (fun σ' al=>(∀x∈al,x.i≠q)∧(∀γ,aw E (.ops l (l.drop n)::K) (addA al (fun _=>true) γ σ') (extA al (fun _=>true) γ++h))∧∀γ,aw E (.ops l ((l.drop n).take 1++((l.drop q).take 1++l.drop (n+1)))::K) (addA al (fun _=>true) γ (σ'.set dq (.c .any))) (extA al (fun _=>true) γ++h)) n 0 n l σ []):aw E (.code (.region id l.toArray true)::K) σ h:=fun a w s=>by
 obtain⟨ps,σ',al,hps,d,hnl,hqal,k1,k2⟩:=k
 rw [List.nil_append] at hqal k1 k2
 simp only [Bool.and_eq_true,decide_eq_true_eq,beq_iff_eq] at hok
 obtain⟨⟨⟨⟨hlx,hlt⟩,hqn⟩,hnl'⟩,hdq⟩:=hok
 have hpl:ps.length=n:=by have:=congrArg List.length hps;simp at this;omega
 have hpi:∀(j:Nat) (p:Oper×AV),ps[j]?=some p→l[j]?=some p.1∧j<n:=by
  intro j p hp
  have hj:j<ps.length:=(List.getElem?_eq_some_iff.1 hp).1
  have h1:(ps.map (·.1))[j]?=some p.1:=by simp [hp]
  rw [hps,List.getElem?_take] at h1
  split at h1
  ·exact⟨h1,by omega⟩
  ·cases h1
 have hqo:l[q]?=some l[q]:=List.getElem?_eq_getElem om
 have hqd:l[q].dst=some dq:=by rw [hqo] at hdq;exact hdq
 obtain⟨hal,hnd⟩:=d.al_
 have halp:∀x∈al,x.i<n∧∃p,ps[x.i]?=some p∧p.1.dst=some x.d:=fun x hx=>by
  obtain⟨_,h2,p,h3,h4⟩:=hal x hx
  exact⟨by omega,p,by simpa using h3,h4⟩
 have huniq:∀x∈al,∀y∈al,y.d=x.d→y=x:=fun x hx y hy e=>by
  obtain⟨_,p,hp,hpd⟩:=halp x hx
  obtain⟨_,p',hp',hpd'⟩:=halp y hy
  have hi:y.i=x.i:=by
   rcases Nat.decEq y.i x.i with hne|he
   ·exact absurd (by rw [hpd',e]) ((lex_pair hlx (hpi y.i p' hp').1 (hpi x.i p hp).1 hpd).2 (fun e=>hne e.symm))
   ·exact he
  have:∀(l:List Al),(l.map (·.i)).Nodup→x∈l→y∈l→y=x:=by
   intro l
   induction l with
   |nil=>intro _ hm;simp at hm
   |cons z l ih=>
    intro hnd h1 h2
    simp only [List.map_cons,List.nodup_cons] at hnd
    rcases List.mem_cons.1 h1 with e1|m1<;>rcases List.mem_cons.1 h2 with e2|m2
    ·rw [e1,e2]
    ·exact absurd (List.mem_map.2 ⟨y,m2,by rw [hi,e1]⟩) hnd.1
    ·exact absurd (List.mem_map.2 ⟨x,m1,by rw [←hi,e2]⟩) hnd.1
    ·exact ih hnd.2 m1 m2
  exact this al hnd hx hy
 refine wp_region_any hm ?_
 have s':=s.later (Fr.drew (fun _=>False) w (w.drawn+1))
 have e0:∀j,(Array.replicate l.length false).getD j false=false:=fun j=>by
  rw [Array.getD_eq_getD_getElem?]
  simp only [Array.getElem?_replicate]
  split<;>rfl
 have hun:∀m,unl (fun j=>(Array.replicate l.length false).getD j false) m=m:=by
  intro m
  induction m with
  |zero=>rfl
  |succ m ih=>rw [unl,ih,e0];rfl
 have hadd0:∀(L:Nat→Bool) (al:List Al) (σ:Sl) (γ:Nat→Nat),(∀j,L j=false)→addA al L γ σ=σ∧extA al L γ=[]:=by
  intro L al σ γ hL
  induction al with
  |nil=>exact⟨rfl,rfl⟩
  |cons x al ih=>simp only [addA,extA,hL,Bool.false_eq_true,if_false];exact ih
 have hadd:=fun(al:List Al) (σ:Sl) (γ:Nat→Nat)=>hadd0 (fun j=>(Array.replicate l.length false).getD j false) al σ γ e0
 have:=drawL_any (q:=q) (Q:=exW E K) hlx (fun i o h1 h2 j h3=>lateT_edge hlt h2 h1 h3) hqn hnl' hps d hqal (fun x hx i o hi ho=>noLook_spec (hnl x hx) i o hi ho) (fun γ a w st=>k1 γ a w st) (fun γ a w st on oq hon hoq=>by
  have hc:∀x∈al,(fun j=>decide (j≠q)) x.i=(fun _=>true) x.i∧γ x.i=γ x.i:=fun x hx=>⟨by simp [hqal x hx],rfl⟩
  rw [addA_congr (L:=fun j=>decide (j≠q)) (L':=fun _=>true) (γ:=γ) hc,extA_congr (L:=fun j=>decide (j≠q)) (L':=fun _=>true) (γ:=γ) hc] at st
  have h2:=k2 γ a w (st.weak (fun t=> ?_) (List.Sublist.refl _))
  ·have e1:(l.drop n).take 1=[on]:=by
    rw [List.drop_eq_getElem_cons hnl']
    rw [List.getElem?_eq_getElem hnl'] at hon
    injection hon with hon
    simp [hon]
   have e2:(l.drop q).take 1=[oq]:=by
    rw [List.drop_eq_getElem_cons om]
    rw [hqo] at hoq
    injection hoq with hoq
    simp [hoq]
   rw [e1,e2] at h2
   exact h2
  ·by_cases hx:∃x∈al,x.d=t
   ·obtain⟨x,hx,rfl⟩:=hx
    exact .inr (by rw [addA_in hx rfl (huniq x hx),addA_in hx rfl (huniq x hx)])
   ·have ho:∀x∈al,(fun _:Nat=>true) x.i=true→x.d≠t:=fun x hx' _ e=>hx ⟨x,hx',e⟩
    rw [addA_out ho,addA_out ho,Sl.get_set]
    by_cases e:dq=t
    ·rw [if_pos e];exact .inl rfl
    ·rw [if_neg e]
     refine .inr ?_
     rw [d.end_,hpl]
     by_cases hex:∃(j:Nat) (p:Oper×AV),ps[j]?=some p∧p.1.dst=some t
     ·obtain⟨j,p,hp,hdt⟩:=hex
      obtain⟨hlp,hjn⟩:=hpi j p hp
      have huq:∀(j':Nat) (p':Oper×AV),j'≠j→ps[j']?=some p'→p'.1.dst≠some t:=fun j' p' hne hp'=>
       (lex_pair hlx (hpi j' p' hp').1 hlp hdt).2 (fun e=>hne e.symm)
      have hjq:j≠q:=fun ejq=>by
       subst ejq
       rw [hqo] at hlp
       injection hlp with hlp
       rw [←hlp,hqd] at hdt
       injection hdt with hdt
       exact e hdt
      rw [sigL_get_some ps _ σ t j p.1 p.2 hp (by simp [hjn]) hdt huq,sigL_get_some ps _ σ t j p.1 p.2 hp (by simp [hjn,hjq]) hdt huq]
     ·rw [sigL_get_none ps _ σ t (fun j p hp _ hdt=>hex ⟨j,p,hp,hdt⟩),sigL_get_none ps _ σ t (fun j p hp _ hdt=>hex ⟨j,p,hp,hdt⟩)]) n (Array.replicate l.length false) (fun _=>0) a {w with drawn:=w.drawn+1} (hun n) (by simp) (fun i o _ hl=>by rw [e0] at hl;cases hl) (fun j _ _=>e0 j) (by
  rw [(hadd al _ _).1,(hadd al σ _).2,List.nil_append]
  refine s'.weak (fun t=>.inr ?_) (List.Sublist.refl _)
  rw [sigL_get_none ps _ σ t (fun j p hp hb=> ?_)]
  exfalso
  have hjl:j<ps.length:=(List.getElem?_eq_some_iff.1 hp).1
  rw [marks_get om,e0] at hb
  cases hb)
 rw [show n+(l.length-n)=l.length from by omega] at this
 simpa using this
end
end Go.AI
