/- Parts of one proof, laid by a program. -/
import Derived.Test.YtefekdejgbceiaaGreatM00
import Derived.Test.YtefekdejgbceiaaGreatM12
set_option linter.unusedSimpArgs false
set_option linter.unusedVariables false
set_option maxRecDepth 100000
set_option maxHeartbeats 12800000
namespace Go.AI
section
variable {E : Env} {K : List It} {σ σ' : Sl} {h : Heap} {all rest : List Oper} {o : Oper}
def fnB (f:FuncId) (g:Nat):CV:=.raw (.func (.func f) #[.pointer (some ⟨g,0,none⟩)] #[])
theorem aw_makeFuncB {f:FuncId} {x:Operand} {g:Nat} (hop:o.op=.makeFunc (.func f) #[x] #[]) (hw:wantA all σ o=some true) (hd:dstOk E.N o.dst=true) (hx:ev σ x=.c (.optr g 0))
  (k:aw E (.ops all rest::K) (σ.setO o.dst (.c (fnB f g))) h):aw E (.ops all (o::rest)::K) σ h:=by
 refine aw_step hw (fun a w s=> ?_) k
 have h1:=ev_rep s x
 rw [hx] at h1
 have h1':a.eval x=.pointer (some ⟨g,0,none⟩):=h1
 refine⟨.func (.func f) #[.pointer (some ⟨g,0,none⟩)] #[],w,.inl ?_,s.put hd rfl⟩
 have h2:Array.map a.eval #[x]= #[.pointer (some ⟨g,0,none⟩)]:=by simp [h1']
 have h3:Array.map a.eval #[]= #[]:=by simp
 simp only [execOp,hop,Instr.makeFunc,h2,h3]
 rfl
theorem aw_callhB {f:FuncId} {x:Operand} {g:Nat} {xs:List Operand} {ts:Array TypeId} {hc hr:Heap} {args:List AV} {Q:AV→Heap→Prop} (hf:Fh E.P f hc (.c (.optr g 0)::args) Q) (hop:o.op=.call {callee:=.value x,args:=xs.toArray,argTypes:=ts}) (hw:wantA all σ o=some true) (hd:dstOk E.N o.dst=true) (hx:ev σ x=.c (fnB f g))
  (hp:h.Perm (hc++hr)) (le:LeA [] (xs.map (ev σ)) args) (k:∀r h',Q r h'→(∀g∈h'.keys,g∉hr.keys)→aw E (.ops all rest::K) (σ.setO o.dst r) (h'++hr)):aw E (.ops all (o::rest)::K) σ h:=fun a w s=>by
 show wpList _ _ _ _ _ _
 unfold wpList
 rw [if_pos (s.wanted hw)]
 refine .inl ?_
 unfold Oper.wp
 have hv:a.eval x=.func (.func f) #[.pointer (some ⟨g,0,none⟩)] #[]:=by
  have:=ev_rep s x
  rw [hx] at this
  exact this
 have hrun:(execOp a.eval o).run E.P w=.ok (.enter f (.pointer (some ⟨g,0,none⟩)::xs.map a.eval).toArray) w:=by
  simp only [execOp,hop,resolve,hv,Deferred.ofValue,invoke,Sem.run_bind]
  have:=hf.1.run (#[.pointer (some ⟨g,0,none⟩)]++(Array.map a.eval xs.toArray)++ #[]) w
  simp only [Sem.run_pure,Result.andThen_ok]
  rw [show((Value.pointer (some ⟨g,0,none⟩)::xs.map a.eval).toArray)=(#[.pointer (some ⟨g,0,none⟩)]++(Array.map a.eval xs.toArray)++ #[]) from by simp]
  exact this
 rw [hrun]
 show Calls _ _ _ _ _
 refine(hf.use s hp (show RepT (Stab E.C h w) w (.c (.optr g 0)::args) (Value.pointer (some ⟨g,0,none⟩)::xs.map a.eval) from⟨rfl,LeA.rep0 s le⟩)).mono ?_
 rintro e w' ⟨v,r,h',rfl,hq,hfr,s',hrep⟩
 exact k r h' hq hfr _ _ (s'.put hd hrep)
end
end Go.AI
namespace Go.Proofs.YtefekdejgbceiaaGreat
open Go.AI Go.PN
attribute [local irreducible] aw Fa Fh DrK
def OpOk (f:FuncId) (g:Bool→Bool→Bool):Prop:=∀(gT gU gM:Nat) {o pl:List Int} (_:OdOk o pl) {og:Option Nat} {ns:List DN} {mm:Mem3} (_:TS o og ns mm) (_:ns.length+2^(o.length+2)≤1000000000) {a b:Int} (_:RefOk ns a) (_:RefOk ns b),
 Fh Tryz.prog f (THp gT gU gM og o pl ns mm) [.c (.optr gT 0),.c (.int .i64 a),.c (.int .i64 b)] (OpQ gT gU gM o pl ns (2^(o.length+2)) fun s=>g (evalD ns s a) (evalD ns s b))
theorem OpQ.more {gT gU gM:Nat} {o pl:List Int} {ns:List DN} {n m:Nat} {f:Nat→Bool} (h:n≤m) {x:AV} {hp:Heap}:OpQ gT gU gM o pl ns n f x hp→OpQ gT gU gM o pl ns m f x hp:=by
 rintro ⟨og',ns',mm',r,h1,h2,h3⟩
 exact⟨og',ns',mm',r,h1,⟨h2.tab,h2.pre,by have:=h2.len;omega⟩,h3⟩
theorem and_opok:OpOk 61 fun a b=>a&&b:=fun gT gU gM o pl ho og ns mm hs hn a b ha hb=>by
 have hB:2^(o.length+2)=2^(o.length+1)*2:=Nat.pow_succ ..
 exact(tand_fh gT gU gM ho hs om ha hb).mono fun x h=>OpQ.more om
theorem or_opok:OpOk 62 fun a b=>a||b:=fun gT gU gM o pl ho og ns mm hs hn a b ha hb=>by
 have hB:2^(o.length+2)=2^(o.length+1)*2:=Nat.pow_succ ..
 exact(tor_fh gT gU gM ho hs om ha hb).mono fun x h=>OpQ.more om
theorem xor_opok:OpOk 74 fun a b=>a !=b:=fun gT gU gM o pl ho og ns mm hs hn a b ha hb=>by
 have hB:2^(o.length+2)=2^(o.length+1)*2:=Nat.pow_succ ..
 exact(txor_fh gT gU gM ho hs om ha hb).mono fun x h=>OpQ.more om
theorem join_fh {F:FuncId} {g:Bool→Bool→Bool} (hF:OpOk F g) (gT gU gM:Nat) {o pl:List Int} (ho:OdOk o pl) {og:Option Nat} {ns:List DN} {mm:Mem3} (hs:TS o og ns mm) (refs:List Int) (hl:refs.length≤1000) (hn:ns.length+refs.length*2^(o.length+2)≤1000000000) {a:Int} (ha:RefOk ns a) (hr:∀r∈refs,RefOk ns r):
  Fh Tryz.prog 73 (THp gT gU gM og o pl ns mm) [.c (is true refs),.c (.int .i64 a),.c (fnB F gT)] (OpQ gT gU gM o pl ns (refs.length*2^(o.length+2)) fun s=>refs.foldl (fun b r=>g b (evalD ns s r)) (evalD ns s a)):=by
 refine fh_of_body Tryz.func73 rfl rfl (by simp [Tryz.ntmps73]) fun C hC=> ?_
 simp only [initS,Nat.reduceAdd]
 refine xG ?_
 refine aw_lp (fun y:Nat×Option Nat×List DN×Mem3×Int=>[(1,.c (.int .i64 y.2.2.2.2)),(2,.c (fnB F gT)),(9,.c (is true refs)),(10,.c (.int .i64 refs.length)),(11,.c (.int .i64 y.1))]) (fun y=>THp gT gU gM y.2.1 o pl y.2.2.1 y.2.2.2.1)
  (fun y=>y.1≤refs.length∧TS o y.2.1 y.2.2.1 y.2.2.2.1∧Later o ns y.2.2.1 (y.1*2^(o.length+2))∧RefOk y.2.2.1 y.2.2.2.2∧∀s,evalD y.2.2.1 s y.2.2.2.2=(refs.take y.1).foldl (fun b r=>g b (evalD ns s r)) (evalD ns s a)) (fun y=>refs.length-y.1) (0,og,ns,mm,a) eB zZ ⟨Nat.zero_le _,hs,Later.refl hs.tab _,ha,fun s=>rfl⟩ ?_
 rintro ⟨j,og1,ns1,mm1,a1⟩ ⟨hj,h1,h2,h3,h4⟩
 dsimp only at hj h1 h2 h3 h4⊢
 refine xG ?_
 refine xF (fun hb=>?_) fun hb=>?_
 ·have hb':j<refs.length:=dT hb
  have hmul:(j+1)*2^(o.length+2)=j*2^(o.length+2)+2^(o.length+2):=Nat.succ_mul ..
  have hle:(j+1)*2^(o.length+2)≤refs.length*2^(o.length+2):=Nat.mul_le_mul_right _ hb'
  have hl2:=h2.len
  have hrj:RefOk ns (refs.getD j 0):=by rw [getDZ hb'];exact hr _ (List.getElem_mem hb')
  refine xG ?_
  refine aw_callhB (hr:=[]) (hF gT gU gM ho h1 om h3 (h2.ref hrj)) rfl rfl rfl eE (by rw [List.append_nil]) eL ?_
  rintro _ _ ⟨og2,ns2,mm2,r,e1,e2,e3,e4,rfl,rfl⟩ _
  rw [List.append_nil]
  refine xSG ?_
  refine aw_stop ⟨(j+1,og2,ns2,mm2,r),by dsimp only;omega,eB,zZ,by dsimp only;omega,e1,h2.trans e2 (by dsimp only;omega),e3,fun s=> ?_⟩
  dsimp only
  rw [e4]
  dsimp only
  rw [h4,h2.eval hs.tab hrj,List.take_succ_eq_append_getElem hb',List.foldl_append,getDZ hb']
  rfl
 ·have hb':j=refs.length:=dF hb
  subst hb'
  rw [List.take_length] at h4
  refine xGU ?_
  exact⟨og1,ns1,mm1,a1,h1,h2,h3,h4,rfl,rfl⟩
end Go.Proofs.YtefekdejgbceiaaGreat
namespace Go.PN
open Go.AI
def cntH (ns:List DN) (refs:List Int) (s:Nat):Nat:=(refs.filter fun r=>evalD ns s r).length
theorem cntH_push (ns:List DN) (refs:List Int) (r:Int) (s:Nat):cntH ns (refs++[r]) s=cntH ns refs s+if evalD ns s r then 1 else 0:=by
 unfold cntH
 rw [List.filter_append,List.length_append,List.filter_cons]
 split<;>simp
structure NeedOk (ns0:List DN) (refs:List Int) (ns:List DN) (zs:List Int) (k i jj:Nat):Prop where
 len:zs.length=k+1
 at':∀q,q≤k→RefOk ns (zs.getD q 0)∧∀s,evalD ns s (zs.getD q 0)=decide (q≤cntH ns0 (refs.take (if jj<q then i+1 else i)) s)
end Go.PN
namespace Go.Proofs.YtefekdejgbceiaaGreat
open Go.AI Go.PN
attribute [local irreducible] aw Fa Fh DrK
theorem need_start {ns:List DN} {refs:List Int} {k:Nat}:NeedOk ns refs ns ((List.replicate (k+1) 0).set 0 1) k 0 k:=by
 refine⟨by simp,fun q hq=> ?_⟩
 rw [if_neg om,List.take_zero]
 by_cases h:q=0
 ·subst h
  rw [getZset (by simp)]
  exact⟨ref1,fun s=>by rw [ev1];simp⟩
 ·rw [getZset' h]
  have:(List.replicate (k+1) (0:Int)).getD q 0=0:=by
   rw [List.getD_eq_getElem?_getD,List.getElem?_replicate];split<;>rfl
  rw [this]
  exact⟨ref0,fun s=>by rw [ev0];show false=decide (q≤0);exact(decide_eq_false om).symm⟩
theorem need_round {ns0 ns:List DN} {refs zs:List Int} {k i:Nat} (h:NeedOk ns0 refs ns zs k i 0):NeedOk ns0 refs ns zs k (i+1) k:=by
 refine⟨h.len,fun q hq=> ?_⟩
 obtain⟨h1,h2⟩:=h.at' q hq
 refine⟨h1,fun s=> ?_⟩
 rw [h2 s,if_neg (show¬k<q by omega)]
 by_cases e:q=0
 ·subst e;simp
 ·rw [if_pos om]
theorem need_step {o:List Int} {ns0 ns ns2:List DN} {refs zs:List Int} {k i q n m:Nat} (ht0:TabOk o ns0) (hl0:Later o ns0 ns m) (ht:TabOk o ns) (hl:Later o ns ns2 n) (h:NeedOk ns0 refs ns zs k i (q+1)) (hq:q+1≤k) (hi:i<refs.length) (hr:RefOk ns0 (refs.getD i 0)) {r:Int} (hr2:RefOk ns2 r)
  (he:∀s,evalD ns2 s r=if evalD ns s (refs.getD i 0) then evalD ns s (zs.getD q 0) else evalD ns s (zs.getD (q+1) 0)):NeedOk ns0 refs ns2 (zs.set (q+1) r) k i q:=by
 have hzl:=h.len
 refine⟨by rw [List.length_set];exact hzl,fun p hp=> ?_⟩
 by_cases e:p=q+1
 ·subst e
  rw [getZset om]
  refine⟨hr2,fun s=> ?_⟩
  rw [he s,hl0.eval ht0 hr,(h.at' q om).2 s,(h.at' (q+1) om).2 s,if_pos (show q<q+1 by omega),if_neg (show¬q+1<q by omega),if_neg (show¬q+1<q+1 by omega),List.take_succ_eq_append_getElem hi,cntH_push,←getDZ hi]
  cases evalD ns0 s (refs.getD i 0)<;>simp
 ·rw [getZset' e]
  obtain⟨h1,h2⟩:=h.at' p hp
  refine⟨hl.ref h1,fun s=> ?_⟩
  rw [hl.eval ht h1,h2 s]
  by_cases e2:q<p
  ·rw [if_pos e2,if_pos (show q+1<p by omega)]
  ·rw [if_neg e2,if_neg (show¬q+1<p by omega)]
theorem vote_fh (gT gU gM:Nat) {o pl:List Int} (ho:OdOk o pl) {og:Option Nat} {ns:List DN} {mm:Mem3} (hs:TS o og ns mm) (refs:List Int) (hl:refs.length≤1000) (k:Nat) (hk:k≤1000) (hn:ns.length+refs.length*(k*2^(o.length+1))+2^(o.length+1)≤1000000000) (hr:∀r∈refs,RefOk ns r):
  Fh Tryz.prog 75 (THp gT gU gM og o pl ns mm) [.c (.optr gT 0),.c (is true refs),.c (.int .i64 k)] (OpQ gT gU gM o pl ns (refs.length*(k*2^(o.length+1))) fun s=>decide (k≤cntH ns refs s)):=by
 refine fh_of_body Tryz.func75 rfl rfl (by simp [Tryz.ntmps75]) fun C hC=> ?_
 simp only [initS,Nat.reduceAdd]
 refine xG ?_
 refine aw_make (n:=k+1) (c:=k+1) (size:=1) (bytes:=8) (z:=[.int .i64 0]) rfl rfl rfl eE eE rfl om eE eE om om om om om fun gN hn_gN=> ?_
 clear hn_gN
 simp only [Nat.mul_one]
 rw [make_is]
 simp only [THp,TH,List.cons_append,List.nil_append]
 refine aw_nd fun hnd=> ?_
 simp only [Heap.keys,List.map_cons] at hnd
 replace hnd:=ndP_of hnd
 dsimp only [ndP,neA] at hnd
 refine ySGWS hnd ?_
 rw [updF_is (zs:=List.replicate (k+1) 0) (i:=0) (v:=1) (by rw [List.length_replicate];omega)]
 refine yG hnd ?_
 have hcost:∀i j:Nat,i*(k*2^(o.length+1))+j*2^(o.length+1)+2^(o.length+1)=i*(k*2^(o.length+1))+(j+1)*2^(o.length+1):=fun i j=>by rw [Nat.succ_mul];omega
 refine aw_lp (fun y:Nat×Option Nat×List DN×Mem3×List Int=>[(0,.c (.optr gT 0)),(2,.c (.int .i64 k)),(7,.c (.osl gN 1 0 (k+1))),(16,.c (is true refs)),(17,.c (.int .i64 refs.length)),(18,.c (.int .i64 y.1))]) (fun y=>[(gN,.cells 3 (k+1) (isF y.2.2.2.2))]++THp gT gU gM y.2.1 o pl y.2.2.1 y.2.2.2.1)
  (fun y=>y.1≤refs.length∧TS o y.2.1 y.2.2.1 y.2.2.2.1∧Later o ns y.2.2.1 (y.1*(k*2^(o.length+1)))∧NeedOk ns refs y.2.2.1 y.2.2.2.2 k y.1 k) (fun y=>refs.length-y.1) (0,og,ns,mm,(List.replicate (k+1) 0).set 0 1) (zB hnd) zZ ⟨Nat.zero_le _,hs,Later.refl hs.tab _,need_start⟩ ?_
 clear hnd
 rintro ⟨i,og1,ns1,mm1,zs1⟩ ⟨hi,h1,h2,h3⟩
 dsimp only at hi h1 h2 h3⊢
 refine xG ?_
 refine xF (fun hb=>?_) fun hb=>?_
 ·have hb':i<refs.length:=dT hb
  have hri:RefOk ns (refs.getD i 0):=by rw [getDZ hb'];exact hr _ (List.getElem_mem hb')
  have hle:(i+1)*(k*2^(o.length+1))≤refs.length*(k*2^(o.length+1)):=Nat.mul_le_mul_right _ hb'
  have hle1:(i+1)*(k*2^(o.length+1))=i*(k*2^(o.length+1))+k*2^(o.length+1):=Nat.succ_mul ..
  refine xG ?_
  refine aw_lp (fun y:Nat×Option Nat×List DN×Mem3×List Int=>[(0,.c (.optr gT 0)),(2,.c (.int .i64 k)),(7,.c (.osl gN 1 0 (k+1))),(16,.c (is true refs)),(17,.c (.int .i64 refs.length)),(18,.c (.int .i64 i)),(9,.c (.int .i64 (refs.getD i 0))),(10,.c (.int .i64 y.1))]) (fun y=>[(gN,.cells 3 (k+1) (isF y.2.2.2.2))]++THp gT gU gM y.2.1 o pl y.2.2.1 y.2.2.2.1)
   (fun y=>y.1≤k∧TS o y.2.1 y.2.2.1 y.2.2.2.1∧Later o ns y.2.2.1 (i*(k*2^(o.length+1))+(k-y.1)*2^(o.length+1))∧NeedOk ns refs y.2.2.1 y.2.2.2.2 k i y.1) (fun y=>y.1) (k,og1,ns1,mm1,zs1) eB zZ ⟨Nat.le_refl _,h1,h2.trans (Later.refl h1.tab 0) om,h3⟩ ?_
  clear h1 h2 h3 og1 ns1 mm1 zs1
  rintro ⟨j,og1,ns1,mm1,zs⟩ ⟨hj,h1,h2,h3⟩
  dsimp only at hj h1 h2 h3⊢
  refine xG ?_
  refine xF (fun hj0=>?_) fun hj0=>?_
  ·obtain⟨q,rfl⟩:∃q,j=q+1:=⟨j-1,dT hj0⟩
   have hqi:((q+1:Nat):Int)-1=(q:Nat):=by omega
   have hzl:=h3.len
   have hl2:=h2.len
   have hkq:(k-(q+1)+1)*2^(o.length+1)≤k*2^(o.length+1):=Nat.mul_le_mul_right _ om
   have hc1:=hcost i (k-(q+1))
   have hB1:ns1.length+2^(o.length+1)≤1000000000:=by
    clear hs h1 h2 h3 ho hcost
    generalize 2^(o.length+1)=B at*
    generalize i*(k*B)=X at*
    generalize (k-(q+1)+1)*B=Y at*
    generalize (k-(q+1))*B=Z at*
    generalize (i+1)*(k*B)=U at*
    generalize refs.length*(k*B)=V at*
    generalize k*B=W at*
    omega
   have hB2:i*(k*2^(o.length+1))+(k-(q+1))*2^(o.length+1)+(2^(o.length+1)-1)≤i*(k*2^(o.length+1))+(k-q)*2^(o.length+1):=by
    rw [show k-q=k-(q+1)+1 from by omega,←hc1]
    generalize 2^(o.length+1)=B
    omega
   simp only [THp,TH,List.cons_append,List.nil_append]
   refine aw_nd fun hnd=> ?_
   simp only [Heap.keys,List.map_cons] at hnd
   replace hnd:=ndP_of hnd
   dsimp only [ndP,neA] at hnd
   have J1:=oj hnd hqi
   refine yG J1 ?_
   refine aw_cw ([(gN,.cells 3 (k+1) (isF zs))]) [(0,0),(1,0),(2,0),(3,0),(4,0),(5,0),(6,0),(7,0),(8,0),(9,0),(10,0),(11,0),(12,0),(13,1),(14,0),(15,2)] ty_mixed (by kernel_rfl) eI ?_
   refine yG J1 ?_
   refine cw_callh (hc:=THp gT gU gM og1 o pl ns1 mm1) (hr:=[(gN,.cells 3 (k+1) (isF zs))]) rfl (choose_fh gT gU gM ho h1 hB1 (h2.ref hri) (h3.at' q om).1 (h3.at' (q+1) om).1) rfl rfl rfl (List.perm_append_comm (l₁:=[(gN,_)])) (zL J1) (by
    rintro _ _ ⟨_,_,_,_,_,_,_,_,rfl,rfl⟩;exact has0_app2 eI) ?_ (hm:=.inr ⟨rfl,rfl⟩)
   rintro _ _ ⟨og2,ns2,mm2,r,e1,e2,e3,e4,rfl,rfl⟩ _
   refine yS J1 ?_
   refine cw_perm List.perm_append_comm ?_
   simp only [List.cons_append,List.nil_append]
   refine ySG J1 ?_
   refine cw_store (FP':=[]) rfl rfl rfl rfl rfl (zE J1) (zE J1) (zE J1) (zE J1) (fun _ e=>by cases e) rfl rfl (by show(q+1)+1≤_;omega) rfl has0_nil ?_
   simp only [AV.cells]
   rw [updF_is om]
   refine ySG J1 ?_
   have he2:=e2.len
   exact aw_stop ⟨(q,og2,ns2,mm2,zs.set (q+1) r),by dsimp only;omega,(zB J1),zZ,by dsimp only;omega,e1,h2.trans e2 hB2,need_step hs.tab h2 h1.tab e2 h3 hj hb' hri e3 e4⟩
  ·have hj':j=0:=dF hj0
   subst hj'
   refine xG ?_
   exact aw_stop ⟨(i+1,og1,ns1,mm1,zs),by dsimp only;omega,eB,zZ,by dsimp only;omega,h1,h2.trans (Later.refl h1.tab 0) (by dsimp only;rw [Nat.sub_zero];omega),need_round h3⟩
 ·have hb':i=refs.length:=dF hb
  subst hb'
  have hzl:=h3.len
  obtain⟨h4,h5⟩:=h3.at' k (Nat.le_refl _)
  simp only [Nat.lt_irrefl,if_false,List.take_length] at h5
  refine xG ?_
  refine aw_keep [(6,.c (.int .i64 (zs1.getD k 0)))] (THp gT gU gM og1 o pl ns1 mm1) eB (List.Sublist.cons _ (List.Sublist.refl _)) ?_
  refine xU ?_
  exact⟨og1,ns1,mm1,_,h1,h2,h4,h5,rfl,rfl⟩
end Go.Proofs.YtefekdejgbceiaaGreat
namespace Go.PN
open Go.AI
theorem cntV_cons (v:Int→Bool) (r:Int) (rs:List Int):cntV v (r::rs)=(if v r then 1 else 0)+cntV v rs:=by
 unfold cntV
 rw [List.filter_cons]
 split
 ·rw [List.length_cons];omega
 ·omega
theorem cntV_le (v:Int→Bool):∀rs:List Int,cntV v rs≤rs.length:=fun rs=>List.length_filter_le ..
theorem fold_and (v:Int→Bool):∀(rs:List Int) (b:Bool),rs.foldl (fun b r=>b&&v r) b=(b&&decide (cntV v rs=rs.length))
 |[],b=>by simp [cntV]
 |r::rs,b=>by
  rw [List.foldl_cons,fold_and v rs,cntV_cons,List.length_cons,Bool.and_assoc]
  have:=cntV_le v rs
  cases h:v r
  ·have:¬((0:Nat)+cntV v rs=rs.length+1):=by omega
   simp only [Bool.false_eq_true,if_false,Bool.false_and,decide_eq_false this]
  ·have:decide (1+cntV v rs=rs.length+1)=decide (cntV v rs=rs.length):=decide_eq_decide.2 om
   simp only [if_true,Bool.true_and,this]
theorem fold_or (v:Int→Bool):∀(rs:List Int) (b:Bool),rs.foldl (fun b r=>b||v r) b=(b||decide (0<cntV v rs))
 |[],b=>by simp [cntV]
 |r::rs,b=>by
  rw [List.foldl_cons,fold_or v rs,cntV_cons,Bool.or_assoc]
  cases h:v r
  ·simp
  ·have:decide (0<1+cntV v rs)=true:=decide_eq_true om
   simp only [if_true,Bool.true_or,this]
theorem fold_xor (v:Int→Bool):∀(rs:List Int) (b:Bool),rs.foldl (fun b r=>b !=v r) b=(b !=decide (cntV v rs%2=1))
 |[],b=>by simp [cntV]
 |r::rs,b=>by
  rw [List.foldl_cons,fold_xor v rs,cntV_cons]
  cases h:v r
  ·simp
  ·have:decide ((1+cntV v rs)%2=1)= !decide (cntV v rs%2=1):=by
    rw [←decide_not];exact decide_eq_decide.2 om
   simp only [if_true,this]
   cases b<;>cases decide (cntV v rs%2=1)<;>rfl
end Go.PN
namespace Go.Proofs.YtefekdejgbceiaaGreat
open Go.AI Go.PN
attribute [local irreducible] aw Fa Fh DrK
theorem bnode_fh (gT gU gM:Nat) {o pl:List Int} (ho:OdOk o pl) {og:Option Nat} {ns:List DN} {mm:Mem3} (hs:TS o og ns mm) (x:FN) (refs:List Int) (hk0:0≤x.kind) (hk5:x.kind≤5) (hari:arityB x.kind refs.length=true) (hkc:kcode ⟨x.kind,x.k,refs⟩=0) (hn:ns.length+256*2^(o.length+2)≤1000000000) (hr:∀r∈refs,RefOk ns r):
  Fh Tryz.prog 32 (THp gT gU gM og o pl ns mm) [.c (.optr gT 0),.agg [.int .i64 x.kind,.int .i64 x.k,is true x.args],.c (is true refs)] (OpQ gT gU gM o pl ns (256*2^(o.length+2)) fun s=>nodeV (evalD ns s) ⟨x.kind,x.k,refs⟩):=by
 have hB:2^(o.length+2)=2^(o.length+1)*2:=Nat.pow_succ ..
 have hBp:0<2^(o.length+1):=Nat.pow_pos om
 unfold arityB at hari
 unfold kcode at hkc
 dsimp only at hkc
 have hl16:refs.length≤16:=by
  split at hari
  ·have:=of_decide_eq_true hari;omega
  ·split at hari
   ·have:=of_decide_eq_true hari;omega
   ·have:=of_decide_eq_true (Bool.and_eq_true_iff.1 hari).2;omega
 have hcost:refs.length*2^(o.length+2)≤256*2^(o.length+2):=Nat.mul_le_mul_right _ om
 refine fh_of_body Tryz.func32 rfl rfl (by simp [Tryz.ntmps32]) fun C hC=> ?_
 simp only [initS,Nat.reduceAdd]
 refine xG ?_
 refine xB fun g4 hn_g4=>?_
 refine yG hn_g4 ?_
 refine yF hn_g4 (fun h0=>?_) fun h0=>?_
 ·have e:x.kind=0:=eq_of_beq h0
  rw [if_pos e] at hkc
  have hk:x.k=0∨x.k=1:=by
   split at hkc
   ·cases hkc
   ·omega
  refine yG hn_g4 ?_
  refine aw_keep [(6,.c (.int .i64 x.k))] (THp gT gU gM og o pl ns mm) (zB hn_g4) (List.Sublist.cons _ (List.Sublist.refl _)) ?_
  refine yU hn_g4 ?_
  refine⟨og,ns,mm,x.k,hs,Later.refl hs.tab _,?_,fun s=> ?_,rfl,rfl⟩
  ·rcases hk with h|h<;>rw [h]
   ·exact ref0
   ·exact ref1
  ·unfold nodeV
   dsimp only
   rw [if_pos h0]
   rcases hk with h|h<;>rw [h]
   ·exact ev0
   ·exact ev1
 refine yG hn_g4 ?_
 refine yF hn_g4 (fun h1=>?_) fun h1=>?_
 ·have e:x.kind=1:=eq_of_beq h1
  rw [if_neg om,if_pos e] at hari
  obtain⟨q,hq⟩:∃q,refs=[q]:=List.length_eq_one_iff.1 (dT hari)
  subst hq
  refine yG hn_g4 ?_
  refine aw_callh (hc:=THp gT gU gM og o pl ns mm) (hr:=[(g4,.cells 68 3 (ofL [.int .i64 x.kind,.int .i64 x.k,is true x.args]))]) (tnot_fh gT gU gM ho hs om (hr q (List.mem_singleton.2 rfl))) rfl rfl rfl (List.perm_append_comm (l₁:=[(g4,_)])) (zL hn_g4) ?_
  rintro _ _ ⟨og',ns',mm',r,e1,e2,e3,e4,rfl,rfl⟩ _
  refine ySG hn_g4 ?_
  refine aw_keep [(6,.c (.int .i64 r))] (THp gT gU gM og' o pl ns' mm') (zB hn_g4) (by simp only [THp,TH,List.cons_append,List.nil_append,List.append_assoc];exact List.sublist_append_left (THp gT gU gM og' o pl ns' mm') _) ?_
  refine yU hn_g4 ?_
  refine⟨og',ns',mm',r,e1,⟨e2.tab,e2.pre,by have:=e2.len;omega⟩,e3,fun s=> ?_,rfl,rfl⟩
  rw [e4]
  unfold nodeV
  dsimp only
  rw [if_neg (by rw [h0];simp),if_pos h1,cntV_cons]
  cases evalD ns s q<;>rfl
 refine yG hn_g4 ?_
 refine yF hn_g4 (fun h2=>?_) fun h2=>?_
 ·have e:x.kind=2:=eq_of_beq h2
  refine yG hn_g4 ?_
  refine aw_makeFuncB (g:=gT) rfl rfl rfl (zE hn_g4) ?_
  refine ySG hn_g4 ?_
  refine aw_callh (hc:=THp gT gU gM og o pl ns mm) (hr:=[(g4,.cells 68 3 (ofL [.int .i64 x.kind,.int .i64 x.k,is true x.args]))]) (join_fh and_opok gT gU gM ho hs refs om om ref1 hr) rfl rfl rfl (List.perm_append_comm (l₁:=[(g4,_)])) (zL hn_g4) ?_
  rintro _ _ ⟨og',ns',mm',r,e1,e2,e3,e4,rfl,rfl⟩ _
  refine ySG hn_g4 ?_
  refine aw_keep [(6,.c (.int .i64 r))] (THp gT gU gM og' o pl ns' mm') (zB hn_g4) (by simp only [THp,TH,List.cons_append,List.nil_append,List.append_assoc];exact List.sublist_append_left (THp gT gU gM og' o pl ns' mm') _) ?_
  refine yU hn_g4 ?_
  refine⟨og',ns',mm',r,e1,⟨e2.tab,e2.pre,by have:=e2.len;omega⟩,e3,fun s=> ?_,rfl,rfl⟩
  rw [e4]
  unfold nodeV
  dsimp only
  rw [if_neg (by rw [h0];simp),if_neg (by rw [h1];simp),if_pos h2]
  rw [fold_and,ev1,Bool.true_and,Bool.eq_iff_iff,decide_eq_true_iff,beq_iff_eq]
  exact Int.ofNat_inj.symm
 refine yG hn_g4 ?_
 refine yF hn_g4 (fun h3=>?_) fun h3=>?_
 ·have e:x.kind=3:=eq_of_beq h3
  refine yG hn_g4 ?_
  refine aw_makeFuncB (g:=gT) rfl rfl rfl (zE hn_g4) ?_
  refine ySG hn_g4 ?_
  refine aw_callh (hc:=THp gT gU gM og o pl ns mm) (hr:=[(g4,.cells 68 3 (ofL [.int .i64 x.kind,.int .i64 x.k,is true x.args]))]) (join_fh or_opok gT gU gM ho hs refs om om ref0 hr) rfl rfl rfl (List.perm_append_comm (l₁:=[(g4,_)])) (zL hn_g4) ?_
  rintro _ _ ⟨og',ns',mm',r,e1,e2,e3,e4,rfl,rfl⟩ _
  refine ySG hn_g4 ?_
  refine aw_keep [(6,.c (.int .i64 r))] (THp gT gU gM og' o pl ns' mm') (zB hn_g4) (by simp only [THp,TH,List.cons_append,List.nil_append,List.append_assoc];exact List.sublist_append_left (THp gT gU gM og' o pl ns' mm') _) ?_
  refine yU hn_g4 ?_
  refine⟨og',ns',mm',r,e1,⟨e2.tab,e2.pre,by have:=e2.len;omega⟩,e3,fun s=> ?_,rfl,rfl⟩
  rw [e4]
  unfold nodeV
  dsimp only
  rw [if_neg (by rw [h0];simp),if_neg (by rw [h1];simp),if_neg (by rw [h2];simp),if_pos h3]
  rw [fold_or,ev0,Bool.false_or]
  exact decide_eq_decide.2 om
 refine yG hn_g4 ?_
 refine yF hn_g4 (fun h5=>?_) fun h5=>?_
 ·have e:x.kind=5:=eq_of_beq h5
  refine yG hn_g4 ?_
  refine aw_makeFuncB (g:=gT) rfl rfl rfl (zE hn_g4) ?_
  refine ySG hn_g4 ?_
  refine aw_callh (hc:=THp gT gU gM og o pl ns mm) (hr:=[(g4,.cells 68 3 (ofL [.int .i64 x.kind,.int .i64 x.k,is true x.args]))]) (join_fh xor_opok gT gU gM ho hs refs om om ref0 hr) rfl rfl rfl (List.perm_append_comm (l₁:=[(g4,_)])) (zL hn_g4) ?_
  rintro _ _ ⟨og',ns',mm',r,e1,e2,e3,e4,rfl,rfl⟩ _
  refine ySG hn_g4 ?_
  refine aw_keep [(6,.c (.int .i64 r))] (THp gT gU gM og' o pl ns' mm') (zB hn_g4) (by simp only [THp,TH,List.cons_append,List.nil_append,List.append_assoc];exact List.sublist_append_left (THp gT gU gM og' o pl ns' mm') _) ?_
  refine yU hn_g4 ?_
  refine⟨og',ns',mm',r,e1,⟨e2.tab,e2.pre,by have:=e2.len;omega⟩,e3,fun s=> ?_,rfl,rfl⟩
  rw [e4]
  unfold nodeV
  dsimp only
  rw [if_neg (by rw [h0];simp),if_neg (by rw [h1];simp),if_neg (by rw [h2];simp),if_neg (by rw [h3];simp),if_neg (by rw [e];decide)]
  rw [fold_xor,ev0,Bool.eq_iff_iff]
  have hrem:remZ ((cntV (evalD ns s) refs:Nat):Int) 2=((cntV (evalD ns s) refs%2:Nat):Int):=rem_nat _ 2
  rw [hrem,beq_iff_eq,Bool.false_bne,decide_eq_true_iff]
  omega
 ·have e:x.kind=4:=by
   have a0:x.kind≠0:=by simpa using h0
   have a1:x.kind≠1:=by simpa using h1
   have a2:x.kind≠2:=by simpa using h2
   have a3:x.kind≠3:=by simpa using h3
   have a5:x.kind≠5:=by simpa using h5
   omega
  rw [if_neg om,if_pos e] at hkc
  obtain⟨kn,hkn⟩:=Int.eq_ofNat_of_zero_le (a:=x.k) (by split at hkc<;>omega)
  have hk1:1≤kn∧kn≤refs.length:=by split at hkc<;>omega
  have hc0:refs.length*(kn*2^(o.length+1))≤16*(16*2^(o.length+1)):=Nat.mul_le_mul hl16 (Nat.mul_le_mul_right _ om)
  have hc1:ns.length+refs.length*(kn*2^(o.length+1))+2^(o.length+1)≤1000000000:=by
   rw [hB] at hn
   generalize refs.length*(kn*2^(o.length+1))=X at*
   generalize 2^(o.length+1)=B at*
   omega
  have hc2:refs.length*(kn*2^(o.length+1))≤256*2^(o.length+2):=by
   rw [hB]
   generalize refs.length*(kn*2^(o.length+1))=X at*
   generalize 2^(o.length+1)=B at*
   omega
  have J1:=oj hn_g4 hkn
  refine yG J1 ?_
  refine aw_callh (hc:=THp gT gU gM og o pl ns mm) (hr:=[(g4,.cells 68 3 (ofL [.int .i64 x.kind,.int .i64 x.k,is true x.args]))]) (vote_fh gT gU gM ho hs refs om kn om hc1 hr) rfl rfl rfl (List.perm_append_comm (l₁:=[(g4,_)])) (zL J1) ?_
  rintro _ _ ⟨og',ns',mm',r,e1,e2,e3,e4,rfl,rfl⟩ _
  refine ySG J1 ?_
  refine aw_keep [(6,.c (.int .i64 r))] (THp gT gU gM og' o pl ns' mm') (zB J1) (by simp only [THp,TH,List.cons_append,List.nil_append,List.append_assoc];exact List.sublist_append_left (THp gT gU gM og' o pl ns' mm') _) ?_
  refine yU J1 ?_
  refine⟨og',ns',mm',r,e1,⟨e2.tab,e2.pre,by have:=e2.len;omega⟩,e3,fun s=> ?_,rfl,rfl⟩
  rw [e4]
  unfold nodeV
  dsimp only
  rw [if_neg (by rw [h0];simp),if_neg (by rw [h1];simp),if_neg (by rw [h2];simp),if_neg (by rw [h3];simp),if_pos (by rw [e];decide)]
  refine decide_eq_decide.2 ?_
  show kn≤cntV (evalD ns s) refs↔_
  omega
end Go.Proofs.YtefekdejgbceiaaGreat
namespace Go.Proofs.YtefekdejgbceiaaGreat
open Go.AI Go.PN
attribute [local irreducible] aw Fa Fh DrK
structure Same (f f':FM):Prop where
 ok:FrOk f'
 vars:f'.vars=f.vars
 val:∀s,valF f' s f'.top=valF f s f.top
theorem same_trim {f:FM} (ok:FrOk f):Same f (trimF f):=⟨trim_ok ok,rfl,trim_top ok⟩
theorem same_nil {f:FM} (ok:FrOk f) (h:szTo f f.nodes.length=0):Same f ⟨f.vars,[],f.top⟩:=by
 have ht:=sz_zero ok h
 refine⟨⟨ok.v0,ok.v24,by simp,fun i hi=> ?_,fun i hi=> ?_,fun i hi=> ?_,fun i hi=> ?_,ok.t0,by simpa using ht⟩,rfl,fun s=> ?_⟩
 ·exact absurd hi (by simp)
 ·exact absurd hi (by simp)
 ·exact absurd hi (by simp)
 ·exact absurd hi (by simp)
 ·rw [val_event (f:=f) ht]
  exact val_event (f:=⟨f.vars,[],f.top⟩) ht
structure RefsOk (f:FM) (n:Nat) (ns:List DN) (zs:List Int) (b:Nat):Prop where
 len:zs.length=n
 at':∀a,a<b→RefOk ns (zs.getD a 0)∧∀s,evalD ns s (zs.getD a 0)=valF f s a
theorem refs_step {o:List Int} {f:FM} {n m b:Nat} {ns ns':List DN} {zs:List Int} (ht:TabOk o ns) (h:RefsOk f n ns zs b) (hl:Later o ns ns' m) (hb:b<n) {r:Int} (hr:RefOk ns' r) (hv:∀s,evalD ns' s r=valF f s b):RefsOk f n ns' (zs.set b r) (b+1):=by
 have hz:=h.len
 refine⟨by rw [List.length_set];exact hz,fun a ha=> ?_⟩
 by_cases e:a=b
 ·subst e
  rw [getZset om]
  exact⟨hr,hv⟩
 ·rw [getZset' e]
  obtain⟨h1,h2⟩:=h.at' a om
  exact⟨hl.ref h1,fun s=>by rw [hl.eval ht h1,h2 s]⟩
theorem build_fh (f:FM) (hn:f.nodes.length≤1099511627776) (ha:ArgsOk f) (hc:fcode f=0) (o:List Int) (ho:ocode o o.length=0) (hol:o.length=f.vars.toNat) (h12:o.length≤12):Fh Tryz.prog 6 [] [.agg (fmc false f),.c (is false o)] (fun x h=>h=[]∧∃D,DOut o (fun s=>valF f s f.top) D∧x=.tup [.agg (dgc true D),.c .nilI]):=by
 have ok:=fr_ok hc
 have v0:=ok.v0
 have v24:=ok.v24
 have n128:=ok.n128
 have hov:ocode o f.vars=0:=by rw [show f.vars=(o.length:Int) from by omega];exact ho
 have z:=ieq_t hov
 have hsz:=szTo_le f f.nodes.length
 refine fh_of_body Tryz.func6 rfl rfl (by simp [Tryz.ntmps6]) fun C hC=> ?_
 simp only [initS,Nat.reduceAdd]
 refine yG z ?_
 refine yB z fun g2 hn_g2=>?_
 refine yG (oj z hn_g2) ?_
 refine yA (oj z hn_g2) fun g4 hn_g4=>?_
 have J1:=oj z (oj hn_g2 hn_g4)
 refine yG J1 ?_
 refine aw_callq (fsize_fa f hn ha hc) rfl rfl rfl (zL J1) ?_
 refine ySGNG J1 ?_
 refine aw_callq (ocheck_fa o f.vars om) rfl rfl rfl (zL J1) ?_
 refine ySGNG J1 ?_
 refine aw_cut (fun f':FM=>[(1,.c (is false o)),(2,.c (.optr g2 0)),(4,.c (.optr g4 0))]) (fun f'=>[(g4,.cells 31 3 (ofL [.nils,.nils,.int .i64 0])),(g2,.cells 24 3 (ofL (fmc true f')))]) (fun f'=>Same f f') ?_ ?_
 ·refine yF J1 (fun hs=>?_) fun hs=>?_
  ·refine yG J1 ?_
   refine aw_callh (hc:=[]) (hr:=[(g4,.cells 31 3 (ofL [.nils,.nils,.int .i64 0])),(g2,.cells 24 3 (ofL (fmc false f)))]) (ftrim_fh f hn ha hc) rfl rfl rfl (.refl _) (zL J1) ?_
   rintro _ _ ⟨rfl,rfl⟩ _
   refine ySGWSG J1 ?_
   refine yN J1 ?_
   refine yG J1 ?_
   exact aw_stop ⟨trimF f,(zB J1),zZ,same_trim ok⟩
  ·have hs0:szTo f f.nodes.length=0:=dF hs
   refine yGWS J1 ?_
   refine aw_perm (List.Perm.swap _ _ _) ?_
   refine aw_frzG (j0:=1) (og:=none) (s:=3) (n:=0) (tp:=68) (fp:=fnsF []) (h:=[(g4,.cells 31 3 (ofL [.nils,.nils,.int .i64 0]))]) (f':=ofL (fmc true ⟨f.vars,[],f.top⟩)) rfl rfl (fun j hj hne=> ?_) (fun _=>rfl) (fun g e=>by cases e) ?_
   ·match j,hj,hne with
    |0,_,_=>rfl
    |1,_,hne=>exact absurd rfl hne
    |2,_,_=>rfl
   refine aw_perm (List.Perm.swap _ _ _) ?_
   refine yG J1 ?_
   exact aw_stop ⟨⟨f.vars,[],f.top⟩,(zB J1),zZ,same_nil ok hs0⟩
 rintro f' ⟨ok',hv',hval⟩
 have hod:OdOk o (placesL o):=⟨(ocode_ok ho).1,pl_ok (ocode_ok ho).1,(ocode_ok ho).2⟩
 have ts0:TS o none [] []:=⟨fun _=>rfl,fun i hi=>absurd hi (Nat.not_lt_zero _),fun e he=>absurd he List.not_mem_nil⟩
 have v0':=ok'.v0
 have n128':=ok'.n128
 have t0':=ok'.t0
 have t1':=ok'.t1
 have hN:f'.vars+(f'.nodes.length:Int)=((o.length+f'.nodes.length:Nat):Int):=by omega
 have hvo:f'.vars=(o.length:Int):=by omega
 clear hsz z hov J1
 refine xG ?_
 refine aw_callh (hc:=[]) (hr:=[(g4,.cells 31 3 (ofL [.nils,.nils,.int .i64 0])),(g2,.cells 24 3 (ofL (fmc true f')))]) (new_fh o hod.perm hod.l24) rfl rfl rfl (.refl _) eL ?_
 rintro _ _ ⟨gT,gU,gM,rfl,rfl⟩ _
 refine yS hN ?_
 refine aw_perm (List.perm_append_comm (l₂:=([(g4,.cells 31 3 (ofL [.nils,.nils,.int .i64 0])),(g2,.cells 24 3 (ofL (fmc true f')))]:Heap))) ?_
 simp only [THp,TH,List.cons_append,List.nil_append]
 refine aw_nd fun hnd=> ?_
 simp only [Heap.keys,List.map_cons] at hnd
 replace hnd:=ndP_of hnd
 dsimp only [ndP,neA] at hnd
 have J2:=oj hN hnd
 refine yG J2 ?_
 refine aw_make (n:=o.length+f'.nodes.length) (c:=o.length+f'.nodes.length) (size:=1) (bytes:=8) (z:=[.int .i64 0]) rfl rfl rfl (zE J2) (zE J2) rfl om (zE J2) (zE J2) om om om om om fun gR hn_gR=> ?_
 clear hn_gR J2
 clear hnd
 simp only [Nat.mul_one]
 rw [make_is]
 refine aw_nd fun hnd=> ?_
 simp only [Heap.keys,List.map_cons] at hnd
 replace hnd:=ndP_of hnd
 dsimp only [ndP,neA] at hnd
 have J3:=oj hnd hvo
 refine ySG J3 ?_
 have hp13:2^(o.length+1)≤2^13:=Nat.pow_le_pow_right om om
 have hp14:2^(o.length+2)≤2^14:=Nat.pow_le_pow_right om om
 have hp12:2^o.length≤2^12:=Nat.pow_le_pow_right om h12
 refine aw_lp (fun y:Nat×Option Nat×List DN×Mem3×List Int=>[(2,.c (.optr g2 0)),(4,.c (.optr g4 0)),(10,.c (.optr gT 0)),(11,.c (.osl gR 1 0 (o.length+f'.nodes.length))),(58,.c (.int .i64 o.length)),(59,.c (.int .i64 y.1))]) (fun y=>(gR,.cells 3 (o.length+f'.nodes.length) (isF y.2.2.2.2))::(g4,.cells 31 3 (ofL [.nils,.nils,.int .i64 0]))::(g2,.cells 24 3 (ofL (fmc true f')))::THp gT gU gM y.2.1 o (placesL o) y.2.2.1 y.2.2.2.1)
  (fun y=>y.1≤o.length∧TS o y.2.1 y.2.2.1 y.2.2.2.1∧y.2.2.1.length≤y.1∧RefsOk f' (o.length+f'.nodes.length) y.2.2.1 y.2.2.2.2 y.1) (fun y=>o.length-y.1) (0,none,[],[],List.replicate (o.length+f'.nodes.length) 0) (zB J3) zZ ⟨Nat.zero_le _,ts0,Nat.le_refl _,⟨List.length_replicate ..,fun a ha=>by omega⟩⟩ ?_
 clear ts0 J3
 rintro ⟨i,og,ns,mm,zs⟩ ⟨hi,hs,hnl,hz⟩
 dsimp only at hi hs hnl hz⊢
 have hzl:=hz.len
 have J4:=oj hnd hvo
 refine yG J4 ?_
 refine yF J4 (fun hb=>?_) fun hb=>?_
 ·have hb':i<o.length:=dT hb
  refine yG J4 ?_
  refine aw_callh (hc:=THp gT gU gM og o (placesL o) ns mm) (hr:=[(gR,.cells 3 (o.length+f'.nodes.length) (isF zs)),(g4,.cells 31 3 (ofL [.nils,.nils,.int .i64 0])),(g2,.cells 24 3 (ofL (fmc true f')))]) (tevent_fh (v:=(i:Int)) gT gU gM hs om om om) rfl rfl rfl (List.perm_append_comm (l₁:=[(gR,_),(g4,_),(g2,_)])) (zL J4) ?_
  rintro _ _ ⟨og1,ns1,mm1,r,e1,e2,e3,e4,rfl,rfl⟩ _
  refine aw_perm List.perm_append_comm ?_
  have he:=e2.len
  have hz2:=refs_step hs.tab hz e2 om e3 (fun s=>by rw [e4 s,val_event om])
  refine yS J4 ?_
  simp only [THp,TH,List.cons_append,List.nil_append]
  refine yGWS J4 ?_
  rw [updF_is om]
  refine yG J4 ?_
  exact aw_stop ⟨(i+1,og1,ns1,mm1,zs.set i r),by dsimp only;omega,(zB J4),zZ,by dsimp only;omega,e1,by dsimp only;omega,hz2⟩
 ·have hb':i=o.length:=dF hb
  subst hb'
  refine yG J4 ?_
  clear hb hzl hi J4
  refine aw_lp (fun y:Nat×Option Nat×List DN×Mem3×List Int=>[(2,.c (.optr g2 0)),(4,.c (.optr g4 0)),(10,.c (.optr gT 0)),(11,.c (.osl gR 1 0 (o.length+f'.nodes.length))),(70,.c (fns true f'.nodes)),(71,.c (.int .i64 f'.nodes.length)),(72,.c (.int .i64 y.1))]) (fun y=>(gR,.cells 3 (o.length+f'.nodes.length) (isF y.2.2.2.2))::(g4,.cells 31 3 (ofL [.nils,.nils,.int .i64 0]))::(g2,.cells 24 3 (ofL (fmc true f')))::THp gT gU gM y.2.1 o (placesL o) y.2.2.1 y.2.2.2.1)
   (fun y=>y.1≤f'.nodes.length∧TS o y.2.1 y.2.2.1 y.2.2.2.1∧y.2.2.1.length≤o.length+y.1*(256*2^(o.length+2))∧RefsOk f' (o.length+f'.nodes.length) y.2.2.1 y.2.2.2.2 (o.length+y.1)) (fun y=>f'.nodes.length-y.1) (0,og,ns,mm,zs) (zB (oj hnd hvo)) zZ ⟨Nat.zero_le _,hs,by dsimp only;rw [Nat.zero_mul];omega,hz⟩ ?_
  clear hs hz hnl og ns mm zs
  rintro ⟨k,og,ns,mm,zs⟩ ⟨hk,hs,hnl,hz⟩
  dsimp only at hk hs hnl hz⊢
  have hzl:=hz.len
  have hW:(k+1)*(256*2^(o.length+2))=k*(256*2^(o.length+2))+256*2^(o.length+2):=Nat.succ_mul ..
  have hW1:k*(256*2^(o.length+2))≤128*(256*2^14):=Nat.mul_le_mul om (Nat.mul_le_mul_left _ hp14)
  have J5:=oj hnd hvo
  refine yG J5 ?_
  refine yF J5 (fun hb=>?_) fun hb=>?_
  ·have hk':k<f'.nodes.length:=dT hb
   refine yG J5 ?_
   refine yA J5 fun g14 hn_g14=>?_
   clear hn_g14 J5
   clear hnd
   refine aw_nd fun hnd=> ?_
   simp only [THp,TH,List.cons_append,List.nil_append] at hnd
   simp only [Heap.keys,List.map_cons] at hnd
   replace hnd:=ndP_of hnd
   dsimp only [ndP,neA] at hnd
   refine yGWS (oj hnd hvo) ?_
   have x1:=ok'.kind k hk'
   have x2:=ok'.ari k hk'
   have x3:=ok'.kc k hk'
   have x4:=ok'.arg k hk'
   have x5:=ok'.len hk'
   have x6:=fun s=>val_node ok' (s:=s) hk'
   generalize hx0:f'.nodes.getD k fn0=x at*
   have J6:=oj hnd (oj hvo hx0)
   refine yG J6 ?_
   refine aw_lp (fun y:Nat×Option Nat=>[(2,.c (.optr g2 0)),(4,.c (.optr g4 0)),(10,.c (.optr gT 0)),(11,.c (.osl gR 1 0 (o.length+f'.nodes.length))),(70,.c (fns true f'.nodes)),(71,.c (.int .i64 f'.nodes.length)),(72,.c (.int .i64 k)),(13,.c (.int .i64 k)),(14,.c (.optr g14 0)),(15,.c (gs y.2 1 y.1)),(78,.c (is true x.args)),(79,.c (.int .i64 x.args.length)),(80,.c (.int .i64 y.1))])
    (fun y=>((g14,.cells 68 3 (ofL [.int .i64 x.kind,.int .i64 x.k,is true x.args]))::(gR,.cells 3 (o.length+f'.nodes.length) (isF zs))::(g4,.cells 31 3 (ofL [.nils,.nils,.int .i64 0]))::(g2,.cells 24 3 (ofL (fmc true f')))::THp gT gU gM og o (placesL o) ns mm)++gh y.2 3 y.1 (isF ((x.args.take y.1).map fun a=>zs.getD a.toNat 0)))
    (fun y=>y.1≤x.args.length∧(y.2=none→y.1=0)) (fun y=>x.args.length-y.1) (0,none) (zB J6) (by
     show List.Sublist (((g14,.cells 68 3 (ofL [.int .i64 x.kind,.int .i64 x.k,is true x.args]))::(gR,.cells 3 (o.length+f'.nodes.length) (isF zs))::(g4,.cells 31 3 (ofL [.nils,.nils,.int .i64 0]))::(g2,.cells 24 3 (ofL (fmc true f')))::THp gT gU gM og o (placesL o) ns mm)++[]) _
     rw [List.append_nil]
     exact List.Sublist.refl _) ⟨Nat.zero_le _,fun _=>rfl⟩ ?_
   rintro ⟨j,oa⟩ ⟨hj,hoa⟩
   dsimp only at hj hoa⊢
   simp only [List.cons_append]
   refine yG J6 ?_
   refine yF J6 (fun h2=>?_) fun h2=>?_
   ·have h2':j<x.args.length:=dT h2
    have ham:x.args.getD j 0∈x.args:=by rw [getDZ h2'];exact List.getElem_mem h2'
    obtain⟨a0,a1⟩:=x4 _ ham
    obtain⟨i2,hi2⟩:=Int.eq_ofNat_of_zero_le a0
    rw [hi2] at a1
    have htk:x.args.take (j+1)=x.args.take j++[x.args.getD j 0]:=by rw [getDZ h2',List.take_succ_eq_append_getElem h2']
    have hlk:((x.args.take j).map fun a=>zs.getD a.toNat 0).length=j:=by rw [List.length_map,List.length_take];omega
    have J7:=oj hnd (oj hvo (oj hx0 hi2))
    refine yG J7 ?_
    refine aw_push (pre:=(g14,.cells 68 3 (ofL [.int .i64 x.kind,.int .i64 x.k,is true x.args]))::(gR,.cells 3 (o.length+f'.nodes.length) (isF zs))::(g4,.cells 31 3 (ofL [.nils,.nils,.int .i64 0]))::(g2,.cells 24 3 (ofL (fmc true f')))::THp gT gU gM og o (placesL o) ns mm) rfl rfl rfl rfl rfl rfl rfl (zE J7) (zE J7) (by rfl) om om (zE J7) om (by exact hoa) (zE J7) (by rfl) (by rfl) (by first|rfl|simp only [Nat.mul_one,List.nil_append,List.cons_append]<;>rfl) (by unfold maxLen;omega) om (by exact is_push hlk (zs.getD i2 0)) fun g hn_g=> ?_
    replace hn_g:=Heap.ne_of hn_g
    first|dsimp only [Heap.ne,gh] at hn_g|dsimp only [Heap.ne] at hn_g|skip
    have J8:=oj hnd (oj hvo (oj hx0 (oj hi2 hn_g)))
    refine ySG J8 ?_
    refine aw_stop ⟨(j+1,some g),by dsimp only;omega,(zB J8),?_,by dsimp only;omega,fun e=>(by cases e)⟩
    dsimp only
    rw [htk,List.map_append,hi2]
    exact List.Sublist.refl _
   ·have h2':j=x.args.length:=dF h2
    subst h2'
    rw [List.take_length]
    have hlm:(x.args.map fun a=>zs.getD a.toNat 0).length=x.args.length:=List.length_map ..
    have hrs:∀r∈x.args.map fun a=>zs.getD a.toNat 0,RefOk ns r:=fun r hr=>by
     obtain⟨a,ha,rfl⟩:=List.mem_map.1 hr
     obtain⟨a0,a1⟩:=x4 a ha
     exact(hz.at' a.toNat om).1
    have hval2:∀s,nodeV (evalD ns s) ⟨x.kind,x.k,x.args.map fun a=>zs.getD a.toNat 0⟩=valF f' s ((o.length+k:Nat):Int):=fun s=>by
     rw [show((o.length+k:Nat):Int)=f'.vars+k from by omega,x6 s]
     unfold nodeV
     dsimp only
     rw [cntV_map (v:=evalD ns s) (w:=valF f' s) (fun a ha=>by
      obtain⟨a0,a1⟩:=x4 a ha
      rw [(hz.at' a.toNat om).2 s,show((a.toNat:Nat):Int)=a from by omega]),List.length_map]
    generalize (x.args.map fun a=>zs.getD a.toNat 0)=rs at*
    refine aw_nd fun hnd2=> ?_
    refine aw_frzg (t:=15) (n:=x.args.length) (s:=1) (e:=3) (f:=isF rs) (pre:=(g14,.cells 68 3 (ofL [.int .i64 x.kind,.int .i64 x.k,is true x.args]))::(gR,.cells 3 (o.length+f'.nodes.length) (isF zs))::(g4,.cells 31 3 (ofL [.nils,.nils,.int .i64 0]))::(g2,.cells 24 3 (ofL (fmc true f')))::THp gT gU gM og o (placesL o) ns mm) (zE J6) hoa (by simp only [Nat.mul_one,List.cons_append]) (fun g e hm=> ?_) (fun g h=>by have:=(hC g).1 h;simp [Heap.keys] at this) rfl ?_
    ·subst e
     have h3:(Heap.keys (((g14,.cells 68 3 (ofL [.int .i64 x.kind,.int .i64 x.k,is true x.args]))::(gR,.cells 3 (o.length+f'.nodes.length) (isF zs))::(g4,.cells 31 3 (ofL [.nils,.nils,.int .i64 0]))::(g2,.cells 24 3 (ofL (fmc true f')))::THp gT gU gM og o (placesL o) ns mm)++gh (some g) 3 x.args.length (isF rs))).Nodup:=hnd2
     unfold Heap.keys at h3
     rw [List.map_append,List.nodup_append] at h3
     exact h3.2.2 g hm g (by simp [gh]) rfl
    clear hnd2 J6
    have hbn:=bnode_fh gT gU gM hod hs x rs x1.1 x1.2 (by rw [hlm];exact x2) (by unfold kcode at x3⊢;dsimp only;rw [hlm];exact x3) om hrs
    dsimp only [is] at hbn
    rw [hlm] at hbn
    have hok2:(o.length:Int)+(k:Int)=((o.length+k:Nat):Int):=by omega
    have J9:=oj hnd (oj hvo (oj hx0 hok2))
    refine ySG J9 ?_
    refine aw_cw ([(gR,.cells 3 (o.length+f'.nodes.length) (isF zs)),(g14,.cells 68 3 (ofL [.int .i64 x.kind,.int .i64 x.k,is true x.args])),(g2,.cells 24 3 (ofL (fmc true f')))]) [(0,0),(1,0),(2,0),(3,0),(4,0),(5,0),(6,0),(7,0),(8,1),(9,0),(10,2)] ty_mixed (by kernel_rfl) eI ?_
    refine yG J9 ?_
    refine cw_callh (hc:=THp gT gU gM og o (placesL o) ns mm) (hr:=[(g14,.cells 68 3 (ofL [.int .i64 x.kind,.int .i64 x.k,is true x.args])),(gR,.cells 3 (o.length+f'.nodes.length) (isF zs)),(g4,.cells 31 3 (ofL [.nils,.nils,.int .i64 0])),(g2,.cells 24 3 (ofL (fmc true f')))]) rfl hbn rfl rfl rfl (List.perm_append_comm (l₁:=[(g14,_),(gR,_),(g4,_),(g2,_)])) (zL J9) (by
     rintro _ _ ⟨_,_,_,_,_,_,_,_,rfl,rfl⟩;exact has0_app2 eI) ?_ (hm:=.inr ⟨rfl,rfl⟩)
    rintro _ _ ⟨og2,ns2,mm2,r,e1,e2,e3,e4,rfl,rfl⟩ _
    have he2:=e2.len
    have hz2:=refs_step hs.tab hz e2 om e3 (fun s=>by rw [e4 s];exact hval2 s)
    refine yS J9 ?_
    refine cw_perm List.perm_append_comm ?_
    simp only [List.cons_append,List.nil_append]
    refine ySG J9 ?_
    refine cw_store (FP':=[]) rfl rfl rfl rfl rfl (zE J9) (zE J9) (zE J9) (zE J9) (fun _ e=>by cases e) rfl rfl (by show(o.length+k)+1≤_;omega) rfl has0_nil ?_
    simp only [AV.cells]
    rw [updF_is om]
    have hgz:(zs.set (o.length+k) r).getD (o.length+k) 0=r:=getZset om
    have J10:=oj hnd (oj hvo (oj hx0 (oj hok2 hgz)))
    refine ySG J10 ?_
    refine aw_callh (hc:=THp gT gU gM og2 o (placesL o) ns2 mm2) (hr:=[(g14,.cells 68 3 (ofL [.int .i64 x.kind,.int .i64 x.k,is true x.args])),(gR,.cells 3 (o.length+f'.nodes.length) (isF (zs.set (o.length+k) r))),(g4,.cells 31 3 (ofL [.nils,.nils,.int .i64 0])),(g2,.cells 24 3 (ofL (fmc true f')))]) (small_fh gT gU gM hod e1 om e3 (most:=4096) om) rfl rfl rfl (List.perm_append_comm (l₁:=[(g14,_),(gR,_),(g4,_),(g2,_)])) (zL J10) ?_
    rintro _ _ ⟨rfl,rfl⟩ _
    refine aw_perm List.perm_append_comm ?_
    refine yS J10 ?_
    simp only [THp,TH,List.cons_append,List.nil_append]
    refine yGNG J10 ?_
    exact aw_stop ⟨(k+1,og2,ns2,mm2,zs.set (o.length+k) r),by dsimp only;omega,(zB J10),List.Sublist.cons _ (List.Sublist.refl _),by dsimp only;omega,e1,by dsimp only;omega,hz2⟩
  ·have hk':k=f'.nodes.length:=dF hb
   subst hk'
   obtain⟨tp,htp⟩:=Int.eq_ofNat_of_zero_le t0'
   obtain⟨q1,q2⟩:=hz.at' tp om
   have J11:=oj hnd (oj hvo htp)
   refine yG J11 ?_
   refine aw_callh (hc:=THp gT gU gM og o (placesL o) ns mm) (hr:=[(gR,.cells 3 (o.length+f'.nodes.length) (isF zs)),(g4,.cells 31 3 (ofL [.nils,.nils,.int .i64 0])),(g2,.cells 24 3 (ofL (fmc true f')))]) (export_fh gT gU gM hod hs om q1) rfl rfl rfl (List.perm_append_comm (l₁:=[(gR,_),(g4,_),(g2,_)])) (zL J11) ?_
   rintro _ _ ⟨rs,os,y,hex,rfl,rfl⟩ _
   refine aw_perm List.perm_append_comm ?_
   refine ySGWSG J11 ?_
   refine aw_rethw (h':=[]) rfl (List.nil_sublist _) (fun R hR=> ?_)
   simp only [go_sem,hnd,hvo,htp]
   refine hR _ rfl ?_
   clear hR R
   have DO:=dout_of ho h12 hod.mem hs.tab q1 hex
   exact⟨rfl,_,⟨DO.order,DO.code,fun s=>by rw [DO.ev s,←hval s,htp];exact q2 s⟩,rfl⟩
end Go.Proofs.YtefekdejgbceiaaGreat
namespace Go.PN
open Go.AI
theorem trim_coh (f:FM):∀k,(trTo f k).all (fun x=> !(decide (x.kind=1)||decide (x.kind=5)))=cohTo f k
 |0=>rfl
 |k+1=>by
  rw [trTo,cohTo,←trim_coh f k]
  cases hm:(belL f).getD (f.vars.toNat+k) false
  ·simp
  ·simp
end Go.PN
namespace Go.Proofs.YtefekdejgbceiaaGreat
open Go.AI Go.PN
attribute [local irreducible] aw Fa Fh DrK
theorem csyntax_fa (f:FM) (hn:f.nodes.length≤1099511627776) (ha:ArgsOk f) (hc:fcode f=0):Fa Tryz.prog 88 [.agg (fmc false f)] (.tup [.c (.bool (cohTo f f.nodes.length)),.c .nilI]):=by
 have htc:=trim_coh f f.nodes.length
 have n128:=(trim_ok (fr_ok hc)).n128
 rw [show trTo f f.nodes.length=(trimF f).nodes from rfl] at htc
 have htr:=ftrim_fh f hn ha hc
 refine fa_of_body Tryz.func88 rfl rfl (by simp [Tryz.ntmps88]) fun C hC=> ?_
 simp only [initS,Nat.reduceAdd]
 refine xG ?_
 refine xB fun g1 hn_g1=>?_
 refine yG hn_g1 ?_
 refine aw_callh (hc:=[]) (hr:=[(g1,.cells 24 3 (ofL (fmc false f)))]) htr rfl rfl rfl (.refl _) (zL hn_g1) ?_
 rintro _ _ ⟨rfl,rfl⟩ _
 generalize trimF f=t at*
 refine ySG hn_g1 ?_
 refine yA hn_g1 fun g4 hn_g4=>?_
 have J1:=oj hn_g1 hn_g4
 refine yGWSGNG J1 ?_
 refine aw_lp (fun k:Nat=>[(17,.c (fns true t.nodes)),(18,.c (.int .i64 t.nodes.length)),(19,.c (.int .i64 k))]) (fun _=>[]) (fun k=>k≤t.nodes.length∧(t.nodes.take k).all (fun x=> !(decide (x.kind=1)||decide (x.kind=5)))=true) (fun k=>t.nodes.length-k) 0 (zB J1) (List.nil_sublist _) ⟨Nat.zero_le _,rfl⟩ ?_
 rintro k ⟨hk,hok⟩
 refine yG J1 ?_
 refine yF J1 (fun h1=>?_) fun h1=>?_
 ·have h1':k<t.nodes.length:=dT h1
  have hst:(t.nodes.take (k+1)).all (fun x=> !(decide (x.kind=1)||decide (x.kind=5)))= !(decide ((t.nodes.getD k fn0).kind=1)||decide ((t.nodes.getD k fn0).kind=5)):=by
   rw [List.take_succ_eq_append_getElem h1',List.all_append,hok,List.getD_eq_getElem?_getD,List.getElem?_eq_getElem h1']
   simp
  have hbad:(decide ((t.nodes.getD k fn0).kind=1)||decide ((t.nodes.getD k fn0).kind=5))=true→cohTo f f.nodes.length=false:=fun h=>by
   rw [←htc,List.all_eq_false]
   refine⟨t.nodes.getD k fn0,?_,by rw [h];simp⟩
   rw [List.getD_eq_getElem?_getD,List.getElem?_eq_getElem h1']
   exact List.getElem_mem _
  refine yG J1 ?_
  refine yA J1 fun g7 hn_g7=>?_
  generalize t.nodes.getD k fn0=y at*
  have J2:=oj hn_g1 (oj hn_g4 hn_g7)
  refine yGWS J2 ?_
  refine aw_conv1 (f':=ofL [.int .i64 y.kind,.int .i64 y.k,is true y.args]) (fun j hj=>by match j,hj with|0,_=>rfl|1,_=>rfl|2,_=>rfl) ?_
  refine yG J2 ?_
  refine aw_split 26 (zE J2) (fun h4=> ?_) (fun h4=> ?_)<;>refine yS J2 ?_
  ·refine yGPG J2 ?_
   rw [hbad (by rw [show decide (y.kind=1)=true from by simpa using h4];rfl)]
   refine yT hC J2 ?_
   exact .tup ⟨.c (.bool _),.c .nilI,trivial⟩
  ·have h4':decide (y.kind=1)=false:=by simpa using h4
   refine yG J2 ?_
   refine yF J2 (fun h5=>?_) fun h5=>?_
   ·refine yG J2 ?_
    rw [hbad (by rw [h4',show decide (y.kind=5)=true from by simpa using h5];rfl)]
    refine yT hC J2 ?_
    exact .tup ⟨.c (.bool _),.c .nilI,trivial⟩
   ·refine yG J2 ?_
    exact aw_stop ⟨k+1,by omega,(zB J2),List.nil_sublist _,by omega,by rw [hst,h4',show decide (y.kind=5)=false from by simpa using h5];rfl⟩
 ·have h1':k=t.nodes.length:=dF h1
  subst h1'
  rw [List.take_length] at hok
  refine yG J1 ?_
  rw [←htc,hok]
  refine yT hC J1 ?_
  exact .tup ⟨.c (.bool _),.c .nilI,trivial⟩
end Go.Proofs.YtefekdejgbceiaaGreat
namespace Go.PN
open Go.AI
theorem coh_monoF {f:FM} (ok:FrOk f) (hc:cohTo f f.nodes.length=true) (n:Nat):MonoF n fun s=>valF f s f.top:=fun i _ s h=>
 coh_mono ok hc (fun j hj=>by
  rw [setB_bit] at hj⊢
  split
  ·rfl
  ·rename_i e
   rw [if_neg e] at hj;exact hj) h
def CutL (f:Nat→Bool) (l:List Nat):Prop:=Srt l∧∀s,s∈l↔MinT f s
theorem sol_cnt {n:Nat} {F:Nat→Bool} {z:ZD} (hz:ZOut n F z) (h:n≤10):cntZ z.nodes z.root≤1024:=by
 have h1:=cntZ_le hz.tab z.root hz.ref
 have h2:2^(n-(evZ n z.nodes z.root).toNat)≤2^10:=Nat.pow_le_pow_right om om
 have h3:((2:Int)^(n-(evZ n z.nodes z.root).toNat))=((2^(n-(evZ n z.nodes z.root).toNat):Nat):Int):=by simp
 rw [h3] at h1
 have h4:(2:Nat)^10=1024:=rfl
 omega
theorem out_mem {n:Nat} {F:Nat→Bool} {z:ZD} (hz:ZOut n F z) (s:Nat):s∈sortN (setsZ z.nodes z.root 0)↔F s=true:=by
 rw [sort_mem,sets_mem hz.tab z.root hz.ref 0 (fun j _=>Nat.zero_testBit j),←hz.mem]
 constructor
 ·rintro ⟨t,ht,rfl⟩
  rw [Nat.zero_or];exact ht
 ·exact fun h=>⟨s,h,by rw [Nat.zero_or]⟩
end Go.PN

namespace Go.Proofs.YtefekdejgbceiaaGreat
open Go.AI Go.PN
noncomputable def wV (f:FM) (p:List RD):Rat:=exQ (prP p) p.length fun s=>evB (valF f s f.top)
theorem prP_set {p:List RD} {i:Nat} (hi:i<p.length) (r:RD):prP (p.set i r)=updP (prP p) i r.q:=by
 funext j
 unfold prP updP
 by_cases hja:j=i
 ·subst hja
  rw [if_pos rfl,List.getD_eq_getElem?_getD,List.getElem?_set_self hi];rfl
 ·rw [if_neg hja,List.getD_eq_getElem?_getD,List.getElem?_set_ne (fun e=>hja e.symm),←List.getD_eq_getElem?_getD]
theorem wV_lin {f:FM} {p:List RD} {i:Nat} (hi:i<p.length):wV f p=(p.getD i rd0).q*wV f (p.set i (rd 1))+(1-(p.getD i rd0).q)*wV f (p.set i rd0):=by
 unfold wV
 rw [List.length_set,List.length_set,prP_set hi,prP_set hi,rd_q,rd0_q]
 exact ex_lin _ _ hi
theorem prP_unit {p:List RD} (hp:∀r∈p,r.prob=true):∀i,i<p.length→0≤prP p i∧prP p i≤1:=fun i hi=>by
 unfold prP
 rw [List.getD_eq_getElem?_getD,List.getElem?_eq_getElem hi]
 exact prob_unit (hp _ (List.getElem_mem hi))
theorem wV_unit {f:FM} {p:List RD} (hp:∀r∈p,r.prob=true):0≤wV f p∧wV f p≤1:=ex_unit _ _ (prP_unit hp) fun _=>evB_unit _
def cutsI (l:List Nat) (i:Nat):List Nat:=l.filter fun c=>c.testBit i
noncomputable def wF (l:List Nat) (p:List RD) (i:Nat):Rat:=exQ (prP p) p.length fun s=>evB (failsB (cutsI l i) s)
theorem prS_wV {f:FM} {o:List Int} {D:DG} {p:List RD} (hD:DOut o (fun s=>valF f s f.top) D) (hl:D.order.length=p.length):prS D p=wV f p:=by
 rw [prS_ex hl]
 exact ex_congr _ _ _ fun s _=>by rw [hD.ev s]
theorem impQ_wV {f:FM} {o:List Int} {D:DG} {p:List RD} (hD:DOut o (fun s=>valF f s f.top) D) (hl:D.order.length=p.length) (i:Nat):impQ D p i=wV f (p.set i (rd 1))-wV f (p.set i rd0):=by
 unfold impQ
 rw [prS_wV hD (by rw [List.length_set];exact hl),prS_wV hD (by rw [List.length_set];exact hl)]
end Go.Proofs.YtefekdejgbceiaaGreat
namespace Go.PN
open Go.AI
structure WalkOk (f:FM) (oe:Option Nat) (e:List Int) (s:List Bool):Prop where
 len:s.length=f.vars.toNat+f.nodes.length
 nodup:e.Nodup
 mem:∀x:Int,x∈e↔0≤x∧x<f.vars∧s.getD x.toNat false=true
 none':oe=none→e.length=0
theorem WalkOk.le {f:FM} {oe:Option Nat} {e:List Int} {s:List Bool} (h:WalkOk f oe e s):e.length≤f.vars.toNat:=by
 have:=nodup_le (m:=(List.range f.vars.toNat).map fun(i:Nat)=>(i:Int)) h.nodup (fun x hx=>by
  have h1:=(h.mem x).1 hx
  exact List.mem_map.2 ⟨x.toNat,List.mem_range.2 om,by omega⟩)
 simpa using this
theorem WalkOk.event {f:FM} (v0:0≤f.vars) {oe:Option Nat} {e:List Int} {s:List Bool} (h:WalkOk f oe e s) {a:Nat} (ha:(a:Int)<f.vars) (hs:s.getD a false=false) (g:Nat):WalkOk f (some g) (e++[(a:Int)]) (s.set a true):=by
 have hl:=h.len
 refine⟨by rw [List.length_set];exact hl,?_,fun x=> ?_,fun e=>by cases e⟩
 ·rw [List.nodup_append]
  refine⟨h.nodup,by simp,fun x hx y hy=> ?_⟩
  rw [List.mem_singleton] at hy
  subst hy
  intro he
  subst he
  have:=((h.mem _).1 hx).2.2
  rw [Int.toNat_natCast,hs] at this
  cases this
 ·rw [List.mem_append,List.mem_singleton]
  by_cases e1:x=a
  ·subst e1
   rw [Int.toNat_natCast,getDset' om]
   exact⟨fun _=>⟨by omega,ha,rfl⟩,fun _=>.inr rfl⟩
  ·constructor
   ·rintro (hx|hx)
    ·have h1:=(h.mem x).1 hx
     exact⟨h1.1,h1.2.1,by rw [getDset om];exact h1.2.2⟩
    ·exact absurd hx e1
   ·rintro ⟨h0,h1,h2⟩
    rw [getDset om] at h2
    exact .inl ((h.mem x).2 ⟨h0,h1,h2⟩)
theorem WalkOk.gate {f:FM} (v0:0≤f.vars) {oe:Option Nat} {e:List Int} {s:List Bool} (h:WalkOk f oe e s) {a:Nat} (ha:f.vars≤a):WalkOk f oe e (s.set a true):=by
 refine⟨by rw [List.length_set];exact h.len,h.nodup,fun x=> ?_,h.none'⟩
 rw [h.mem x]
 constructor<;>rintro ⟨h0,h1,h2⟩<;>refine⟨h0,h1,?_⟩
 ·rw [getDset om];exact h2
 ·rw [getDset om] at h2;exact h2
end Go.PN
namespace Go.Proofs.YtefekdejgbceiaaGreat
open Go.AI Go.PN
attribute [local irreducible] aw Fa Fh DrK
abbrev WH (f:FM) (gW gS:Nat) (oe:Option Nat) (e:List Int) (s:List Bool):Heap:=
 (gW,.cells 163 5 (ofL [.int .i64 f.vars,fns false f.nodes,.int .i64 f.top,gs oe 1 e.length,.osl gS 1 0 (f.vars.toNat+f.nodes.length)]))::(gS,.cells 4 (f.vars.toNat+f.nodes.length) (bsF s))::gh oe 3 e.length (isF e)
theorem visit_fh (f:FM) (ok:FrOk f) (gW gS:Nat):∀(m a:Nat) (oe:Option Nat) (e:List Int) (s:List Bool),a<m→(a:Int)<f.vars+f.nodes.length→WalkOk f oe e s→
  Fh Tryz.prog 125 (WH f gW gS oe e s) [.c (.optr gW 0),.c (.int .i64 a)] (fun r h=>r=.tup []∧∃oe' e' s',h=WH f gW gS oe' e' s'∧WalkOk f oe' e' s'):=by
 have v0:=ok.v0
 have v24:=ok.v24
 have n128:=ok.n128
 intro m
 induction m with
 |zero=>intro a oe e s h;omega
 |succ m ih=>
  intro a oe e s ham han hw
  have hsl:=hw.len
  have hel:=hw.le
  refine fh_of_body Tryz.func125 rfl rfl (by simp [Tryz.ntmps125]) fun C hC=> ?_
  simp only [initS,Nat.reduceAdd]
  refine aw_nd fun hnd=> ?_
  have hne:gW≠gS:=fun h=>by
   subst h
   exact(List.nodup_cons.1 hnd).1 (List.mem_cons_self ..)
  clear hnd
  have hq:(gW=gS)=False∧(gS=gW)=False:=⟨eq_false hne,eq_false (Ne.symm hne)⟩
  refine yG hq ?_
  refine yF hq (fun hb=>?_) fun hb=>?_
  ·refine yG hq ?_
   refine yU hq ?_
   exact⟨rfl,oe,e,s,rfl,hw⟩
  ·have hb':s.getD a false=false:=by simpa using hb
   refine yGWS hq ?_
   rw [updF_bs om]
   refine yG hq ?_
   refine yF hq (fun hv=>?_) fun hv=>?_
   ·have hv':(a:Int)<f.vars:=of_decide_eq_true hv
    have hw2:=fun g=>hw.event v0 hv' hb' g
    refine yG hq ?_
    refine aw_push (pre:=[(gW,.cells 163 5 (ofL [.int .i64 f.vars,fns false f.nodes,.int .i64 f.top,gs oe 1 e.length,.osl gS 1 0 (f.vars.toNat+f.nodes.length)])),(gS,.cells 4 (f.vars.toNat+f.nodes.length) (bsF (s.set a true)))]) rfl rfl rfl rfl rfl rfl rfl (zE hq) (zE hq) (by rfl) om om (zE hq) om (by exact hw.none') (zE hq) (by rfl) (by rfl) (by first|rfl|simp only [Nat.mul_one,List.nil_append,List.cons_append]<;>rfl) (by unfold maxLen;omega) om (by exact is_push rfl (a:Int)) fun g hn_g=> ?_
    replace hn_g:=Heap.ne_of hn_g
    first|dsimp only [Heap.ne,gh] at hn_g|dsimp only [Heap.ne] at hn_g|skip
    have J1:=oj hq hn_g
    refine ySGWSG J1 ?_
    rw [updF_at _ 3 _ (by simp)]
    refine yU J1 ?_
    have hl1:(e++[(a:Int)]).length=e.length+1:=by simp
    exact⟨rfl,some g,e++[(a:Int)],s.set a true,by rw [WH,hl1];rfl,hw2 g⟩
   ·have hv':f.vars≤a:=dF hv
    have hw2:=hw.gate v0 hv'
    have hak:(a:Int)-f.vars=((a-f.vars.toNat:Nat):Int):=by omega
    have hkl:a-f.vars.toNat<f.nodes.length:=by omega
    have hln:=ok.len hkl
    have hargs:∀j,j<(f.nodes.getD (a-f.vars.toNat) fn0).args.length→0≤(f.nodes.getD (a-f.vars.toNat) fn0).args.getD j 0∧(f.nodes.getD (a-f.vars.toNat) fn0).args.getD j 0<a:=fun j hj=>by
     obtain⟨a0,a1⟩:=ok.at hkl hj
     exact⟨a0,by omega⟩
    generalize s.set a true=s1 at hw2
    generalize hk:a-f.vars.toNat=k at*
    generalize hx:f.nodes.getD k fn0=x at*
    clear hb hsl hel hw
    have J2:=oj hq (oj hak hx)
    refine yG J2 ?_
    refine aw_dr 17 ty_mixed (by kernel_rfl) ?_
    refine yG J2 ?_
    refine aw_lp (fun y:Nat×Option Nat×List Int×List Bool=>[(0,.c (.optr gW 0)),(50,.c (is true x.args)),(51,.c (.int .i64 x.args.length)),(52,.c (.int .i64 y.1))]) (fun y=>WH f gW gS y.2.1 y.2.2.1 y.2.2.2)
     (fun y=>y.1≤x.args.length∧WalkOk f y.2.1 y.2.2.1 y.2.2.2) (fun y=>x.args.length-y.1) (0,oe,e,s1) (zB J2) zZ ⟨Nat.zero_le _,hw2⟩ ?_
    clear hw2 J2
    rintro ⟨j,oe1,e1,s1⟩ ⟨hj,hw1⟩
    dsimp only at hj hw1⊢
    have J3:=oj hq (oj hak hx)
    refine yG J3 ?_
    refine yF J3 (fun h2=>?_) fun h2=>?_
    ·have h2':j<x.args.length:=dT h2
     obtain⟨a0,a1⟩:=hargs j h2'
     obtain⟨i2,hi2⟩:=Int.eq_ofNat_of_zero_le a0
     rw [hi2] at a1
     have J4:=oj hq (oj hak (oj hx hi2))
     refine yG J4 ?_
     refine aw_callh (hr:=[]) (ih i2 oe1 e1 s1 om om hw1) rfl rfl rfl (by rw [List.append_nil]) (zL J4) ?_
     rintro _ _ ⟨rfl,oe2,e2,s2,rfl,hw2⟩ _
     rw [List.append_nil]
     refine ySG J4 ?_
     exact aw_stop ⟨(j+1,oe2,e2,s2),by dsimp only;omega,(zB J4),zZ,by dsimp only;omega,hw2⟩
    ·refine yG J3 ?_
     refine yV J3 ?_
     exact⟨rfl,oe1,e1,s1,rfl,hw1⟩
end Go.Proofs.YtefekdejgbceiaaGreat
namespace Go.PN
open Go.AI
structure DepOk (f:FM) (s:List Bool) (i:Nat) (oe:Option Nat) (e:List Int):Prop where
 nodup:e.Nodup
 mem:∀x:Int,x∈e↔0≤x∧x<f.vars∧(s.getD x.toNat false=true∨x<i)
 none':oe=none→e.length=0
theorem DepOk.le {f:FM} {s:List Bool} {i:Nat} {oe:Option Nat} {e:List Int} (h:DepOk f s i oe e):e.length≤f.vars.toNat:=by
 have:=nodup_le (m:=(List.range f.vars.toNat).map fun(i:Nat)=>(i:Int)) h.nodup (fun x hx=>by
  have h1:=(h.mem x).1 hx
  exact List.mem_map.2 ⟨x.toNat,List.mem_range.2 om,by omega⟩)
 simpa using this
theorem DepOk.start {f:FM} {s:List Bool} {oe:Option Nat} {e:List Int} (h:WalkOk f oe e s):DepOk f s 0 oe e:=by
 refine⟨h.nodup,fun x=> ?_,h.none'⟩
 rw [h.mem x]
 constructor
 ·rintro ⟨h0,h1,h2⟩;exact⟨h0,h1,.inl h2⟩
 ·rintro ⟨h0,h1,h2|h2⟩
  ·exact⟨h0,h1,h2⟩
  ·omega
theorem DepOk.skip {f:FM} {s:List Bool} {i:Nat} {oe:Option Nat} {e:List Int} (h:DepOk f s i oe e) (hs:s.getD i false=true):DepOk f s (i+1) oe e:=by
 refine⟨h.nodup,fun x=> ?_,h.none'⟩
 rw [h.mem x]
 constructor
 ·rintro ⟨h0,h1,h2|h2⟩
  ·exact⟨h0,h1,.inl h2⟩
  ·exact⟨h0,h1,.inr om⟩
 ·rintro ⟨h0,h1,h2|h2⟩
  ·exact⟨h0,h1,.inl h2⟩
  ·by_cases e1:x=i
   ·subst e1;exact⟨h0,h1,.inl (by rw [Int.toNat_natCast];exact hs)⟩
   ·exact⟨h0,h1,.inr om⟩
theorem DepOk.push {f:FM} {s:List Bool} {i:Nat} {oe:Option Nat} {e:List Int} (h:DepOk f s i oe e) (hi:(i:Int)<f.vars) (hs:s.getD i false=false) (g:Nat):DepOk f s (i+1) (some g) (e++[(i:Int)]):=by
 refine⟨?_,fun x=> ?_,fun e=>by cases e⟩
 ·rw [List.nodup_append]
  refine⟨h.nodup,by simp,fun x hx y hy=> ?_⟩
  rw [List.mem_singleton] at hy
  subst hy
  intro he
  subst he
  rcases((h.mem _).1 hx).2.2 with h1|h1
  ·rw [Int.toNat_natCast,hs] at h1;cases h1
  ·omega
 ·rw [List.mem_append,List.mem_singleton,h.mem x]
  constructor
  ·rintro (⟨h0,h1,h2|h2⟩|e1)
   ·exact⟨h0,h1,.inl h2⟩
   ·exact⟨h0,h1,.inr om⟩
   ·exact⟨by omega,by omega,.inr om⟩
  ·rintro ⟨h0,h1,h2|h2⟩
   ·exact .inl ⟨h0,h1,.inl h2⟩
   ·by_cases e1:x=i
    ·exact .inr e1
    ·exact .inl ⟨h0,h1,.inr om⟩
theorem DepOk.done {f:FM} {s:List Bool} {i:Nat} {oe:Option Nat} {e:List Int} (h:DepOk f s i oe e) (v0:0≤f.vars) (hi:f.vars≤i):Perm0 e∧e.length=f.vars.toNat:=by
 have h1:=h.le
 have h2:=nodup_le (l:=(List.range f.vars.toNat).map fun(i:Nat)=>(i:Int)) (m:=e) (List.Pairwise.map _ (fun a b (h:a≠b) (e:(a:Int)=b)=>h om) List.nodup_range) (fun x hx=>by
  obtain⟨q,hq,rfl⟩:=List.mem_map.1 hx
  rw [List.mem_range] at hq
  exact(h.mem _).2 ⟨by omega,by omega,.inr om⟩)
 rw [List.length_map,List.length_range] at h2
 have h3:e.length=f.vars.toNat:=by omega
 exact⟨⟨fun x hx=>by have:=(h.mem x).1 hx;omega,h.nodup⟩,h3⟩
theorem walk_start (f:FM):WalkOk f none [] (List.replicate (f.vars.toNat+f.nodes.length) false):=by
 refine⟨List.length_replicate ..,List.nodup_nil,fun x=> ?_,fun _=>rfl⟩
 constructor
 ·intro h;cases h
 ·rintro ⟨_,_,h⟩
  rw [List.getD_eq_getElem?_getD,List.getElem?_replicate] at h
  split at h<;>cases h
end Go.PN
namespace Go.Proofs.YtefekdejgbceiaaGreat
open Go.AI Go.PN
attribute [local irreducible] aw Fa Fh DrK
theorem make_bs' (n:Nat):(fun j=>[CV.bool false][j%1]?.getD .any)=bsF (List.replicate n false):=by
 rw [←make_bs n]
 funext j
 rw [Nat.mod_one];rfl
theorem odepth_fh (f:FM) (ok:FrOk f):Fh Tryz.prog 86 [] [.agg (fmc false f)] (fun x h=>h=[]∧∃(o:List Int) (s:List Bool),x=.tup [.c (is true o),.c (.row true 1 (f.vars.toNat+f.nodes.length) (bsF s))]∧Perm0 o∧o.length=f.vars.toNat):=by
 have v0:=ok.v0
 have v24:=ok.v24
 have n128:=ok.n128
 have t0:=ok.t0
 have t1:=ok.t1
 obtain⟨V,hV⟩:=Int.eq_ofNat_of_zero_le v0
 obtain⟨T,hT⟩:=Int.eq_ofNat_of_zero_le t0
 have hN:f.vars+(f.nodes.length:Int)=((f.vars.toNat+f.nodes.length:Nat):Int):=by omega
 refine fh_of_body Tryz.func86 rfl rfl (by simp [Tryz.ntmps86]) fun C hC=> ?_
 simp only [initS,Nat.reduceAdd]
 refine xG ?_
 refine xB fun g1 hn_g1=>?_
 refine yG hn_g1 ?_
 refine aw_drB 8 ty_mixed (by kernel_rfl) ?_
 repeat first|(refine drb_2q true rfl (fun R hR=> ?_);simp only [go_sem,hn_g1,hN];(with_reducible refine hR _ _ ?_ ?_);(focus (((try simp only [inRange])<;>and_intros<;>first|exact True.intro|omega|trivial);done));clear hR R)|fail
 refine drb_new rfl (NewX.make (n:=f.vars.toNat+f.nodes.length) (c:=f.vars.toNat+f.nodes.length) (size:=1) (z:=[.bool false]) rfl rfl rfl (zE (oj hn_g1 hN)) (zE (oj hn_g1 hN)) rfl om (zE (oj hn_g1 hN)) (zE (oj hn_g1 hN)) rfl rfl om om om) (by kernel_rfl) ?_
 have J1:=oj hn_g1 hN
 refine yS J1 ?_
 refine drb_nil fun γ=> ?_
 refine yS J1 ?_
 rw [make_bs' (f.vars.toNat+f.nodes.length)]
 generalize γ 7=gS
 refine yG J1 ?_
 refine yB J1 fun gW hn_gW=>?_
 refine yG (oj hn_g1 (oj hN hn_gW)) ?_
 refine aw_nd fun hnd=> ?_
 simp only [Heap.keys,List.map_cons,List.map_nil] at hnd
 replace hnd:=ndP_of hnd
 dsimp only [ndP,neA] at hnd
 refine yG hnd ?_
 refine aw_callh (hr:=[(g1,.cells 24 3 (ofL (fmc false f)))]) (visit_fh f ok gW gS (T+1) T none [] (List.replicate (f.vars.toNat+f.nodes.length) false) om om (walk_start f)) rfl rfl rfl (List.Perm.refl _) (by rw [hT];exact(zL hnd)) ?_
 rintro _ _ ⟨rfl,oe,e,s,rfl,hw⟩ hk
 have hd0:=DepOk.start hw
 have hsl:=hw.len
 clear hw hk J1
 refine yS hnd ?_
 refine aw_perm (h':=([(g1,.cells 24 3 (ofL (fmc false f)))]:Heap)++WH f gW gS oe e s) (List.perm_append_comm (l₁:=WH f gW gS oe e s) (l₂:=([(g1,.cells 24 3 (ofL (fmc false f)))]:Heap))) ?_
 simp only [List.cons_append,List.nil_append]
 refine yG hnd ?_
 refine aw_lp (fun y:Nat×Option Nat×List Int=>[(4,.c (.optr gW 0)),(21,.c (.int .i64 f.vars)),(22,.c (.int .i64 y.1))]) (fun y=>WH f gW gS y.2.1 y.2.2 s)
  (fun y=>(y.1:Int)≤f.vars∧DepOk f s y.1 y.2.1 y.2.2) (fun y=>f.vars.toNat-y.1) (0,oe,e) (zB hnd) (List.Sublist.cons _ (List.Sublist.refl _)) ⟨v0,hd0⟩ ?_
 clear hd0
 clear oe e
 rintro ⟨i,oe,e⟩ ⟨hi,hd⟩
 dsimp only at hi hd⊢
 have hel:=hd.le
 refine yG hnd ?_
 refine yF hnd (fun h1=>?_) fun h1=>?_
 ·have h1':(i:Int)<f.vars:=of_decide_eq_true h1
  refine yG hnd ?_
  refine yF hnd (fun h2=>?_) fun h2=>?_
  ·have h2':s.getD i false=false:=by simpa using h2
   have hd2:=fun g=>hd.push h1' h2' g
   refine yG hnd ?_
   refine aw_push (pre:=[(gW,.cells 163 5 (ofL [.int .i64 f.vars,fns false f.nodes,.int .i64 f.top,gs oe 1 e.length,.osl gS 1 0 (f.vars.toNat+f.nodes.length)])),(gS,.cells 4 (f.vars.toNat+f.nodes.length) (bsF s))]) rfl rfl rfl rfl rfl rfl rfl (zE hnd) (zE hnd) (by rfl) om om (zE hnd) om (by exact hd.none') (zE hnd) (by rfl) (by rfl) (by first|rfl|simp only [Nat.mul_one,List.nil_append,List.cons_append]<;>rfl) (by unfold maxLen;omega) om (by exact is_push rfl (i:Int)) fun g hn_g=> ?_
   replace hn_g:=Heap.ne_of hn_g
   first|dsimp only [Heap.ne,gh] at hn_g|dsimp only [Heap.ne] at hn_g|skip
   have J2:=oj hnd hn_g
   refine ySGWSG J2 ?_
   rw [updF_at _ 3 _ (by simp)]
   have hl1:(e++[(i:Int)]).length=e.length+1:=by simp
   exact aw_stop ⟨(i+1,some g,e++[(i:Int)]),by dsimp only;omega,(zB J2),(by dsimp only;rw [WH,hl1];exact List.Sublist.refl _),by dsimp only;omega,hd2 g⟩
  ·have h2':s.getD i false=true:=by simpa using h2
   refine yG hnd ?_
   exact aw_stop ⟨(i+1,oe,e),by dsimp only;omega,(zB hnd),zZ,by dsimp only;omega,hd.skip h2'⟩
 ·have h1':f.vars≤i:=dF h1
  obtain⟨hp,hl⟩:=hd.done v0 h1'
  refine yG hnd ?_
  refine aw_perm (h':=(gW,.cells 163 5 (ofL [.int .i64 f.vars,fns false f.nodes,.int .i64 f.top,gs oe 1 e.length,.osl gS 1 0 (f.vars.toNat+f.nodes.length)]))::(gh oe 3 (e.length*1) (isF e)++[(gS,.cells 4 (f.vars.toNat+f.nodes.length) (bsF s))])) (by
   rw [Nat.mul_one]
   exact List.Perm.cons _ (List.perm_append_comm (l₁:=([(gS,.cells 4 (f.vars.toNat+f.nodes.length) (bsF s))]:Heap)))) ?_
  refine aw_frzG (j0:=3) (og:=oe) (s:=1) (n:=e.length) (f':=ofL [.int .i64 f.vars,fns false f.nodes,.int .i64 f.top,is true e,.osl gS 1 0 (f.vars.toNat+f.nodes.length)]) rfl rfl (fun j hj hne=> ?_) hd.none' (fun g e=> ?_) ?_
  ·match j,hj,hne with
   |0,_,_=>rfl
   |1,_,_=>rfl
   |2,_,_=>rfl
   |3,_,hne=>exact absurd rfl hne
   |4,_,_=>rfl
  ·exact fun h=>by have:=(hC g).1 h;simp [Heap.keys] at this
  refine aw_frzC (j0:=4) (n':=f.vars.toNat+f.nodes.length) (f':=ofL [.int .i64 f.vars,fns false f.nodes,.int .i64 f.top,is true e,.row true 1 (f.vars.toNat+f.nodes.length) (bsF s)]) rfl (Nat.le_refl _) rfl (fun j hj hne=> ?_) ?_ ?_
  ·match j,hj,hne with
   |0,_,_=>rfl
   |1,_,_=>rfl
   |2,_,_=>rfl
   |3,_,_=>rfl
   |4,_,hne=>exact absurd rfl hne
  ·exact fun h=>by have:=(hC gS).1 h;simp [Heap.keys] at this
  refine yG hnd ?_
  refine aw_dr 10 ty_mixed (by kernel_rfl) ?_
  refine yG hnd ?_
  refine aw_rethw (h':=[]) rfl (List.nil_sublist _) (fun R hR=> ?_)
  simp only [go_sem,hnd]
  refine hR _ rfl ?_
  exact⟨rfl,e,s,rfl,hp,hl⟩
theorem oDepth_fh (f:FM) (hn:f.nodes.length≤1099511627776) (ha:ArgsOk f) (hc:fcode f=0):Fh Tryz.prog 41 [] [.agg (fmc false f)] (fun x h=>h=[]∧∃(o:List Int),x=.tup [.c (is true o),.c .nilI]∧Perm0 o∧o.length=f.vars.toNat):=by
 have ok:=fr_ok hc
 have v0:=ok.v0
 have v24:=ok.v24
 have n128:=ok.n128
 have t0:=ok.t0
 have t1:=ok.t1
 have z:=ieq_t hc
 refine fh_of_body Tryz.func41 rfl rfl (by simp [Tryz.ntmps41]) fun C hC=> ?_
 simp only [initS,Nat.reduceAdd]
 refine yG z ?_
 refine yB z fun g1 hn_g1=>?_
 have J1:=oj z hn_g1
 refine yG J1 ?_
 refine aw_callq (fcheck_fa f hn ha om om) rfl rfl rfl (zL J1) ?_
 refine ySGNG J1 ?_
 refine aw_callh (hr:=[(g1,.cells 24 3 (ofL (fmc false f)))]) (odepth_fh f ok) rfl rfl rfl (List.Perm.refl _) (zL J1) ?_
 rintro _ _ ⟨rfl,o,s,rfl,hp,hl⟩ _
 refine ySG J1 ?_
 refine aw_rethw (h':=[]) rfl (List.nil_sublist _) (fun R hR=> ?_)
 simp only [go_sem,z,hn_g1]
 refine hR _ rfl ?_
 exact⟨rfl,o,rfl,hp,hl⟩
end Go.Proofs.YtefekdejgbceiaaGreat
namespace Go.PN
theorem oscan_zero {vars:Int}:∀(o seen:List Int),(∀x∈o,0≤x∧x<vars)→(seen++o).Nodup→oscan vars seen o=0
 |[],_,_,_=>rfl
 |x::o,seen,h,hs=>by
  rw [oscan,if_neg (by have:=h x (List.mem_cons_self ..);omega),if_neg (fun hm=>by
   rw [List.nodup_append] at hs
   exact hs.2.2 x hm x (List.mem_cons_self ..) rfl)]
  exact oscan_zero o (seen++[x]) (fun y hy=>h y (List.mem_cons_of_mem _ hy)) (by simpa using hs)
theorem perm_code {o:List Int} (hp:Perm0 o) (hl:o.length≤24):ocode o o.length=0:=by
 unfold ocode
 rw [if_neg om,if_neg (by simp)]
 exact oscan_zero o [] hp.range (by simpa using hp.nodup)
end Go.PN
namespace Go.Proofs.YtefekdejgbceiaaGreat
open Go.AI Go.PN
attribute [local irreducible] aw Fa Fh DrK
theorem stop_fh (f:FM) (p:List RD) (hn:f.nodes.length≤1099511627776) (ha:ArgsOk f) (hc:fcode f=0) (h6:f.vars≤6) (hw:∀r∈p,r.wf 16) (hp:pcode p f.vars=0) (hpl:(p.length:Int)=f.vars):Fh Tryz.prog 9 [] [.agg (fmc false f),.c (rats false p)] (fun x h=>h=[]∧∃D,DOut D.order (fun s=>valF f s f.top) D∧D.order.length=p.length∧x=.tup [.agg (rdc (rd (sumQ p (tabL D) (2^p.length)))),.c .nilI]):=by
 have ok:=fr_ok hc
 have v0:=ok.v0
 have n128:=ok.n128
 have t0:=ok.t0
 have t1:=ok.t1
 have z:=ieq_t hc
 have z2:=ieq_t hp
 refine fh_of_body Tryz.func9 rfl rfl (by simp [Tryz.ntmps9]) fun C hC=> ?_
 simp only [initS,Nat.reduceAdd]
 refine yG (oj z z2) ?_
 refine yB (oj z z2) fun g2 hn_g2=>?_
 refine yG (oj z (oj z2 hn_g2)) ?_
 refine yA (oj z (oj z2 hn_g2)) fun g4 hn_g4=>?_
 have J1:=oj z (oj z2 (oj hn_g2 hn_g4))
 refine yG J1 ?_
 refine aw_callq (fcheck_fa f hn ha om om) rfl rfl rfl (zL J1) ?_
 refine ySGNG J1 ?_
 refine aw_callq (scheck_fa p f.vars (fun r hr=>wf_mono (hw r hr) om) om) rfl rfl rfl (zL J1) ?_
 refine ySGNG J1 ?_
 refine aw_callh (hc:=[]) (hr:=[(g4,.cells 41 3 (ofL [.bool false,.nils,.nils])),(g2,.cells 24 3 (ofL (fmc false f)))]) (oDepth_fh f hn ha hc) rfl rfl rfl (.refl _) (zL J1) ?_
 rintro _ _ ⟨rfl,o,rfl,hpo,hol⟩ _
 refine ySGNG J1 ?_
 have hoc:ocode o o.length=0:=perm_code hpo om
 refine aw_callh (hc:=[]) (hr:=[(g4,.cells 41 3 (ofL [.bool false,.nils,.nils])),(g2,.cells 24 3 (ofL (fmc false f)))]) (build_fh f hn ha hc o hoc hol om) rfl rfl rfl (.refl _) (zL J1) ?_
 rintro _ _ ⟨rfl,D,hD,rfl⟩ _
 refine ySG J1 ?_
 refine yA J1 fun g10 hn_g10=>?_
 have J2:=oj z (oj z2 (oj hn_g2 (oj hn_g4 hn_g10)))
 refine yGWSGNG J2 ?_
 have okD:=dg_ok hD.code
 have hoD:=hD.order
 have hplD:p.length=D.order.length:=by rw [hoD];omega
 have k1:=okD.n4096
 have k2:=okD.r1
 have k0:=okD.r0
 have k3:=vlen (ps:=p) (ns:=D.nodes)
 have hB6:D.order.length≤6:=by omega
 refine aw_dr 6 ty_mixed (by kernel_rfl) ?_
 refine yG J2 ?_
 refine yD J2 (values_fa D p 3000 ?_ ?_ (fun r hr=>wf_mono (hw r hr) ?_) (vals_wf okD hplD (L:=16) ?_ hw (Nat.le_trans (Bl_mono hB6) ?_)) (ns_len okD hplD) ?_) ?_
 ·omega
 ·omega
 ·omega
 ·omega
 ·decide
 ·omega
 refine yG J2 ?_
 refine yD J2 (of_fa' (valsL p D.nodes []) D.root okD.r0 ?_ ?_) ?_
 ·omega
 ·omega
 refine yGWSG J2 ?_
 refine aw_rethw (h':=[]) rfl (List.nil_sublist _) (fun R hR=> ?_)
 simp only [go_sem,z,z2,hn_g2,hn_g4,hn_g10]
 refine hR _ rfl ?_
 refine⟨rfl,D,by rw [hoD];exact hD,hplD.symm,?_⟩
 rw [←plain_law okD hplD]
end Go.Proofs.YtefekdejgbceiaaGreat
namespace Go.Proofs.YtefekdejgbceiaaGreat
open Go.AI Go.PN
attribute [local irreducible] aw Fa Fh DrK
theorem form_range (f:FM):∀n,formTo f n=(List.range n).map fun s=>valF f s f.top
 |0=>rfl
 |n+1=>by rw [formTo,form_range f n,List.range_succ,List.map_append];rfl
end Go.Proofs.YtefekdejgbceiaaGreat
namespace Go.PN
open Go.AI
structure K33 (f:FM) (o:List Int):Prop where
 c:fcode f=0
 oc:ocode o f.vars=0
 coh:cohTo f f.nodes.length=true
theorem ocode_len {o:List Int} {v:Int} (h:ocode o v=0):(o.length:Int)=v:=by
 unfold ocode at h
 by_cases h1:v<0∨24<v
 ·rw [if_pos h1] at h;cases h
 ·rw [if_neg h1] at h
  by_cases h2:(o.length:Int)≠v
  ·rw [if_pos h2] at h;cases h
  ·exact Classical.not_not.1 h2
theorem out_cut {n:Nat} {F:Nat→Bool} {z:ZD} (hz:ZOut n F z) {f:Nat→Bool} (hF:∀s,F s=true↔MinT f s):CutL f (sortN (setsZ z.nodes z.root 0)):=⟨sort_srt _,fun s=>by rw [out_mem hz,hF]⟩
theorem out_lt {n:Nat} {F:Nat→Bool} {z:ZD} (hz:ZOut n F z):∀s∈sortN (setsZ z.nodes z.root 0),s<2^n:=fun s hs=>by
 have hm:=(out_mem hz s).1 hs
 rw [←hz.mem] at hm
 have:=mem_bits hz.tab z.root hz.ref s hm
 refine Nat.lt_pow_two_of_testBit _ fun j hj=> ?_
 cases hb:s.testBit j with
 |false=>rfl
 |true=>have:=(this j hb).2;omega
end Go.PN
namespace Go.Proofs.YtefekdejgbceiaaGreat
open Go.AI Go.PN
attribute [local irreducible] aw Fa Fh DrK
theorem csolve_fh (f:FM) (o:List Int) (hk:K33 f o) (h10:f.vars≤10) (hn:f.nodes.length≤1099511627776) (ha:ArgsOk f):
  Fh Tryz.prog 105 [] [.agg (fmc false f),.c (is false o)] (fun x h=>h=[]∧∃z,SolOut f.vars.toNat (fun s=>valF f s f.top) z∧x=.tup [.agg (zdc true z),.c .nilI]):=by
 have ok:=fr_ok hk.c
 have v0:=ok.v0
 have n128:=ok.n128
 have t0:=ok.t0
 have t1:=ok.t1
 have hol:=ocode_len hk.oc
 have z1:=ieq_t hk.c
 have z2:=ieq_t hk.oc
 have hoo:ocode o o.length=0:=by rw [hol];exact hk.oc
 have hbl:=build_fh f hn ha hk.c o hoo om om
 refine fh_of_body Tryz.func105 rfl rfl (by simp [Tryz.ntmps105]) fun C hC=> ?_
 simp only [initS,Nat.reduceAdd]
 refine yG (oj z1 z2) ?_
 refine yB (oj z1 z2) fun g2 hn_g2=>?_
 have J1:=oj z1 (oj z2 hn_g2)
 refine yG J1 ?_
 refine yA J1 fun g4 hn_g4=>?_
 have J2:=oj z1 (oj z2 (oj hn_g2 hn_g4))
 refine yG J2 ?_
 refine yC J2 (fcheck_fa f hn ha ?_ ?_) ?_
 ·omega
 ·omega
 refine yGNG J2 ?_
 refine yC J2 (ocheck_fa o f.vars ?_) ?_
 ·omega
 refine yGNG J2 ?_
 refine yC J2 (csyntax_fa f hn ha hk.c) ?_
 rw [hk.coh]
 refine ySGNG J2 ?_
 refine yN J2 ?_
 refine yG J2 ?_
 refine aw_callh (hc:=[]) (hr:=[(g4,.cells 148 2 (ofL [.nils,.int .i64 0])),(g2,.cells 24 3 (ofL (fmc false f)))]) hbl rfl rfl rfl (.refl _) (zL J2) ?_
 rintro _ _ ⟨rfl,D,hD,rfl⟩ _
 have hDl:D.order.length=f.vars.toNat:=by rw [hD.order];omega
 have hDf:(fun s=>evalD D.nodes s D.root)=fun s=>valF f s f.top:=funext hD.ev
 refine ySG J2 ?_
 refine yA J2 fun g10 hn_g10=>?_
 have J3:=oj z1 (oj z2 (oj hn_g2 (oj hn_g4 hn_g10)))
 refine yGWSGNG J3 ?_
 refine aw_callh (hc:=[]) (hr:=[(g10,.cells 31 3 (ofL (dgc true D))),(g4,.cells 148 2 (ofL [.nils,.int .i64 0])),(g2,.cells 24 3 (ofL (fmc false f)))]) (csol_fh D hD.code om) rfl rfl rfl (.refl _) (zL J3) ?_
 rintro _ _ ⟨rfl,hcs⟩ _
 rw [hDf,hDl] at hcs
 rcases hcs with ⟨hnm,rfl⟩|⟨hm,z,hz,rfl⟩
 ·exact absurd (coh_monoF ok hk.coh _) hnm
 refine ySGWSG J3 ?_
 refine aw_rethw (h':=[]) rfl (List.nil_sublist _) (fun R hR=> ?_)
 simp only [go_sem,z1,z2,hn_g2,hn_g4,hn_g10]
 refine hR _ rfl ?_
 clear hR R
 exact⟨rfl,z,hz,rfl⟩
theorem Cuts_fh (f:FM) (o:List Int) (hk:K33 f o) (h10:f.vars≤10) (hn:f.nodes.length≤1099511627776) (ha:ArgsOk f):
  Fh Tryz.prog 59 [] [.agg (fmc false f),.c (is false o)] (fun x h=>h=[]∧∃l,CutL (fun s=>valF f s f.top) l∧l.length≤1024∧(∀s∈l,s<2^f.vars.toNat)∧x=.tup [.c (is true (zL l)),.c .nilI]):=by
 refine fh_of_body Tryz.func59 rfl rfl (by simp [Tryz.ntmps59]) fun C hC=> ?_
 simp only [initS,Nat.reduceAdd]
 refine xG ?_
 refine xB fun g2 hn_g2=>?_
 refine yG hn_g2 ?_
 refine aw_callh (hc:=[]) (hr:=[(g2,.cells 24 3 (ofL (fmc false f)))]) (csolve_fh f o hk h10 hn ha) rfl rfl rfl (.refl _) (zL hn_g2) ?_
 rintro _ _ ⟨rfl,z,⟨F,hz,hF,hzn⟩,rfl⟩ _
 have hct:=sol_cnt hz om
 refine ySG hn_g2 ?_
 refine yA hn_g2 fun g6 hn_g6=>?_
 have J1:=oj hn_g2 hn_g6
 refine yGWSGNG J1 ?_
 refine aw_callh (hc:=[]) (hr:=[(g6,.cells 148 2 (ofL (zdc true z))),(g2,.cells 24 3 (ofL (fmc false f)))]) (zlist_fh z hz om hzn hct) rfl rfl rfl (.refl _) (zL J1) ?_
 rintro _ _ ⟨rfl,rfl⟩ _
 refine ySG J1 ?_
 refine aw_rethw (h':=[]) rfl (List.nil_sublist _) (fun R hR=> ?_)
 simp only [go_sem,hn_g2,hn_g6]
 refine hR _ rfl ?_
 clear hR R
 refine⟨rfl,_,out_cut hz hF,?_,out_lt hz,rfl⟩
 rw [sort_len (sets_nodup hz.tab z.root hz.ref 0 fun j _=>Nat.zero_testBit j)]
 unfold cntZ at hct
 omega
end Go.Proofs.YtefekdejgbceiaaGreat
namespace Go.PN
open Go.AI
def leastT (tb:List Bool) (s k:Nat):Bool:=tb.getD s false&&(List.range k).all fun u=> !subT u s|| !tb.getD u false
def solN (tb:List Bool) (k:Nat):List Nat:=(List.range k).filter fun s=>leastT tb s s
theorem sol_len_le (tb:List Bool) (k:Nat):(solN tb k).length≤k:=Nat.le_trans (List.length_filter_le _ _) (by rw [List.length_range];exact Nat.le_refl _)
theorem sol_ltN {tb:List Bool} {k x:Nat} (h:x∈solN tb k):x<k:=List.mem_range.1 (List.mem_filter.1 h).1
end Go.PN

namespace Go.PN
open Go.AI
theorem tab_get (f:Nat→Bool) (n s:Nat) (h:s<n):((List.range n).map f).getD s false=f s:=by
 rw [List.getD_eq_getElem?_getD,List.getElem?_map,List.getElem?_range h];rfl
theorem least_min {f:Nat→Bool} {n s:Nat} (h:s<n):leastT ((List.range n).map f) s s=true↔MinT f s:=by
 unfold leastT
 rw [Bool.and_eq_true,tab_get f n s h,List.all_eq_true]
 constructor
 ·rintro ⟨h1,h2⟩
  refine⟨h1,fun t ht hf=> ?_⟩
  have hle:=sub_le ht
  rcases Nat.lt_or_ge t s with hlt|hge
  ·have:=h2 t (List.mem_range.2 hlt)
   rw [tab_get f n t om,hf,subT_iff.2 ht] at this
   cases this
  ·omega
 ·rintro ⟨h1,h2⟩
  refine⟨h1,fun u hu=> ?_⟩
  have hlt:=List.mem_range.1 hu
  rw [tab_get f n u om]
  cases hs:subT u s
  ·rfl
  ·cases hf:f u
   ·rfl
   ·have:=h2 u (subT_iff.1 hs) hf;omega
theorem sol_is {f:Nat→Bool} {n:Nat} {l:List Nat} (hc:CutL f l) (hl:∀s∈l,s<n):sortN (solN ((List.range n).map f) n)=l:=
 srt_ext (sort_srt _) hc.1 fun s=>by
  rw [sort_mem,hc.2]
  unfold solN
  rw [List.mem_filter,List.mem_range]
  constructor
  ·rintro ⟨h1,h2⟩
   exact(least_min h1).1 h2
  ·intro h
   have h1:=hl s ((hc.2 s).2 h)
   exact⟨h1,(least_min h1).2 h⟩
end Go.PN
namespace Go.Proofs.YtefekdejgbceiaaGreat
open Go.AI Go.PN
noncomputable def eachL (val:Nat→Rat) (X:Rat) (n:Nat):List RD:=(List.range n).map fun i=>rd (val i/X)
theorem eachL_len (val:Nat→Rat) (X:Rat) (n:Nat):(eachL val X n).length=n:=by simp [eachL]
theorem eachL_succ (val:Nat→Rat) (X:Rat) (n:Nat):eachL val X (n+1)=eachL val X n++[rd (val n/X)]:=by simp [eachL,List.range_succ]
theorem eachL_get {val:Nat→Rat} {X:Rat} {n i:Nat} (h:i<n):(eachL val X n).getD i rd0=rd (val i/X):=by
 unfold eachL
 rw [List.getD_eq_getElem?_getD]
 simp [h]
noncomputable def wcode (f:FM) (p:List RD):Int:=if fcode f≠0 then fcode f else if cohTo f f.nodes.length then pcode p f.vars else 7
theorem pc_ok {p:List RD} {v:Int} (h:pcode p v=0):(p.length:Int)=v∧∀r∈p,r.prob=true:=by
 unfold pcode at h
 split at h
 ·cases h
 ·rename_i h2
  split at h
  ·rename_i h3
   exact⟨Classical.not_not.1 h2,fun r hr=>List.all_eq_true.1 h3 r hr⟩
  ·cases h
theorem dp_of {D:DG} {p:List RD} (hD:dcode D=0) (hl:D.order.length=p.length) (hp:∀r∈p,r.prob=true):dpcode D p=0:=by
 unfold dpcode
 rw [if_neg (by rw [hD];simp)]
 unfold pcode
 rw [if_neg om,if_pos (List.all_eq_true.2 hp)]
structure WOk (f:FM) (p:List RD):Prop where
 c:fcode f=0
 coh:cohTo f f.nodes.length=true
 pc:pcode p f.vars=0
theorem wok_of {f:FM} {p:List RD} (h:wcode f p=0):WOk f p:=by
 unfold wcode at h
 by_cases h1:fcode f=0
 ·rw [if_neg (fun k=>k h1)] at h
  cases h2:cohTo f f.nodes.length with
  |true=>rw [h2] at h;exact⟨h1,h2,h⟩
  |false=>rw [h2] at h;cases h
 ·rw [if_pos h1] at h;exact absurd h h1
theorem WOk.code {f:FM} {p:List RD} (h:WOk f p):wcode f p=0:=by
 unfold wcode
 rw [if_neg (fun k=>k h.c),h.coh]
 exact h.pc
theorem WOk.len {f:FM} {p:List RD} (h:WOk f p):(p.length:Int)=f.vars:=(pc_ok h.pc).1
theorem WOk.prob {f:FM} {p:List RD} (h:WOk f p):∀r∈p,r.prob=true:=(pc_ok h.pc).2
theorem top_wV (f:FM) (p:List RD):sumQ p (formTo f (2^p.length)) (2^p.length)=wV f p:=by
 rw [sumQ_ex]
 refine ex_congr _ _ _ fun s hs=> ?_
 rw [form_range,tab_get _ _ s hs]
 rfl
theorem wV_fits {f:FM} {p:List RD} (hw:∀r∈p,r.wf 4) (h6:p.length≤6):fits (wV f p) 4000:=by
 rw [←top_wV]
 refine fits_mono (fits_sum (L:=4) om hw _) ?_
 have h3:2^p.length≤2^6:=Nat.pow_le_pow_right om om
 have h4:=Nat.mul_le_mul (show(2*4+2)*p.length+2≤62 from by omega) h3
 omega
theorem wf_set {p:List RD} (hw:∀r∈p,r.wf 4) (i:Nat) {q:RD} (hq:q.wf 4):∀r∈p.set i q,r.wf 4:=fun r hr=>by
 rcases List.mem_or_eq_of_mem_set hr with hr|rfl
 ·exact hw r hr
 ·exact hq
theorem wV1_fits {f:FM} {p:List RD} (hw:∀r∈p,r.wf 4) (h6:p.length≤6) (i:Nat):fits (wV f (p.set i (rd 1))) 4000:=wV_fits (wf_set hw i rd1_wf) (by rw [List.length_set];exact h6)
theorem wV0_fits {f:FM} {p:List RD} (hw:∀r∈p,r.wf 4) (h6:p.length≤6) (i:Nat):fits (wV f (p.set i rd0)) 4000:=wV_fits (wf_set hw i rd0_wf4) (by rw [List.length_set];exact h6)
noncomputable def cutsF (f:FM):List Nat:=sortN (solN (formTo f (2^f.vars.toNat)) (2^f.vars.toNat))
theorem cutsF_is {f:FM} {l:List Nat} (h:CutL (fun s=>valF f s f.top) l) (hl:∀s∈l,s<2^f.vars.toNat):cutsF f=l:=by
 unfold cutsF
 rw [form_range]
 exact sol_is h hl
noncomputable def critV (f:FM) (p:List RD) (i:Nat):Rat:=(wV f (p.set i (rd 1))-wV f (p.set i rd0))*(p.getD i rd0).q
noncomputable def critL (f:FM) (p:List RD):List RD:=eachL (critV f p) (wV f p) p.length
noncomputable def fusL (f:FM) (p:List RD):List RD:=eachL (wF (cutsF f) p) (wV f p) p.length
noncomputable def achL (f:FM) (p:List RD):List RD:=eachL (fun i=>wV f (p.set i (rd 1))) (wV f p) p.length
noncomputable def cutT (l:List Nat) (i n:Nat):List Bool:=(List.range (2^n)).map fun s=>failsB (cutsI l i) s
theorem cut_sum (l:List Nat) (p:List RD) (i:Nat):sumQ p (cutT l i p.length) (2^p.length)=wF l p i:=by
 rw [sumQ_ex]
 unfold wF cutT
 refine ex_congr _ _ _ fun s hs=> ?_
 rw [tab_get _ _ s hs]
 rfl
theorem getD_q_fits {p:List RD} (hw:∀r∈p,r.wf 4) (hv:∀r∈p,r.prob=true) {i:Nat} (hi:i<p.length):(p.getD i rd0).wf 4:=by
 rw [List.getD_eq_getElem?_getD,List.getElem?_eq_getElem hi]
 exact hw _ (List.getElem_mem hi)
theorem wF_fits {l:List Nat} {p:List RD} (hw:∀r∈p,r.wf 4) (h6:p.length≤6) (i:Nat):fits (wF l p i) 4000:=by
 rw [←cut_sum]
 refine fits_mono (fits_sum (L:=4) om hw _) ?_
 have h3:2^p.length≤2^6:=Nat.pow_le_pow_right om om
 have h4:=Nat.mul_le_mul (show(2*4+2)*p.length+2≤62 from by omega) h3
 omega
theorem critV_fits {f:FM} {p:List RD} (hw:∀r∈p,r.wf 4) (hv:∀r∈p,r.prob=true) (h6:p.length≤6) {i:Nat} (hi:i<p.length):fits (critV f p i) 9000:=
 fits_mono (fits_mul (fits_sub (wV1_fits hw h6 i) (wV0_fits hw h6 i)) (RD.fits (getD_q_fits hw hv hi) om)) om
theorem div_self_of {X:Rat} (hX:0<X):X/X=1:=by
 rw [Rat.div_def]
 exact Rat.mul_inv_cancel X (fun e=>by rw [e] at hX;exact absurd hX (by decide))
theorem wId1 {f:FM} {p:List RD} (hX:0<wV f p) {i:Nat} (hi:i<p.length):(wV f (p.set i (rd 1))/wV f p-1)*wV f p=(1-(p.getD i rd0).q)*(wV f (p.set i (rd 1))-wV f (p.set i rd0)):=by
 have h:=wV_lin (f:=f) hi
 have h1:=div_self_of hX
 rw [Rat.div_def] at h1⊢
 generalize wV f (p.set i (rd 1))=A at*
 generalize wV f (p.set i rd0)=B at*
 generalize wV f p=X at*
 generalize (p.getD i rd0).q=q at*
 grind
theorem wId2 {f:FM} {p:List RD} (hX:0<wV f p) {i:Nat} (hi:i<p.length) (h0:wV f (p.set i rd0)=0):1-critV f p i/wV f p=0:=by
 have h:=wV_lin (f:=f) hi
 have h1:=div_self_of hX
 unfold critV
 rw [Rat.div_def] at h1⊢
 rw [h0] at h⊢
 generalize wV f (p.set i (rd 1))=A at*
 generalize wV f p=X at*
 generalize (p.getD i rd0).q=q at*
 grind
theorem wId3 {f:FM} {p:List RD} (hX:0<wV f p) {i:Nat} (hi:i<p.length) (h0:wV f (p.set i rd0)≠0):wV f p/wV f (p.set i rd0)*(1-critV f p i/wV f p)=1:=by
 have h:=wV_lin (f:=f) hi
 have h1:=div_self_of hX
 have h2:wV f (p.set i rd0)*(wV f (p.set i rd0))⁻¹=1:=Rat.mul_inv_cancel _ h0
 unfold critV
 rw [Rat.div_def] at h1
 rw [Rat.div_def,Rat.div_def]
 generalize wV f (p.set i (rd 1))=A at*
 generalize wV f (p.set i rd0)=B at*
 generalize wV f p=X at*
 generalize (p.getD i rd0).q=q at*
 grind
end Go.Proofs.YtefekdejgbceiaaGreat
namespace Go.PN
open Go.AI
theorem sq_one {k:Nat} (h:k≠0):sq false k k=1:=by
 unfold sq sgn
 have:=Rat.mkRat_mul_left (n:=1) (d:=1) h
 rw [Int.mul_one,Nat.mul_one] at this
 simp only [Bool.false_eq_true,if_false]
 rw [this]
 rfl
theorem sq_div (x y:Bool) {n m d e:Nat} (hm:m≠0) (he:e≠0):sq (x !=y) (n*e) (d*m)=sq x n d/sq y m e:=by
 have h1:sq y m e*sq y e m=1:=by
  rw [←sq_mul,Nat.mul_comm e m,bne_self_eq_false]
  exact sq_one (Nat.mul_ne_zero hm he)
 have hb:sq y m e≠0:=fun h=>by rw [h,Rat.zero_mul] at h1;exact absurd h1 (by decide)
 have h2:(sq y m e)⁻¹=sq y e m:=by
  have h3:=Rat.inv_mul_cancel (sq y m e) hb
  have h4:(sq y m e)⁻¹*(sq y m e*sq y e m)=sq y e m:=by rw [←Rat.mul_assoc,h3,Rat.one_mul]
  rw [h1,Rat.mul_one] at h4
  exact h4
 rw [sq_mul,Rat.div_def,h2]
theorem RD.pn_ne {r:RD} (h:r.q≠0):r.pn≠0:=fun e=>h (by unfold RD.q;rw [e,sq_zero])
theorem q_div {a b:RD} {L:Nat} (hb:b.wf L) (hz:b.q≠0):sq (a.ps !=b.ps) (a.pn*b.pd) (a.pd*b.pn)=a.q/b.q:=sq_div _ _ (RD.pn_ne hz) (RD.pd_ne hb)
theorem fits_inv {q:Rat} {L:Nat} (h:fits q L) (hz:q≠0):fits q⁻¹ L:=by
 obtain⟨h1,h2⟩:=h
 have hn:q.num≠0:=fun e=>hz (Rat.num_eq_zero.1 e)
 have h3:(rd q).q=q:=rd_q q
 obtain⟨p1,p2,p3⟩:(rd q).ps=decide (q.num<0)∧(rd q).pn=q.num.natAbs∧(rd q).pd=q.den:=by
  have hs:=(rd_some hz).1
  unfold RD.ps RD.pn RD.pd
  rw [if_pos hs,if_pos hs,if_pos hs]
  unfold rd
  rw [if_neg hn]
  exact⟨rfl,val_words _,val_words _⟩
 have h4:q=sq (decide (q.num<0)) q.num.natAbs q.den:=by
  have:(rd q).q=sq (rd q).ps (rd q).pn (rd q).pd:=rfl
  rw [h3,p1,p2,p3] at this
  exact this
 have h5:sq false 1 1=1:=sq_one om
 have h6:=sq_div false (decide (q.num<0)) (n:=1) (d:=1) (m:=q.num.natAbs) (e:=q.den) om q.den_nz
 rw [h5,←h4,Rat.div_def,Rat.one_mul,Nat.one_mul,Nat.one_mul] at h6
 rw [←h6]
 exact fits_sq om h2 h1
theorem fits_div {a b:Rat} {L M:Nat} (ha:fits a L) (hb:fits b M) (hz:b≠0):fits (a/b) (L+M):=by
 rw [Rat.div_def]
 exact fits_mul ha (fits_inv hb hz)
end Go.PN
namespace Go.Proofs.YtefekdejgbceiaaGreat
open Go.AI Go.PN
attribute [local irreducible] aw Fa Fh DrK
theorem rdiv_fa (a b:RD) (ha:a.wf 1073741824) (hb:b.wf 1073741824) (hz:b.q≠0):Fa Tryz.prog 57 [.agg (rdc a),.agg (rdc b)] (.tup [.agg (rdc (rd (a.q/b.q))),.c .nilI]):=by
 obtain⟨l1,l2⟩:=RD.p_len ha om
 obtain⟨l3,l4⟩:=RD.p_len hb om
 have dd:a.pd*b.pn≠0:=Nat.mul_ne_zero (RD.pd_ne ha) (RD.pn_ne hz)
 have m1:=words_mul_len a.pn b.pd
 have m3:=words_mul_len a.pd b.pn
 have hl:(((words b.pn).length:Int)==0)=false:=by
  rw [beq_eq_false_iff_ne]
  intro e
  exact RD.pn_ne hz (words_eq_nil.1 (List.length_eq_zero_iff.1 om))
 refine fa_of_body Tryz.func57 rfl rfl (by simp [Tryz.ntmps57]) fun C hC=> ?_
 simp only [initS,Nat.reduceAdd]
 refine yG hl ?_
 refine yB hl fun g2 hn_g2=>?_
 refine yB (oj hl hn_g2) fun g3 hn_g3=>?_
 refine yA (oj hl (oj hn_g2 hn_g3)) fun g4 hn_g4=>?_
 have J1:=oj hl (oj hn_g2 (oj hn_g3 hn_g4))
 refine yG J1 ?_
 refine yC J1 (rparts_fa a ha) ?_
 refine yG J1 ?_
 refine yC J1 (rparts_fa b hb) ?_
 refine yGNG J1 ?_
 refine yC J1 (mulW _ _ ?_ ?_) ?_
 ·omega
 ·omega
 refine yG J1 ?_
 refine yC J1 (mulW _ _ ?_ ?_) ?_
 ·omega
 ·omega
 refine yG J1 ?_
 refine yC J1 (rform_fa _ _ _ ?_ ?_ dd) ?_
 ·omega
 ·omega
 rw [q_div hb hz]
 refine yGWSGT hC J1 ?_
 exact .tup ⟨.agg lerl_rd,.c .nilI,trivial⟩
theorem rdiv_zero (a b:RD) (ha:a.wf 1073741824) (hb:b.wf 1073741824) (hz:b.q=0):Fa Tryz.prog 57 [.agg (rdc a),.agg (rdc b)] (.tup [.agg (rdc rd0),.c (errA 8)]):=by
 have hp:b.pn=0:=Classical.byContradiction fun h=>sq_ne h (RD.pd_ne hb) hz
 have hl:(((words b.pn).length:Int)==0)=true:=by rw [hp,words_zero];rfl
 refine fa_of_body Tryz.func57 rfl rfl (by simp [Tryz.ntmps57]) fun C hC=> ?_
 simp only [initS,Nat.reduceAdd]
 refine yG hl ?_
 refine yB hl fun g2 hn_g2=>?_
 refine yB (oj hl hn_g2) fun g3 hn_g3=>?_
 refine yA (oj hl (oj hn_g2 hn_g3)) fun g4 hn_g4=>?_
 have J1:=oj hl (oj hn_g2 (oj hn_g3 hn_g4))
 refine yG J1 ?_
 refine yC J1 (rparts_fa a ha) ?_
 refine yG J1 ?_
 refine yC J1 (rparts_fa b hb) ?_
 refine yGPG J1 ?_
 refine yW J1 ?_
 refine ySGT hC J1 ?_
 exact .tup ⟨.agg ⟨.bool _,.nils,.nils,trivial⟩,.c (ler_errN rfl (by decide)),trivial⟩
end Go.Proofs.YtefekdejgbceiaaGreat
namespace Go.Proofs.YtefekdejgbceiaaGreat
open Go.AI Go.PN
attribute [local irreducible] aw Fa Fh DrK
theorem bcheck_fa (d:DG) (p:List RD) (es:List Int) (hw:∀r∈p,r.wf 500000000) (hl:p.length≤1099511627776) (hl1:d.order.length≤1099511627776) (hl2:d.nodes.length≤1099511627776) (he:es.length≤1099511627776):
  Fa Tryz.prog 37 [.agg (dgc false d),.c (rats false p),.c (is false es)] (.c (errA (bcode d p es))):=by
 refine fa_of_body Tryz.func37 rfl rfl (by simp [Tryz.ntmps37]) fun C hC=> ?_
 simp only [initS,Nat.reduceAdd]
 refine xG ?_
 refine xB fun g3 hn_g3=>?_
 refine yG hn_g3 ?_
 refine yC hn_g3 (dcheck_fa d hl1 hl2) ?_
 refine yG hn_g3 ?_
 refine yF hn_g3 (fun hb=>?_) fun hb=>?_
 ·have hb':dcode d≠0:=by simpa using hb
  have e:bcode d p es=dcode d:=by
   have hdp:dpcode d p=dcode d:=by unfold dpcode;rw [if_pos hb']
   unfold bcode;rw [hdp,if_pos hb']
  rw [e]
  refine yGT hC hn_g3 ?_
  exact .one (.c ler_err)
 have hb':dcode d=0:=by simpa using hb
 have hdp:dpcode d p=pcode p d.order.length:=by unfold dpcode;rw [if_neg (by simp [hb'])]
 refine yG hn_g3 ?_
 refine yC hn_g3 (scheck_fa p d.order.length hw hl) ?_
 refine yG hn_g3 ?_
 refine yF hn_g3 (fun hc=>?_) fun hc=>?_
 ·have hc':pcode p d.order.length≠0:=by simpa using hc
  have e:bcode d p es=pcode p d.order.length:=by unfold bcode;rw [hdp,if_pos hc']
  rw [e]
  refine yGT hC hn_g3 ?_
  exact .one (.c ler_err)
 have hc':pcode p d.order.length=0:=by simpa using hc
 have e:bcode d p es=if es.all (fun i=>decide (0≤i)&&decide (i<d.order.length)) then 0 else 10:=by unfold bcode;rw [hdp,if_neg (by simp [hc'])]
 rw [e]
 refine yG hn_g3 ?_
 refine aw_lp (fun k:Nat=>[(3,.c (.optr g3 0)),(24,.c (is false es)),(25,.c (.int .i64 es.length)),(26,.c (.int .i64 k))]) (fun _=>[(g3,.cells 31 3 (ofL (dgc false d)))]) (fun k=>k≤es.length∧∀j,j<k→0≤es.getD j 0∧es.getD j 0<d.order.length) (fun k=>es.length-k) 0 (zB hn_g3) zZ ⟨Nat.zero_le _,fun j hj=>by omega⟩ ?_
 rintro k ⟨hk,hz⟩
 refine yG hn_g3 ?_
 refine yF hn_g3 (fun h1=>?_) fun h1=>?_
 ·have h1':k<es.length:=dT h1
  have hbad:¬(0≤es.getD k 0∧es.getD k 0<d.order.length)→es.all (fun i=>decide (0≤i)&&decide (i<d.order.length))=false:=fun h=>by
   rw [List.all_eq_false]
   refine⟨es[k],List.getElem_mem h1',?_⟩
   rw [getDZ h1'] at h
   simpa using h
  refine yG hn_g3 ?_
  refine aw_split 32 (zE hn_g3) (fun h2=> ?_) (fun h2=> ?_)<;>refine yS hn_g3 ?_
  ·have h2':=of_decide_eq_true h2
   rw [hbad om]
   refine yGPGT hC hn_g3 ?_
   exact .one (.c (ler_errN rfl (by decide)))
  ·have h2':=of_decide_eq_false h2
   refine yG hn_g3 ?_
   refine yF hn_g3 (fun h3=>?_) fun h3=>?_
   ·have h3':=of_decide_eq_true h3
    rw [hbad om]
    refine yGT hC hn_g3 ?_
    exact .one (.c (ler_errN rfl (by decide)))
   ·have h3':=of_decide_eq_false h3
    refine yG hn_g3 ?_
    exact aw_stop ⟨k+1,by omega,(zB hn_g3),zZ,by omega,fun j hj=>by
     by_cases e:j=k
     ·subst e;omega
     ·exact hz j om⟩
 ·have h1':k=es.length:=dF h1
  subst h1'
  have hall:es.all (fun i=>decide (0≤i)&&decide (i<d.order.length))=true:=by
   rw [List.all_eq_true]
   intro x hx
   obtain⟨j,hj,rfl⟩:=List.mem_iff_getElem.1 hx
   have:=hz j hj
   rw [getDZ hj] at this
   simpa using this
  rw [hall]
  refine yGT hC hn_g3 ?_
  exact .one (.c (ler_err0 rfl))
theorem with_fa (d:DG) (p:List RD) (hs:Small d p) (h0:dpcode d p=0) (i:Nat) (hi:i<p.length) (q:RD) (hq:q.wf 4) (hqp:q.prob=true):
  Fa Tryz.prog 79 [.agg (dgc false d),.c (rats false p),.c (.int .i64 i),.agg (rdc q)] (.tup [.agg (rdc (rd (prS d (p.set i q)))),.c .nilI]):=by
 have s1:=hs.l
 have hp:=sprobability_fa d (p.set i q) (hs.set h0 hq)
 rw [dp_set h0 hqp,if_pos rfl] at hp
 refine fa_of_body Tryz.func79 rfl rfl (by simp [Tryz.ntmps79]) fun C hC=> ?_
 simp only [initS,Nat.reduceAdd]
 refine xG ?_
 refine xB fun g4 hn_g4=>?_
 refine yG hn_g4 ?_
 refine yB hn_g4 fun g7 hn_g7=>?_
 refine yG (oj hn_g4 hn_g7) ?_
 refine yA (oj hn_g4 hn_g7) fun g8 hn_g8=>?_
 have J1:=oj hn_g4 (oj hn_g7 hn_g8)
 refine yG J1 ?_
 refine aw_callh (hr:=[(g8,.cells 41 3 (ofL [.bool false,.nils,.nils])),(g7,.cells 41 3 (ofL (rdc q))),(g4,.cells 31 3 (ofL (dgc false d)))]) (clone_fh p om) rfl rfl rfl (List.Perm.refl _) (zL J1) ?_
 rintro _ _ ⟨og,hog,rfl,rfl⟩ hk2
 obtain⟨g,rfl⟩:∃g,og=some g:=by
  cases og with
  |none=>have:=hog rfl;omega
  |some g=>exact⟨g,rfl⟩
 have hg:=hk2 g (by simp [Heap.keys,gh])
 replace hg:=Heap.ne_of hg
 dsimp only [Heap.ne] at hg
 dsimp only [gs,gh,List.cons_append,List.nil_append]
 have J2:=oj hn_g4 (oj hn_g7 (oj hn_g8 hg))
 refine ySGWS J2 ?_
 rw [ratsF_upd om]
 refine yG J2 ?_
 refine aw_callq hp rfl rfl rfl (by refine yS J2 ?_;exact⟨.agg (lel_refl _),.c (le_oslr2 (zE J2) (by rw [List.length_set]))⟩) ?_
 refine ySGWSG J2 ?_
 refine yT hC J2 ?_
 exact .tup ⟨.agg lerl_rd,.c .nilI,trivial⟩
theorem derive_fa (d:DG) (p:List RD) (hs:Small d p) (h0:dpcode d p=0) (i:Nat) (hi:i<p.length):
  Fa Tryz.prog 38 [.agg (dgc false d),.c (rats false p),.c (.int .i64 i)] (.tup [.agg (rdc (rd (impQ d p i))),.c .nilI]):=by
 have w1:=with_fa d p hs h0 i hi (rd 1) rd1_wf rd1_prob
 have w0:=with_fa d p hs h0 i hi rd0 rd0_wf4 rd0_prob
 have f1:=pr_fits (hs.set h0 (i:=i) rd1_wf) (dp_set h0 rd1_prob)
 have f0:=pr_fits (hs.set h0 (i:=i) rd0_wf4) (dp_set h0 rd0_prob)
 unfold impQ
 generalize prS d (p.set i (rd 1))=X1 at*
 generalize prS d (p.set i rd0)=X0 at*
 refine fa_of_body Tryz.func38 rfl rfl (by simp [Tryz.ntmps38]) fun C hC=> ?_
 simp only [initS,Nat.reduceAdd]
 refine xG ?_
 refine xB fun g3 hn_g3=>?_
 refine yG hn_g3 ?_
 refine yA hn_g3 fun g6 hn_g6=>?_
 refine yG (oj hn_g3 hn_g6) ?_
 refine aw_cut (fun g:Nat=>[(1,.c (rats false p)),(2,.c (.int .i64 i)),(3,.c (.optr g3 0)),(6,.c (.optr g6 0)),(8,.c (.optr g 0)),(9,.c .nilI)]) (fun g=>[(g,.cells 41 3 (ofL (rdc (rd X1)))),(g6,.cells 41 3 (ofL [.bool false,.nils,.nils])),(g3,.cells 31 3 (ofL (dgc false d)))]) (fun g=>g∉Heap.keys [(g6,.cells 0 0 (ofL [])),(g3,.cells 0 0 (ofL []))]) ?_ ?_
 ·refine aw_drL 9 7 18 ty_mixed (by kernel_rfl) ?_
  repeat (refine drg_2q rfl fun R r=>?_;simp only[go_sem,hn_g3,hn_g6];with_reducible show R (some _);with_reducible refine r _ _ ?_;clear r R)
  refine drg_call (rof_fa 1 ?_ ?_) rfl rfl rfl (zL (oj hn_g3 hn_g6)) ?_
  ·omega
  ·omega
  refine yS (oj hn_g3 hn_g6) ?_
  repeat (refine drg_2q rfl fun R r=>?_;simp only[go_sem,hn_g3,hn_g6];with_reducible show R (some _);with_reducible refine r _ _ ?_;clear r R)
  refine drg_call (w1) rfl rfl rfl (zL (oj hn_g3 hn_g6)) ?_
  refine yS (oj hn_g3 hn_g6) ?_
  repeat (refine drg_2q rfl fun R r=>?_;simp only[go_sem,hn_g3,hn_g6];with_reducible show R (some _);with_reducible refine r _ _ ?_;clear r R)
  refine drg_new rfl (NewX.alloc rfl rfl rfl (zE (oj hn_g3 hn_g6))) (by kernel_rfl) ?_
  have J1:=oj hn_g3 hn_g6
  refine yS J1 ?_
  refine drg_nil ⟨by simp,fun γ=> ?_,fun γ=> ?_⟩
  ·simp only [List.drop_succ_cons,List.drop_zero,List.nil_append,List.cons_append]
   refine yS J1 ?_
   try simp only [List.nil_append,List.cons_append]
   generalize γ 8=g
   refine aw_fresh fun hn=> ?_
   refine yH J1 ?_
   refine yW J1 ?_
   refine yS J1 ?_
   refine yH J1 ?_
   exact aw_stop ⟨g,(zB J1),zZ,hn⟩
  ·simp only [List.drop_succ_cons,List.drop_zero,List.take_succ_cons,List.take_zero,List.nil_append,List.cons_append]
   refine yS J1 ?_
   try simp only [List.nil_append,List.cons_append]
   generalize γ 8=g
   refine aw_fresh fun hn=> ?_
   refine yH J1 ?_
   refine yW J1 ?_
   refine yS J1 ?_
   refine yH J1 ?_
   exact aw_stop ⟨g,(zB J1),zZ,hn⟩
 rintro g8 hn_g8
 replace hn_g8:=Heap.ne_of hn_g8
 dsimp only [Heap.ne] at hn_g8
 have J2:=oj hn_g3 (oj hn_g6 hn_g8)
 refine yGNG J2 ?_
 refine aw_conv (t:=27) (v:=.agg (rdc rd0)) (by refine yS J2 ?_;exact zero_agg) rfl ?_
 refine ySG J2 ?_
 refine yC J2 (w0) ?_
 refine yG J2 ?_
 refine yA J2 fun g10 hn_g10=>?_
 have J3:=oj hn_g3 (oj hn_g6 (oj hn_g8 hn_g10))
 refine yGWSG J3 ?_
 refine yC J3 (rsub_fa (rd X1) (rd X0) (rd_wf (fits_mono f1 ?_)) (rd_wf (fits_mono f0 ?_))) ?_
 ·omega
 ·omega
 rw [rd_q,rd_q]
 refine yGWSGT hC J3 ?_
 exact .tup ⟨.agg lerl_rd,.c .nilI,trivial⟩
theorem bcode0 (d:DG) (p:List RD):bcode d p []=dpcode d p:=by
 unfold bcode
 split
 ·rfl
 ·rename_i h
  simp only [List.all_nil,if_true]
  omega
theorem birnbaum_fa (d:DG) (p:List RD) (hs:Small d p):
  Fa Tryz.prog 8 [.agg (dgc false d),.c (rats false p)] (.tup [.c (rats true (if dpcode d p=0 then impL d p p.length else [])),.c (errA (dpcode d p))]):=by
 have s1:=hs.l
 have s2:=hs.o
 have s3:=hs.n
 have hb:=bcheck_fa d p [] hs.w5 om om om (by simp)
 rw [bcode0] at hb
 refine fa_of_body Tryz.func8 rfl rfl (by simp [Tryz.ntmps8]) fun C hC=> ?_
 simp only [initS,Nat.reduceAdd]
 refine xG ?_
 refine xB fun g2 hn_g2=>?_
 refine yG hn_g2 ?_
 refine yC hn_g2 (hb) ?_
 refine yG hn_g2 ?_
 refine yF hn_g2 (fun h0=>?_) fun h0=>?_
 ·have h0':dpcode d p≠0:=by simpa using h0
  rw [if_neg h0']
  refine yGT hC hn_g2 ?_
  exact .tup ⟨.c .nils,.c ler_err,trivial⟩
 have h0':dpcode d p=0:=by simpa using h0
 rw [if_pos h0']
 refine yG hn_g2 ?_
 refine aw_lp (fun x:Option Nat×Nat=>[(1,.c (rats false p)),(2,.c (.optr g2 0)),(7,.c (gs x.1 3 x.2)),(18,.c (.int .i64 p.length)),(19,.c (.int .i64 x.2))]) (fun x=>(g2,.cells 31 3 (ofL (dgc false d)))::gh x.1 41 (x.2*3) (ratsF (impL d p x.2)))
  (fun x=>x.2≤p.length∧(x.1=none→x.2=0)) (fun x=>p.length-x.2) (none,0) (zB hn_g2) (List.Sublist.cons_cons _ (List.nil_sublist _)) ⟨Nat.zero_le _,fun _=>rfl⟩ ?_
 rintro ⟨og,k⟩ ⟨hk,hog⟩
 dsimp only at hk hog⊢
 refine aw_nd fun hnd=> ?_
 refine yG hn_g2 ?_
 refine yF hn_g2 (fun h1=>?_) fun h1=>?_
 ·have h1':k<p.length:=dT h1
  refine yG hn_g2 ?_
  refine yC hn_g2 (derive_fa d p hs h0' k h1') ?_
  refine yG hn_g2 ?_
  refine yA hn_g2 fun g9 hn_g9=>?_
  have J1:=oj hn_g2 hn_g9
  refine yGWSGNG J1 ?_
  refine aw_push (pre:=[(g9,.cells 41 3 (ofL (rdc (rd (impQ d p k))))),(g2,.cells 31 3 (ofL (dgc false d)))]) rfl rfl rfl rfl rfl rfl rfl (zE J1) (zE J1) (by rfl) om om (zE J1) om (by exact hog) (zE J1) (by rfl) (by rfl) (by first|rfl|simp only [Nat.mul_one,List.nil_append,List.cons_append]<;>rfl) (by unfold maxLen;omega) om (by exact rats_push (impL_len d p k) _) fun g1 hn_g1=> ?_
  replace hn_g1:=Heap.ne_of hn_g1
  first|dsimp only [Heap.ne,gh] at hn_g1|dsimp only [Heap.ne] at hn_g1|skip
  have J2:=oj hn_g2 (oj hn_g9 hn_g1)
  refine ySG J2 ?_
  rw [←impL_succ]
  exact aw_stop ⟨(some g1,k+1),by dsimp only;omega,(zB J2),List.Sublist.cons _ (List.Sublist.refl _),by dsimp only;omega,some_ne⟩
 ·have h1':k=p.length:=dF h1
  subst h1'
  refine yGT hC hn_g2 ?_
  rw [h0']
  exact .tup ⟨.c (ler_gsr (pre:=[(g2,_)]) hog (fun g e=>by
   subst e
   simp only [Heap.keys,gh,List.map_cons,List.map_nil,List.nodup_cons,List.mem_singleton] at hnd
   simp only [Heap.keys,List.map_cons,List.map_nil,List.mem_singleton]
   exact fun e=>hnd.1 e.symm) (impL_len d p p.length)),.c .nilI,trivial⟩
end Go.Proofs.YtefekdejgbceiaaGreat
namespace Go.AI
section
variable {E : Env} {K : List It} {l : List Oper} {FP FP' : Heap} {σ σ' : Sl} {h : Heap} {o : Oper} {i m : Nat} {cs : List (Nat × Nat)}
theorem cw_buildSlice {t e size bytes len:Nat} {xs:List Operand} {cells:List CV} (ho:l[i]?=some o) (hop:o.op=.buildSlice t len (enumO 0 xs).toArray) (hw:wantA l σ o=some true) (hd:dstOk E.N o.dst=true) (ht:tElem E.P t=some (e,size,bytes))
  (hz:(tZero E.P e).isSome=true) (hl:xs.length=len) (hsm:len*size≤16777216) (hlm:len≤16777216) (hx:∀x∈xs,(ev σ x).flat=true∧(ev σ x).cells.all CV.solid=true∧(ev σ x).cells.length=size) (hc:(xs.map (ev σ)).flatMap AV.cells=cells) (hops:∀x∈xs,x∈o.op.operands) (hFP:Has0 FP' h)
  (k:∀g,g∉h.keys→CW E l K FP' cs (σ.setO o.dst (.c (.osl g size 0 len))) ((g,.cells e (len*size) (ofL cells))::h)) (hm:m=2∨m=1∧FP'=FP:=by first|exact .inl rfl|exact .inr ⟨rfl,rfl⟩):CW E l K FP ((i,m)::cs) σ h:=by
 refine .pin ho hm (R:=fun r h2=>∃g,g∉h.keys∧r=.c (.osl g size 0 len)∧h2=(g,.cells e (len*size) (ofL cells))::h) (fun σ' K hs=> ?_) ?_ ?_
 ·have he:∀x∈xs,ev σ' x=ev σ x:=fun x hxx=>ev_same (hops x hxx) hs
  exact aw_buildSlice hop ((want_same hs).trans hw) hd ht hz hl hsm hlm (fun x hxx=>by rw [he x hxx];exact hx x hxx) (by rw [List.map_congr_left he];exact hc) fun g hg=>aw_ops_nil (aw_stop ⟨_,⟨g,hg,rfl,rfl⟩,rfl⟩)
 ·rintro r h2 ⟨g,_,_,rfl⟩;exact fun p hp=>List.mem_cons_of_mem _ (hFP p hp)
 ·rintro r h2 ⟨g,hg,rfl,rfl⟩;exact k g hg
theorem cw_callqP {f:FuncId} {xs:List Operand} {ts:Array TypeId} {args:List AV} {r:AV} (ho:l[i]?=some o) (hf:Fa E.P f args r) (hop:o.op=.call {callee:=.value (.func f),args:=xs.toArray,argTypes:=ts}) (hw:wantA l σ o=some true) (hd:dstOk E.N o.dst=true)
  (le:LeA h (xs.map (ev σ)) args) (hFP:Has0 FP' h) (k:CW E l K FP' cs (σ.setO o.dst r) h) (hm:m=2∨m=1∧FP'=FP:=by first|exact .inl rfl|exact .inr ⟨rfl,rfl⟩):CW E l K FP ((i,m)::cs) σ h:=by
 refine .pin ho hm (R:=fun x h2=>x=r∧h2=h) (fun σ' K hs=> ?_) ?_ ?_
 ·have he:xs.map (ev σ')=xs.map (ev σ):=evs_same (fun x hx=>by rw [hop];simp [Op.operands,Call.operands,hx]) hs
  exact aw_callq hf hop ((want_same hs).trans hw) hd (by rw [he];exact le) (aw_ops_nil (aw_stop ⟨r,⟨rfl,rfl⟩,rfl⟩))
 ·rintro _ _ ⟨_,rfl⟩;exact hFP
 ·rintro _ _ ⟨rfl,rfl⟩;exact k
end
end Go.AI
