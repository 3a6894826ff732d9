/- Parts of one proof, laid by a program. -/
import Derived.Test.YtfcnbgmclfkfcaaGreatM00
import Derived.Test.YtfcnbgmclfkfcaaGreatM04
import Derived.Laws.StructEq
set_option linter.unusedSimpArgs false
set_option linter.unusedVariables false
namespace Go.AI
def okPart:AV→Bool
 |.tup _=>false
 |.c x=>x.solid
 |.agg xs=>xs.all CV.solid
theorem okPart_spec {x:AV} (h:okPart x=true):(∀xs,x≠.tup xs)∧x.cells.all CV.solid=true:=by
 cases x with
 |tup xs=>cases h
 |c x=>exact⟨(fun _ e=>by cases e),by simpa [okPart,AV.cells] using h⟩
 |agg xs=>exact⟨(fun _ e=>by cases e),by simpa [okPart,AV.cells] using h⟩
def okParts (ρ:Operand→AV):List (Nat×Operand)→Bool
 |[]=>true
 |p::ps=>okPart (ρ p.2)&&okParts ρ ps
theorem okParts_spec {ρ:Operand→AV}:∀{ps:List (Nat×Operand)},okParts ρ ps=true→∀p∈ps,(∀xs,ρ p.2≠.tup xs)∧(ρ p.2).cells.all CV.solid=true
 |[],_,p,hp=>by simp at hp
 |q::ps,h,p,hp=>by
  simp only [okParts,Bool.and_eq_true] at h
  rcases List.mem_cons.1 hp with e|hp
  ·subst e;exact okPart_spec h.1
  ·exact okParts_spec h.2 p hp
section
variable {P : Program} {h : Heap} {ρ : Operand → AV}
def mapCells (ρ:Operand→AV):List (Nat×Operand)→List (Nat×List CV)
 |[]=>[]
 |p::ps=>(p.1,(ρ p.2).cells)::mapCells ρ ps
theorem mapCells_eq (ρ:Operand→AV):∀ps:List (Nat×Operand),mapCells ρ ps=ps.map fun p=>(p.1,(ρ p.2).cells)
 |[]=>rfl
 |p::ps=>by simp [mapCells,mapCells_eq ρ ps]
def build2 (P:Program) (ρ:Operand→AV) (t:TypeId) (ps:List (Nat×Operand)):Option (Prop×AV):=
 match tFlds P t,tZero P t with
 |some fl,some z=>match fillC fl z (mapCells ρ ps) with
  |some out=>some (okParts ρ ps=true,.agg out)
  |none=>none
 |_,_=>none
theorem build2_ok {t:TypeId} {ps:List (Nat×Operand)} {req:Prop} {r:AV} (hb:build2 P ρ t ps=some (req,r)) (hreq:req):POk P h ρ (.build t ps.toArray) r:=by
 unfold build2 at hb
 split at hb
 ·rename_i fl z hfl hz
  split at hb
  ·rename_i out hout
   simp only [Option.some.injEq,Prod.mk.injEq] at hb
   obtain⟨rfl,rfl⟩:=hb
   refine buildAV_ok (req:=∀p∈ps,(∀xs,ρ p.2≠.tup xs)∧(ρ p.2).cells.all CV.solid=true) ?_ (okParts_spec hreq)
   unfold buildAV
   rw [hfl,hz]
   simp only
   rw [←mapCells_eq,hout]
  ·cases hb
 ·cases hb
def isStr (P:Program) (t:TypeId):Bool:=match P.underlying t with
 |some (.struct _)=>true
 |_=>false
theorem isStr_spec {t:TypeId} (h:isStr P t=true):P.underlying t=some (.struct (P.fieldsOf t)):=by
 unfold isStr at h
 unfold Program.fieldsOf
 split at h
 ·rename_i fs hfs;rw [hfs]
 ·cases h
def tEqS (P:Program) (t:TypeId):Option Nat:=
 if !P.stoodInHeld t&& !P.eqGuardType P.depth t&&(P.fieldsOf t).toList.zipIdx.all (fun p=>p.1.name != "_" &&p.1.offset==p.2&&(tInt P p.1.type).isSome)&&isStr P t then some (P.fieldsOf t).size else none
def intsC:List CV→Option (List Int)
 |[]=>some []
 |.int .i64 n::l=>match intsC l with
  |some ns=>some (n::ns)
  |none=>none
 |_=>none
theorem intsC_rep {S:Bool→Nat→Prop} {w:World}:∀{cs:List CV} {ns:List Int} {us:List Value},intsC cs=some ns→RepL S w cs us→us=ns.map (Value.int .i64)
 |[],ns,us,h1,h2=>by
  simp [intsC] at h1;subst h1
  cases us with
  |nil=>rfl
  |cons u us=>exact h2.elim
 |c::cs,ns,us,h1,h2=>by
  cases us with
  |nil=>exact h2.elim
  |cons u us=>
   unfold intsC at h1
   split at h1
   ·rename_i heq;cases heq
   ·rename_i n l heq
    cases heq
    split at h1
    ·rename_i ns' hns
     injection h1 with h1
     subst h1
     have hu:u=.int .i64 n:=h2.1
     rw [hu,List.map_cons,intsC_rep hns h2.2]
    ·cases h1
   ·cases h1
def eqZ:List Int→List Int→Bool
 |[],[]=>true
 |a::iu,b::bs=>a==b&&eqZ iu bs
 |_,_=>false
theorem eqZ_eq:∀{iu bs:List Int},eqZ iu bs=decide (iu=bs)
 |[],[]=>by simp [eqZ]
 |a::iu,b::bs=>by
  simp only [eqZ,eqZ_eq (iu:=iu) (bs:=bs),List.cons.injEq,Bool.decide_and]
  rfl
 |[],b::bs=>by simp [eqZ]
 |a::iu,[]=>by simp [eqZ]
theorem run_eqFields_ints {P:Program} (w:World) (xs ys:Array Value) (iu bs:List Int) (hx:xs=(iu.map (Value.int .i64)).toArray) (hy:ys=(bs.map (Value.int .i64)).toArray) (hl:iu.length=bs.length):
 ∀(fs:List Field) (k:Nat),(fs.zipIdx k).all (fun p=>p.1.name != "_" &&p.1.offset==p.2&&(tInt P p.1.type).isSome)=true→k+fs.length=iu.length→(Op.eqFields 9999 xs ys fs).run P w=.ok (eqZ (iu.drop k) (bs.drop k)) w
 |[],k,_,hk=>by
  rw [List.drop_of_length_le (by simp at hk;omega),List.drop_of_length_le (by simp at hk;omega)]
  simp [Op.eqFields,eqZ]
 |f::fs,k,hf,hk=>by
  simp only [List.zipIdx_cons,List.all_cons,Bool.and_eq_true,bne_iff_ne,ne_eq,beq_iff_eq] at hf
  obtain⟨⟨⟨hn,ho⟩,hi⟩,hr⟩:=hf
  simp only [List.length_cons] at hk
  have hka:k<iu.length:=by omega
  have hkb:k<bs.length:=by omega
  obtain⟨kk,hkk⟩:=Option.isSome_iff_exists.1 hi
  have hu:=tInt_spec hkk
  have hag:(isAgg f.type).run P w=.ok false w:=by simp [isAgg,run_underlying hu]
  have e1:xs[k]?=some (Value.int .i64 (iu[k])):=by rw [hx];simp [hka]
  have e2:ys[k]?=some (Value.int .i64 (bs[k])):=by rw [hy];simp [hkb]
  have p1:(part f.type xs f.offset).run P w=.ok (.int .i64 (iu[k])) w:=by
   unfold part
   simp only [Sem.run_bind,hag,Result.andThen_ok,Bool.false_eq_true,if_false,ho,e1,Sem.run_pure]
  have p2:(part f.type ys f.offset).run P w=.ok (.int .i64 (bs[k])) w:=by
   unfold part
   simp only [Sem.run_bind,hag,Result.andThen_ok,Bool.false_eq_true,if_false,ho,e2,Sem.run_pure]
  have p3:(Op.equalIn 9999 f.type (.int .i64 (iu[k])) (.int .i64 (bs[k]))).run P w=.ok (iu[k]==bs[k]) w:=run_equalIn_int w 9998 f.type .i64 kk _ _ hu
  have ih:=run_eqFields_ints w xs ys iu bs hx hy hl fs (k+1) (by simpa using hr) om
  rw [List.drop_eq_getElem_cons hka,List.drop_eq_getElem_cons hkb]
  simp only [Op.eqFields,hn,not_false_eq_true,if_true,Sem.run_bind,p1,p2,p3,Result.andThen_ok,eqZ,ne_eq]
  cases hab:(iu[k]==bs[k]) with
  |true=>simpa using ih
  |false=>simp
theorem intsC_len:∀{cs:List CV} {ns:List Int},intsC cs=some ns→ns.length=cs.length
 |[],ns,h=>by simp [intsC] at h;subst h;rfl
 |c::cs,ns,h=>by
  unfold intsC at h
  split at h
  ·rename_i heq;cases heq
  ·rename_i n l heq
   cases heq
   split at h
   ·rename_i ns' hns
    injection h with h
    subst h
    simp [intsC_len hns]
   ·cases h
  ·cases h
theorem tEqS_run {t n:Nat} (ht:tEqS P t=some n) {iu bs:List Int} (ha:iu.length=n) (hb:bs.length=n) (w:World):(Op.equalIn 10000 t (.agg (iu.map (Value.int .i64)).toArray) (.agg (bs.map (Value.int .i64)).toArray)).run P w=.ok (eqZ iu bs) w∧P.eqGuardType P.depth t=false:=by
 unfold tEqS at ht
 split at ht
 ·rename_i hc
  simp only [Bool.and_eq_true,Bool.not_eq_true'] at hc
  obtain⟨⟨⟨h1,h2⟩,h3⟩,h4⟩:=hc
  injection ht with ht
  refine⟨?_,h2⟩
  have hu:=isStr_spec h4
  rw [show(10000:Nat)=9999+1 from rfl,run_equalIn_agg w 9999 t _ _ hu h1]
  have:=run_eqFields_ints (P:=P) w _ _ iu bs rfl rfl om (P.fieldsOf t).toList 0 h3 (by simp;omega)
  simpa using this
 ·cases ht
def eqAgg (P:Program) (op:BinOp) (t:TypeId) (xs ys:List CV):Option (Prop×AV):=
 match tEqS P t,intsC xs,intsC ys,op with
 |some n,some iu,some bs,.eql=>some (xs.length=n∧ys.length=n,.c (.bool (eqZ iu bs)))
 |some n,some iu,some bs,.neq=>some (xs.length=n∧ys.length=n,.c (.bool (!eqZ iu bs)))
 |_,_,_,_=>none
theorem POk.eqAgg {op:BinOp} {t t':TypeId} {x y:Operand} {xs ys:List CV} {req:Prop} {r:AV} (hx:ρ x=.agg xs) (hy:ρ y=.agg ys) (hr:AI.eqAgg P op t xs ys=some (req,r)) (hreq:req):POk P h ρ (.binOp op t x y t') r:=fun S w e _ ho _=>by
 have h1:=ho x (by simp [Op.operands])
 have h2:=ho y (by simp [Op.operands])
 rw [hx] at h1
 rw [hy] at h2
 obtain⟨us,hu,hru⟩:=h1
 obtain⟨vs,hv,hrv⟩:=h2
 unfold AI.eqAgg at hr
 split at hr
 ·rename_i n iu bs ht ha hb
  simp only [Option.some.injEq,Prod.mk.injEq] at hr
  obtain⟨rfl,rfl⟩:=hr
  obtain⟨r1,r2⟩:=tEqS_run ht (iu:=iu) (bs:=bs) (by rw [intsC_len ha];exact hreq.1) (by rw [intsC_len hb];exact hreq.2) w
  have e1:=intsC_rep ha hru
  have e2:=intsC_rep hb hrv
  refine⟨.bool (eqZ iu bs),fun o hop=>exec_bin hop ?_ ?_,rfl⟩
  ·rw [hu,hv];exact run_eqGuard_agg w _ _ _ _ _ _ r2
  ·rw [hu,hv,run_eql_struct,e1,e2,r1];rfl
 ·rename_i n iu bs ht ha hb
  simp only [Option.some.injEq,Prod.mk.injEq] at hr
  obtain⟨rfl,rfl⟩:=hr
  obtain⟨r1,r2⟩:=tEqS_run ht (iu:=iu) (bs:=bs) (by rw [intsC_len ha];exact hreq.1) (by rw [intsC_len hb];exact hreq.2) w
  have e1:=intsC_rep ha hru
  have e2:=intsC_rep hb hrv
  refine⟨.bool (!eqZ iu bs),fun o hop=>exec_bin hop ?_ ?_,rfl⟩
  ·rw [hu,hv];exact run_eqGuard_agg w _ _ _ _ _ _ r2
  ·rw [hu,hv,run_neq_struct,e1,e2,r1];rfl
 ·cases hr
def tZI (P:Program) (t:TypeId):Option (IntKind×Int):=match (P.info? t).bind (·.zero) with
 |some (.int k n)=>some (k,n)
 |_=>none
theorem tZI_run {t:TypeId} {k:IntKind} {n:Int} (h:tZI P t=some (k,n)) (w:World):(zeroValue t).run P w=.ok (.int k n) w:=by
 unfold tZI at h
 split at h
 ·rename_i k' n' he
  simp only [Option.some.injEq,Prod.mk.injEq] at h
  obtain⟨rfl,rfl⟩:=h
  cases hi:P.info? t with
  |none=>rw [hi] at he;cases he
  |some i=>
   rw [hi] at he
   have hz:i.zero=some (.int k' n'):=he
   simp [zeroValue,typeInfo,hi,hz]
 ·cases h
def assertAV (P:Program) (t:TypeId):AV→Option (Prop×AV)
 |.c (.ifc u c)=>match tInt P t with
  |some _=>if u=t then some (True,.tup [.c c,.c (.bool true)]) else none
  |none=>none
 |.c .nilI=>match tInt P t,tZI P t with
  |some _,some (k,z)=>some (True,.tup [.c (.int k z),.c (.bool false)])
  |_,_=>none
 |_=>none
theorem POk.assertA {x:Operand} {xt t:TypeId} {req:Prop} {r:AV} (hr:assertAV P t (ρ x)=some (req,r)) (hreq:req):POk P h ρ (.typeAssert x xt t true) r:=fun S w e _ ho _=>by
 have h1:=ho x (by simp [Op.operands])
 unfold assertAV at hr
 split at hr
 ·rename_i u c hx
  rw [hx] at h1
  obtain⟨v,hv,hc⟩:=h1
  split at hr
  ·rename_i k hk
   split at hr
   ·rename_i e1
    subst e1
    simp only [Option.some.injEq,Prod.mk.injEq] at hr
    obtain⟨rfl,rfl⟩:=hr
    refine⟨.tuple #[v,.bool true],fun o hop=> ?_,[v,.bool true],rfl,hc,rfl,trivial⟩
    simp [execOp,hop,hv,Instr.typeAssert,run_underlying (tInt_spec hk)]
   ·cases hr
  ·cases hr
 ·rename_i hx
  rw [hx] at h1
  have hv:e x=.nilIface:=h1
  split at hr
  ·rename_i k0 k z hk hz
   simp only [Option.some.injEq,Prod.mk.injEq] at hr
   obtain⟨rfl,rfl⟩:=hr
   refine⟨.tuple #[.int k z,.bool false],fun o hop=> ?_,[.int k z,.bool false],rfl,rfl,rfl,trivial⟩
   simp [execOp,hop,hv,Instr.typeAssert,run_underlying (tInt_spec hk),tZI_run hz]
  ·cases hr
 ·cases hr
theorem POk.nilCheckR {x:Operand} {n:Nat} {f:Nat→CV} (hx:ρ x=.c (.rptr n f)):POk P h ρ (.nilCheck x) (.c (.rptr n f)):=fun S w e _ ho _=>by
 have h1:=ho x (by simp [Op.operands])
 rw [hx] at h1
 have h1':=h1
 obtain⟨ad,hv,_⟩:=h1
 exact⟨e x,fun o hop=>by simp only [execOp,hop,hv];rfl,h1'⟩
noncomputable def pureOp2 (P:Program) (nw:Bool) (h:Heap) (ρ:Operand→AV):Op→Option (Prop×AV)
 |.build t ⟨ps⟩=>build2 P ρ t ps
 |.typeAssert x _ t true=>assertAV P t (ρ x)
 |.binOp op t x y t'=>match ρ x,ρ y with
  |.agg xs,.agg ys=>eqAgg P op t xs ys
  |a,b=>binAV P nw op t y a b
 |.nilCheck x=>match ρ x with
  |.c (.rptr n f)=>some (True,.c (.rptr n f))
  |.c (.optr g off)=>some (True,.c (.optr g off))
  |_=>none
 |op=>pureOp P nw h ρ op
theorem pureOp2_ok {nw:Bool} {op:Op} {req:Prop} {r:AV} (hk:∀v,ρ (.const v)=cst v) (hb:pureOp2 P nw h ρ op=some (req,r)) (hreq:req):POk P h ρ op r:=by
 unfold pureOp2 at hb
 split at hb
 ·exact build2_ok hb hreq
 ·exact POk.assertA hb hreq
 ·split at hb
  ·rename_i hx hy;exact POk.eqAgg hx hy hb hreq
  ·exact binAV_ok hk hb hreq
 ·split at hb
  ·rename_i hx
   simp only [Option.some.injEq,Prod.mk.injEq] at hb;obtain⟨rfl,rfl⟩:=hb;exact POk.nilCheckR hx
  ·rename_i hx
   simp only [Option.some.injEq,Prod.mk.injEq] at hb;obtain⟨rfl,rfl⟩:=hb;exact POk.nilCheckO hx
  ·cases hb
 ·exact pureOp_ok hk hb hreq
noncomputable def runOp2 (P:Program) (nw:Bool) (h:Heap) (all:List Oper) (o:Oper) (σ:Sl):Option (Prop×Sl):=
 match wantA all σ o with
 |some true=>match pureOp2 P nw h (ev σ) o.op with
  |some (q,r)=>some (q,σ.setO o.dst r)
  |none=>none
 |some false=>some (True,σ.setO o.dst (.tup []))
 |none=>none
end
section
variable {E : Env} {K : List It} {σ σ' : Sl} {h : Heap} {all rest : List Oper} {o : Oper}
theorem aw_2q (nw:Bool) (hd:dstOk E.N o.dst=true) (k:∀R:Option (Prop×Sl)→Prop,(∀q σ',q→aw E (.ops all rest::K) σ' h→R (some (q,σ')))→R (runOp2 E.P nw h all o σ)):aw E (.ops all (o::rest)::K) σ h:=by
 have:=k (fun x=>x=runOp2 E.P nw h all o σ→aw E (.ops all (o::rest)::K) σ h) (fun q σ' hq ha e=>by
  unfold runOp2 at e
  split at e
  ·rename_i hw
   split at e
   ·rename_i q1 r hp
    simp only [Option.some.injEq,Prod.mk.injEq] at e
    obtain⟨rfl,rfl⟩:=e
    exact aw_pure hw (pureOp2_ok (fun _=>rfl) hp hq) hd rfl ha
   ·cases e
  ·rename_i hw
   simp only [Option.some.injEq,Prod.mk.injEq] at e
   obtain⟨rfl,rfl⟩:=e
   exact aw_skipped hw hd rfl ha
  ·cases e)
 exact this rfl
theorem Calm.pure2 {l:List Oper} {nw:Bool} {q:Prop} {r:AV} (hw:wantA l σ o=some true) (hb:pureOp2 E.P nw h (ev σ) o.op=some (q,r)) (hq:q) (hd:dstOk E.N o.dst=true):Calm E h l σ o r:=by
 refine⟨hd,fun σ' a w Q hs s=> ?_⟩
 rw [if_pos (s.wanted ((want_same hs).trans hw))]
 obtain⟨v,hrun,hr⟩:=pureOp2_ok (fun _=>rfl) hb hq (Stab E.C h w) w a.eval Stab.mono' (fun x hx=>by rw [←ev_same hx hs];exact ev_rep s x) s.heap
 unfold Oper.wp
 rw [hrun o rfl]
 exact s.put hd hr
theorem drk_2q {l rest:List Oper} {n:Nat} (nw:Bool) (hd:dstOk E.N o.dst=true) (k:∀R:Option (Prop×Sl)→Prop,(∀q σ',q→DrK E h l K n rest σ'→R (some (q,σ')))→R (runOp2 E.P nw h l o σ)):DrK E h l K (n+1) (o::rest) σ:=by
 have:=k (fun x=>x=runOp2 E.P nw h l o σ→DrK E h l K (n+1) (o::rest) σ) (fun q σ' hq ha e=>by
  unfold runOp2 at e
  split at e
  ·rename_i hw
   split at e
   ·rename_i q1 r hp
    simp only [Option.some.injEq,Prod.mk.injEq] at e
    obtain⟨rfl,rfl⟩:=e
    exact drk_cons (Calm.pure2 hw hp hq hd) ha
   ·cases e
  ·rename_i hw
   simp only [Option.some.injEq,Prod.mk.injEq] at e
   obtain⟨rfl,rfl⟩:=e
   exact drk_cons (Calm.skip hw hd) ha
  ·cases e)
 exact this rfl
end
attribute [go_sem] pureOp2 runOp2 build2 okPart okParts mapCells fillC putC CV.solid eqAgg intsC eqZ assertAV List.set_cons_zero List.set_cons_succ Bool.and_true Bool.true_and Bool.and_self and_true true_and and_self List.all_cons List.all_nil
section
variable {E : Env} {K : List It} {σ : Sl} {h : Heap} {all l rest : List Oper} {o : Oper}
theorem wb1 (hd:dstOk E.N o.dst=true) (k:∀R:Option (Prop×Sl)→Prop,(∀q σ',aw E (.ops all rest::K) σ' h→(hq:q:=by(try simp only [inRange])<;>and_intros<;>first|exact True.intro|omega|trivial)→R (some (q,σ')))→R (runOp2 E.P true h all o σ)):aw E (.ops all (o::rest)::K) σ h:=
 aw_2q true hd fun R r=>k R fun q σ' ha hq=>r q σ' hq ha
theorem wd1 {n:Nat} (hd:dstOk E.N o.dst=true) (k:∀R:Option (Prop×Sl)→Prop,(∀q σ',DrK E h l K n rest σ'→(hq:q:=by(try simp only [inRange])<;>and_intros<;>first|exact True.intro|omega|trivial)→R (some (q,σ')))→R (runOp2 E.P true h l o σ)):DrK E h l K (n+1) (o::rest) σ:=
 drk_2q true hd fun R r=>k R fun q σ' ha hq=>r q σ' hq ha
end
end Go.AI
namespace Go.AI
def gs (og:Option Nat) (s n:Nat):CV:=match og with
 |none=>.nils
 |some g=>.osl g s 0 n
def gh (og:Option Nat) (ty:TypeId) (m:Nat) (f:Nat→CV):Heap:=match og with
 |none=>[]
 |some g=>[(g,.cells ty m f)]
@[go_sem] theorem lenCV_gs_some (g s n:Nat):lenCV (gs (some g) s n)=some n:=rfl
theorem lenCV_gs {og:Option Nat} {s n:Nat} (h:og=none→n=0):lenCV (gs og s n)=some n:=by
 cases og with
 |none=>rw [h rfl];rfl
 |some g=>rfl
section
variable {E : Env} {K : List It} {σ σ' : Sl} {h : Heap} {all rest : List Oper} {o o1 o2 : Oper}
theorem ORep.cong {S:Bool→Nat→Prop} {w:World} {g n:Nat} {ty:TypeId} {f f':Nat→CV} (hf:∀j,j<n→f j=f' j) (hr:ORep S w g (.cells ty n f)):ORep S w g (.cells ty n f'):=by
 obtain⟨cs,hb,hn,hj⟩:=hr
 exact⟨cs,hb,hn,fun j hjl=>by rw [←hf j hjl];exact hj j hjl⟩
theorem aw_conv1 {g n:Nat} {ty:TypeId} {f f':Nat→CV} {h:Heap} (hf:∀j,j<n→f j=f' j) (k:aw E K σ ((g,.cells ty n f')::h)):aw E K σ ((g,.cells ty n f)::h):=fun a w s=>by
 refine k a w ⟨s.size,s.defers,s.slots,fun g' o' hm=> ?_,s.nodup,s.keys,s.frame⟩
 rcases List.mem_cons.1 hm with e|hm
 ·injection e with e1 e2
  subst e1 e2
  exact ORep.cong hf (s.heap _ _ (List.mem_cons_self ..))
 ·exact s.heap g' o' (List.mem_cons_of_mem _ hm)
theorem Heap.del_ne:∀{h:Heap} {g:Nat} {o:AObj} {g0:Nat},g0≠g→Heap.del ((g0,o)::h) g=(g0,o)::h.del g:=by
 intro h g o g0 hne
 simp [Heap.del,hne]
theorem Heap.del_app:∀{pre:Heap} {g:Nat} {o:AObj},g∉pre.keys→Heap.del (pre++[(g,o)]) g=pre
 |[],g,o,_=>by simp [Heap.del]
 |(g0,o0)::pre,g,o,hn=>by
  simp only [Heap.keys,List.map_cons,List.mem_cons,not_or] at hn
  rw [List.cons_append,Heap.del_ne (fun e=>hn.1 e.symm),Heap.del_app hn.2]
theorem Heap.get_app:∀{pre:Heap} {g:Nat} {o:AObj},g∉pre.keys→Heap.get (pre++[(g,o)]) g=some o
 |[],g,o,_=>by simp [Heap.get]
 |(g0,o0)::pre,g,o,hn=>by
  simp only [Heap.keys,List.map_cons,List.mem_cons,not_or] at hn
  rw [List.cons_append]
  simp only [Heap.get,fun e:g0=g=>hn.1 e.symm,if_false]
  rw [if_neg (fun e:g0=g=>hn.1 e.symm)]
  exact Heap.get_app hn.2
theorem aw_nd (k:h.keys.Nodup→aw E K σ h):aw E K σ h:=fun a w s=>k s.nodup a w s
theorem aw_push {t e size bytes n d1 s:Nat} {z:List CV} {og:Option Nat} {f f':Nat→CV} {pre:Heap} {x:Operand} {v:AV} (hop1:o1.op=.buildSlice t 1 #[(0,x)]) (hop2:o2.op=.call {callee:=.builtin .append,args:= #[.tmp s,.tmp d1],argTypes:= #[t,t]})
 (hw1:wantA all σ o1=some true) (hg2:o2.guard=none) (hd1:o1.dst=some d1) (hdk:dstOk E.N o1.dst=true) (hd2:dstOk E.N o2.dst=true)
 (ht:tElem E.P t=some (e,size,bytes)) (hz:tZero E.P e=some z) (hzl:z.length=size) (hs0:0<size) (hsz:size≤16777216)
 (hs:σ.get s=.c (gs og size n)) (hsd:s≠d1) (hog:og=none→n=0) (hx:ev σ x=v) (hok:okPart v=true) (hvl:v.cells.length=size) (hh:h=pre++gh og e (n*size) f)
 (h63:n+1≤maxLen) (hby:(n+1)*bytes≤140737488355328) (hf:∀j,j<(n+1)*size→appF f (n*size) (ofL v.cells) j=f' j)
 (kk:∀g',g'∉pre.keys→aw E (.ops all rest::K) ((σ.set d1 (.c .any)).setO o2.dst (.c (gs (some g') size (n+1)))) (pre++gh (some g') e ((n+1)*size) f')):aw E (.ops all (o1::o2::rest)::K) σ h:=by
 subst hh
 obtain⟨ok1,ok2⟩:=okPart_spec hok
 have hfl:v.flat=true:=by
  cases v with
  |tup xs=>exact absurd rfl (ok1 xs)
  |c x=>rfl
  |agg xs=>rfl
 refine aw_buildSlice (xs:=[x]) (cells:=v.cells) hop1 hw1 hdk ht (by rw [hz];rfl) rfl om om (by intro y hy;simp only [List.mem_singleton] at hy;subst hy;rw [hx];exact⟨hfl,ok2,hvl⟩) (by simp [hx]) fun gt hgt=> ?_
 rw [hd1]
 have hw2:∀σ2,wantA all σ2 o2=some true:=fun σ2=>by unfold wantA;rw [hg2]
 have hev1:ev (Sl.setO σ (some d1) (.c (.osl gt size 0 1))) (.tmp d1)=.c (.osl gt size 0 1):=by simp [ev,Sl.setO,Sl.get_set]
 have hevs:ev (Sl.setO σ (some d1) (.c (.osl gt size 0 1))) (.tmp s)=.c (gs og size n):=by simp only [ev,Sl.setO,Sl.get_set,if_neg (Ne.symm hsd)];exact hs
 have hsrc:∀h0:Heap,Src ((gt,.cells e (1*size) (ofL v.cells))::h0) size (.osl gt size 0 1) 1 (ofL v.cells):=fun h0=>by
  refine .osl (f':=ofL v.cells) (m:=1*size) (ty:=e) (by simp [Heap.get]) om (fun j _=>by rw [Nat.zero_add])
 have hle:∀(A B:AV) (g':Nat),Sl.le ((σ.set d1 (.c .any)).setO o2.dst B) ((Sl.setO σ (some d1) A).setO o2.dst B):=fun A B g' t'=>by
  rw [setO_get,setO_get]
  by_cases e1:o2.dst=some t'
  ·rw [if_pos e1,if_pos e1];exact .inr rfl
  ·rw [if_neg e1,if_neg e1]
   simp only [Sl.setO,Sl.get_set]
   by_cases e2:d1=t'
   ·rw [if_pos e2];exact .inl rfl
   ·rw [if_neg e2,if_neg e2];exact .inr rfl
 have hkp:∀g':Nat,g'∉Heap.keys ((gt,.cells e (1*size) (ofL v.cells))::pre)→g'∉pre.keys:=fun g' hg' hm=>hg' (by simp only [Heap.keys,List.map_cons,List.mem_cons];exact .inr hm)
 have hperm:∀g':Nat,(pre++gh (some g') e ((n+1)*size) f').Sublist ((pre++[(g',.cells e ((n+1)*size) f')])):=fun g'=>List.Sublist.refl _
 cases og with
 |none=>
  have hn0:n=0:=hog rfl
  subst hn0
  refine aw_appendN (cx:=.osl gt size 0 1) (k:=1) (f2:=ofL v.cells) hop2 (hw2 _) hd2 ht hz hzl hs0 hevs hev1 (hsrc _) om om om fun g' hg'=> ?_
  refine aw_conv1 (f':=f') (fun j hj=> ?_) ?_
  ·have:=hf j om
   rw [←this];simp [appF]
  ·have hnew:g'∉pre.keys:=fun hm=>hg' (by simp only [Heap.keys,List.map_cons,List.mem_cons,gh,List.append_nil];exact .inr hm)
   refine aw_perm (h':=(gt,.cells e (1*size) (ofL v.cells))::(pre++[(g',.cells e (1*size) f')])) ?_ ?_
   ·have:(pre++gh none e (0*size) f)=pre:=by simp [gh]
    rw [this]
    refine(List.Perm.swap _ _ _).trans (List.Perm.cons _ ?_)
    exact(List.perm_append_singleton _ _).symm
   ·refine aw_weak (hle _ _ g') (List.Sublist.cons _ (List.Sublist.refl _)) ?_
    have:=kk g' hnew
    simpa [gh,gs] using this
 |some g=>
  refine aw_nd fun hnd=> ?_
  have hnp:g∉pre.keys:=fun hm=>by
   simp only [Heap.keys,gh,List.map_cons,List.map_append,List.map_nil,List.nodup_cons] at hnd
   have:=(List.nodup_append.1 hnd.2).2.2 g hm g (by simp)
   exact this rfl
  have hgtg:gt≠g:=fun e=>hgt (by subst e;simp [Heap.keys,gh])
  refine aw_append (cx:=.osl gt size 0 1) (k:=1) (f2:=ofL v.cells) (g:=g) (m:=n*size) (f:=f) (h2:=(gt,.cells e (1*size) (ofL v.cells))::pre) hop2 (hw2 _) hd2 ht hz hzl hs0 hevs ?_ (Nat.le_refl _) hev1 (hsrc _) ?_ om h63 hby ?_ fun g' hg'=> ?_
  ·show Heap.get ((gt,_)::(pre++[(g,_)])) g=_
   simp only [Heap.get,if_neg hgtg]
   exact Heap.get_app hnp
  ·intro j hj
   have hjl:j<v.cells.length:=by omega
   rw [ofL_get v.cells j v.cells[j] (List.getElem?_eq_getElem hjl)]
   exact List.all_eq_true.1 ok2 _ (List.getElem_mem hjl)
  ·show Heap.del ((gt,_)::(pre++[(g,_)])) g=_
   rw [Heap.del_ne hgtg,Heap.del_app hnp]
  ·refine aw_conv1 (f':=f') hf ?_
   refine aw_perm (h':=(gt,.cells e (1*size) (ofL v.cells))::(pre++[(g',.cells e ((n+1)*size) f')])) ?_ ?_
   ·refine(List.Perm.swap _ _ _).trans (List.Perm.cons _ ?_)
    exact(List.perm_append_singleton _ _).symm
   ·refine aw_weak (hle _ _ g') (List.Sublist.cons _ (List.Sublist.refl _)) ?_
    exact kk g' (hkp g' hg')
theorem le_gs {pre:Heap} {og:Option Nat} {e s n:Nat} {f f':Nat→CV} (hog:og=none→n=0) (hn:∀g,og=some g→g∉pre.keys) (hf:∀j,j<n*s→LeC (pre++gh og e (n*s) f) (f j) (f' j)):LeC (pre++gh og e (n*s) f) (gs og s n) (.row false s n f'):=by
 cases og with
 |none=>rw [hog rfl];exact .nils
 |some g=>exact .osl (Heap.get_app (hn g rfl)) om (fun j hj=>by rw [Nat.zero_add];exact hf j hj)
theorem ler_gs {pre:Heap} {og:Option Nat} {e s n:Nat} {t:Bool} {f f':Nat→CV} (hog:og=none→n=0) (hn:∀g,og=some g→g∉pre.keys) (hf:∀j,j<n*s→LeR (pre++gh og e (n*s) f) (f j) (f' j)):LeR (pre++gh og e (n*s) f) (gs og s n) (.row t s n f'):=by
 cases og with
 |none=>rw [hog rfl];exact .nils
 |some g=>exact .osl (Heap.get_app (hn g rfl)) om (fun j hj=>by rw [Nat.zero_add];exact hf j hj)
theorem wf_push {zs:List Nat} {n:Nat} (hn:zs.length=n) (x:Nat):∀j,j<(n+1)*1→appF (wf zs) (n*1) (ofL [.int .u32 (x:Int)]) j=wf (zs++[x]) j:=fun j hj=>by
 subst hn
 unfold appF
 by_cases h:j<zs.length*1
 ·rw [if_pos h]
  show CV.int .u32 (zs.getD j 0:Nat)=CV.int .u32 ((zs++[x]).getD j 0:Nat)
  rw [List.getD_eq_getElem?_getD,List.getD_eq_getElem?_getD,List.getElem?_append_left om]
 ·have:j=zs.length:=by omega
  subst this
  rw [if_neg h]
  show ofL [CV.int .u32 (x:Int)] (zs.length-zs.length*1)=CV.int .u32 ((zs++[x]).getD zs.length 0:Nat)
  rw [Nat.mul_one,Nat.sub_self,List.getD_eq_getElem?_getD,List.getElem?_append_right (Nat.le_refl _),Nat.sub_self]
  rfl
theorem le_gsw {og:Option Nat} {e n:Nat} {zs:List Nat} (hog:og=none→n=0) (hl:zs.length=n):LeC (gh og e n (wf zs)) (gs og 1 n) (ws false zs):=by
 subst hl
 have:=le_gs (pre:=[]) (og:=og) (e:=e) (s:=1) (n:=zs.length) (f:=wf zs) (f':=fun j=>.int .u32 (zs.getD j 0:Nat)) hog (fun _ _=>by simp [Heap.keys]) (fun j _=>.refl _)
 simpa only [Nat.mul_one,List.nil_append] using this
def lf {α:Type} (s:Nat) (c:α→List CV) (d:α) (xs:List α) (j:Nat):CV:=ofL (c (xs.getD (j/s) d)) (j%s)
theorem lf_at {α:Type} {s:Nat} {c:α→List CV} {d:α} {xs:List α} {i k:Nat} (hk:k<s):lf s c d xs (i*s+k)=ofL (c (xs.getD i d)) k:=by
 unfold lf
 rw [Nat.mul_comm i s,Nat.mul_add_div om,Nat.mul_add_mod,Nat.div_eq_of_lt hk,Nat.mod_eq_of_lt hk,Nat.add_zero]
theorem lf_push {α:Type} {s n:Nat} {c:α→List CV} {d:α} {xs:List α} (hn:xs.length=n) (v:α) (hs:0<s):∀j,j<(n+1)*s→appF (lf s c d xs) (n*s) (ofL (c v)) j=lf s c d (xs++[v]) j:=fun j hj=>by
 subst hn
 unfold appF
 by_cases h:j<xs.length*s
 ·rw [if_pos h]
  unfold lf
  have:j/s<xs.length:=(Nat.div_lt_iff_lt_mul hs).2 h
  rw [List.getD_eq_getElem?_getD,List.getD_eq_getElem?_getD,List.getElem?_append_left this]
 ·rw [if_neg h]
  obtain⟨k,rfl⟩:∃k,j=xs.length*s+k:=⟨j-xs.length*s,by omega⟩
  have hk:k<s:=by rw [Nat.succ_mul] at hj;omega
  rw [lf_at hk,Nat.add_sub_cancel_left,List.getD_eq_getElem?_getD,List.getElem?_append_right (Nat.le_refl _),Nat.sub_self]
  rfl
theorem updF_out:∀(cs:List CV) (f:Nat→CV) (k j:Nat),(j<k∨k+cs.length≤j)→updF f k cs j=f j
 |[],f,k,j,_=>rfl
 |c::cs,f,k,j,h=>by
  simp only [updF,List.length_cons] at h⊢
  rw [updF_out cs _ (k+1) j om,if_neg om]
theorem updF_in:∀(cs:List CV) (f:Nat→CV) (k j:Nat),j<cs.length→updF f k cs (k+j)=ofL cs j
 |[],f,k,j,h=>by simp at h
 |c::cs,f,k,0,h=>by
  simp only [updF,ofL,Nat.add_zero]
  rw [updF_out cs _ (k+1) k om,if_pos rfl]
 |c::cs,f,k,j+1,h=>by
  simp only [updF,ofL]
  rw [show k+(j+1)=(k+1)+j from by omega]
  exact updF_in cs _ (k+1) j (by simpa using h)
theorem lf_upd {α:Type} {s:Nat} {c:α→List CV} {d:α} {xs:List α} {i:Nat} {v:α} (hi:i<xs.length) (hc:(c v).length=s) (hs:0<s):updF (lf s c d xs) (i*s) (c v)=lf s c d (xs.set i v):=by
 funext j
 by_cases h:i*s≤j∧j<i*s+s
 ·obtain⟨k,rfl⟩:∃k,j=i*s+k:=⟨j-i*s,by omega⟩
  have hk:k<s:=by omega
  rw [updF_in _ _ _ _ om,lf_at hk]
  congr 2
  rw [List.getD_eq_getElem?_getD,List.getElem?_set_self hi];rfl
 ·rw [updF_out _ _ _ _ om]
  unfold lf
  have hne:i≠j/s:=by
   intro e
   have h1:=Nat.div_mul_le_self j s
   have h2:=Nat.lt_div_mul_add hs (a:=j)
   rw [←e] at h1 h2
   omega
  rw [List.getD_eq_getElem?_getD,List.getD_eq_getElem?_getD,List.getElem?_set_ne hne]
end
end Go.AI
namespace Go.AI
structure Al where
 i:Nat
 d:Nat
 rf:Nat→AV
 ob:AObj
def addA:List Al→(Nat→Bool)→(Nat→Nat)→Sl→Sl
 |[],_,_,σ=>σ
 |x::al,L,γ,σ=>if L x.i then(addA al L γ σ).set x.d (x.rf (γ x.i)) else addA al L γ σ
def extA:List Al→(Nat→Bool)→(Nat→Nat)→Heap
 |[],_,_=>[]
 |x::al,L,γ=>if L x.i then(γ x.i,x.ob)::extA al L γ else extA al L γ
theorem addA_congr {L L':Nat→Bool} {γ γ':Nat→Nat} {σ:Sl}:∀{al:List Al},(∀x∈al,L x.i=L' x.i∧γ x.i=γ' x.i)→addA al L γ σ=addA al L' γ' σ
 |[],_=>rfl
 |x::al,h=>by
  have h1:=h x (List.mem_cons_self ..)
  simp only [addA,h1.1,h1.2,addA_congr (al:=al) fun y hy=>h y (List.mem_cons_of_mem _ hy)]
theorem extA_congr {L L':Nat→Bool} {γ γ':Nat→Nat}:∀{al:List Al},(∀x∈al,L x.i=L' x.i∧γ x.i=γ' x.i)→extA al L γ=extA al L' γ'
 |[],_=>rfl
 |x::al,h=>by
  have h1:=h x (List.mem_cons_self ..)
  simp only [extA,h1.1,h1.2,extA_congr (al:=al) fun y hy=>h y (List.mem_cons_of_mem _ hy)]
theorem addA_out {L:Nat→Bool} {γ:Nat→Nat} {σ:Sl} {t:Nat}:∀{al:List Al},(∀x∈al,L x.i=true→x.d≠t)→(addA al L γ σ).get t=σ.get t
 |[],_=>rfl
 |x::al,h=>by
  have ih:=addA_out (L:=L) (γ:=γ) (σ:=σ) (t:=t) (al:=al) fun y hy=>h y (List.mem_cons_of_mem _ hy)
  simp only [addA]
  split
  ·rename_i hL
   rw [Sl.get_set,if_neg (h x (List.mem_cons_self ..) hL)];exact ih
  ·exact ih
theorem addA_in {L:Nat→Bool} {γ:Nat→Nat} {σ:Sl} {x:Al}:∀{al:List Al},x∈al→L x.i=true→(∀y∈al,y.d=x.d→y=x)→(addA al L γ σ).get x.d=x.rf (γ x.i)
 |[],hm,_,_=>by simp at hm
 |y::al,hm,hL,hu=>by
  by_cases e:y.d=x.d
  ·have:=hu y (List.mem_cons_self ..) e
   subst this
   simp only [addA,hL,if_true,Sl.get_set]
  ·have hm':x∈al:=(List.mem_cons.1 hm).resolve_left (fun h=>e (by rw [h]))
   have ih:=addA_in (γ:=γ) (σ:=σ) hm' hL fun z hz=>hu z (List.mem_cons_of_mem _ hz)
   simp only [addA]
   split
   ·rw [Sl.get_set,if_neg e];exact ih
   ·exact ih
theorem extA_new {L:Nat→Bool} {γ:Nat→Nat} {x:Al} {g:Nat}:∀{al:List Al},x∈al→L x.i=false→(al.map (·.i)).Nodup→
 (extA al (fun j=>if j=x.i then true else L j) (fun j=>if j=x.i then g else γ j)).Perm ((g,x.ob)::extA al L γ)
 |[],hm,_,_=>by simp at hm
 |y::al,hm,hL,hn=>by
  simp only [List.map_cons,List.nodup_cons] at hn
  by_cases e:y.i=x.i
  ·have hxy:x=y:=by
    rcases List.mem_cons.1 hm with h|h
    ·exact h
    ·exact absurd (List.mem_map.2 ⟨x,h,rfl⟩) (e▸hn.1)
   subst hxy
   have:extA al (fun j=>if j=x.i then true else L j) (fun j=>if j=x.i then g else γ j)=extA al L γ:=extA_congr fun z hz=>by
    have hne:z.i≠x.i:=fun h=>hn.1 (List.mem_map.2 ⟨z,hz,h⟩)
    simp [hne]
   simp only [extA,if_true,hL,this]
   exact .refl _
  ·have hm':x∈al:=(List.mem_cons.1 hm).resolve_left (fun h=>e (by rw [h]))
   have ih:=extA_new (L:=L) (γ:=γ) (g:=g) hm' hL hn.2
   simp only [extA,e,if_false]
   split
   ·exact(List.Perm.cons _ ih).trans (List.Perm.swap _ _ _)
   ·exact ih
theorem St.perm {N:Nat} {C:Ctx} {σ:Sl} {h h':Heap} {a:Act} {w:World} (hp:h.Perm h') (s:St N C σ h a w):St N C σ h' a w:=by
 have hkk:∀b,b∈h.keys↔b∈h'.keys:=keysPerm hp
 have kp:Keeps (Stab C h w) (Stab C h' w) w w:=⟨fun t b hb=>⟨hb.1,hb.2.1,fun hm=>hb.2.2 ((hkk b).2 hm)⟩,fun _ _ _=>rfl,fun _ _ e=>e⟩
 exact⟨s.size,s.defers,fun t=>Rep.keep kp (s.slots t),fun g o hm=>ORep.keep kp rfl (s.heap g o (hp.mem_iff.2 hm)),nodupPerm hp s.nodup,fun g hg=>s.keys g ((hkk g).2 hg),s.frame⟩
def edgeT (l:List Oper):Nat→Oper→Nat→Bool
 |0,o,j=>edge o j
 |k+1,o,j=>edge o j||o.after.any fun e=>Region.binds .any e&&(match l[e.on]? with|some p=>edgeT l k p j|none=>false)
def tailT (l:List Oper) (n:Nat):Bool:=l.zipIdx.all fun(o,i)=>decide (i<n)||(List.range i).all fun j=>edgeT l 6 o j
section
variable {E : Env} {K : List It} {σ σ' : Sl} {h : Heap} {l : List Oper} {o : Oper}
theorem edgeT_listed {L:Nat→Bool} (hcl:∀i o,l[i]?=some o→L i=true→∀e∈o.after,Region.binds .any e=true→L e.on=true):∀(k:Nat) (o:Oper) (j:Nat),(∀e∈o.after,Region.binds .any e=true→L e.on=true)→edgeT l k o j=true→L j=true
 |0,o,j,hp,he=>by
  obtain⟨e,he',hon,hb⟩:=edge_mem he
  rw [←hon];exact hp e he' hb
 |k+1,o,j,hp,he=>by
  simp only [edgeT,Bool.or_eq_true] at he
  rcases he with he|he
  ·obtain⟨e,he',hon,hb⟩:=edge_mem he
   rw [←hon];exact hp e he' hb
  ·rw [Array.any_eq_true] at he
   obtain⟨i,hi,h1⟩:=he
   simp only [Bool.and_eq_true] at h1
   obtain⟨hb,h2⟩:=h1
   have hl:=hp _ (Array.getElem_mem hi) hb
   split at h2
   ·rename_i p hpp
    exact edgeT_listed hcl k p j (hcl _ p hpp hl) h2
   ·cases h2
theorem tailT_edge {n:Nat} (ht:tailT l n=true) {i:Nat} {o:Oper} (ho:l[i]?=some o) (hn:n≤i) {j:Nat} (hj:j<i):edgeT l 6 o j=true:=by
 unfold tailT at ht
 rw [List.all_eq_true] at ht
 have:=ht (o,i) (by rw [List.mem_zipIdx_iff_getElem?];exact ho)
 simp only [Bool.or_eq_true,decide_eq_true_eq,List.all_eq_true,List.mem_range] at this
 exact this.resolve_left om j hj
theorem tailT_any {n:Nat} (hok:lexOk l=true) (ht:tailT l n=true) {Q:Exit→Act→World→Prop}:∀(fuel i:Nat) (listed:Array Bool) (a:Act) (w:World),n≤i→i+fuel=l.length→listed.size=l.length→(∀j,j<l.length→listed.getD j false=decide (j<i))→
 wpList E.P l.toArray Q (l.drop i) a w→wpAny E.P .any l.toArray Q fuel listed a w
 |0,i,listed,a,w,_,hf,hs,hl,k=>by
  have:l.drop i=[]:=List.drop_eq_nil_of_le om
  rw [this] at k
  refine⟨?_,k⟩
  rw [List.eq_nil_iff_forall_not_mem]
  intro j hj
  obtain⟨h1,h2,_⟩:=(mem_ready hs).1 hj
  rw [hl j h1] at h2
  simp at h2
  omega
 |fuel+1,i,listed,a,w,hn,hf,hs,hl,k=>by
  have hi:i<l.length:=by omega
  have ho:l[i]?=some l[i]:=List.getElem?_eq_getElem hi
  have hcl:∀q o,l[q]?=some o→listed.getD q false=true→∀e∈o.after,Region.binds .any e=true→listed.getD e.on false=true:=fun q o hq hlq e he hb=>by
   have hql:q<l.length:=(List.getElem?_eq_some_iff.1 hq).1
   rw [hl q hql] at hlq
   have:=lex_back hok hq he hb
   simp only [decide_eq_true_eq] at hlq
   rw [hl e.on om];simp;omega
  have hready:i∈Region.ready .any l.toArray listed:=(mem_ready hs).2 ⟨hi,by rw [hl i hi];simp,fun o ho' e he hb=>by
   have:=lex_back hok ho' he hb
   rw [hl e.on om];simpa using this⟩
  refine⟨fun e=>by rw [e] at hready;simp at hready,fun j hj=> ?_⟩
  obtain⟨h1,h2,h3⟩:=(mem_ready hs).1 hj
  have hji:j=i:=by
   rw [hl j h1] at h2
   simp only [decide_eq_false_iff_not,Nat.not_lt] at h2
   rcases Nat.lt_or_ge i j with hlt|hge
   ·have:=edgeT_listed (L:=fun q=>listed.getD q false) hcl 6 _ i (h3 _ (List.getElem?_eq_getElem h1)) (tailT_edge ht (List.getElem?_eq_getElem h1) om hlt)
    simp only [hl i hi] at this
    simp at this
   ·omega
  subst hji
  rw [List.drop_eq_getElem_cons hi] at k
  unfold wpOp
  rw [show l.toArray[j]?=some l[j] from by simp [hi]]
  have hstep:∀a w,wpList E.P l.toArray Q (l.drop (j+1)) a w→wpAny E.P .any l.toArray Q fuel (listed.setIfInBounds j true) a w:=fun a w k'=>
   tailT_any hok ht fuel (j+1) _ a w om om (by simpa using hs) (fun q hq=>by
    rw [getD_set om,hl q hq]
    by_cases h:q=j
    ·subst h;simp
    ·rw [if_neg h];congr 1;simp;omega) k'
  simp only [wpList] at k
  simp only
  split
  ·rename_i hw
   rw [if_pos hw] at k
   exact k.imp (Oper.wp_mono hstep) id
  ·rename_i hw
   rw [if_neg hw] at k
   exact hstep _ _ k
def CalmX (E:Env) (h:Heap) (l:List Oper) (σ:Sl) (o:Oper) (r:AV):Prop:=
 dstOk E.N o.dst=true∧∀(σ':Sl) (ext:Heap) (a:Act) (w:World) (Q:Exit→Act→World→Prop),(∀t∈looks l o,σ'.get t=σ.get t)→St E.N E.C σ' (ext++h) a w→
  if Region.wanted o (yielded l.toArray a.tmps) then o.wp E.P a w (fun a' w'=>St E.N E.C (σ'.setO o.dst r) (ext++h) a' w') Q else r=.tup []
def NewX (E:Env) (h:Heap) (l:List Oper) (σ:Sl) (o:Oper) (rf:Nat→AV) (ob:AObj):Prop:=
 dstOk E.N o.dst=true∧∀(σ':Sl) (ext:Heap) (a:Act) (w:World) (Q:Exit→Act→World→Prop),(∀t∈looks l o,σ'.get t=σ.get t)→St E.N E.C σ' (ext++h) a w→
  Region.wanted o (yielded l.toArray a.tmps)=true∧o.wp E.P a w (fun a' w'=>∃g,St E.N E.C (σ'.setO o.dst (rf g)) ((g,ob)::(ext++h)) a' w') Q
inductive DrX (E:Env) (h:Heap) (l:List Oper):Nat→List (Oper×AV)→Sl→Sl→List Al→Prop
 |nil {i:Nat} {σ:Sl}:DrX E h l i [] σ σ []
 |calm {i:Nat} {o:Oper} {r:AV} {ps:List (Oper×AV)} {σ σ':Sl} {al:List Al}:CalmX E h l σ o r→DrX E h l (i+1) ps (σ.setO o.dst r) σ' al→DrX E h l i ((o,r)::ps) σ σ' al
 |new {i d:Nat} {o:Oper} {rf:Nat→AV} {ob:AObj} {ps:List (Oper×AV)} {σ σ':Sl} {al:List Al}:o.dst=some d→NewX E h l σ o rf ob→DrX E h l (i+1) ps (σ.setO o.dst (.c .any)) σ' al→DrX E h l i ((o,.c .any)::ps) σ σ' (⟨i,d,rf,ob⟩::al)
theorem sigL_zero:∀(ps:List (Oper×AV)) (n:Nat) (σ:Sl),sigL ps ((List.range n).map (fun _=>false)) σ=σ:=by
 intro ps
 induction ps with
 |nil=>intro n σ;simp [sigL]
 |cons p ps ih2=>
  intro n σ
  cases n with
  |zero=>simp [sigL]
  |succ n=>
   obtain⟨q,r⟩:=p
   simp only [List.range_succ_eq_map,List.map_cons,List.map_map,sigL]
   exact ih2 n σ
theorem DrX.at_ {i:Nat} {ps:List (Oper×AV)} {al:List Al} (d:DrX E h l i ps σ σ' al):∀(j:Nat) (o:Oper) (r:AV),ps[j]?=some (o,r)→
 (CalmX E h l (sigL ps ((List.range ps.length).map fun q=>decide (q<j)) σ) o r∧∀x∈al,x.i≠i+j)∨
 (r=.c .any∧∃x∈al,x.i=i+j∧o.dst=some x.d∧NewX E h l (sigL ps ((List.range ps.length).map fun q=>decide (q<j)) σ) o x.rf x.ob):=by
 have low:∀{i:Nat} {ps:List (Oper×AV)} {σ σ':Sl} {al:List Al},DrX E h l i ps σ σ' al→∀x∈al,i≤x.i:=by
  intro i ps σ σ' al d
  induction d with
  |nil=>intro x hx;simp at hx
  |calm _ _ ih=>intro x hx;have:=ih x hx;omega
  |new _ _ _ ih=>
   intro x hx
   rcases List.mem_cons.1 hx with rfl|hx
   ·exact Nat.le_refl _
   ·have:=ih x hx;omega
 induction d with
 |nil=>intro j o r hp;simp at hp
 | @calm i o' r' ps σ σ' al hc hd ih=>
   intro j o r hp
   simp only [List.length_cons,List.range_succ_eq_map,List.map_cons,List.map_map,sigL]
   cases j with
   |zero=>
    simp only [List.getElem?_cons_zero,Option.some.injEq,Prod.mk.injEq] at hp
    obtain⟨rfl,rfl⟩:=hp
    left
    have e:((fun q=>decide (q<0))∘Nat.succ)=fun _=>false:=by funext q;simp [Function.comp]
    simp only [Nat.lt_irrefl,decide_false,e]
    exact⟨by rw [sigL_zero];exact hc,fun x hx=>by have:=low hd x hx;omega⟩
   |succ j=>
    have:=ih j o r (by simpa using hp)
    have e:((fun q=>decide (q<j+1))∘Nat.succ)=fun q=>decide (q<j):=by funext q;simp [Function.comp]
    rw [e]
    rw [show i+(j+1)=i+1+j from by omega]
    simpa using this
 | @new i d o' rf ob ps σ σ' al hod hn hd ih=>
   intro j o r hp
   simp only [List.length_cons,List.range_succ_eq_map,List.map_cons,List.map_map,sigL]
   cases j with
   |zero=>
    simp only [List.getElem?_cons_zero,Option.some.injEq,Prod.mk.injEq] at hp
    obtain⟨rfl,rfl⟩:=hp
    right
    have e:((fun q=>decide (q<0))∘Nat.succ)=fun _=>false:=by funext q;simp [Function.comp]
    simp only [Nat.lt_irrefl,decide_false,e]
    refine⟨trivial,_,List.mem_cons_self ..,rfl,hod,?_⟩
    rw [sigL_zero];exact hn
   |succ j=>
    have:=ih j o r (by simpa using hp)
    have e:((fun q=>decide (q<j+1))∘Nat.succ)=fun q=>decide (q<j):=by funext q;simp [Function.comp]
    rw [e]
    rw [show i+(j+1)=i+1+j from by omega]
    rcases this with ⟨h1,h2⟩|⟨h1,x,hx,h2⟩
    ·left
     refine⟨by simpa using h1,fun x hx=> ?_⟩
     rcases List.mem_cons.1 hx with rfl|hx
     ·simp only;omega
     ·exact h2 x hx
    ·right
     exact⟨h1,x,List.mem_cons_of_mem _ hx,by simpa using h2⟩
theorem DrX.end_ {i:Nat} {ps:List (Oper×AV)} {al:List Al} (d:DrX E h l i ps σ σ' al):σ'=sigL ps ((List.range ps.length).map fun _=>true) σ:=by
 induction d with
 |nil=>rfl
 |calm _ _ ih=>
  simp only [List.length_cons,List.range_succ_eq_map,List.map_cons,List.map_map,sigL,if_true]
  exact ih
 |new _ _ _ ih=>
  simp only [List.length_cons,List.range_succ_eq_map,List.map_cons,List.map_map,sigL,if_true]
  exact ih
theorem DrX.al_ {i:Nat} {ps:List (Oper×AV)} {al:List Al} (d:DrX E h l i ps σ σ' al):(∀x∈al,i≤x.i∧x.i<i+ps.length∧∃p,ps[x.i-i]?=some p∧p.1.dst=some x.d)∧(al.map (·.i)).Nodup:=by
 induction d with
 |nil=>exact⟨fun x hx=>by simp at hx,by simp⟩
 | @calm i o' r' ps σ σ' al hc hd ih=>
   refine⟨fun x hx=> ?_,ih.2⟩
   obtain⟨h1,h2,p,h3,h4⟩:=ih.1 x hx
   refine⟨by omega,by simp only [List.length_cons];omega,p,?_,h4⟩
   rw [show x.i-i=(x.i-(i+1))+1 from by omega]
   simpa using h3
 | @new i d o' rf ob ps σ σ' al hod hn hd ih=>
   refine⟨fun x hx=> ?_,?_⟩
   ·rcases List.mem_cons.1 hx with rfl|hx
    ·exact⟨Nat.le_refl _,by simp,(o',.c .any),by simp,hod⟩
    ·obtain⟨h1,h2,p,h3,h4⟩:=ih.1 x hx
     refine⟨by omega,by simp only [List.length_cons];omega,p,?_,h4⟩
     rw [show x.i-i=(x.i-(i+1))+1 from by omega]
     simpa using h3
   ·simp only [List.map_cons,List.nodup_cons]
    refine⟨fun hm=> ?_,ih.2⟩
    obtain⟨x,hx,he⟩:=List.mem_map.1 hm
    have:=(ih.1 x hx).1
    omega
theorem drawX_any {n:Nat} {ps:List (Oper×AV)} {al:List Al} (hok:lexOk l=true) (ht:tailT l n=true) (hn:n≤l.length) (hps:ps.map (·.1)=l.take n) (d:DrX E h l 0 ps σ σ' al) (hnl:∀x∈al,∀i o,i<n→l[i]?=some o→x.d∉looks l o) {Q:Exit→Act→World→Prop}
 (k:∀γ a w,St E.N E.C (addA al (fun _=>true) γ σ') (extA al (fun _=>true) γ++h) a w→wpList E.P l.toArray Q (l.drop n) a w):∀(u:Nat) (listed:Array Bool) (γ:Nat→Nat) (a:Act) (w:World),unl (fun j=>listed.getD j false) n=u→listed.size=l.length→
 (∀i o,l[i]?=some o→listed.getD i false=true→∀e∈o.after,Region.binds .any e=true→listed.getD e.on false=true)→(∀j,n≤j→j<l.length→listed.getD j false=false)→
 St E.N E.C (addA al (fun j=>listed.getD j false) γ (sigL ps (marks n listed) σ)) (extA al (fun j=>listed.getD j false) γ++h) a w→wpAny E.P .any l.toArray Q (u+(l.length-n)) listed a w:=by
 have hpl:ps.length=n:=by have:=congrArg List.length hps;simp at this;omega
 have hpi:∀(j:Nat) (p:Oper×AV),ps[j]?=some p→l[j]?=some p.1∧j<n:=by
  intro j p hp
  have hj:j<ps.length:=(List.getElem?_eq_some_iff.1 hp).1
  have h1:(ps.map (·.1))[j]?=some p.1:=by simp [hp]
  rw [hps,List.getElem?_take] at h1
  split at h1
  ·exact⟨h1,by omega⟩
  ·cases h1
 obtain⟨hal,hnd⟩:=d.al_
 have halp:∀x∈al,x.i<n∧∃p,ps[x.i]?=some p∧p.1.dst=some x.d:=fun x hx=>by
  obtain⟨_,h2,p,h3,h4⟩:=hal x hx
  exact⟨by omega,p,by simpa using h3,h4⟩
 have hone:∀x∈al,∀(j:Nat) (p:Oper×AV),ps[j]?=some p→p.1.dst=some x.d→j=x.i:=fun x hx j p hp hd=>by
  obtain⟨hxn,q,hq,hqd⟩:=halp x hx
  rcases Nat.decEq j x.i with hne|he
  ·exact absurd hd ((lex_pair hok (hpi j p hp).1 (hpi x.i q hq).1 hqd).2 (fun e=>hne e.symm))
  ·exact he
 have huniq:∀x∈al,∀y∈al,y.d=x.d→y=x:=fun x hx y hy e=>by
  obtain⟨_,q,hq,hqd⟩:=halp y hy
  have hi:=hone x hx y.i q hq (by rw [hqd,e])
  have:∀(l:List Al),(l.map (·.i)).Nodup→x∈l→y∈l→y=x:=by
   intro l
   induction l with
   |nil=>intro _ hm;simp at hm
   |cons z l ih=>
    intro hnd h1 h2
    simp only [List.map_cons,List.nodup_cons] at hnd
    rcases List.mem_cons.1 h1 with e1|m1<;>rcases List.mem_cons.1 h2 with e2|m2
    ·rw [e1,e2]
    ·exact absurd (List.mem_map.2 ⟨y,m2,by rw [hi,e1]⟩) hnd.1
    ·exact absurd (List.mem_map.2 ⟨x,m1,by rw [←hi,e2]⟩) hnd.1
    ·exact ih hnd.2 m1 m2
  exact this al hnd hx hy
 intro u
 induction u with
 |zero=>
  intro listed γ a w hu hs _ htl st
  have hall:=unl_zero n hu
  rw [Nat.zero_add]
  refine tailT_any hok ht (l.length-n) n listed a w (Nat.le_refl _) om hs (fun j hj=> ?_) (k γ a w ?_)
  ·rcases Nat.lt_or_ge j n with h1|h1
   ·rw [hall j h1];simp [h1]
   ·rw [htl j h1 hj];simp;omega
  ·have e:marks n listed=(List.range ps.length).map fun _=>true:=by
    unfold marks
    rw [hpl]
    exact List.map_congr_left fun j hj=>hall j (by simpa using hj)
   have hc:∀x∈al,(fun j=>listed.getD j false) x.i=(fun _=>true) x.i∧γ x.i=γ x.i:=fun x hx=>⟨hall x.i (halp x hx).1,rfl⟩
   rw [d.end_,←e,←addA_congr (L:=fun j=>listed.getD j false) (L':=fun _=>true) (γ:=γ) (γ':=γ) hc,←extA_congr (L:=fun j=>listed.getD j false) (L':=fun _=>true) (γ:=γ) (γ':=γ) hc]
   exact st
 |succ u ih=>
  intro listed γ a w hu hs hcl htl st
  rw [show u+1+(l.length-n)=(u+(l.length-n))+1 from by omega]
  obtain⟨j0,hj0,hj1,hj2⟩:=unl_pos (L:=fun j=>listed.getD j false) n om
  have hready:j0∈Region.ready .any l.toArray listed:=(mem_ready hs).2 ⟨by omega,hj1,fun o ho e he hb=>hj2 _ (lex_back hok ho he hb)⟩
  refine⟨fun e=>by rw [e] at hready;simp at hready,fun i hi=> ?_⟩
  obtain⟨h1,h2,h3⟩:=(mem_ready hs).1 hi
  have ho:l[i]?=some l[i]:=List.getElem?_eq_getElem h1
  have hin:i<n:=by
   rcases Nat.lt_or_ge i n with hlt|hge
   ·exact hlt
   ·have:=edgeT_listed (L:=fun q=>listed.getD q false) hcl 6 _ j0 (h3 _ ho) (tailT_edge ht ho hge (show j0<i from by omega))
    simp only [hj1] at this
    cases this
  have hpi':ps[i]?=some ps[i]:=List.getElem?_eq_getElem om
  obtain⟨hp1,_⟩:=hpi i _ hpi'
  rw [ho] at hp1
  injection hp1 with hp1
  have hat:=d.at_ i ps[i].1 ps[i].2 hpi'
  rw [Nat.zero_add] at hat
  have hsame:∀t∈looks l ps[i].1,(addA al (fun j=>listed.getD j false) γ (sigL ps (marks n listed) σ)).get t=(sigL ps ((List.range ps.length).map fun j=>decide (j<i)) σ).get t:=by
   intro t htl'
   rw [addA_out fun x hx _ e=>hnl x hx i l[i] hin ho (by rw [hp1,e];exact htl')]
   by_cases hex:∃(j:Nat) (p:Oper×AV),ps[j]?=some p∧j<i∧p.1.dst=some t
   ·obtain⟨j,p,hp,hji,hdt⟩:=hex
    obtain⟨hlp,hjn⟩:=hpi j p hp
    have huniq:∀(j':Nat) (p':Oper×AV),j'≠j→ps[j']?=some p'→p'.1.dst≠some t:=fun j' p' hne hp'=>
     (lex_pair hok (hpi j' p' hp').1 hlp hdt).2 (fun e=>hne e.symm)
    obtain⟨e,he,hon,hb⟩:=edge_mem (((lex_pair hok (by rw [←hp1];exact ho) hlp hdt).1 htl').1 hji)
    have hlj:listed.getD j false=true:=by rw [←hon];exact h3 _ ho e (by rw [hp1];exact he) hb
    rw [sigL_get_some ps _ σ t j p.1 p.2 hp (by rw [marks_get hjn,hlj]) hdt huniq,
     sigL_get_some ps _ σ t j p.1 p.2 hp (by simp [show j<ps.length from by omega,hji]) hdt huniq]
   ·rw [sigL_get_none ps _ σ t (fun j p hp hb hdt=> ?_),sigL_get_none ps _ σ t (fun j p hp hb hdt=> ?_)]
    ·have hjl:j<ps.length:=(List.getElem?_eq_some_iff.1 hp).1
     simp [hjl] at hb
     exact hex ⟨j,p,hp,hb,hdt⟩
    ·obtain⟨hlp,hjn⟩:=hpi j p hp
     rw [marks_get hjn] at hb
     injection hb with hb
     rcases Nat.lt_trichotomy j i with hlt|heq|hgt
     ·exact hex ⟨j,p,hp,hlt,hdt⟩
     ·subst heq;rw [h2] at hb;cases hb
     ·obtain⟨e,he,hon,hb'⟩:=edge_mem (((lex_pair hok (by rw [←hp1];exact ho) hlp hdt).1 htl').2 hgt)
      have:=hcl j _ hlp hb e he hb'
      rw [hon,h2] at this
      cases this
  have his:i<listed.size:=by omega
  have hsig:∀t,(sigL ps (marks n (listed.setIfInBounds i true)) σ).get t=((sigL ps (marks n listed) σ).setO ps[i].1.dst ps[i].2).get t:=by
   intro t
   rw [setO_get]
   by_cases hdt:ps[i].1.dst=some t
   ·rw [if_pos hdt]
    have huniq:∀(j':Nat) (p':Oper×AV),j'≠i→ps[j']?=some p'→p'.1.dst≠some t:=fun j' p' hne hp'=>
     (lex_pair hok (hpi j' p' hp').1 (hpi i _ hpi').1 hdt).2 (fun e=>hne e.symm)
    exact sigL_get_some ps _ σ t i ps[i].1 ps[i].2 hpi' (by rw [marks_get hin,getD_set his,if_pos rfl]) hdt huniq
   ·rw [if_neg hdt]
    by_cases hex:∃(j:Nat) (p:Oper×AV),ps[j]?=some p∧listed.getD j false=true∧p.1.dst=some t
    ·obtain⟨j,p,hp,hlj,hdt'⟩:=hex
     obtain⟨hlp,hjn⟩:=hpi j p hp
     have huniq:∀(j':Nat) (p':Oper×AV),j'≠j→ps[j']?=some p'→p'.1.dst≠some t:=fun j' p' hne hp'=>
      (lex_pair hok (hpi j' p' hp').1 hlp hdt').2 (fun e=>hne e.symm)
     rw [sigL_get_some ps _ σ t j p.1 p.2 hp (by rw [marks_get hjn,getD_set his];split<;>first|rfl|rw [hlj]) hdt' huniq,
      sigL_get_some ps _ σ t j p.1 p.2 hp (by rw [marks_get hjn,hlj]) hdt' huniq]
    ·rw [sigL_get_none ps _ σ t (fun j p hp hb hdt'=> ?_),sigL_get_none ps _ σ t (fun j p hp hb hdt'=> ?_)]
     ·obtain⟨_,hjn⟩:=hpi j p hp
      rw [marks_get hjn] at hb
      injection hb with hb
      exact hex ⟨j,p,hp,hb,hdt'⟩
     ·obtain⟨_,hjn⟩:=hpi j p hp
      rw [marks_get hjn,getD_set his] at hb
      injection hb with hb
      split at hb
      ·rename_i hji;subst hji;rw [hpi'] at hp;injection hp with hp;subst hp;exact hdt hdt'
      ·exact hex ⟨j,p,hp,hb,hdt'⟩
  have hL:(fun j=>(listed.setIfInBounds i true).getD j false)=fun j=>if j=i then true else listed.getD j false:=funext fun j=>getD_set his
  have hgo:∀(γ':Nat→Nat) a' w',St E.N E.C (addA al (fun j=>if j=i then true else listed.getD j false) γ' (sigL ps (marks n (listed.setIfInBounds i true)) σ)) (extA al (fun j=>if j=i then true else listed.getD j false) γ'++h) a' w'→wpAny E.P .any l.toArray Q (u+(l.length-n)) (listed.setIfInBounds i true) a' w':=by
   intro γ' a' w' st'
   refine ih _ γ' a' w' ?_ (by simpa using hs) (fun q o hq hlq e he hb=> ?_) (fun j hj hjl=> ?_) (by rw [hL];exact st')
   ·rw [hL]
    have:=unl_set (L:=fun j=>listed.getD j false) n hin h2
    omega
   ·rw [getD_set his] at hlq⊢
    by_cases hqi:q=i
    ·subst hqi
     by_cases hei:e.on=q
     ·rw [if_pos hei]
     ·rw [if_neg hei];exact h3 o hq e he hb
    ·rw [if_neg hqi] at hlq
     have:=hcl q o hq hlq e he hb
     by_cases hei:e.on=i
     ·rw [if_pos hei]
     ·rw [if_neg hei];exact this
   ·rw [getD_set his,if_neg om];exact htl j hj hjl
  unfold wpOp
  rw [show l.toArray[i]?=some l[i] from by simp [h1]]
  simp only
  rw [hp1]
  rcases hat with ⟨⟨hd,hc⟩,hno⟩|⟨hany,x,hx,hxi,hxd,hd,hc⟩
  ·
   have hnext:∀a' w',St E.N E.C ((addA al (fun j=>listed.getD j false) γ (sigL ps (marks n listed) σ)).setO ps[i].1.dst ps[i].2) (extA al (fun j=>listed.getD j false) γ++h) a' w'→wpAny E.P .any l.toArray Q (u+(l.length-n)) (listed.setIfInBounds i true) a' w':=by
    intro a' w' st'
    refine hgo γ a' w' ?_
    have hcg:∀x∈al,(fun j=>if j=i then true else listed.getD j false) x.i=(fun j=>listed.getD j false) x.i∧γ x.i=γ x.i:=fun x hx=>⟨by simp [hno x hx],rfl⟩
    rw [extA_congr (L:=fun j=>if j=i then true else listed.getD j false) (L':=fun j=>listed.getD j false) (γ:=γ) (γ':=γ) hcg,addA_congr (L:=fun j=>if j=i then true else listed.getD j false) (L':=fun j=>listed.getD j false) (γ:=γ) (γ':=γ) hcg]
    refine St.weak st' (fun t=>.inr ?_) (List.Sublist.refl _)
    by_cases hex:∃x∈al,listed.getD x.i false=true∧x.d=t
    ·obtain⟨x,hx,hlx,rfl⟩:=hex
     rw [addA_in hx hlx (huniq x hx),setO_get,if_neg (fun e=>hno x hx (hone x hx i _ hpi' e).symm),addA_in hx hlx (huniq x hx)]
    ·have hout:∀x∈al,(fun j=>listed.getD j false) x.i=true→x.d≠t:=fun x hx hlx e=>hex ⟨x,hx,hlx,e⟩
     rw [addA_out hout,hsig,setO_get,setO_get,addA_out hout]
   have hcalm:=hc _ _ a w Q hsame st
   split
   ·rename_i hw
    rw [if_pos hw] at hcalm
    exact .inl (Oper.wp_mono hnext hcalm)
   ·rename_i hw
    rw [if_neg hw] at hcalm
    have st2:=st.put hd (r:=.tup []) (v:=undef) ⟨[],rfl,trivial⟩
    rw [←hcalm] at st2
    exact hnext _ _ st2
  ·
   obtain⟨hw,hnew⟩:=hc _ _ a w Q hsame st
   rw [if_pos hw]
   refine .inl (Oper.wp_mono ?_ hnew)
   rintro a' w' ⟨g,st'⟩
   refine hgo (fun j=>if j=i then g else γ j) a' w' ?_
   have hli:listed.getD x.i false=false:=by rw [hxi];exact h2
   have hperm:=extA_new (L:=fun j=>listed.getD j false) (γ:=γ) (g:=g) hx hli hnd
   rw [hxi] at hperm
   refine St.perm (h:=((g,x.ob)::(extA al (fun j=>listed.getD j false) γ++h))) ?_ ?_
   ·rw [←List.cons_append]
    exact(hperm.append_right h).symm
   refine St.weak st' (fun t=>.inr ?_) (List.Sublist.refl _)
   by_cases hxt:x.d=t
   ·subst hxt
    have:=addA_in (L:=fun j=>if j=i then true else listed.getD j false) (γ:=fun j=>if j=i then g else γ j) (σ:=sigL ps (marks n (listed.setIfInBounds i true)) σ) hx (by simp [hxi]) (huniq x hx)
    rw [this,setO_get,if_pos hxd]
    simp [hxi]
   ·rw [setO_get,if_neg (fun e=>hxt (by rw [hxd] at e;injection e))]
    by_cases hex:∃y∈al,listed.getD y.i false=true∧y.d=t
    ·obtain⟨y,hy,hly,rfl⟩:=hex
     have hyi:y.i≠i:=fun e=>by rw [e,h2] at hly;cases hly
     have e1:=addA_in (L:=fun j=>if j=i then true else listed.getD j false) (γ:=fun j=>if j=i then g else γ j) (σ:=sigL ps (marks n (listed.setIfInBounds i true)) σ) hy (by simp [hyi,hly]) (huniq y hy)
     rw [e1,addA_in hy hly (huniq y hy)]
     simp [hyi]
    ·have hout:∀y∈al,(fun j=>listed.getD j false) y.i=true→y.d≠t:=fun y hy hly e=>hex ⟨y,hy,hly,e⟩
     have hout':∀y∈al,(fun j=>if j=i then true else listed.getD j false) y.i=true→y.d≠t:=fun y hy hly e=>by
      by_cases hyi:y.i=i
      ·have:y=x:=by
        obtain⟨_,q,hq,hqd⟩:=halp y hy
        rw [hyi,hpi'] at hq
        injection hq with hq
        rw [←hq,hxd] at hqd
        injection hqd with hqd
        exact huniq x hx y hy hqd.symm
       exact hxt (by rw [←this];exact e)
      ·simp only [hyi,if_false] at hly
       exact hout y hy hly e
     rw [addA_out hout',hsig,setO_get,if_neg (fun e=>hxt (by rw [hxd] at e;injection e)),addA_out hout]
end
end Go.AI
