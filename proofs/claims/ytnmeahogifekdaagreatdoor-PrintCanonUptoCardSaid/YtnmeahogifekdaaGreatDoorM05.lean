/- Parts of one proof, laid by a program. -/
import Derived.Test.YtnmeahogifekdaaGreatDoorM00
import Derived.Test.YtnmeahogifekdaaGreatDoorM04
import Derived.Test.YtnmeahogifekdaaGreatDoorRows
import Derived.WalkKit
import Derived.ProofKit
import Derived.OpenShut
import Derived.JoinedCond
import Derived.Carry
import Derived.ShutString
import Derived.MapKept
import Derived.Laws.Cover3
import Derived.Lib.Bytealg
set_option linter.unusedSimpArgs false
set_option linter.unusedVariables false
set_option maxRecDepth 100000
set_option maxHeartbeats 12800000
namespace Go.AI
open Go.PN
def isF (xs:List Int) (j:Nat):CV:=.int .i64 (xs.getD j 0)
@[go_sem] theorem isF_at (xs:List Int) (j:Nat):isF xs j=.int .i64 (xs.getD j 0):=rfl
abbrev is (t:Bool) (xs:List Int):CV:=.row t 1 xs.length (isF xs)
def bsF (xs:List Bool) (j:Nat):CV:=.bool (xs.getD j false)
@[go_sem] theorem bsF_at (xs:List Bool) (j:Nat):bsF xs j=.bool (xs.getD j false):=rfl
abbrev bs (t:Bool) (xs:List Bool):CV:=.row t 1 xs.length (bsF xs)
def rd0:RD:=⟨false,[],[]⟩
def ratsF (ps:List RD):Nat→CV:=lf 3 (fun r:RD=>[CV.bool r.neg,ws true r.num,ws true r.den]) rd0 ps
@[go_sem] theorem ratsF_0 (ps:List RD) (i:Nat):ratsF ps (i*3)=.bool (ps.getD i rd0).neg:=by
  have:=lf_at (s:=3) (c:=fun r:RD=>[CV.bool r.neg,ws true r.num,ws true r.den]) (d:=rd0) (xs:=ps) (i:=i) (k:=0) om
  exact this
@[go_sem] theorem ratsF_1 (ps:List RD) (i:Nat):ratsF ps (i*3+1)=ws true (ps.getD i rd0).num:=by
  have:=lf_at (s:=3) (c:=fun r:RD=>[CV.bool r.neg,ws true r.num,ws true r.den]) (d:=rd0) (xs:=ps) (i:=i) (k:=1) om
  exact this
@[go_sem] theorem ratsF_2 (ps:List RD) (i:Nat):ratsF ps (i*3+2)=ws true (ps.getD i rd0).den:=by
  have:=lf_at (s:=3) (c:=fun r:RD=>[CV.bool r.neg,ws true r.num,ws true r.den]) (d:=rd0) (xs:=ps) (i:=i) (k:=2) om
  exact this
abbrev rats (t:Bool) (ps:List RD):CV:=.row t 3 ps.length (ratsF ps)
structure DN where
 v:Int
 lo:Int
 hi:Int
 deriving DecidableEq
def dn0:DN:=⟨0,0,0⟩
def dnsF (ns:List DN):Nat→CV:=lf 3 (fun r:DN=>[CV.int .i64 r.v,.int .i64 r.lo,.int .i64 r.hi]) dn0 ns
@[go_sem] theorem dnsF_0 (ps:List DN) (i:Nat):dnsF ps (i*3)=.int .i64 (ps.getD i dn0).v:=by
  have:=lf_at (s:=3) (c:=fun r:DN=>[CV.int .i64 r.v,.int .i64 r.lo,.int .i64 r.hi]) (d:=dn0) (xs:=ps) (i:=i) (k:=0) om
  exact this
@[go_sem] theorem dnsF_1 (ps:List DN) (i:Nat):dnsF ps (i*3+1)=.int .i64 (ps.getD i dn0).lo:=by
  have:=lf_at (s:=3) (c:=fun r:DN=>[CV.int .i64 r.v,.int .i64 r.lo,.int .i64 r.hi]) (d:=dn0) (xs:=ps) (i:=i) (k:=1) om
  exact this
@[go_sem] theorem dnsF_2 (ps:List DN) (i:Nat):dnsF ps (i*3+2)=.int .i64 (ps.getD i dn0).hi:=by
  have:=lf_at (s:=3) (c:=fun r:DN=>[CV.int .i64 r.v,.int .i64 r.lo,.int .i64 r.hi]) (d:=dn0) (xs:=ps) (i:=i) (k:=2) om
  exact this
structure DG where
 order:List Int
 nodes:List DN
 root:Int
structure FN where
 kind:Int
 k:Int
 args:List Int
def fn0:FN:=⟨0,0,[]⟩
def fnsF (ns:List FN):Nat→CV:=lf 3 (fun r:FN=>[CV.int .i64 r.kind,.int .i64 r.k,is true r.args]) fn0 ns
@[go_sem] theorem fnsF_0 (ps:List FN) (i:Nat):fnsF ps (i*3)=.int .i64 (ps.getD i fn0).kind:=by
  have:=lf_at (s:=3) (c:=fun r:FN=>[CV.int .i64 r.kind,.int .i64 r.k,is true r.args]) (d:=fn0) (xs:=ps) (i:=i) (k:=0) om
  exact this
@[go_sem] theorem fnsF_1 (ps:List FN) (i:Nat):fnsF ps (i*3+1)=.int .i64 (ps.getD i fn0).k:=by
  have:=lf_at (s:=3) (c:=fun r:FN=>[CV.int .i64 r.kind,.int .i64 r.k,is true r.args]) (d:=fn0) (xs:=ps) (i:=i) (k:=1) om
  exact this
@[go_sem] theorem fnsF_2 (ps:List FN) (i:Nat):fnsF ps (i*3+2)=is true (ps.getD i fn0).args:=by
  have:=lf_at (s:=3) (c:=fun r:FN=>[CV.int .i64 r.kind,.int .i64 r.k,is true r.args]) (d:=fn0) (xs:=ps) (i:=i) (k:=2) om
  exact this
structure FM where
 vars:Int
 nodes:List FN
 top:Int
def errC (T:TypeId) (c:Int):CV:=if c=0 then .nilI else .ifc T (.int .i64 c)
@[go_sem] theorem errC_solid (T:TypeId) (c:Int):(errC T c).solid=true:=by unfold errC;split<;>rfl
theorem binAV_errE {P:Program} {nw:Bool} {t T:TypeId} {y:Operand} {c:Int} (hy:isNil y=true):binAV P nw .eql t y (.c (errC T c)) (.c .nilI)=some (tIfc P t=true,.c (.bool (decide (c=0)))):=by
 unfold errC
 split
 ·rename_i h;simp [binAV,hy,nilAV,h]
 ·rename_i h;simp [binAV,hy,nilAV,h]
theorem binAV_errN {P:Program} {nw:Bool} {t T:TypeId} {y:Operand} {c:Int} (hy:isNil y=true):binAV P nw .neq t y (.c (errC T c)) (.c .nilI)=some (tIfc P t=true,.c (.bool (!decide (c=0)))):=by
 unfold errC
 split
 ·rename_i h;simp [binAV,hy,nilAV,h]
 ·rename_i h;simp [binAV,hy,nilAV,h]
@[go_sem ↓] theorem binAV_errE' (P:Program) (nw:Bool) (t T:TypeId) (c:Int):binAV P nw .eql t (.const .nilIface) (.c (errC T c)) (.c .nilI)=some (tIfc P t=true,.c (.bool (decide (c=0)))):=binAV_errE rfl
@[go_sem ↓] theorem binAV_errN' (P:Program) (nw:Bool) (t T:TypeId) (c:Int):binAV P nw .neq t (.const .nilIface) (.c (errC T c)) (.c .nilI)=some (tIfc P t=true,.c (.bool (!decide (c=0)))):=binAV_errN rfl
theorem ler_err {h:Heap} {T:TypeId} {c:Int}:LeR h (errC T c) (errC T c):=by unfold errC;split;exact .nilI;exact .ifc (.int _ _)
theorem ler_err0 {h:Heap} {T:TypeId} {c:Int} (e:c=0):LeR h .nilI (errC T c):=by unfold errC;rw [if_pos e];exact .nilI
theorem ler_errN {h:Heap} {T:TypeId} {n c:Int} (e:n=c) (h0:c≠0):LeR h (.ifc T (.int .i64 n)) (errC T c):=by unfold errC;rw [if_neg h0,e];exact .ifc (.int _ _)
theorem lf_ler {α:Type} {h:Heap} {s:Nat} {c:α→List CV} {d:α} {xs:List α} (hs:0<s) (hc:∀x∈xs,∀k,k<s→LeR h (ofL (c x) k) (ofL (c x) k)):∀j,j<xs.length*s→LeR h (lf s c d xs j) (lf s c d xs j):=fun j hj=>by
 unfold lf
 have h1:j/s<xs.length:=(Nat.div_lt_iff_lt_mul hs).2 hj
 rw [List.getD_eq_getElem?_getD,List.getElem?_eq_getElem h1]
 exact hc _ (List.getElem_mem h1) _ (Nat.mod_lt _ hs)
theorem ler_rats {h:Heap} {t:Bool} {ps:List RD}:LeR h (rats true ps) (rats t ps):=
 .row (lf_ler om fun x _ k hk=>by match k,hk with|0,_=>exact .bool _|1,_=>exact ler_ws|2,_=>exact ler_ws)
end Go.AI
namespace Go.Proofs.YtnmeahogifekdaaGreatDoor
open Go.AI Go.PN
attribute [local irreducible] aw Fa Fh DrK
abbrev errA (c:Int):CV:=errC 38 c
instance:DecidableEq RD:=fun a b=>decidable_of_iff (a.neg=b.neg∧a.num=b.num∧a.den=b.den) (by cases a;cases b;simp)
end Go.Proofs.YtnmeahogifekdaaGreatDoor
namespace Go.AI
open Go.PN
def AllB (w:World):Bool→Nat→Prop:=fun _ b=>b<w.heap.size
theorem Fa.below {P:Program} {f:FuncId} {args:List AV} {b:Bool} (hf:Fa P f args (.c (.bool b))) {w:World} {vs:List Value} (hr:RepT (AllB w) w args vs):
  Calls P f vs.toArray w fun e w'=>e=.returned (.bool b)∧RowKit.Below w.heap.size w w':=by
 refine(hf.2 (AllB w) w vs (fun _ h=>h) (fun _ _ h=>h) hr).mono ?_
 rintro e w' ⟨v,rfl,hv,hfr⟩
 have hv':v=.bool b:=hv
 subst hv'
 exact⟨rfl,hfr.os,hfr.tape,hfr.output,hfr.size,fun k hk=>hfr.block k hk (fun x=>x)⟩
end Go.AI
namespace Go.Proofs.YtnmeahogifekdaaGreatDoor
open Go.AI Go.PN Go.ChangeShapes
section
variable {P : Program}
def Rdr (P:Program) (t:TypeId) {α:Type} (c:α→List CV) (B:α→Nat→Prop):Prop:=
 ∀(H:Type) (enc:TypeId×Value→H) (w:World) (fuel:Nat) (cs:List Value) (x:DataW H×List MemPlace),DataW.trod enc P w 0 (fun _=>true) true fuel t cs=some x→∃y,RepL (AllB w) w (c y) cs∧B y (Rows.uptoBulk x.1)
end
end Go.Proofs.YtnmeahogifekdaaGreatDoor
namespace Go.Proofs.YtnmeahogifekdaaGreatDoor
open Go.AI Go.PN Go.ChangeShapes Go.WideShapes Go.RowKit
theorem glue_laid:laidOutB Tryz.prog=true:=by kernel_rfl
theorem own:ownKnob Tryz.prog.godebug=none:=by kernel_rfl
section
variable {H : Type} {enc : TypeId × Value → H} {P : Program}
theorem trodAll_stays (hl:laidOutB P=true) {W W':World} {sp:Nat→Bool}:∀{ts:List TypeId} {vs:List Value} {ds:List (DataW H)} {p:List MemPlace},(∀t∈ts,P.readableRec t=true∧t<P.types.size)→DataW.TrodAll enc P W 0 (fun _=>true) true ts vs ds p→(∀x∈p,W.sameAt W' x)→(∀x∈p,sp x.block=true)→DataW.TrodAll enc P W' 0 sp true ts vs ds p
 |[],_,_,_,_,h,_,_=>by
  obtain⟨rfl,rfl,rfl⟩:=trodAll_nil h
  exact rfl
 |t::ts,_,_,_,hts,h,hs,hp=>by
  obtain⟨v,vs,d,ds,a,b,rfl,rfl,rfl,h1,h2⟩:=trodAll_cons h
  exact⟨a,b,WideElems.Trod_stays hl (hts t (List.mem_cons_self ..)).1 (hts t (List.mem_cons_self ..)).2 h1 (fun x hx=>hs x (List.mem_append_left _ hx)) (fun x hx=>hp x (List.mem_append_left _ hx)),
   trodAll_stays hl (fun t' ht=>hts t' (List.mem_cons_of_mem _ ht)) h2 (fun x hx=>hs x (List.mem_append_right _ hx)) (fun x hx=>hp x (List.mem_append_right _ hx)),rfl⟩
theorem post_of_below {fn:Func} {s:ChangeSpec} {W W':World} {args:Array Value} {ds gs:List (DataW H)} {before:List MemPlace} {tb:TypeId} (hl:laidOutB P=true) (hts:∀t∈fn.params.toList,P.readableRec t=true∧t<P.types.size) (hrt:fn.resultTypes= #[tb]) (hbt:P.underlying tb=some .bool) (hvars:s.vars=[])
  (hW:DataW.Whole enc P fn.params.toList s.vars false W args.toList ds gs before) (hfn:∀gs':List (DataW H),gs'=[]→s.fn H (ds++gs')={results:=[.lit (.bool true)],args:=ds}) (hb:Below W.heap.size W W'):s.post enc P fn false true false false W args (.bool true) W':=by
 have hWk:=hW
 obtain⟨p,q,hA,hV,rfl,hfz,_⟩:=hW
 rw [hvars] at hV
 obtain⟨rfl,rfl⟩:=trodVars_none hV
 have hlt:∀x∈p++[],x.block<W.heap.size:=fun x hx=>by simpa using hWk.lt x hx
 have hlt':∀x∈p,x.block<W.heap.size:=fun x hx=>hlt x (List.mem_append_left _ hx)
 have hres:∀(b:Nat) (sp:Nat→Bool) (hd:Bool),DataW.TrodAll enc P W' b sp hd fn.resultTypes.toList ((Value.bool true).resultList fn.resultTypes.size) (s.fn H (ds++[])).results []:=fun b sp hd=>by
  rw [hrt,hfn [] rfl]
  exact trodAll_cons_mk (shut_bool hbt _) trodAll_mk0
 have hargs:∀sp:Nat→Bool,(∀x∈p,sp x.block=true)→DataW.TrodAll enc P W' 0 sp true fn.params.toList args.toList (s.fn H (ds++[])).args p:=fun sp hsp=>by
  rw [hfn [] rfl]
  exact trodAll_stays hl hts hA (fun x hx=>hb.same (hlt' x hx)) hsp
 have hvr:∀sp:Nat→Bool,DataW.TrodVars enc P W' sp s.vars (s.fn H (ds++[])).vars []:=fun sp=>by
  rw [hvars,hfn [] rfl];exact rfl
 refine⟨ds,[],p++[],[],p,[],hWk,hres _ _ _,hargs _ (fun x hx=>by simpa using hlt' x hx),hvr _,hb.frame _,fun _=> ?_⟩
 refine⟨ok_one hrt rfl (okWide_bool_mk hbt _),_,_,([]++p)++[],⟨[]++p,[],trodAll_append (hargs _ (fun _ _=>rfl)) (hres _ _ _),hvr _,rfl,?_,fun h=>by cases h⟩,?_⟩
 ·intro b off hp
  have hp':MemPlace.cell b off∈p++[]:=by simpa using hp
  rw [Below.frozen hb (hlt _ hp')]
  exact hfz b off hp'
 ·intro x hx _
  simpa using hx
end
theorem rdr_str {P:Program} {t:TypeId} (ht:P.underlying t=some .string):Rdr P t (fun l:BS=>[.str (sB l)]) (fun l n=>l.length+1≤n):=fun H enc w fuel cs x h=>by
 obtain⟨s,rfl,rfl,_⟩:=DataW.trod_string ht h
 exact⟨s.data.toList,⟨rfl,trivial⟩,Nat.le_refl _⟩
end Go.Proofs.YtnmeahogifekdaaGreatDoor
namespace Go.AI
def fAsk {α:Type} [DecidableEq α] (a:α):List α→List MapEntry→Nat→Option (Nat×Value)
 |k::ks,e::es,i=>if a=k then some (i,e.val) else fAsk a ks es (i+1)
 |_,_,_=>none
structure KeyOk (P:Program) (kt:TypeId) {α:Type} [DecidableEq α] (K:α→Value):Prop where
 check:∀b a w,(Instr.checkKey b 10000 kt (K a)).run P w=.ok () w
 find:∀(a:α) (ks:List α) (es:List MapEntry) w,es.map (·.key)=ks.map K→(Instr.findKey kt (K a) es).run P w=.ok (fAsk a ks es 0) w
section
variable {P : Program}
theorem run_findAsking {α:Type} [DecidableEq α] {K:α→Value} {kt:TypeId} (heq:∀a b w,(Op.equal kt (K a) (K b)).run P w=.ok (decide (a=b)) w) (a:α):∀(ks:List α) (es:List MapEntry) (i:Nat) (w:World),es.map (·.key)=ks.map K→(Instr.findAsking kt (K a) es i).run P w=.ok (fAsk a ks es i) w
 |[],[],i,w,_=>by simp [Instr.findAsking,fAsk]
 |k::ks,e::es,i,w,h=>by
  simp only [List.map_cons,List.cons.injEq] at h
  simp only [Instr.findAsking,fAsk,Sem.run_bind,h.1,heq,Result.andThen_ok]
  by_cases hk:a=k
  ·simp [hk]
  ·simp only [hk,decide_false,Bool.false_eq_true,if_false]
   exact run_findAsking heq a ks es (i+1) w h.2
 |[],e::es,i,w,h=>by simp at h
 |k::ks,[],i,w,h=>by simp at h
def keyZ (ns:List Int):Value:=.agg (ns.map (Value.int .i64)).toArray
theorem run_checkFields {n:Nat} {ns:List Int} (w:World) (b:Bool):∀(fs:List Field) (k:Nat),(fs.zipIdx k).all (fun p=>p.1.name != "_" &&p.1.offset==p.2&&(tInt P p.1.type).isSome)=true→k+fs.length≤ns.length→
  (forIn fs PUnit.unit (fun f (_:PUnit)=>(do
   if f.name≠ "_" then
    let __do_lift←part f.type (ns.map (Value.int .i64)).toArray f.offset
    Instr.checkKey b (n+1) f.type __do_lift
   pure (ForInStep.yield PUnit.unit):Sem (ForInStep PUnit)))).run P w=.ok PUnit.unit w
 |[],k,_,_=>by simp
 |f::fs,k,hf,hk=>by
  simp only [List.zipIdx_cons,List.all_cons,Bool.and_eq_true,bne_iff_ne,ne_eq,beq_iff_eq] at hf
  obtain⟨⟨⟨hn,ho⟩,hi⟩,hr⟩:=hf
  simp only [List.length_cons] at hk
  have hka:k<ns.length:=by omega
  obtain⟨kk,hkk⟩:=Option.isSome_iff_exists.1 hi
  have hu:=tInt_spec hkk
  have hag:(isAgg f.type).run P w=.ok false w:=by simp [isAgg,run_underlying hu]
  have e1:(ns.map (Value.int .i64)).toArray[k]?=some (Value.int .i64 (ns[k])):=by simp [hka]
  have p1:(part f.type (ns.map (Value.int .i64)).toArray f.offset).run P w=.ok (.int .i64 (ns[k])) w:=by
   unfold part
   simp only [Sem.run_bind,hag,Result.andThen_ok,Bool.false_eq_true,if_false,ho,e1,Sem.run_pure]
  have p2:(Instr.checkKey b (n+1) f.type (.int .i64 (ns[k]))).run P w=.ok () w:=by
   simp [Instr.checkKey,run_underlying hu]
  have ih:=run_checkFields (n:=n) (ns:=ns) w b fs (k+1) (by simpa using hr) om
  rw [List.forIn_cons]
  simp only [hn,not_false_eq_true,if_true,Sem.run_bind,p1,p2,Result.andThen_ok,Sem.run_pure,ne_eq]
  exact ih
theorem keyZ_ok {kt n:Nat} (ht:tEqS P kt=some n):KeyOk P kt (fun ns:{l:List Int//l.length=n}=>keyZ ns.1):=by
 have hstr:P.underlying kt=some (.struct (P.fieldsOf kt))∧(P.fieldsOf kt).toList.zipIdx.all (fun p=>p.1.name != "_" &&p.1.offset==p.2&&(tInt P p.1.type).isSome)=true∧(P.fieldsOf kt).size=n:=by
  unfold tEqS at ht
  split at ht
  ·rename_i hc
   simp only [Bool.and_eq_true,Bool.not_eq_true'] at hc
   obtain⟨⟨⟨h1,h2⟩,h3⟩,h4⟩:=hc
   injection ht with ht
   exact⟨isStr_spec h4,h3,ht⟩
  ·cases ht
 obtain⟨hu,hf,hs⟩:=hstr
 have heq:∀(a b:{l:List Int//l.length=n}) (w:World),(Op.equal kt (keyZ a.1) (keyZ b.1)).run P w=.ok (decide (a=b)) w:=fun a b w=>by
  have:=(tEqS_run ht a.2 b.2 w).1
  unfold Op.equal Op.maxDepth keyZ
  rw [this,eqZ_eq]
  congr 1
  rw [Bool.eq_iff_iff];simp [Subtype.ext_iff]
 refine⟨fun b a w=> ?_,fun a ks es w h=> ?_⟩
 ·unfold keyZ
  rw [show(10000:Nat)=9999+1 from rfl,Instr.checkKey]
  simp only [Sem.run_bind,run_underlying hu,Result.andThen_ok]
  rw [←Array.forIn_toList]
  have:=run_checkFields (P:=P) (n:=9998) (ns:=a.1) w b (P.fieldsOf kt).toList 0 hf (by simp [hs,a.2])
  rw [this]
  rfl
 ·unfold Instr.findKey
  simp only [Sem.run_bind,run_underlying hu,Result.andThen_ok]
  cases es with
  |nil=>
   cases ks with
   |nil=>simp [Instr.findNow,fAsk]
   |cons k ks=>simp at h
  |cons e es=>
   have hn:Instr.findNow (.struct (P.fieldsOf kt)) (keyZ a.1) (e::es) 0=none:=by
    simp [Instr.findNow,Instr.sameNow]
   rw [hn]
   exact run_findAsking heq a ks (e::es) 0 w h
def MapI {α:Type} (K:α→Value) (kv:List (α×Value)) (o:Obj):Prop:=∃es c,o=.map es c∧es.toList.map (fun e=>(e.key,e.val))=kv.map (fun p=>(K p.1,p.2))
def kvGet {α:Type} [DecidableEq α] (a:α):List (α×Value)→Option Value
 |[]=>none
 |p::kv=>if a=p.1 then some p.2 else kvGet a kv
theorem fAsk_get {α:Type} [DecidableEq α] {K:α→Value} (a:α):∀(kv:List (α×Value)) (es:List MapEntry) (i:Nat),es.map (fun e=>(e.key,e.val))=kv.map (fun p=>(K p.1,p.2))→(fAsk a (kv.map (·.1)) es i).map (·.2)=kvGet a kv
 |[],[],i,_=>rfl
 |p::kv,e::es,i,h=>by
  simp only [List.map_cons,List.cons.injEq,Prod.mk.injEq] at h
  simp only [List.map_cons,fAsk,kvGet]
  split
  ·simp [h.1.2]
  ·exact fAsk_get a kv es (i+1) h.2
 |[],e::es,i,h=>by simp at h
 |p::kv,[],i,h=>by simp at h
def tMap (P:Program) (t:TypeId):Option (TypeId×TypeId):=match P.underlying t with
 |some (.map k e)=>some (k,e)
 |_=>none
theorem tMap_spec {t k e:TypeId} (h:tMap P t=some (k,e)):P.underlying t=some (.map k e):=by
 unfold tMap at h
 split at h
 ·rename_i hu;simp only [Option.some.injEq,Prod.mk.injEq] at h;rw [hu,h.1,h.2]
 ·cases h
def tZ1 (P:Program) (t:TypeId):Option Value:=match (P.info? t).bind (·.zero) with
 |some (.int k n)=>some (.int k n)
 |some (.bool b)=>some (.bool b)
 |_=>none
theorem tZ1_run {t:TypeId} {z:Value} (h:tZ1 P t=some z) (w:World):(zeroValue t).run P w=.ok z w:=by
 unfold tZ1 at h
 cases hi:P.info? t with
 |none=>simp [hi] at h
 |some i=>
  cases hz:i.zero with
  |none=>simp [hi,hz] at h
  |some v=>
   simp only [hi,hz,Option.bind_some] at h
   split at h
   ·rename_i he;injection he with he;injection h with h;subst h;simp [zeroValue,typeInfo,hi,hz,he]
   ·rename_i he;injection he with he;injection h with h;subst h;simp [zeroValue,typeInfo,hi,hz,he]
   ·cases h
theorem runGet {w:World} {r:Nat} {es:Array MapEntry} {c:Nat} (hb:w.heap[r]?=some (.map es c)):(getObj r).run P w=.ok (.map es c) w:=by simp [getObj,Sem.run,hb]
theorem runSet {w:World} {r:Nat} {es:Array MapEntry} {c:Nat} (o':Obj) (hb:w.heap[r]?=some (.map es c)):(setObj r o').run P w=.ok () {w with heap:=w.heap.setIfInBounds r o'}:=by simp [setObj,Sem.run,hb]
variable {E : Env} {K : List It} {σ σ' : Sl} {h : Heap} {all rest : List Oper} {o : Oper}
theorem aw_makeMap {α:Type} {Kf:α→Value} {t:TypeId} (hop:o.op=.makeMap t none) (hw:wantA all σ o=some true) (hd:dstOk E.N o.dst=true)
  (k:∀g,g∉h.keys→aw E (.ops all rest::K) (σ.setO o.dst (.c (.raw (.map (some g))))) ((g,.gen (MapI Kf []))::h)):aw E (.ops all (o::rest)::K) σ h:=by
 refine aw_new (r:=fun g=>.c (.raw (.map (some g)))) (ob:=.gen (MapI Kf [])) hw hd (fun a w s=> ?_) k
 refine⟨.map (some w.heap.size),w.alloc (.map #[] 0),?_,Fr.alloc _ _ _,by simp,⟨_,heap_alloc_new w _,_,_,rfl,rfl⟩,rfl⟩
 simp only [execOp,hop]
 rfl
theorem aw_lookup {α:Type} [DecidableEq α] {Kf:α→Value} {t kt et g:TypeId} {kv:List (α×Value)} {x ky:Operand} {ck:AV} {a:α} {z:Value} (hop:o.op=.lookup t x ky false) (hw:wantA all σ o=some true) (hd:dstOk E.N o.dst=true)
  (ht:tMap E.P t=some (kt,et)) (hK:KeyOk E.P kt Kf) (hz:tZ1 E.P et=some z) (hx:ev σ x=.c (.raw (.map (some g)))) (hg:h.get g=some (.gen (MapI Kf kv))) (hk:ev σ ky=ck) (hka:∀S w v,Rep S w ck v→v=Kf a)
  (k:aw E (.ops all rest::K) (σ.setO o.dst (.c (cstC ((kvGet a kv).getD z)))) h):aw E (.ops all (o::rest)::K) σ h:=by
 refine aw_step hw (fun ac w s=> ?_) k
 have h1:=ev_rep s x
 rw [hx] at h1
 have h1':ac.eval x=.map (some g):=h1
 have h2:=ev_rep s ky
 rw [hk] at h2
 have h2':=hka _ _ _ h2
 obtain⟨ob,hb,es,c,rfl,hes⟩:=s.heap g _ (Heap.get_mem hg)
 have hkeys:es.toList.map (·.key)=(kv.map (·.1)).map Kf:=by
  have:=congrArg (List.map Prod.fst) hes
  rw [List.map_map,List.map_map] at this
  rw [List.map_map]
  exact this
 have hfind:=hK.find a (kv.map (·.1)) es.toList w hkeys
 have hget:=fAsk_get (K:=Kf) a kv es.toList 0 hes
 refine⟨(kvGet a kv).getD z,w,.inl ?_,s.put hd (cstC_rep _ _ _)⟩
 have hlk:(Instr.lookup t (ac.eval x) (ac.eval ky) false).run E.P w=.ok ((kvGet a kv).getD z) w:=by
  rw [h1',h2']
  unfold Instr.lookup
  simp only [Sem.run_bind,run_underlying (tMap_spec ht),Result.andThen_ok,runGet hb,Sem.run_pure,hK.check,hfind]
  rw [←hget]
  cases hf:fAsk a (kv.map (·.1)) es.toList 0 with
  |none=>simp [tZ1_run hz]
  |some p=>obtain⟨i,v⟩:=p;simp
 simp only [execOp,hop,Sem.run_bind,hlk,Result.andThen_ok]
 rfl
theorem aw_mapNew {α:Type} [DecidableEq α] {Kf:α→Value} {t kt et g:TypeId} {kv:List (α×Value)} {x ky vl:Operand} {ck cv:AV} {a:α} {v:Value} (hop:o.op=.mapUpdate t x ky vl) (hdn:o.dst=none) (hw:wantA all σ o=some true)
  (ht:tMap E.P t=some (kt,et)) (hK:KeyOk E.P kt Kf) (hx:ev σ x=.c (.raw (.map (some g)))) (hg:h.get g=some (.gen (MapI Kf kv))) (hk:ev σ ky=ck) (hka:∀S w u,Rep S w ck u→u=Kf a) (hv:ev σ vl=cv) (hva:∀S w u,Rep S w cv u→u=v)
  (hnew:kvGet a kv=none) {h':Heap} (hh:h.set g (.gen (MapI Kf (kv++[(a,v)])))=h') (k:aw E (.ops all rest::K) σ h'):aw E (.ops all (o::rest)::K) σ h:=by
 subst hh
 refine aw_step hw (fun ac w s=> ?_) k
 have h1:=ev_rep s x
 rw [hx] at h1
 have h1':ac.eval x=.map (some g):=h1
 have h2:=ev_rep s ky
 rw [hk] at h2
 have h2':=hka _ _ _ h2
 have h3:=ev_rep s vl
 rw [hv] at h3
 have h3':=hva _ _ _ h3
 obtain⟨ob,hb,es,c,rfl,hes⟩:=s.heap g _ (Heap.get_mem hg)
 have hkeys:es.toList.map (·.key)=(kv.map (·.1)).map Kf:=by
  have:=congrArg (List.map Prod.fst) hes
  rw [List.map_map,List.map_map] at this
  rw [List.map_map]
  exact this
 have hfind:=hK.find a (kv.map (·.1)) es.toList w hkeys
 have hget:=fAsk_get (K:=Kf) a kv es.toList 0 hes
 have hnone:fAsk a (kv.map (·.1)) es.toList 0=none:=by
  cases hf:fAsk a (kv.map (·.1)) es.toList 0 with
  |none=>rfl
  |some p=>rw [hf,hnew] at hget;cases hget
 have hgl:g<w.heap.size:=(Array.getElem?_eq_some_iff.1 hb).1
 let w':World:={w with heap:=w.heap.setIfInBounds g (.map (es.push {key:=Kf a,val:=v,born:=c}) (c+1))}
 have hrun:(Instr.mapUpdate t (ac.eval x) (ac.eval ky) (ac.eval vl)).run E.P w=.ok () w':=by
  rw [h1',h2',h3']
  unfold Instr.mapUpdate
  simp only [Sem.run_bind,run_underlying (tMap_spec ht),Result.andThen_ok,runGet hb,hK.check,hfind,hnone,runSet _ hb]
  rfl
 refine⟨undef,w',.inr ⟨?_,rfl⟩,?_⟩
 ·simp only [execOp,hop,Sem.run_bind,hrun,Result.andThen_ok]
  rfl
 ·rw [hdn]
  have hfr:Fr (fun b=>b=g) w w':=by
   refine⟨rfl,rfl,rfl,by simp [w'],Nat.le_refl _,fun b _ hne=> ?_,fun g' m hh=> ?_⟩
   ·simp only [w'];rw [Array.getElem?_setIfInBounds_ne (fun e=>hne e.symm)]
   ·obtain⟨cs,ty,⟨fr,hc⟩,hs⟩:=hh
    refine⟨cs,ty,⟨fr,?_⟩,hs⟩
    have hne:g'≠g:=fun e=>by rw [e,hb] at hc;cases hc
    simp only [w']
    rw [Array.getElem?_setIfInBounds_ne (fun e=>hne e.symm)];exact hc
  refine s.setObj hg hfr ⟨_,by simp only [w'];rw [Array.getElem?_setIfInBounds_self_of_lt hgl],_,_,rfl,?_⟩
  simp only [Array.toList_push,List.map_append,List.map_cons,List.map_nil,hes]
end
end Go.AI
namespace Go.AI
section
variable {E : Env} {K : List It} {σ σ' : Sl} {h : Heap} {all rest : List Oper} {o : Oper}
theorem aw_eqnil {t e:TypeId} {t2:TypeId} {x:Operand} {tg:Bool} {s n:Nat} {f:Nat→CV} (hop:o.op=.binOp .eql t x (.const (.slice none 0 0)) t2) (hw:wantA all σ o=some true) (hd:dstOk E.N o.dst=true) (ht:E.P.underlying t=some (.slice e)) (hx:ev σ x=.c (.row tg s n f)) (hs:0<s)
  (k:∀b:Bool,(b=true→n=0)→aw E (.ops all rest::K) (σ.setO o.dst (.c (.bool b))) h):aw E (.ops all (o::rest)::K) σ h:=fun a w st=>by
 have h1:=ev_rep st x
 rw [hx] at h1
 obtain⟨A,c,hv,hc,hn⟩:=h1
 show wpList _ _ _ _ _ _
 unfold wpList
 rw [if_pos (st.wanted hw)]
 refine .inl ?_
 unfold Oper.wp
 have hrun:(execOp a.eval o).run E.P w=.ok (.value (.bool A.isNone)) w:=by
  have e2:a.eval (.const (.slice none 0 0))=.slice none 0 0:=rfl
  have h3:(eqGuard .eql t x (.const (.slice none 0 0)) (.slice A n c) (.slice none 0 0)).run E.P w=.ok () w:=by
   simp [eqGuard]
  have h4:(binOp .eql t (.slice A n c) (.slice none 0 0)).run E.P w=.ok (.bool A.isNone) w:=by
   unfold binOp
   simp [run_equal_slice_nil w t e A n c ht]
  simp only [execOp,hop,hv,e2,Sem.run_bind,h3,h4,Result.andThen_ok]
  rfl
 rw [hrun]
 refine k A.isNone (fun hb=> ?_) _ _ (st.put hd rfl)
 cases A with
 |none=>
  rcases Nat.eq_zero_or_pos n with h0|h0
  ·exact h0
  ·obtain⟨ad,e,_⟩:=hn (Nat.mul_pos h0 hs)
   cases e
 |some a=>cases hb
def ptrs (gs:List Nat):List Value:=gs.map fun g=>.pointer (some ⟨g,0,none⟩)
def fnC (f:FuncId) (gs:List Nat):CV:=.raw (.func (.func f) #[] (ptrs gs).toArray)
theorem aw_makeFunc {f:FuncId} {cs:List Operand} {gs:List Nat} (hop:o.op=.makeFunc (.func f) #[] cs.toArray) (hw:wantA all σ o=some true) (hd:dstOk E.N o.dst=true) (hc:cs.map (ev σ)=gs.map fun g=>.c (.optr g 0))
  (k:aw E (.ops all rest::K) (σ.setO o.dst (.c (fnC f gs))) h):aw E (.ops all (o::rest)::K) σ h:=by
 refine aw_step hw (fun a w s=> ?_) k
 have hev:∀(cs:List Operand) (gs:List Nat),cs.map (ev σ)=gs.map (fun g=>AV.c (.optr g 0))→cs.map a.eval=ptrs gs:=by
  intro cs
  induction cs with
  |nil=>intro gs hg;cases gs with
   |nil=>rfl
   |cons g gs=>cases hg
  |cons x cs ih=>intro gs hg;cases gs with
   |nil=>cases hg
   |cons g gs=>
    simp only [List.map_cons,List.cons.injEq] at hg
    have h1:=ev_rep s x
    rw [hg.1] at h1
    have h1':a.eval x=.pointer (some ⟨g,0,none⟩):=h1
    simp only [List.map_cons,ptrs]
    rw [h1',ih gs hg.2]
    rfl
 refine⟨.func (.func f) #[] (ptrs gs).toArray,w,.inl ?_,s.put hd rfl⟩
 simp only [execOp,hop,Instr.makeFunc,List.map_toArray,hev cs gs hc]
 rfl
theorem RepT.ptrs {S:Bool→Nat→Prop} {w:World}:∀{A:List AV} {vs:List Value} (gs:List Nat),RepT S w A vs→RepT S w (A++gs.map fun g=>.c (.optr g 0)) (vs++AI.ptrs gs)
 |[],[],gs,_=>by
  induction gs with
  |nil=>trivial
  |cons g gs ih=>exact⟨rfl,ih⟩
 |_::_,_::_,gs,h=>⟨h.1,RepT.ptrs gs h.2⟩
 |[],_::_,_,h=>h.elim
 |_::_,[],_,h=>h.elim
theorem aw_callhv {f:FuncId} {x:Operand} {gs:List Nat} {xs:List Operand} {ts:Array TypeId} {hc hr:Heap} {args:List AV} {Q:AV→Heap→Prop} (hf:Fh E.P f hc (args++gs.map fun g=>.c (.optr g 0)) Q) (hop:o.op=.call {callee:=.value x,args:=xs.toArray,argTypes:=ts}) (hw:wantA all σ o=some true) (hd:dstOk E.N o.dst=true) (hx:ev σ x=.c (fnC f gs))
  (hp:h.Perm (hc++hr)) (le:LeA [] (xs.map (ev σ)) args) (k:∀r h',Q r h'→(∀g∈h'.keys,g∉hr.keys)→aw E (.ops all rest::K) (σ.setO o.dst r) (h'++hr)):aw E (.ops all (o::rest)::K) σ h:=fun a w s=>by
 show wpList _ _ _ _ _ _
 unfold wpList
 rw [if_pos (s.wanted hw)]
 refine .inl ?_
 unfold Oper.wp
 have hv:a.eval x=.func (.func f) #[] (ptrs gs).toArray:=by
  have:=ev_rep s x
  rw [hx] at this
  exact this
 have hrun:(execOp a.eval o).run E.P w=.ok (.enter f (xs.map a.eval++ptrs gs).toArray) w:=by
  simp only [execOp,hop,resolve,hv,Deferred.ofValue,invoke,Sem.run_bind]
  have:=hf.1.run (#[]++(Array.map a.eval xs.toArray)++(ptrs gs).toArray) w
  simp only [Sem.run_pure,Result.andThen_ok]
  rw [show((xs.map a.eval++ptrs gs).toArray)=(#[]++(Array.map a.eval xs.toArray)++(ptrs gs).toArray) from by simp]
  exact this
 rw [hrun]
 show Calls _ _ _ _ _
 refine(hf.use s hp (RepT.ptrs gs (LeA.rep0 s le))).mono ?_
 rintro e w' ⟨v,r,h',rfl,hq,hfr,s',hrep⟩
 exact k r h' hq hfr _ _ (s'.put hd hrep)
theorem aw_callqv {f:FuncId} {x:Operand} {xs:List Operand} {ts:Array TypeId} {args:List AV} {r:AV} (hf:Fa E.P f args r) (hop:o.op=.call {callee:=.value x,args:=xs.toArray,argTypes:=ts}) (hw:wantA all σ o=some true) (hd:dstOk E.N o.dst=true) (hx:ev σ x=.c (.raw (.func (.func f) #[] #[])))
  (le:LeA h (xs.map (ev σ)) args) (k:aw E (.ops all rest::K) (σ.setO o.dst r) h):aw E (.ops all (o::rest)::K) σ h:=fun a w s=>by
 show wpList _ _ _ _ _ _
 unfold wpList
 rw [if_pos (s.wanted hw)]
 refine .inl ?_
 unfold Oper.wp
 have hv:a.eval x=.func (.func f) #[] #[]:=by
  have:=ev_rep s x
  rw [hx] at this
  exact this
 have hrun:(execOp a.eval o).run E.P w=.ok (.enter f (xs.map a.eval).toArray) w:=by
  simp only [execOp,hop,resolve,hv,Deferred.ofValue,invoke,Sem.run_bind]
  have:=hf.1.run (#[]++(Array.map a.eval xs.toArray)++ #[]) w
  simp only [Sem.run_pure,Result.andThen_ok]
  rw [show((xs.map a.eval).toArray)=(#[]++(Array.map a.eval xs.toArray)++ #[]) from by simp]
  exact this
 rw [hrun]
 show Calls _ _ _ _ _
 refine(hf.use s le).mono ?_
 rintro e w' ⟨v,rfl,hr,hfr⟩
 exact k _ _ ((s.later hfr).put hd hr)
end
end Go.AI
namespace Go.AI
section
variable {E : Env} {K : List It} {σ σ' : Sl} {h : Heap} {all l rest : List Oper} {o o1 o2 : Oper}
theorem NewX.buildSlice {t e size bytes len:Nat} {xs:List Operand} {cells:List CV} (hop:o.op=.buildSlice t len (enumO 0 xs).toArray) (hw:wantA l σ o=some true) (hd:dstOk E.N o.dst=true) (ht:tElem E.P t=some (e,size,bytes))
  (hz:(tZero E.P e).isSome=true) (hl:xs.length=len) (hsm:len*size≤16777216) (hlm:len≤16777216) (hx:∀x∈xs,(ev σ x).flat=true∧(ev σ x).cells.all CV.solid=true∧(ev σ x).cells.length=size) (hc:(xs.map (ev σ)).flatMap AV.cells=cells) (hops:∀x∈xs,x∈o.op.operands):
  NewX E h l σ o (fun g=>.c (.osl g size 0 len)) (.cells e (len*size) (ofL cells)):=by
 subst hc
 refine NewX.of_run hw hd fun σ' ext a w he s=> ?_
 have hmap:xs.map (ev σ')=xs.map (ev σ):=List.map_congr_left fun x hx'=>he x (hops x hx')
 have hx2:∀x∈xs,(ev σ' x).flat=true∧(ev σ' x).cells.all CV.solid=true∧(ev σ' x).cells.length=size:=fun x hx'=>by rw [he x (hops x hx')];exact hx x hx'
 rw [←hmap]
 obtain⟨hu,inf,hi,hsz,_⟩:=tElem_spec ht
 obtain⟨z,hz'⟩:=Option.isSome_iff_exists.1 hz
 obtain⟨i',zv,hi',hzv,_⟩:=tZero_spec hz'
 rw [hi] at hi'
 injection hi' with hi'
 subst hi'
 obtain⟨hL,hcs⟩:=parts_rep s size xs hx2
 have hnk:w.heap.size∉(ext++h).keys:=fun hm=>Nat.lt_irrefl _ (s.klt hm)
 generalize hvs:xs.map a.eval=vs at hL hcs
 have hlv:vs.length=len:=by rw [←hvs];simpa using hl
 have hfl:(vs.flatMap fun v=>v.cells.toList).length=len*size:=by
  rw [←hlv]
  clear hL hvs hlv
  induction vs with
  |nil=>simp
  |cons v vs ih=>simp only [List.flatMap_cons,List.length_append,List.length_cons,ih (fun x hx=>hcs x (List.mem_cons_of_mem _ hx)),Nat.add_mul];have:=hcs v (by simp);simp [this];omega
 refine⟨.slice (some ⟨w.heap.size,0,none⟩) len len,w.alloc (.cells (vs.flatMap fun v=>v.cells.toList).toArray e),?_,Fr.alloc _ _ _,by simp,?_,?_⟩
 ·have hm:(Array.map (fun x:Nat×Operand=>(x.1,a.eval x.2)) (enumO 0 xs).toArray).toList=enumL 0 vs:=by
   rw [←hvs,←enum_map];simp
  have hfill:∀zc:Array Value,Instr.fill (fun i=>some (i*size,size)) ((Array.range (len*size)).map (fun x=>zc[x%zc.size]!)) (enumL 0 vs)=some (vs.flatMap fun v=>v.cells.toList).toArray:=fun zc=>by
   rw [fill_seq size vs 0 _ hcs (by simp [hlv])]
   rw [Nat.zero_mul,putL_full _ _ (by simp [hfl])]
  simp only [execOp,hop,Instr.buildSlice,Sem.run_bind,run_underlying hu,Result.andThen_ok,sizeOf,typeInfo,Sem.run_pure]
  simp only [run_program,hi,Result.andThen_ok,Sem.run_pure,hsz]
  rw [if_neg om]
  rw [hm]
  by_cases h0:len*size=0
  ·rw [if_pos h0]
   simp only [Sem.run_bind,Sem.run_pure,Result.andThen_ok,hfill]
   rfl
  ·rw [if_neg h0]
   simp only [Sem.run_bind,Sem.run_pure,Result.andThen_ok,zeroValue,typeInfo,run_program,hi,hzv,hfill]
   rfl
 ·have hr:=orep_new (C:=E.C) (w:=w) (ty:=e) (h':=((w.heap.size,AObj.cells e (len*size) (ofL ((xs.map (ev σ')).flatMap AV.cells)))::(ext++h))) (hL.keep (keeps_alloc hnk))
  have hcl:((xs.map (ev σ')).flatMap AV.cells).length=len*size:=by rw [←hL.length,hfl]
  rw [hcl] at hr
  exact hr
 ·exact⟨len,rfl,Nat.le_refl _,by unfold maxLen;omega,(vs.flatMap fun v=>v.cells.toList).toArray,e,⟨_,heap_alloc_new w _⟩,by simp [hfl]⟩
end
end Go.AI
namespace Go.AI
theorem eI {P:Prop} (k:P:=by(repeat' first|exact has0_nil|refine has0_cons ?_ ?_)<;>simp):P:=k
theorem Fh.mono {P:Program} {f:FuncId} {hc:Heap} {args:List AV} {Q Q':AV→Heap→Prop} (hf:Fh P f hc args Q) (h:∀r h',Q r h'→Q' r h'):Fh P f hc args Q':=
 ⟨hf.1,fun C vs h1 h2 h3 h4=>(hf.2 C vs h1 h2 h3 h4).mono (by
  rintro e w ⟨v,r,h',he,hq,rest⟩
  exact⟨v,r,h',he,h _ _ hq,rest⟩)⟩
section
variable {E : Env} {K : List It} {l : List Oper} {FP : Heap} {σ σ' : Sl} {h : Heap} {o : Oper} {i : Nat} {cs : List (Nat × Nat)}
theorem wc3 {i:Nat} {FP:Heap} {cs:List (Nat×Nat)} (ho:l[i]?=some o) (hd:dstOk E.N o.dst=true) (k:∀R:Option (Prop×Sl)→Prop,(∀q σ',CW E l K FP cs σ' h→(hq:q:=by(try simp only [inRange])<;>and_intros<;>first|exact True.intro|omega|trivial)→R (some (q,σ')))→R (runOp2 E.P true [] l o σ)):CW E l K FP ((i,3)::cs) σ h:=by
 have:=k (fun x=>x=runOp2 E.P true [] l o σ→CW E l K FP ((i,3)::cs) σ h) (fun q σ' ha hq e=>by
  unfold runOp2 at e
  split at e
  ·rename_i hw
   split at e
   ·rename_i q1 r hp
    injection e with e
    injection e with e1 e2
    subst e1 e2
    exact .fre ho (Flt.pure hw hp hq hd) ha
   ·cases e
  ·rename_i hw
   injection e with e
   injection e with e1 e2
   subst e1 e2
   exact .fre ho (Flt.skip hw hd) ha
  ·cases e)
 exact this rfl
theorem cw_perm {h':Heap} (hp:h.Perm h') (k:CW E l K FP cs σ h'):CW E l K FP cs σ h:=by
 induction cs generalizing σ h h' with
 |nil=>
  cases k with
  |nil k=>exact .nil (aw_perm hp k)
 |cons c cs ih=>
  cases k with
  |flt ho hf k=>exact .flt ho hf (ih hp k)
  |fre ho hf k=>exact .fre ho hf (ih hp k)
  |pin ho hmk hpn hfp k=>exact .pin ho hmk (fun σ' K hs=>aw_perm hp (hpn σ' K hs)) hfp k
theorem NewX.makeMap {α:Type} {Kf:α→Value} {t:TypeId} (hop:o.op=.makeMap t none) (hw:wantA l σ o=some true) (hd:dstOk E.N o.dst=true):NewX E h l σ o (fun g=>.c (.raw (.map (some g)))) (.gen (MapI Kf [])):=by
 refine NewX.of_run hw hd fun σ' ext a w he s=> ?_
 refine⟨.map (some w.heap.size),w.alloc (.map #[] 0),?_,Fr.alloc _ _ _,by simp,⟨_,heap_alloc_new w _,_,_,rfl,rfl⟩,rfl⟩
 simp only [execOp,hop]
 rfl
end
end Go.AI
namespace Go.AI
section
variable {E : Env} {K : List It} {σ σ' : Sl} {h : Heap} {all rest : List Oper} {o : Oper}
theorem aw_convR {g n:Nat} {ty:TypeId} {f f':Nat→CV} {h:Heap} (hf:∀j,j<n→∀S w u,RepC S w (f j) u→RepC S w (f' j) u) (k:aw E K σ ((g,.cells ty n f')::h)):aw E K σ ((g,.cells ty n f)::h):=fun a w s=>by
 refine k a w ⟨s.size,s.defers,s.slots,fun g' o' hm=> ?_,s.nodup,s.keys,s.frame⟩
 rcases List.mem_cons.1 hm with e|hm
 ·injection e with e1 e2
  subst e1 e2
  obtain⟨cs,hb,hc,hj⟩:=s.heap _ _ (List.mem_cons_self ..)
  exact⟨cs,hb,hc,fun j hjl=>by obtain⟨u,hu,hr⟩:=hj j hjl;exact⟨u,hu,hf j hjl _ _ _ hr⟩⟩
 ·exact s.heap g' o' (List.mem_cons_of_mem _ hm)
theorem repC_nil {S:Bool→Nat→Prop} {w:World} {u:Value} {t:Bool} {s:Nat} {f:Nat→CV} (h:RepC S w .nils u):RepC S w (.row t s 0 f) u:=by
 obtain⟨A,hv⟩:=h
 exact⟨A,0,hv,Nat.le_refl _,fun h0=>by simp at h0⟩
theorem Sl.set_set (t:Nat) (u v:AV):∀σ:Sl,(σ.set t u).set t v=σ.set t v
 |[]=>by simp [Sl.set]
 |(t',x)::σ=>by
  simp only [Sl.set]
  by_cases e:t'=t
  ·rw [if_pos e,if_pos e];simp [Sl.set]
  ·rw [if_neg e,if_neg e];simp only [Sl.set,if_neg e];rw [Sl.set_set t u v σ]
theorem aw_frzT {t g s off n m:Nat} {ty:TypeId} {f:Nat→CV} (f':Nat→CV) {σ':Sl} {h':Heap} (ht:σ.get t=.c (.osl g s off n)) (hg:h.get g=some (.cells ty m f)) (hm:off+n*s≤m) (hn:¬E.C.own0 g) (hf:∀j,j<n*s→f (off+j)=f' j) (hσ:σ.set t (.c (.row true s n f'))=σ') (hh:h.del g=h')
  (k:aw E K σ' h'):aw E K σ h:=by
 refine aw_frz ht hg hm hn rfl hh ?_
 refine aw_conv (t:=t) (v:=.c (.row true s n f')) (σ':=σ') (fun S w u hr=> ?_) ?_ k
 ·rw [Sl.get_set,if_pos rfl] at hr
  obtain⟨A,c,hv,hc,hn⟩:=hr
  refine⟨A,c,hv,hc,fun h0=> ?_⟩
  obtain⟨ad,hA,hS,hj⟩:=hn h0
  refine⟨ad,hA,hS,fun j hjl=> ?_⟩
  obtain⟨u,hu,hru⟩:=hj j hjl
  exact⟨u,hu,by rw [←hf j hjl];exact hru⟩
 ·rw [←hσ,Sl.set_set]
theorem aw_rethw {P:Program} {fn:Func} {C:Ctx} {Q:AV→Heap→Prop} {rvs:List ResultVar} (hrs:fn.results=rvs.toArray) {h':Heap} (hsub:h'.Sublist h) (k:∀R:Option AV→Prop,(∀x,flatR x=true→Q x h'→R (some x))→R (resAV P σ h rvs)):
  aw (envOfH P fn C Q) (.code .ret::K) σ h:=by
 have hr:∀x,flatR x=true→Q x h'→some x=resAV P σ h rvs→aw (envOfH P fn C Q) (.code .ret::K) σ h:=fun x hf hq e a w s=>by
  refine wp_ret (exW_ret a w ?_)
  obtain⟨v,hv,hrep⟩:=results_run s hrs e.symm (flatR_spec hf)
  have hks:∀b,b∈h'.keys→b∈h.keys:=fun b hb=>by
   obtain⟨p,hp,e⟩:=List.mem_map.1 hb
   exact List.mem_map.2 ⟨p,hsub.subset hp,e⟩
  have kp:Keeps (Stab C h w) (Stab C h' w) w w:=⟨fun t b hb=>⟨hb.1,hb.2.1,fun hm=>hb.2.2 (hks b hm)⟩,fun _ _ _=>rfl,fun _ _ e=>e⟩
  exact⟨s.defers,v,hv,v,x,h',rfl,hq,(hsub.map _).nodup s.nodup,fun g hg=>s.keys g (hks g hg),hrep.keep kp,fun g o hm=>ORep.keep kp rfl (s.heap g o (hsub.subset hm)),s.frame⟩
 have:=k (fun y=>y=resAV P σ h rvs→aw (envOfH P fn C Q) (.code .ret::K) σ h) hr
 exact this rfl
theorem aw_frzG {gT m s n j0:Nat} {og:Option Nat} {ty tp:TypeId} {f f' fp:Nat→CV} (hf:f j0=gs og s n) (hf':f' j0=.row true s n fp) (hfo:∀j,j<m→j≠j0→f' j=f j) (hog:og=none→n=0) (ho:∀g,og=some g→¬E.C.own0 g)
  (k:aw E K σ ((gT,.cells ty m f')::h)):aw E K σ ((gT,.cells ty m f)::(gh og tp (n*s) fp++h)):=by
 cases og with
 |none=>
  have hn:=hog rfl
  subst hn
  refine aw_convR (f':=f') (fun j hj S w u hr=> ?_) k
  by_cases e:j=j0
  ·subst e
   rw [hf] at hr
   rw [hf']
   exact repC_nil hr
  ·rw [hfo j hj e];exact hr
 |some gP=>
  have ho:=ho gP rfl
  show aw E K σ ((gT,.cells ty m f)::(gP,.cells tp (n*s) fp)::h)
  intro a w st
  refine k a w ?_
  have hnd:=st.nodup
  simp only [Heap.keys,List.map_cons,List.nodup_cons,List.mem_cons,not_or] at hnd
  obtain⟨⟨hTP,hTh⟩,hPh,hh⟩:=hnd
  have hgm:(gP,AObj.cells tp (n*s) fp)∈(gT,AObj.cells ty m f)::(gP,.cells tp (n*s) fp)::h:=List.mem_cons_of_mem _ (List.mem_cons_self ..)
  have hkg:gP∈Heap.keys ((gT,AObj.cells ty m f)::(gP,.cells tp (n*s) fp)::h):=List.mem_map.2 ⟨_,hgm,rfl⟩
  have hks:∀b,b∈Heap.keys ((gT,AObj.cells ty m f')::h)→b∈Heap.keys ((gT,AObj.cells ty m f)::(gP,.cells tp (n*s) fp)::h):=fun b hb=>by
   simp only [Heap.keys,List.map_cons,List.mem_cons] at hb⊢
   exact hb.imp id .inr
  have kp:Keeps (Stab E.C ((gT,.cells ty m f)::(gP,.cells tp (n*s) fp)::h) w) (Stab E.C ((gT,.cells ty m f')::h) w) w w:=⟨fun t b hb=>⟨hb.1,hb.2.1,fun hm=>hb.2.2 (hks b hm)⟩,fun _ _ _=>rfl,fun _ _ e=>e⟩
  refine⟨st.size,st.defers,fun t=>Rep.keep kp (st.slots t),fun g ob hm=> ?_,?_,fun g hg=>st.keys g (hks g hg),st.frame⟩
  ·rcases List.mem_cons.1 hm with e|hm
   ·rw [Prod.mk.injEq] at e
    obtain⟨e1,e2⟩:=e
    rw [e1,e2]
    clear hm e1 e2
    obtain⟨cs,hb,hcs,hj⟩:=st.heap gT _ (List.mem_cons_self ..)
    refine⟨cs,hb,hcs,fun j hjm=> ?_⟩
    obtain⟨u,hu,hr⟩:=hj j hjm
    refine⟨u,hu,?_⟩
    by_cases e:j=j0
    ·subst e
     rw [hf] at hr
     rw [hf']
     obtain⟨c,hv,hc,_,_⟩:=hr
     obtain⟨cs2,hb2,hcs2,hj2⟩:=st.heap gP _ hgm
     refine⟨some ⟨gP,0,none⟩,c,hv,hc,fun _=>⟨⟨gP,0,none⟩,rfl,⟨.inr ((st.keys gP hkg).resolve_left ho),st.klt hkg,?_⟩,fun q hq=> ?_⟩⟩
     ·simp only [Heap.keys,List.map_cons,List.mem_cons,not_or]
      exact⟨fun e=>hTP e.symm,hPh⟩
     ·obtain⟨u2,hu2,hr2⟩:=hj2 q hq
      exact⟨u2,by rw [add_mk,Nat.zero_add,cell_own hb2];exact hu2,hr2.keep kp⟩
    ·rw [hfo j hjm e]
     exact hr.keep kp
   ·exact ORep.keep kp rfl (st.heap g ob (List.mem_cons_of_mem _ (List.mem_cons_of_mem _ hm)))
  ·simp only [Heap.keys,List.map_cons,List.nodup_cons]
   exact⟨hTh,hh⟩
theorem aw_frzGT {t s n n':Nat} {og:Option Nat} {ty:TypeId} {f f':Nat→CV} (hog:og=none→n=0) (hnn:n=n') (ht:σ.get t=.c (gs og s n)) (hn:∀g,og=some g→¬E.C.own0 g) (hf:∀j,j<n*s→f j=f' j) (hσ:σ.set t (.c (.row true s n' f'))=σ') (k:aw E K σ' h):aw E K σ (gh og ty (n*s) f++h):=by
 subst hnn
 cases og with
 |none=>
  have h0:=hog rfl
  subst h0
  refine aw_conv (t:=t) (v:=.c (.row true s 0 f')) (fun S w u hr=> ?_) hσ k
  rw [ht] at hr
  exact repC_nil hr
 |some g=>
  refine aw_frzT (t:=t) (g:=g) (s:=s) (off:=0) (n:=n) (m:=n*s) (ty:=ty) (f:=f) f' ht ?_ om (hn g rfl) (fun j hj=>by rw [Nat.zero_add];exact hf j hj) hσ ?_ k
  ·show Heap.get ((g,_)::h) g=_
   simp [Heap.get]
  ·show Heap.del ((g,_)::h) g=_
   simp [Heap.del]
end
end Go.AI
namespace Go.AI
attribute [go_sem] List.size_toArray Int.reduceBEq Int.reduceBNe Int.reduceLT Int.reduceLE Int.reduceGT Int.reduceGE decide_true decide_false
@[go_sem] theorem cast_add' (a b:Nat):((a+b:Nat):Int)=(a:Int)+(b:Int):=rfl
@[go_sem] theorem cast_one':((1:Nat):Int)=1:=rfl
@[go_sem] theorem cast_zero':((0:Nat):Int)=0:=rfl
@[go_sem] theorem beqNN (a b:Nat):((a:Int)==(b:Int))=(a==b):=by rw [Bool.eq_iff_iff,beq_iff_eq,beq_iff_eq];omega
@[go_sem] theorem beqNL (a k:Nat):((a:Int)==(no_index (OfNat.ofNat k):Int))=(a==OfNat.ofNat k):=beqNN a k
@[go_sem] theorem beqN0 (a:Nat):((a:Int)==0)=(a==0):=beqNN a 0
@[go_sem] theorem beqN1 (a:Nat):((a:Int)==1)=(a==1):=beqNN a 1
@[go_sem] theorem bneNN (a b:Nat):((a:Int) !=(b:Int))=(a !=b):=by unfold bne;rw [beqNN]
@[go_sem] theorem bneNL (a k:Nat):((a:Int) !=(no_index (OfNat.ofNat k):Int))=(a !=OfNat.ofNat k):=bneNN a k
@[go_sem] theorem bneN0 (a:Nat):((a:Int) !=0)=(a !=0):=bneNN a 0
@[go_sem] theorem bneN1 (a:Nat):((a:Int) !=1)=(a !=1):=bneNN a 1
@[go_sem] theorem ltNN (a b:Nat):decide ((a:Int)<(b:Int))=decide (a<b):=by rw [decide_eq_decide];omega
@[go_sem] theorem leNN (a b:Nat):decide ((a:Int)≤(b:Int))=decide (a≤b):=by rw [decide_eq_decide];omega
@[go_sem] theorem ltNL (a k:Nat):decide ((a:Int)<(no_index (OfNat.ofNat k):Int))=decide (a<OfNat.ofNat k):=ltNN a k
@[go_sem] theorem leNL (a k:Nat):decide ((a:Int)≤(no_index (OfNat.ofNat k):Int))=decide (a≤OfNat.ofNat k):=leNN a k
@[go_sem] theorem gtNL (a k:Nat):decide ((a:Int)>(no_index (OfNat.ofNat k):Int))=decide (a>OfNat.ofNat k):=ltNN k a
@[go_sem] theorem geNL (a k:Nat):decide ((a:Int)≥(no_index (OfNat.ofNat k):Int))=decide (a≥OfNat.ofNat k):=leNN k a
@[go_sem] theorem gtN0 (a:Nat):decide ((a:Int)>0)=decide (0<a):=ltNN 0 a
@[go_sem] theorem geNN (a b:Nat):decide ((a:Int)≥(b:Int))=decide (a≥b):=leNN b a
@[go_sem] theorem gtNN (a b:Nat):decide ((a:Int)>(b:Int))=decide (a>b):=ltNN b a
@[go_sem] theorem ltSN (a b:Nat):decide ((a:Int)+1<(b:Int))=decide (a+1<b):=ltNN (a+1) b
@[go_sem] theorem ltN1 (a:Nat):decide ((a:Int)<1)=decide (a<1):=ltNN a 1
@[go_sem] theorem toNat_succ' (a:Nat):((a:Int)+1).toNat=a+1:=rfl
theorem set_ofL (l:List CV) (k:Nat) (c:CV) (h:k<l.length):(fun j=>if j=k then c else ofL l j)=ofL (l.set k c):=by
 funext j
 induction l generalizing k j with
 |nil=>simp at h
 |cons x l ih=>
  cases k with
  |zero=>cases j with
   |zero=>rfl
   |succ j=>rfl
  |succ k=>cases j with
   |zero=>rfl
   |succ j=>
    have:=ih k (by simpa using h) j
    simpa [ofL] using this
@[go_sem] theorem updF_ofLc (l:List CV) (k:Nat) (c:CV) (cs:List CV) (h:k<l.length):updF (ofL l) k (c::cs)=updF (ofL (l.set k c)) (k+1) cs:=by
  show updF (fun j=>if j=k then c else ofL l j) (k+1) cs=_
  rw [set_ofL l k c h]
@[go_sem] theorem updF_ofLn (l:List CV) (k:Nat):updF (ofL l) k []=ofL l:=rfl
theorem Heap.get_perm:∀{h:Heap} {g:Nat} {ob:AObj},h.get g=some ob→h.Perm ((g,ob)::h.del g)
 |[],_,_,e=>by simp [Heap.get] at e
 |(g',x)::h,g,ob,e=>by
  by_cases hg:g'=g
  ·subst hg
   simp [Heap.get] at e
   subst e
   simp [Heap.del]
  ·simp only [Heap.get,if_neg hg] at e
   simp only [Heap.del,if_neg hg]
   exact((Heap.get_perm e).cons _).trans (List.Perm.swap _ _ _)
theorem Heap.set_perm:∀{h:Heap} {g:Nat} {ob ob':AObj},h.get g=some ob→(h.set g ob').Perm ((g,ob')::h.del g)
 |[],_,_,_,e=>by simp [Heap.get] at e
 |(g',x)::h,g,ob,ob',e=>by
  by_cases hg:g'=g
  ·subst hg
   simp [Heap.set,Heap.del]
  ·simp only [Heap.get,if_neg hg] at e
   simp only [Heap.set,Heap.del,if_neg hg]
   exact((Heap.set_perm e).cons _).trans (List.Perm.swap _ _ _)
def Fg (P:Program) (f:FuncId) (g:Nat) (ob:AObj) (args:List AV) (r:AV) (ob':AObj):Prop:=Fh P f [(g,ob)] args fun x h=>x=r∧h=[(g,ob')]
section
variable {E : Env} {K : List It} {σ σ' : Sl} {h : Heap} {all l rest : List Oper} {o : Oper}
theorem aw_cg {f:FuncId} {xs:List Operand} {ts:Array TypeId} {g:Nat} {ob ob':AObj} {args:List AV} {r:AV} (hf:Fg E.P f g ob args r ob') (hop:o.op=.call {callee:=.value (.func f),args:=xs.toArray,argTypes:=ts}) (hw:wantA all σ o=some true) (hd:dstOk E.N o.dst=true)
  (hg:h.get g=some ob) (le:LeA [] (xs.map (ev σ)) args) (k:aw E (.ops all rest::K) (σ.setO o.dst r) (h.set g ob')):aw E (.ops all (o::rest)::K) σ h:=by
 refine aw_callh hf hop hw hd (hr:=h.del g) (Heap.get_perm hg) le ?_
 rintro _ _ ⟨rfl,rfl⟩ _
 exact aw_perm (Heap.set_perm hg).symm k
theorem Calm.pok {r:AV} (hw:wantA l σ o=some true) (hp:POk E.P h (ev σ) o.op r) (hd:dstOk E.N o.dst=true):Calm E h l σ o r:=by
 refine⟨hd,fun σ' a w Q hs s=> ?_⟩
 rw [if_pos (s.wanted ((want_same hs).trans hw))]
 obtain⟨v,hrun,hr⟩:=hp (Stab E.C h w) w a.eval Stab.mono' (fun x hx=>by rw [←ev_same hx hs];exact ev_rep s x) s.heap
 unfold Oper.wp
 rw [hrun o rfl]
 exact s.put hd hr
theorem drk_pok {n:Nat} {r:AV} (hp:POk E.P h (ev σ) o.op r) (hw:wantA l σ o=some true) (hd:dstOk E.N o.dst=true) (k:DrK E h l K n rest (σ.setO o.dst r)):DrK E h l K (n+1) (o::rest) σ:=drk_cons (Calm.pok hw hp hd) k
theorem aw_pok {r:AV} (hp:POk E.P h (ev σ) o.op r) (hw:wantA all σ o=some true) (hd:dstOk E.N o.dst=true) (k:aw E (.ops all rest::K) (σ.setO o.dst r) h):aw E (.ops all (o::rest)::K) σ h:=aw_pure hw hp hd rfl k
theorem cw_pok {FP:Heap} {i:Nat} {cs:List (Nat×Nat)} {r:AV} (ho:l[i]?=some o) (hp:∀h,Has0 FP h→POk E.P h (ev σ) o.op r) (hw:wantA l σ o=some true) (hd:dstOk E.N o.dst=true) (k:CW E l K FP cs (σ.setO o.dst r) h):CW E l K FP ((i,0)::cs) σ h:=
 .flt ho ⟨hd,fun h hfp=>Calm.pok hw (hp h hfp) hd⟩ k
theorem yA1 {F X G:Prop} (f:F) (x:X) (k:F→Hold X→G:=by
 intro f x
 (first|apply wa1|apply wa2|apply wa3|apply wa4|apply wa5 rfl|apply wa6|apply wa7|(refine wb1 rfl fun R r=>?_;simp only[go_sem,f];with_reducible show R (some _);with_reducible refine r _ _ ?_;clear r R)|apply wa8|(refine wd1 rfl fun R r=>?_;simp only[go_sem,f];with_reducible show R (some _);with_reducible refine r _ _ ?_;clear r R))
 (repeat first|apply wa1|apply wa2|apply wa3|apply wa4|apply wa5 rfl|apply wa6|apply wa7|(refine wb1 rfl fun R r=>?_;simp only[go_sem,f];with_reducible show R (some _);with_reducible refine r _ _ ?_;clear r R)|apply wa8|(refine wd1 rfl fun R r=>?_;simp only[go_sem,f];with_reducible show R (some _);with_reducible refine r _ _ ?_;clear r R))
 exact x.out):G:=k f ⟨x⟩
theorem zL2 {F P:Prop} (f:F) (k:F→P:=by intro f;first|exact True.intro|(simp only[go_sem,f]<;>and_intros<;>first|exact True.intro|exact .c (.refl _)|exact .c wl2|exact .agg (lel_refl _)|(refine .agg ?_;simp only[LeL];and_intros<;>first|exact True.intro|exact .refl _|exact wl2|exact .nils)|exact .c .nils)):P:=k f
theorem yC2 {f:FuncId} {xs:List Operand} {ts:Array TypeId} {args:List AV} {r:AV} {X F:Prop} (q:F) (hf:Fa E.P f args r) (x:X) (hop:o.op=.call {callee:=.value (.func f),args:=xs.toArray,argTypes:=ts}:=by exact rfl) (hw:wantA all σ o=some true:=by exact rfl) (hd:dstOk E.N o.dst=true:=by exact rfl)
 (le:F→LeA h (xs.map (ev σ)) args:=by intro f;first|exact True.intro|(simp only[go_sem,f]<;>and_intros<;>first|exact True.intro|exact .c (.refl _)|exact .c wl2|exact .agg (lel_refl _)|(refine .agg ?_;simp only[LeL];and_intros<;>first|exact True.intro|exact .refl _|exact wl2|exact .nils)|exact .c .nils)) (k:F→Hold X→aw E (.ops all rest::K) (σ.setO o.dst r) h:=by intro f x;(try simp only[go_sem,f]);exact x.out):aw E (.ops all (o::rest)::K) σ h:=aw_callq hf hop hw hd (le q) (k q ⟨x⟩)
theorem yD2 {f:FuncId} {xs:List Operand} {ts:Array TypeId} {args:List AV} {r:AV} {n:Nat} {X F:Prop} (q:F) (hf:Fa E.P f args r) (x:X) (hop:o.op=.call {callee:=.value (.func f),args:=xs.toArray,argTypes:=ts}:=by exact rfl) (hw:wantA l σ o=some true:=by exact rfl) (hd:dstOk E.N o.dst=true:=by exact rfl)
 (le:F→LeA h (xs.map (ev σ)) args:=by intro f;first|exact True.intro|(simp only[go_sem,f]<;>and_intros<;>first|exact True.intro|exact .c (.refl _)|exact .c wl2|exact .agg (lel_refl _)|(refine .agg ?_;simp only[LeL];and_intros<;>first|exact True.intro|exact .refl _|exact wl2|exact .nils)|exact .c .nils)) (k:F→Hold X→DrK E h l K n rest (σ.setO o.dst r):=by intro f x;(try simp only[go_sem,f]);exact x.out):DrK E h l K (n+1) (o::rest) σ:=drk_call hf hop hw hd (le q) (k q ⟨x⟩)
end
end Go.AI
namespace Go.PN
def isLet (n:Nat):Bool:=(decide (65≤n)&&decide (n≤90))||(decide (97≤n)&&decide (n≤122))
def isDig (n:Nat):Bool:=decide (48≤n)&&decide (n≤57)
def isIns (n:Nat):Bool:=((isLet n||isDig n)||n==95)||n==46
def isBlk (n:Nat):Bool:=n==32||(n==9||(n==10||n==13))
def isSgn (n:Nat):Bool:=n==123||(n==125||(n==59||(n==58||n==64)))
theorem bAt_lt (l:BS) (i:Nat):bAt l i<256:=UInt8.toNat_lt _
def spanE (p:Nat→Bool) (l:BS) (i:Nat):Nat:=i+((l.drop i).takeWhile fun b=>p b.toNat).length
theorem spanE_ge (p:Nat→Bool) (l:BS) (i:Nat):i≤spanE p l i:=Nat.le_add_right ..
theorem spanE_le {p:Nat→Bool} {l:BS} {i:Nat} (h:i≤l.length):spanE p l i≤l.length:=by
 unfold spanE
 have h1:((l.drop i).takeWhile fun b=>p b.toNat).length≤(l.drop i).length:=(List.takeWhile_sublist _).length_le
 rw [List.length_drop] at h1
 omega
theorem spanE_out {p:Nat→Bool} {l:BS} {i:Nat} (h:l.length≤i):spanE p l i=i:=by
 unfold spanE
 rw [List.drop_eq_nil_of_le h];rfl
theorem drop_bAt {l:BS} {i:Nat} (h:i<l.length):l.drop i=l[i]::l.drop (i+1):=List.drop_eq_getElem_cons h
theorem bAt_get {l:BS} {i:Nat} (h:i<l.length):bAt l i=l[i].toNat:=by
 unfold bAt
 rw [List.getD_eq_getElem?_getD,List.getElem?_eq_getElem h];rfl
theorem spanE_yes {p:Nat→Bool} {l:BS} {i:Nat} (h:i<l.length) (hp:p (bAt l i)=true):spanE p l i=spanE p l (i+1):=by
 unfold spanE
 rw [drop_bAt h,List.takeWhile_cons_of_pos (by rw [←bAt_get h];exact hp),List.length_cons]
 omega
theorem spanE_no {p:Nat→Bool} {l:BS} {i:Nat} (h:i<l.length) (hp:p (bAt l i)=false):spanE p l i=i:=by
 unfold spanE
 rw [drop_bAt h,List.takeWhile_cons_of_neg (by rw [←bAt_get h,hp];simp)]
 rfl
theorem spanE_in {p:Nat→Bool} {l:BS}:∀(k i:Nat),spanE p l i=i+k→∀j,i≤j→j<i+k→p (bAt l j)=true:=by
 intro k
 induction k with
 |zero=>intro i _ j h1 h2;omega
 |succ k ih=>
  intro i h j h1 h2
  by_cases hi:i<l.length
  ·cases hp:p (bAt l i) with
   |false=>rw [spanE_no hi hp] at h;omega
   |true=>
    by_cases e:j=i
    ·rw [e];exact hp
    ·rw [spanE_yes hi hp] at h
     exact ih (i+1) om j om om
  ·rw [spanE_out om] at h;omega
theorem spanE_at {p:Nat→Bool} {l:BS} {i:Nat} (h:spanE p l i<l.length):p (bAt l (spanE p l i))=false:=by
 generalize hk:l.length-i=k
 induction k generalizing i with
 |zero=>have:=spanE_ge p l i;omega
 |succ k ih=>
  have hi:i<l.length:=by omega
  cases hp:p (bAt l i) with
  |false=>rw [spanE_no hi hp];exact hp
  |true=>rw [spanE_yes hi hp] at h⊢;exact ih h om
def numE (l:BS) (i:Nat):Nat:=
 if spanE isDig l i+1<l.length∧(bAt l (spanE isDig l i)=46∨bAt l (spanE isDig l i)=47)∧isDig (bAt l (spanE isDig l i+1))=true then spanE isDig l (spanE isDig l i+1) else spanE isDig l i
theorem numE_ge (l:BS) (i:Nat):i≤numE l i:=by
 have h1:=spanE_ge isDig l i
 have h2:=spanE_ge isDig l (spanE isDig l i+1)
 unfold numE
 split<;>omega
theorem numE_le {l:BS} {i:Nat} (h:i≤l.length):numE l i≤l.length:=by
 unfold numE
 split
 ·rename_i h1;exact spanE_le om
 ·exact spanE_le h
structure TK where
 kind:Nat
 text:BS
deriving DecidableEq,Inhabited
theorem cutS_len {l:BS} {i e:Nat} (he:e≤l.length):(cutS l i e).length=e-i:=by
 unfold cutS
 rw [List.length_take,List.length_drop];omega
inductive Stp where
 |err (c:Int)
 |skip (e:Nat)
 |tok (k e:Nat)
def stepT (l:BS) (i:Nat):Stp:=
 if isBlk (bAt l i) then .skip (i+1)
 else if bAt l i=35 then .skip (spanE (fun b=>b !=10) l i)
 else if isLet (bAt l i) then(if spanE isIns l i-i>24 then .err 5 else .tok 0 (spanE isIns l i))
 else if isDig (bAt l i) then(if numE l i<l.length∧(isIns (bAt l (numE l i))=true∨bAt l (numE l i)=47) then .err 2 else .tok 1 (numE l i))
 else if isSgn (bAt l i) then .tok 2 (i+1)
 else .err 2
theorem isLet_ins {n:Nat} (h:isLet n=true):isIns n=true:=by unfold isIns;rw [h];rfl
theorem stepT_skip {l:BS} {i e:Nat} (hi:i<l.length) (h:stepT l i=.skip e):i<e∧e≤l.length:=by
 unfold stepT at h
 split at h
 ·injection h with h;omega
 ·split at h
  ·rename_i h35
   injection h with h
   have h1:=spanE_yes (p:=fun b=>b !=10) hi (by rw [h35];rfl)
   have h2:=spanE_ge (fun b=>b !=10) l (i+1)
   have h3:=spanE_le (p:=fun b=>b !=10) (l:=l) (i:=i) om
   omega
  ·split at h
   ·split at h<;>cases h
   ·split at h
    ·split at h<;>cases h
    ·split at h<;>cases h
theorem stepT_tok {l:BS} {i k e:Nat} (hi:i<l.length) (h:stepT l i=.tok k e):i<e∧e≤l.length:=by
 unfold stepT at h
 split at h
 ·cases h
 ·split at h
  ·cases h
  ·split at h
   ·rename_i hl
    split at h
    ·cases h
    ·injection h with _ h
     have h1:=spanE_yes (p:=isIns) hi (isLet_ins hl)
     have h2:=spanE_ge isIns l (i+1)
     have h3:=spanE_le (p:=isIns) (l:=l) (i:=i) om
     omega
   ·split at h
    ·rename_i hd
     split at h
     ·cases h
     ·injection h with _ h
      have h1:=spanE_yes (p:=isDig) hi hd
      have h2:=spanE_ge isDig l (i+1)
      have h3:=numE_le (l:=l) (i:=i) om
      have h4:spanE isDig l i≤numE l i:=by
       have:=spanE_ge isDig l (spanE isDig l i+1)
       unfold numE
       split<;>omega
      omega
    ·split at h
     ·injection h with _ h;omega
     ·cases h
def splitT (l:BS):Nat→Nat→List TK→Int×List TK
 |0,_,out=>(0,out)
 |n+1,i,out=>if i<l.length then(match stepT l i with
  |.err c=>(c,[])
  |.skip e=>splitT l n e out
  |.tok k e=>splitT l n e (out++[⟨k,cutS l i e⟩])) else(0,out)
theorem splitT_fuel {l:BS}:∀(n m i:Nat) (out:List TK),l.length-i≤n→l.length-i≤m→splitT l n i out=splitT l m i out:=by
 intro n
 induction n with
 |zero=>
  intro m i out h1 h2
  cases m with
  |zero=>rfl
  |succ m=>unfold splitT;rw [if_neg om]
 |succ n ih=>
  intro m i out h1 h2
  cases m with
  |zero=>unfold splitT;rw [if_neg om]
  |succ m=>
   unfold splitT
   by_cases hi:i<l.length
   ·rw [if_pos hi,if_pos hi]
    cases hs:stepT l i with
    |err c=>rfl
    |skip e=>have:=stepT_skip hi hs;exact ih m e out om om
    |tok k e=>have:=stepT_tok hi hs;exact ih m e _ om om
   ·rw [if_neg hi,if_neg hi]
def splitS (l:BS):Int×List TK:=if l.length>65536 then(4,[]) else splitT l l.length 0 []
theorem splitT_step {l:BS} {i:Nat} {out:List TK} (hi:i<l.length):splitT l (l.length-i) i out=(match stepT l i with
  |.err c=>(c,[])
  |.skip e=>splitT l (l.length-e) e out
  |.tok k e=>splitT l (l.length-e) e (out++[⟨k,cutS l i e⟩])):=by
 obtain⟨n,hn⟩:∃n,l.length-i=n+1:=⟨l.length-i-1,by omega⟩
 rw [hn]
 show(if i<l.length then _ else _)=_
 rw [if_pos hi]
 cases hs:stepT l i with
 |err c=>rfl
 |skip e=>have:=stepT_skip hi hs;exact splitT_fuel _ _ _ _ om om
 |tok k e=>have:=stepT_tok hi hs;exact splitT_fuel _ _ _ _ om om
theorem splitT_end {l:BS} {i:Nat} {out:List TK} (hi:l.length≤i):splitT l (l.length-i) i out=(0,out):=by
 rw [show l.length-i=0 from by omega];rfl
structure TkOk (t:TK):Prop where
 kind:t.kind≤2
 ne:t.text≠[]
 word:t.kind=0→isLet (bAt t.text 0)=true
 num:t.kind=1→isDig (bAt t.text 0)=true
 sgn:t.kind=2→t.text.length=1∧isSgn (bAt t.text 0)=true
end Go.PN
namespace Go.AI
structure Bq (b:Bool) (p q:Prop):Prop where
 t:b=true→p
 f:b=false→q
theorem bqd {p:Prop} [Decidable p]:Bq (decide p) p (¬p):=⟨of_decide_eq_true,of_decide_eq_false⟩
theorem bqe {α:Type} [BEq α] [LawfulBEq α] {a b:α}:Bq (a==b) (a=b) (a≠b):=⟨fun e=>by simpa using e,fun e=>by simpa using e⟩
theorem bqn {α:Type} [BEq α] [LawfulBEq α] {a b:α}:Bq (a !=b) (a≠b) (a=b):=⟨fun e=>by simpa using e,fun e=>by simpa using e⟩
theorem bqm {α:Type} [BEq α] [LawfulBEq α] {a b:α}:Bq (!(a==b)) (a≠b) (a=b):=⟨fun e=>by simpa using e,fun e=>by simpa using e⟩
theorem bqt {b:Bool}:Bq b (b=true) (b=false):=⟨id,id⟩
theorem bqT:Bq true (true=true) (true=false):=⟨id,id⟩
theorem bqF:Bq false (false=true) (false=false):=⟨id,id⟩
section
variable {E : Env} {K : List It} {σ : Sl} {h : Heap} {all l rest : List Oper} {o : Oper} {F X Y : Prop}
theorem zW {t g off m n:Nat} {ty:TypeId} {ag:Bool} {fc:Nat→CV} {a y:Operand} {v:AV} {h':Heap} (q:F) (x:X) (hop:o.op=.store t a y:=by exact rfl) (hw:wantA all σ o=some true:=by exact rfl) (hd:dstOk E.N o.dst=true:=by exact rfl) (hdn:o.dst=none:=by exact rfl) (ha:F→ev σ a=.c (.optr g off):=by intro f;simp only[go_sem,f]<;>rfl) (hx:F→ev σ y=v:=by intro f;simp only[go_sem,f]<;>rfl)
 (hg:F→h.get g=some (.cells ty m fc):=by intro f;simp only[go_sem,f]<;>rfl) (ht:F→tSz E.P t=some (ag,n):=by intro f;simp only[go_sem,f]<;>rfl) (hnt:∀xs,v≠.tup xs:=by exact fun _ e=>by cases e) (hs:v.cells.all CV.solid=true:=by first|rfl|exact solid_gs3) (hlen:v.cells.length=n:=by rfl) (hle:off+n≤m:=by first|omega|simp)
 (hh:h.set g (.cells ty m (updF fc off v.cells))=h':=by exact rfl) (k:F→Hold X→aw E (.ops all rest::K) σ h':=by intro f x;(try simp only[go_sem,f]);exact x.out):aw E (.ops all (o::rest)::K) σ h:=aw_store hop hw hd hdn (ha q) (hx q) (hg q) (ht q) hnt hs hlen hle hh (k q ⟨x⟩)
theorem zg {f:FuncId} {xs:List Operand} {ts:Array TypeId} {g:Nat} {ob ob':AObj} {args:List AV} {r:AV} (q:F) (hf:Fg E.P f g ob args r ob') (x:X) (hop:o.op=.call {callee:=.value (.func f),args:=xs.toArray,argTypes:=ts}:=by exact rfl) (hw:wantA all σ o=some true:=by exact rfl) (hd:dstOk E.N o.dst=true:=by exact rfl)
 (hg:F→h.get g=some ob:=by intro f;simp only[go_sem,f]<;>rfl) (le:F→LeA [] (xs.map (ev σ)) args:=by intro f;exact zL2 f) (k:F→Hold X→aw E (.ops all rest::K) (σ.setO o.dst r) (h.set g ob'):=by intro f x;(try simp only[go_sem,f]);exact x.out):aw E (.ops all (o::rest)::K) σ h:=aw_cg hf hop hw hd (hg q) (le q) (k q ⟨x⟩)
theorem zC {t:Nat} {y z:Code} {b:Bool} {p1 p2:Prop} (q:F) (k1:p1→aw E (.code y::K) σ h) (k2:p2→aw E (.code z::K) σ h) (hb:F→σ.get t=.c (.bool b):=by intro f;simp only[go_sem,f]<;>rfl) (hp:Bq b p1 p2:=by first|(with_reducible exact bqd)|(with_reducible exact bqe)|(with_reducible exact bqn)|(with_reducible exact bqm)|((fail_if_success (with_reducible exact bqT));(fail_if_success (with_reducible exact bqF));exact bqt)):aw E (.code (.cond (.tmp t) y z)::K) σ h:=
 aw_cond (hb q) (fun e=>k1 (hp.t e)) fun e=>k2 (hp.f e)
theorem zG {t j:Nat} {want b:Bool} {p1 p2:Prop} (q:F) (x:p1→X) (y:p2→Y) (hg:o.guard=some (j,want):=by exact rfl) (hj:(all[j]?).bind (·.dst)=some t:=by exact rfl) (hb:F→σ.get t=.c (.bool b):=by intro f;simp only[go_sem,f]<;>rfl) (hp:Bq b p1 p2:=by first|(with_reducible exact bqd)|(with_reducible exact bqe)|(with_reducible exact bqn)|(with_reducible exact bqm)|((fail_if_success (with_reducible exact bqT));(fail_if_success (with_reducible exact bqF));exact bqt))
 (k1:F→Hold X→aw E (.ops all (o::rest)::K) (σ.set t (.c (.bool true))) h:=by intro f x;(try simp only[go_sem,f]);exact x.out) (k2:F→Hold Y→aw E (.ops all (o::rest)::K) (σ.set t (.c (.bool false))) h:=by intro f x;(try simp only[go_sem,f]);exact x.out):aw E (.ops all (o::rest)::K) σ h:=aw_split t (hb q) (fun e=>k1 q ⟨x (hp.t e)⟩) fun e=>k2 q ⟨y (hp.f e)⟩
theorem zD {t j n:Nat} {want b:Bool} {p1 p2:Prop} (q:F) (x:p1→X) (y:p2→Y) (hg:o.guard=some (j,want):=by exact rfl) (hj:(l[j]?).bind (·.dst)=some t:=by exact rfl) (hb:F→σ.get t=.c (.bool b):=by intro f;simp only[go_sem,f]<;>rfl) (hp:Bq b p1 p2:=by first|(with_reducible exact bqd)|(with_reducible exact bqe)|(with_reducible exact bqn)|(with_reducible exact bqm)|((fail_if_success (with_reducible exact bqT));(fail_if_success (with_reducible exact bqF));exact bqt))
 (k1:F→Hold X→DrK E h l K n (o::rest) (σ.set t (.c (.bool true))):=by intro f x;(try simp only[go_sem,f]);exact x.out) (k2:F→Hold Y→DrK E h l K n (o::rest) (σ.set t (.c (.bool false))):=by intro f x;(try simp only[go_sem,f]);exact x.out):DrK E h l K n (o::rest) σ:=drk_split t (hb q) (fun e=>k1 q ⟨x (hp.t e)⟩) fun e=>k2 q ⟨y (hp.f e)⟩
theorem zV {G:Prop} (f:F) (x:X) (k:F→Hold X→G:=by intro f x;first|exact yA1 f x.out|exact zW f x.out|exact yP f x.out|exact yN f x.out|fail):G:=k f ⟨x⟩
theorem zH {G p q:Prop} (f:F) (x:p→X) (y:q→Y) (k:F→Hold (p→X)→Hold (q→Y)→G:=by intro f x y;first|exact zC f x.out y.out|exact zG f x.out y.out|exact zD f x.out y.out|fail):G:=k f ⟨x⟩ ⟨y⟩
end
end Go.AI
namespace Go.AI
open Go.PN
theorem POk.indexByte {P:Program} {h:Heap} {ρ:Operand→AV} {f:FuncId} {fn:Func} {x y:Operand} {ts:Array TypeId} {l:BS} {c:Int} (hf:P.funcs[f]?=some fn) (hname:(fn.name== "runtime.NumGoroutine")=false) (hb:fn.body.isNone=true) (hn:Extern.findNext fn=none) (he:Extern.find fn=some Extern.BytealgIndexByte.indexByte) (hk:ρ (.func f)=.c (.raw (.func (.func f) #[] #[]))) (hx:ρ x=.c (.str (sB l))) (hy:ρ y=.c (.int .u8 c)):
  POk P h ρ (.call {callee:=.value (.func f),args:= #[x,y],argTypes:=ts}) (.c (.int .i64 (Lib.indexByte l c.toNat.toUInt8))):=fun S w e _ ho _=>by
 have h1:e x=.string (sB l):=by have:=ho x (by simp [Op.operands,Call.operands]);rw [hx] at this;exact this
 have h2:e y=.int .u8 c:=by have:=ho y (by simp [Op.operands,Call.operands]);rw [hy] at this;exact this
 refine⟨.int .i64 (Lib.indexByte l c.toNat.toUInt8),fun o hop=> ?_,rfl⟩
 have:=run_callFunc_extern (P:=P) hf hname hb hn he #[.string (sB l),.int .u8 c] w
 rw [Lib.run_indexByteString] at this
 have h3:=ho (.func f) (by simp [Op.operands,Call.operands])
 rw [hk] at h3
 have h3':e (.func f)=.func (.func f) #[] #[]:=h3
 simp [execOp,hop,resolve,invoke,h3',h1,h2,Deferred.ofValue,this,Result.andThen]
end Go.AI
namespace Go.PN
theorem ixB_has (l:BS) (c:UInt8):decide (Lib.indexByte l c≥0)=l.contains c:=by
 induction l with
 |nil=>rfl
 |cons b l ih=>
  rw [List.contains_cons]
  unfold Lib.indexByte
  by_cases h:b=c
  ·subst h;simp
  ·have h1:(b==c)=false:=by simpa using h
   have h2:(c==b)=false:=by simpa using fun e=>h e.symm
   rw [h1,h2,Bool.false_or,←ih]
   by_cases h3:Lib.indexByte l c= -1
   ·rw [h3];rfl
   ·have:(Lib.indexByte l c== -1)=false:=by simpa using h3
    rw [this]
    have h4: -1≤Lib.indexByte l c:=by
     clear ih h1 h2 this h h3
     induction l with
     |nil=>unfold Lib.indexByte;decide
     |cons b l ih=>
      unfold Lib.indexByte
      split
      ·decide
      ·split
       ·decide
       ·omega
    simp only [Bool.false_eq_true,if_false]
    rw [decide_eq_decide]
    omega
theorem sgn_ix:∀n:Nat,n<256→[123,125,59,58,64].contains (n.toUInt8)=isSgn n:=by decide
theorem blk_ix:∀n:Nat,n<256→[32,9,10,13].contains (n.toUInt8)=isBlk n:=by decide
end Go.PN
namespace Go.Proofs.YtnmeahogifekdaaGreatDoor
open Go.AI Go.PN
attribute [local irreducible] aw Fa Fh DrK
theorem tlet_fa (n:Nat):Fa Tryz.prog 69 [.c (.int .u8 n)] (.c (.bool (isLet n))):=by
 refine fa_of_body Tryz.func69 rfl rfl (by simp [Tryz.ntmps69]) fun C hC=> ?_
 simp only [initS,Nat.reduceAdd]
 repeat' first|refine zV o0 ?_|refine zH o0 (fun hb=>?_) fun hb=>?_|fail
 all_goals
  refine xT hC ?_
  exact .one (.c (ler_bool (by rw [Bool.eq_iff_iff];simp [isLet];omega)))
theorem tdig_fa (n:Nat):Fa Tryz.prog 123 [.c (.int .u8 n)] (.c (.bool (isDig n))):=by
 refine fa_of_body Tryz.func123 rfl rfl (by simp [Tryz.ntmps123]) fun C hC=> ?_
 simp only [initS,Nat.reduceAdd]
 repeat' first|refine zV o0 ?_|refine zH o0 (fun hb=>?_) fun hb=>?_|fail
 all_goals
  refine xT hC ?_
  exact .one (.c (ler_bool (by rw [Bool.eq_iff_iff];simp [isDig];omega)))
theorem ixs_fa (l:BS) (c:Nat):Fa Tryz.prog 260 [.c (.str (sB l)),.c (.int .u8 c)] (.c (.int .i64 (Lib.indexByte l c.toUInt8))):=by
 refine fa_of_body Tryz.func260 rfl rfl (by simp [Tryz.ntmps260]) fun C hC=> ?_
 simp only [initS,Nat.reduceAdd]
 refine xG ?_
 refine aw_pok (POk.indexByte Tryz.func283 rfl rfl rfl rfl eE rfl eE) rfl rfl ?_
 refine xSGT hC ?_
 exact .one (.c (.int _ _))
theorem ixb_fa (l:BS) (c:Nat):Fa Tryz.prog 213 [.c (.str (sB l)),.c (.int .u8 c)] (.c (.int .i64 (Lib.indexByte l c.toUInt8))):=by
 refine fa_of_body Tryz.func213 rfl rfl (by simp [Tryz.ntmps213]) fun C hC=> ?_
 simp only [initS,Nat.reduceAdd]
 repeat' first|refine zV o0 ?_|(refine yC2 o0 (ixs_fa l c) ?_)|(refine yD2 o0 (ixs_fa l c) ?_)|refine zH o0 (fun hb=>?_) fun hb=>?_|fail
 refine xT hC ?_
 exact .one (.c (.int _ _))
theorem tsgn_fa (n:Nat) (hn:n<256):Fa Tryz.prog 144 [.c (.int .u8 n)] (.c (.bool (isSgn n))):=by
 refine fa_of_body Tryz.func144 rfl rfl (by simp [Tryz.ntmps144]) fun C hC=> ?_
 simp only [initS,Nat.reduceAdd]
 repeat' first|refine zV o0 ?_|(refine yC2 o0 (ixb_fa [123,125,59,58,64] n) ?_)|(refine yD2 o0 (ixb_fa [123,125,59,58,64] n) ?_)|refine zH o0 (fun hb=>?_) fun hb=>?_|fail
 refine xT hC ?_
 exact .one (.c (ler_bool (by rw [ixB_has,sgn_ix n hn])))
theorem tblk_fa (n:Nat) (hn:n<256):Fa Tryz.prog 142 [.c (.int .u8 n)] (.c (.bool (isBlk n))):=by
 refine fa_of_body Tryz.func142 rfl rfl (by simp [Tryz.ntmps142]) fun C hC=> ?_
 simp only [initS,Nat.reduceAdd]
 repeat' first|refine zV o0 ?_|(refine yC2 o0 (ixb_fa [32,9,10,13] n) ?_)|(refine yD2 o0 (ixb_fa [32,9,10,13] n) ?_)|refine zH o0 (fun hb=>?_) fun hb=>?_|fail
 refine xT hC ?_
 exact .one (.c (ler_bool (by rw [ixB_has,blk_ix n hn])))
end Go.Proofs.YtnmeahogifekdaaGreatDoor
namespace Go.PN
def nameB (s:BS):Bool:=decide (0<s.length)&&decide (s.length≤24)&&isLet (bAt s 0)&&decide (spanE isIns s 0=s.length)
end Go.PN
namespace Go.Proofs.YtnmeahogifekdaaGreatDoor
open Go.AI Go.PN
attribute [local irreducible] aw Fa Fh DrK
theorem tdigs_fa (l:BS) (i:Nat) (hl:l.length≤1099511627776) (hi:i≤l.length):Fa Tryz.prog 214 [.c (.str (sB l)),.c (.int .i64 i)] (.c (.int .i64 (spanE isDig l i:Nat))):=by
 refine fa_of_body Tryz.func214 rfl rfl (by simp [Tryz.ntmps214]) fun C hC=> ?_
 simp only [initS,Nat.reduceAdd]
 refine xG ?_
 generalize hS:spanE isDig l i=S
 refine aw_lp (fun x:Nat=>[(0,.c (.str (sB l))),(1,.c (.int .i64 x))]) (fun _=>[]) (fun x=>x≤l.length∧spanE isDig l x=S) (fun x=>l.length-x) i eB zZ ⟨hi,hS⟩ ?_
 rintro x ⟨hx,hs⟩
 repeat' first|refine zV o0 ?_|(refine yC2 o0 (tdig_fa _) ?_)|(refine yD2 o0 (tdig_fa _) ?_)|refine zH o0 (fun hb=>?_) fun hb=>?_|fail
 ·refine aw_stop ⟨x+1,by omega,eB,zZ,by omega,?_⟩
  rw [←spanE_yes om (by assumption)];exact hs
 all_goals
  refine xT hC ?_
  refine .one (.c (ler_int ?_))
 ·rw [←hs,spanE_no om (by assumption)]
 ·rw [←hs,spanE_out om]
theorem twend_fa (l:BS) (i:Nat) (hl:l.length≤1099511627776) (hi:i≤l.length):Fa Tryz.prog 70 [.c (.str (sB l)),.c (.int .i64 i)] (.c (.int .i64 (spanE isIns l i:Nat))):=by
 refine fa_of_body Tryz.func70 rfl rfl (by simp [Tryz.ntmps70]) fun C hC=> ?_
 simp only [initS,Nat.reduceAdd]
 refine xG ?_
 generalize hS:spanE isIns l i=S
 refine aw_lp (fun x:Nat=>[(0,.c (.str (sB l))),(1,.c (.int .i64 x))]) (fun _=>[]) (fun x=>x≤l.length∧spanE isIns l x=S) (fun x=>l.length-x) i eB zZ ⟨hi,hS⟩ ?_
 rintro x ⟨hx,hs⟩
 repeat' first|refine zV o0 ?_|(refine yC2 o0 (tlet_fa _) ?_)|(refine yD2 o0 (tlet_fa _) ?_)|(refine yC2 o0 (tdig_fa _) ?_)|(refine yD2 o0 (tdig_fa _) ?_)|refine zH o0 (fun hb=>?_) fun hb=>?_|fail
 all_goals first
  |(refine aw_stop ⟨x+1,by omega,eB,zZ,by omega,?_⟩
    rw [←spanE_yes om (by unfold isIns;simp_all)];exact hs)
  |(refine xT hC ?_
    refine .one (.c (ler_int ?_))
    first
     |(rw [←hs,spanE_out om];done)
     |(rw [←hs,spanE_no om (by unfold isIns;simp_all)]))
theorem num_w {l:BS} {i:Nat} (hl:l.length≤1099511627776) (hi:i≤l.length):∃e,spanE isDig l i=e∧e≤l.length:=⟨_,rfl,spanE_le hi⟩
theorem tnum_fa (l:BS) (i:Nat) (hl:l.length≤1099511627776) (hi:i≤l.length):Fa Tryz.prog 143 [.c (.str (sB l)),.c (.int .i64 i)] (.c (.int .i64 (numE l i:Nat))):=by
 unfold numE
 have h1:=tdigs_fa l i hl hi
 obtain⟨e,he,hel⟩:=num_w hl hi
 rw [he] at h1⊢
 refine fa_of_body Tryz.func143 rfl rfl (by simp [Tryz.ntmps143]) fun C hC=> ?_
 simp only [initS,Nat.reduceAdd]
 repeat' first|refine zV o0 ?_|(refine yC2 o0 (h1) ?_)|(refine yD2 o0 (h1) ?_)|(refine yC2 o0 (tdig_fa _) ?_)|(refine yD2 o0 (tdig_fa _) ?_)|(refine yC2 o0 (tdigs_fa l (e+1) hl ?_) ?_;· omega)|(refine yD2 o0 (tdigs_fa l (e+1) hl ?_) ?_;· omega)|refine zH o0 (fun hb=>?_) fun hb=>?_|fail
 all_goals
  refine xT hC ?_
  refine .one (.c (ler_int ?_))
  split<;>simp_all<;>omega
theorem tname_fa (l:BS) (hl:l.length≤1099511627776):Fa Tryz.prog 20 [.c (.str (sB l))] (.c (.bool (nameB l))):=by
 have hw:=twend_fa l 0 hl (Nat.zero_le _)
 unfold nameB
 refine fa_of_body Tryz.func20 rfl rfl (by simp [Tryz.ntmps20]) fun C hC=> ?_
 simp only [initS,Nat.reduceAdd]
 repeat' first|refine zV o0 ?_|(refine yC2 o0 (tlet_fa _) ?_)|(refine yD2 o0 (tlet_fa _) ?_)|(refine yC2 o0 (hw) ?_)|(refine yD2 o0 (hw) ?_)|refine zH o0 (fun hb=>?_) fun hb=>?_|fail
 all_goals
  refine xT hC ?_
  refine .one (.c (ler_bool ?_))
  first|(simp_all;done)|(simp_all;omega)|(rw [Bool.eq_iff_iff];simp_all;done)|(rw [Bool.eq_iff_iff];simp_all;omega)
end Go.Proofs.YtnmeahogifekdaaGreatDoor
namespace Go.PN
open Go.AI
structure EvD where
 name:BS
 p:RD
 fail:RD
 rep:RD
 cost:Int
structure HsD where
 name:BS
 on:Bool
structure GtD where
 name:BS
 kind:Int
 k:Int
 inputs:List BS
 dorm:RD
structure PgD where
 name:BS
 top:BS
 gates:List GtD
structure GrD where
 name:BS
 kind:Int
 members:List BS
 factors:List RD
structure VlD where
 event:BS
 p:RD
structure PhD where
 name:BS
 top:BS
 values:List VlD
structure MdD where
 name:BS
 top:BS
 events:List EvD
 houses:List HsD
 gates:List GtD
 pages:List PgD
 groups:List GrD
 phases:List PhD
abbrev ev0:EvD:=⟨[],rd0,rd0,rd0,0⟩
abbrev hs0:HsD:=⟨[],false⟩
abbrev gt0:GtD:=⟨[],0,0,[],rd0⟩
abbrev pg0:PgD:=⟨[],[],[]⟩
abbrev gr0:GrD:=⟨[],0,[],[]⟩
abbrev vl0:VlD:=⟨[],rd0⟩
abbrev ph0:PhD:=⟨[],[],[]⟩
abbrev md0:MdD:=⟨[],[],[],[],[],[],[],[]⟩
abbrev kP:BS:=[112]
abbrev kFail:BS:=[102,97,105,108]
abbrev kRepair:BS:=[114,101,112,97,105,114]
abbrev kCost:BS:=[99,111,115,116]
abbrev kSemi:BS:=[59]
abbrev kAt:BS:=[64]
abbrev kColon:BS:=[58]
abbrev kOpen:BS:=[123]
abbrev kClose:BS:=[125]
abbrev kOn:BS:=[111,110]
abbrev kOff:BS:=[111,102,102]
abbrev kTop:BS:=[116,111,112]
abbrev kGate:BS:=[103,97,116,101]
abbrev kBeta:BS:=[98,101,116,97]
abbrev kGreek:BS:=[103,114,101,101,107]
abbrev kModel:BS:=[109,111,100,101,108]
abbrev kEvent:BS:=[101,118,101,110,116]
abbrev kHouse:BS:=[104,111,117,115,101]
abbrev kPage:BS:=[112,97,103,101]
abbrev kGroup:BS:=[103,114,111,117,112]
abbrev kPhase:BS:=[112,104,97,115,101]
abbrev kAnd:BS:=[97,110,100]
abbrev kOr:BS:=[111,114]
abbrev kVote:BS:=[118,111,116,101]
abbrev kNot:BS:=[110,111,116]
abbrev kXor:BS:=[120,111,114]
abbrev kInhibit:BS:=[105,110,104,105,98,105,116]
abbrev kPand:BS:=[112,97,110,100]
abbrev kSpare:BS:=[115,112,97,114,101]
abbrev kDepend:BS:=[100,101,112,101,110,100]
def natB (s:BS):Nat:=s.foldl (fun n b=>n*10+(b.toNat-48)) 0
def idxB (b:UInt8) (s:BS):Nat:=(s.takeWhile (· !=b)).length
def isNum (s:BS):Bool:=decide (0<s.length)&&isDig (bAt s 0)&&numE s 0==s.length
def valC (s:BS):Int:=if s.length>100 then 4 else if isNum s=false then 2
 else if idxB 47 s<s.length∧natB (s.drop (idxB 47 s+1))=0 then 8 else 0
def valQ (s:BS):Rat:=if idxB 47 s<s.length then(natB (s.take (idxB 47 s)):Rat)/(natB (s.drop (idxB 47 s+1)):Rat)
 else(natB (s.take (idxB 46 s)++s.drop (idxB 46 s+1)):Rat)/((10^(s.drop (idxB 46 s+1)).length:Nat):Rat)
def valR (s:BS):RD:=if valC s=0 then rd (valQ s) else rd0
def intQ (q:Rat):Option Int:=if q.den=1∧ -9223372036854775808≤q.num∧q.num≤9223372036854775807 then some q.num else none
structure PS where
 l:List TK
 e:Int
def failS (c:Int) (s:PS):PS:=if s.e=0 then⟨s.l,c⟩ else s
def kindS (s:PS) (k:Nat):Bool:=decide (s.e=0)&&match s.l with|[]=>false|t::_=>t.kind==k
def isS (s:PS) (w:BS):Bool:=decide (s.e=0)&&match s.l with|[]=>false|t::_=>t.kind !=1&&t.text==w
def hdT (s:PS):BS:=match s.l with|[]=>[]|t::_=>t.text
def takeS (may:Bool) (s:PS):BS×PS:=if s.e=0 then(match s.l with
 |[]=>([],⟨[],20⟩)
 |t::l=>if may then(t.text,⟨l,0⟩) else([],⟨t::l,2⟩)) else([],s)
def expS (w:BS) (s:PS):PS:=(takeS (isS s w) s).2
def wordS (s:PS):BS×PS:=takeS (kindS s 0) s
def numS (s:PS):RD×PS:=let r:=takeS (kindS s 1) s
 if r.2.e=0 then(valR r.1,if valC r.1=0 then r.2 else⟨r.2.l,valC r.1⟩) else(rd0,r.2)
def wholeS (s:PS):Int×PS:=let r:=numS s
 if r.2.e=0 then(match intQ r.1.q with
  |some n=>if 0≤n∧n≤1073741824 then(n,r.2) else(0,⟨r.2.l,3⟩)
  |none=>(0,⟨r.2.l,3⟩)) else(0,r.2)
def inputS (s:PS):BS×PS:=if isS s kAt then(let r:=wordS (expS kAt s);(64::r.1,r.2)) else wordS s
def mS (s:PS):Nat:=if s.e=0 then s.l.length+1 else 0
def loopS {α:Type} (c:PS→Bool) (b:α→PS→α×PS):Nat→α→PS→α×PS
 |0,a,s=>(a,s)
 |n+1,a,s=>if s.e=0∧c s=true then loopS c b n (b a s).1 (b a s).2 else(a,s)
def lpS {α:Type} (c:PS→Bool) (b:α→PS→α×PS) (a:α) (s:PS):α×PS:=loopS c b (mS s) a s
theorem loopS_end {α:Type} {c:PS→Bool} {b:α→PS→α×PS} {n:Nat} {a:α} {s:PS} (h:¬(s.e=0∧c s=true)):loopS c b n a s=(a,s):=by
 cases n with
 |zero=>rfl
 |succ n=>unfold loopS;rw [if_neg h]
theorem loopS_fuel {α:Type} {c:PS→Bool} {b:α→PS→α×PS} (hd:∀a s,s.e=0→c s=true→mS (b a s).2<mS s):∀(n m:Nat) (a:α) (s:PS),mS s≤n→mS s≤m→loopS c b n a s=loopS c b m a s:=by
 intro n
 induction n with
 |zero=>
  intro m a s h1 h2
  have:¬(s.e=0∧c s=true):=fun h=>by unfold mS at h1;rw [if_pos h.1] at h1;omega
  rw [loopS_end this,loopS_end this]
 |succ n ih=>
  intro m a s h1 h2
  by_cases h:s.e=0∧c s=true
  ·have h3:=hd a s h.1 h.2
   cases m with
   |zero=>omega
   |succ m=>
    unfold loopS
    rw [if_pos h,if_pos h]
    exact ih m _ _ om om
  ·rw [loopS_end h,loopS_end h]
theorem lpS_step {α:Type} {c:PS→Bool} {b:α→PS→α×PS} (hd:∀a s,s.e=0→c s=true→mS (b a s).2<mS s) {a:α} {s:PS} (h0:s.e=0) (h1:c s=true):lpS c b a s=lpS c b (b a s).1 (b a s).2:=by
 have h3:=hd a s h0 h1
 unfold lpS
 obtain⟨n,hn⟩:∃n,mS s=n+1:=⟨mS s-1,by omega⟩
 rw [hn]
 show(if _ then _ else _)=_
 rw [if_pos ⟨h0,h1⟩]
 exact loopS_fuel hd _ _ _ _ om (Nat.le_refl _)
theorem lpS_end {α:Type} {c:PS→Bool} {b:α→PS→α×PS} {a:α} {s:PS} (h:¬(s.e=0∧c s=true)):lpS c b a s=(a,s):=loopS_end h
def evB (x:List BS×EvD) (s:PS):(List BS×EvD)×PS:=
 let may:=isS s kP||isS s kFail||isS s kRepair||isS s kCost
 if may&&x.1.contains (hdT s) then(x,failS 6 s) else
 let r:=takeS may s
 if r.1==kP then((r.1::x.1,{x.2 with p:=(numS r.2).1}),(numS r.2).2)
 else if r.1==kFail then((r.1::x.1,{x.2 with fail:=(numS r.2).1}),(numS r.2).2)
 else if r.1==kRepair then((r.1::x.1,{x.2 with rep:=(numS r.2).1}),(numS r.2).2)
 else if r.1==kCost then((r.1::x.1,{x.2 with cost:=(wholeS r.2).1}),(wholeS r.2).2)
 else((r.1::x.1,x.2),r.2)
def eventS (s:PS):EvD×PS:=let r:=wordS s
 let q:=lpS (fun s=> !isS s kSemi) evB ([],{ev0 with name:=r.1}) r.2
 (q.1.2,expS kSemi q.2)
def houseS (s:PS):HsD×PS:=let r:=wordS s
 let q:=takeS (isS r.2 kOn||isS r.2 kOff) r.2
 (⟨r.1,q.1==kOn⟩,expS kSemi q.2)
def gkind (w:BS):Option Int:=if w==kAnd then some 0 else if w==kOr then some 1 else if w==kVote then some 2 else if w==kNot then some 3 else if w==kXor then some 4
 else if w==kInhibit then some 5 else if w==kPand then some 6 else if w==kSpare then some 7 else if w==kDepend then some 8 else none
def inB (x:List BS) (s:PS):List BS×PS:=(x++[(inputS s).1],(inputS s).2)
def gateS (s:PS):GtD×PS:=let r:=wordS s
 let k:=if kindS r.2 0 then gkind (hdT r.2) else none
 let s2:=(takeS k.isSome r.2).2
 let v:=if k=some 2 then wholeS s2 else(0,s2)
 let d:=if k=some 7 then numS v.2 else(rd0,v.2)
 let q:=lpS (fun s=> !isS s kSemi) inB [] d.2
 (⟨r.1,k.getD 0,v.1,q.1,d.1⟩,expS kSemi q.2)
def pgB (x:List GtD) (s:PS):List GtD×PS:=(x++[(gateS (expS kGate s)).1],(gateS (expS kGate s)).2)
def pageS (s:PS):PgD×PS:=let r:=wordS s
 let t:=inputS (expS kTop r.2)
 let q:=lpS (fun s=> !isS s kClose) pgB [] (expS kOpen t.2)
 (⟨r.1,t.1,q.1⟩,expS kClose q.2)
def facB (x:List RD) (s:PS):List RD×PS:=(x++[(numS s).1],(numS s).2)
def memB (x:List BS) (s:PS):List BS×PS:=(x++[(wordS s).1],(wordS s).2)
def groupS (s:PS):GrD×PS:=let r:=wordS s
 let g:=takeS (isS r.2 kBeta||isS r.2 kGreek) r.2
 let f:=lpS (fun s=>kindS s 1) facB [] g.2
 let m:=lpS (fun s=>kindS s 0) memB [] (expS kColon f.2)
 (⟨r.1,if g.1==kGreek then 1 else 0,m.1,f.1⟩,expS kSemi m.2)
def vlB (x:List VlD) (s:PS):List VlD×PS:=let r:=wordS s
 (x++[⟨r.1,(numS r.2).1⟩],expS kSemi (numS r.2).2)
def phaseS (s:PS):PhD×PS:=let r:=wordS s
 let t:=inputS (expS kTop r.2)
 let q:=lpS (fun s=> !isS s kClose) vlB [] (expS kOpen t.2)
 (⟨r.1,t.1,q.1⟩,expS kClose q.2)
def stB (m:MdD) (s:PS):MdD×PS:=
 let r:=takeS (isS s kEvent||isS s kHouse||isS s kGate||isS s kPage||isS s kGroup||isS s kPhase) s
 if r.1==kEvent then({m with events:=m.events++[(eventS r.2).1]},(eventS r.2).2)
 else if r.1==kHouse then({m with houses:=m.houses++[(houseS r.2).1]},(houseS r.2).2)
 else if r.1==kGate then({m with gates:=m.gates++[(gateS r.2).1]},(gateS r.2).2)
 else if r.1==kPage then({m with pages:=m.pages++[(pageS r.2).1]},(pageS r.2).2)
 else if r.1==kGroup then({m with groups:=m.groups++[(groupS r.2).1]},(groupS r.2).2)
 else if r.1==kPhase then({m with phases:=m.phases++[(phaseS r.2).1]},(phaseS r.2).2)
 else(m,r.2)
def endS (s:PS):PS:=if s.e=0∧s.l≠[] then⟨s.l,2⟩ else s
def readS (s:PS):MdD×PS:=let r:=wordS (expS kModel s)
 let q:=lpS (fun s=> !isS s kTop) stB {md0 with name:=r.1} (expS kSemi r.2)
 let t:=inputS (expS kTop q.2)
 ({q.1 with top:=t.1},endS (expS kSemi t.2))
end Go.PN
namespace Go.AI
open Go.PN
structure TX where
 t:TK
 a:Int
 b:Int
 c:Int
abbrev tx0:TX:=⟨⟨0,[]⟩,0,0,0⟩
abbrev stc (r:BS):List CV:=[CV.str (sB r)]
def strsF (l:List BS):Nat→CV:=lf 1 stc ([]:BS) l
@[go_sem] theorem strsF_0 (l:List BS) (i:Nat):strsF l (i)=.str (sB (l.getD i [])):=by have:=lf_at (s:=1) (c:=stc) (d:=([]:BS)) (xs:=l) (i:=i) (k:=0) om;rw [Nat.mul_one,Nat.add_zero] at this;exact this
abbrev strs (t:Bool) (l:List BS):CV:=.row t 1 l.length (strsF l)
theorem strsF_solid (l:List BS) (j:Nat):(strsF l j).solid=true:=by
 obtain⟨i,k,hk,rfl⟩:∃i k,k<1∧j=i*1+k:=⟨j/1,j%1,Nat.mod_lt _ om,by omega⟩
 unfold strsF
 rw [lf_at hk]
 match k,hk with
 |0,_=>rfl
abbrev evc (r:EvD):List CV:=[CV.str (sB r.name),.bool r.p.neg,ws true r.p.num,ws true r.p.den,.bool r.fail.neg,ws true r.fail.num,ws true r.fail.den,.bool r.rep.neg,ws true r.rep.num,ws true r.rep.den,.int .i64 r.cost]
def evsF (l:List EvD):Nat→CV:=lf 11 evc (ev0:EvD) l
@[go_sem] theorem evsF_0 (l:List EvD) (i:Nat):evsF l (i*11)=.str (sB (l.getD i ev0).name):=by have:=lf_at (s:=11) (c:=evc) (d:=(ev0:EvD)) (xs:=l) (i:=i) (k:=0) om;exact this
@[go_sem] theorem evsF_1 (l:List EvD) (i:Nat):evsF l (i*11+1)=.bool (l.getD i ev0).p.neg:=by have:=lf_at (s:=11) (c:=evc) (d:=(ev0:EvD)) (xs:=l) (i:=i) (k:=1) om;exact this
@[go_sem] theorem evsF_2 (l:List EvD) (i:Nat):evsF l (i*11+2)=ws true (l.getD i ev0).p.num:=by have:=lf_at (s:=11) (c:=evc) (d:=(ev0:EvD)) (xs:=l) (i:=i) (k:=2) om;exact this
@[go_sem] theorem evsF_3 (l:List EvD) (i:Nat):evsF l (i*11+3)=ws true (l.getD i ev0).p.den:=by have:=lf_at (s:=11) (c:=evc) (d:=(ev0:EvD)) (xs:=l) (i:=i) (k:=3) om;exact this
@[go_sem] theorem evsF_4 (l:List EvD) (i:Nat):evsF l (i*11+4)=.bool (l.getD i ev0).fail.neg:=by have:=lf_at (s:=11) (c:=evc) (d:=(ev0:EvD)) (xs:=l) (i:=i) (k:=4) om;exact this
@[go_sem] theorem evsF_5 (l:List EvD) (i:Nat):evsF l (i*11+5)=ws true (l.getD i ev0).fail.num:=by have:=lf_at (s:=11) (c:=evc) (d:=(ev0:EvD)) (xs:=l) (i:=i) (k:=5) om;exact this
@[go_sem] theorem evsF_6 (l:List EvD) (i:Nat):evsF l (i*11+6)=ws true (l.getD i ev0).fail.den:=by have:=lf_at (s:=11) (c:=evc) (d:=(ev0:EvD)) (xs:=l) (i:=i) (k:=6) om;exact this
@[go_sem] theorem evsF_7 (l:List EvD) (i:Nat):evsF l (i*11+7)=.bool (l.getD i ev0).rep.neg:=by have:=lf_at (s:=11) (c:=evc) (d:=(ev0:EvD)) (xs:=l) (i:=i) (k:=7) om;exact this
@[go_sem] theorem evsF_8 (l:List EvD) (i:Nat):evsF l (i*11+8)=ws true (l.getD i ev0).rep.num:=by have:=lf_at (s:=11) (c:=evc) (d:=(ev0:EvD)) (xs:=l) (i:=i) (k:=8) om;exact this
@[go_sem] theorem evsF_9 (l:List EvD) (i:Nat):evsF l (i*11+9)=ws true (l.getD i ev0).rep.den:=by have:=lf_at (s:=11) (c:=evc) (d:=(ev0:EvD)) (xs:=l) (i:=i) (k:=9) om;exact this
@[go_sem] theorem evsF_10 (l:List EvD) (i:Nat):evsF l (i*11+10)=.int .i64 (l.getD i ev0).cost:=by have:=lf_at (s:=11) (c:=evc) (d:=(ev0:EvD)) (xs:=l) (i:=i) (k:=10) om;exact this
abbrev evs (t:Bool) (l:List EvD):CV:=.row t 11 l.length (evsF l)
abbrev hsc (r:HsD):List CV:=[CV.str (sB r.name),.bool r.on]
def hssF (l:List HsD):Nat→CV:=lf 2 hsc (hs0:HsD) l
@[go_sem] theorem hssF_0 (l:List HsD) (i:Nat):hssF l (i*2)=.str (sB (l.getD i hs0).name):=by have:=lf_at (s:=2) (c:=hsc) (d:=(hs0:HsD)) (xs:=l) (i:=i) (k:=0) om;exact this
@[go_sem] theorem hssF_1 (l:List HsD) (i:Nat):hssF l (i*2+1)=.bool (l.getD i hs0).on:=by have:=lf_at (s:=2) (c:=hsc) (d:=(hs0:HsD)) (xs:=l) (i:=i) (k:=1) om;exact this
abbrev hss (t:Bool) (l:List HsD):CV:=.row t 2 l.length (hssF l)
theorem hssF_solid (l:List HsD) (j:Nat):(hssF l j).solid=true:=by
 obtain⟨i,k,hk,rfl⟩:∃i k,k<2∧j=i*2+k:=⟨j/2,j%2,Nat.mod_lt _ om,by omega⟩
 unfold hssF
 rw [lf_at hk]
 match k,hk with
 |0,_=>rfl
 |1,_=>rfl
abbrev gtc (r:GtD):List CV:=[CV.str (sB r.name),.int .i64 r.kind,.int .i64 r.k,strs true r.inputs,.bool r.dorm.neg,ws true r.dorm.num,ws true r.dorm.den]
def gtsF (l:List GtD):Nat→CV:=lf 7 gtc (gt0:GtD) l
@[go_sem] theorem gtsF_0 (l:List GtD) (i:Nat):gtsF l (i*7)=.str (sB (l.getD i gt0).name):=by have:=lf_at (s:=7) (c:=gtc) (d:=(gt0:GtD)) (xs:=l) (i:=i) (k:=0) om;exact this
@[go_sem] theorem gtsF_1 (l:List GtD) (i:Nat):gtsF l (i*7+1)=.int .i64 (l.getD i gt0).kind:=by have:=lf_at (s:=7) (c:=gtc) (d:=(gt0:GtD)) (xs:=l) (i:=i) (k:=1) om;exact this
@[go_sem] theorem gtsF_2 (l:List GtD) (i:Nat):gtsF l (i*7+2)=.int .i64 (l.getD i gt0).k:=by have:=lf_at (s:=7) (c:=gtc) (d:=(gt0:GtD)) (xs:=l) (i:=i) (k:=2) om;exact this
@[go_sem] theorem gtsF_3 (l:List GtD) (i:Nat):gtsF l (i*7+3)=strs true (l.getD i gt0).inputs:=by have:=lf_at (s:=7) (c:=gtc) (d:=(gt0:GtD)) (xs:=l) (i:=i) (k:=3) om;exact this
@[go_sem] theorem gtsF_4 (l:List GtD) (i:Nat):gtsF l (i*7+4)=.bool (l.getD i gt0).dorm.neg:=by have:=lf_at (s:=7) (c:=gtc) (d:=(gt0:GtD)) (xs:=l) (i:=i) (k:=4) om;exact this
@[go_sem] theorem gtsF_5 (l:List GtD) (i:Nat):gtsF l (i*7+5)=ws true (l.getD i gt0).dorm.num:=by have:=lf_at (s:=7) (c:=gtc) (d:=(gt0:GtD)) (xs:=l) (i:=i) (k:=5) om;exact this
@[go_sem] theorem gtsF_6 (l:List GtD) (i:Nat):gtsF l (i*7+6)=ws true (l.getD i gt0).dorm.den:=by have:=lf_at (s:=7) (c:=gtc) (d:=(gt0:GtD)) (xs:=l) (i:=i) (k:=6) om;exact this
abbrev gts (t:Bool) (l:List GtD):CV:=.row t 7 l.length (gtsF l)
abbrev pgc (r:PgD):List CV:=[CV.str (sB r.name),.str (sB r.top),gts true r.gates]
def pgsF (l:List PgD):Nat→CV:=lf 3 pgc (pg0:PgD) l
@[go_sem] theorem pgsF_0 (l:List PgD) (i:Nat):pgsF l (i*3)=.str (sB (l.getD i pg0).name):=by have:=lf_at (s:=3) (c:=pgc) (d:=(pg0:PgD)) (xs:=l) (i:=i) (k:=0) om;exact this
@[go_sem] theorem pgsF_1 (l:List PgD) (i:Nat):pgsF l (i*3+1)=.str (sB (l.getD i pg0).top):=by have:=lf_at (s:=3) (c:=pgc) (d:=(pg0:PgD)) (xs:=l) (i:=i) (k:=1) om;exact this
@[go_sem] theorem pgsF_2 (l:List PgD) (i:Nat):pgsF l (i*3+2)=gts true (l.getD i pg0).gates:=by have:=lf_at (s:=3) (c:=pgc) (d:=(pg0:PgD)) (xs:=l) (i:=i) (k:=2) om;exact this
abbrev pgs (t:Bool) (l:List PgD):CV:=.row t 3 l.length (pgsF l)
abbrev grc (r:GrD):List CV:=[CV.str (sB r.name),.int .i64 r.kind,strs true r.members,rats true r.factors]
def grsF (l:List GrD):Nat→CV:=lf 4 grc (gr0:GrD) l
@[go_sem] theorem grsF_0 (l:List GrD) (i:Nat):grsF l (i*4)=.str (sB (l.getD i gr0).name):=by have:=lf_at (s:=4) (c:=grc) (d:=(gr0:GrD)) (xs:=l) (i:=i) (k:=0) om;exact this
@[go_sem] theorem grsF_1 (l:List GrD) (i:Nat):grsF l (i*4+1)=.int .i64 (l.getD i gr0).kind:=by have:=lf_at (s:=4) (c:=grc) (d:=(gr0:GrD)) (xs:=l) (i:=i) (k:=1) om;exact this
@[go_sem] theorem grsF_2 (l:List GrD) (i:Nat):grsF l (i*4+2)=strs true (l.getD i gr0).members:=by have:=lf_at (s:=4) (c:=grc) (d:=(gr0:GrD)) (xs:=l) (i:=i) (k:=2) om;exact this
@[go_sem] theorem grsF_3 (l:List GrD) (i:Nat):grsF l (i*4+3)=rats true (l.getD i gr0).factors:=by have:=lf_at (s:=4) (c:=grc) (d:=(gr0:GrD)) (xs:=l) (i:=i) (k:=3) om;exact this
abbrev grs (t:Bool) (l:List GrD):CV:=.row t 4 l.length (grsF l)
abbrev vlc (r:VlD):List CV:=[CV.str (sB r.event),.bool r.p.neg,ws true r.p.num,ws true r.p.den]
def vlsF (l:List VlD):Nat→CV:=lf 4 vlc (vl0:VlD) l
@[go_sem] theorem vlsF_0 (l:List VlD) (i:Nat):vlsF l (i*4)=.str (sB (l.getD i vl0).event):=by have:=lf_at (s:=4) (c:=vlc) (d:=(vl0:VlD)) (xs:=l) (i:=i) (k:=0) om;exact this
@[go_sem] theorem vlsF_1 (l:List VlD) (i:Nat):vlsF l (i*4+1)=.bool (l.getD i vl0).p.neg:=by have:=lf_at (s:=4) (c:=vlc) (d:=(vl0:VlD)) (xs:=l) (i:=i) (k:=1) om;exact this
@[go_sem] theorem vlsF_2 (l:List VlD) (i:Nat):vlsF l (i*4+2)=ws true (l.getD i vl0).p.num:=by have:=lf_at (s:=4) (c:=vlc) (d:=(vl0:VlD)) (xs:=l) (i:=i) (k:=2) om;exact this
@[go_sem] theorem vlsF_3 (l:List VlD) (i:Nat):vlsF l (i*4+3)=ws true (l.getD i vl0).p.den:=by have:=lf_at (s:=4) (c:=vlc) (d:=(vl0:VlD)) (xs:=l) (i:=i) (k:=3) om;exact this
abbrev vls (t:Bool) (l:List VlD):CV:=.row t 4 l.length (vlsF l)
abbrev phc (r:PhD):List CV:=[CV.str (sB r.name),.str (sB r.top),vls true r.values]
def phsF (l:List PhD):Nat→CV:=lf 3 phc (ph0:PhD) l
@[go_sem] theorem phsF_0 (l:List PhD) (i:Nat):phsF l (i*3)=.str (sB (l.getD i ph0).name):=by have:=lf_at (s:=3) (c:=phc) (d:=(ph0:PhD)) (xs:=l) (i:=i) (k:=0) om;exact this
@[go_sem] theorem phsF_1 (l:List PhD) (i:Nat):phsF l (i*3+1)=.str (sB (l.getD i ph0).top):=by have:=lf_at (s:=3) (c:=phc) (d:=(ph0:PhD)) (xs:=l) (i:=i) (k:=1) om;exact this
@[go_sem] theorem phsF_2 (l:List PhD) (i:Nat):phsF l (i*3+2)=vls true (l.getD i ph0).values:=by have:=lf_at (s:=3) (c:=phc) (d:=(ph0:PhD)) (xs:=l) (i:=i) (k:=2) om;exact this
abbrev phs (t:Bool) (l:List PhD):CV:=.row t 3 l.length (phsF l)
abbrev txc (r:TX):List CV:=[CV.int .i64 r.t.kind,.str (sB r.t.text),.int .i64 r.a,.int .i64 r.b,.int .i64 r.c]
def txsF (l:List TX):Nat→CV:=lf 5 txc (tx0:TX) l
@[go_sem] theorem txsF_0 (l:List TX) (i:Nat):txsF l (i*5)=.int .i64 (l.getD i tx0).t.kind:=by have:=lf_at (s:=5) (c:=txc) (d:=(tx0:TX)) (xs:=l) (i:=i) (k:=0) om;exact this
@[go_sem] theorem txsF_1 (l:List TX) (i:Nat):txsF l (i*5+1)=.str (sB (l.getD i tx0).t.text):=by have:=lf_at (s:=5) (c:=txc) (d:=(tx0:TX)) (xs:=l) (i:=i) (k:=1) om;exact this
@[go_sem] theorem txsF_2 (l:List TX) (i:Nat):txsF l (i*5+2)=.int .i64 (l.getD i tx0).a:=by have:=lf_at (s:=5) (c:=txc) (d:=(tx0:TX)) (xs:=l) (i:=i) (k:=2) om;exact this
@[go_sem] theorem txsF_3 (l:List TX) (i:Nat):txsF l (i*5+3)=.int .i64 (l.getD i tx0).b:=by have:=lf_at (s:=5) (c:=txc) (d:=(tx0:TX)) (xs:=l) (i:=i) (k:=3) om;exact this
@[go_sem] theorem txsF_4 (l:List TX) (i:Nat):txsF l (i*5+4)=.int .i64 (l.getD i tx0).c:=by have:=lf_at (s:=5) (c:=txc) (d:=(tx0:TX)) (xs:=l) (i:=i) (k:=4) om;exact this
abbrev txs (t:Bool) (l:List TX):CV:=.row t 5 l.length (txsF l)
abbrev mdc (t:Bool) (m:MdD):List CV:=[.str (sB m.name),.str (sB m.top),evs t m.events,hss t m.houses,gts t m.gates,pgs t m.pages,grs t m.groups,phs t m.phases]
end Go.AI
namespace Go.PN
open Go.AI
theorem numE_at {l:BS} {i:Nat} (h:numE l i<l.length):isDig (bAt l (numE l i))=false:=by
 unfold numE at h⊢
 split at h
 ·rename_i h1;rw [if_pos h1];exact spanE_at h
 ·rename_i h1;rw [if_neg h1];exact spanE_at h
theorem ins_no {n:Nat} (h1:isLet n=false) (h2:isDig n=false) (h3:¬n=95) (h4:¬n=46):¬isIns n=true:=by unfold isIns;simp [h1,h2,h3,h4]
theorem stepT_blk {l:BS} {i:Nat} (h:isBlk (bAt l i)=true):stepT l i=.skip (i+1):=by unfold stepT;rw [if_pos h]
theorem stepT_cmt {l:BS} {i:Nat} (h:isBlk (bAt l i)=false) (h1:bAt l i=35):stepT l i=.skip (spanE (fun b=>b !=10) l i):=by unfold stepT;rw [if_neg (by rw [h];decide),if_pos h1]
theorem stepT_let {l:BS} {i:Nat} (h:isBlk (bAt l i)=false) (h1:¬bAt l i=35) (h2:isLet (bAt l i)=true):stepT l i=if spanE isIns l i-i>24 then .err 5 else .tok 0 (spanE isIns l i):=by unfold stepT;rw [if_neg (by rw [h];decide),if_neg h1,if_pos h2]
theorem stepT_dig {l:BS} {i:Nat} (h:isBlk (bAt l i)=false) (h1:¬bAt l i=35) (h2:isLet (bAt l i)=false) (h3:isDig (bAt l i)=true):stepT l i=if numE l i<l.length∧(isIns (bAt l (numE l i))=true∨bAt l (numE l i)=47) then .err 2 else .tok 1 (numE l i):=by unfold stepT;rw [if_neg (by rw [h];decide),if_neg h1,if_neg (by rw [h2];decide),if_pos h3]
theorem stepT_els {l:BS} {i:Nat} (h:isBlk (bAt l i)=false) (h1:¬bAt l i=35) (h2:isLet (bAt l i)=false) (h3:isDig (bAt l i)=false):stepT l i=if isSgn (bAt l i) then .tok 2 (i+1) else .err 2:=by unfold stepT;rw [if_neg (by rw [h];decide),if_neg h1,if_neg (by rw [h2];decide),if_neg (by rw [h3];decide)]
theorem split_err {l:BS} {i:Nat} {out:List TK} {S:Int×List TK} {c:Int} (hs:splitT l (l.length-i) i out=S) (hi:i<l.length) (h:stepT l i=.err c):S=(c,[]):=by rw [splitT_step hi,h] at hs;exact hs.symm
theorem split_skip {l:BS} {i e:Nat} {out:List TK} {S:Int×List TK} (hs:splitT l (l.length-i) i out=S) (hi:i<l.length) (h:stepT l i=.skip e):splitT l (l.length-e) e out=S:=by rw [splitT_step hi,h] at hs;exact hs
theorem split_tok {l:BS} {i e k:Nat} {out:List TX} {S:Int×List TK} (hs:splitT l (l.length-i) i (out.map TX.t)=S) (hi:i<l.length) (h:stepT l i=.tok k e) (a b c:Int):splitT l (l.length-e) e ((out++[(⟨⟨k,cutS l i e⟩,a,b,c⟩:TX)]).map TX.t)=S:=by
 rw [splitT_step hi,h] at hs
 rw [List.map_append]
 exact hs
theorem split_end {l:BS} {i:Nat} {out:List TK} {S:Int×List TK} (hs:splitT l (l.length-i) i out=S) (hi:¬i<l.length):S=(0,out):=by rw [splitT_end om] at hs;exact hs.symm
end Go.PN
namespace Go.Proofs.YtnmeahogifekdaaGreatDoor
open Go.AI Go.PN
attribute [local irreducible] aw Fa Fh DrK
theorem tsplit_fh (l:BS) (hl:l.length≤1099511627776):Fh Tryz.prog 96 [] [.c (.str (sB l))] (fun x h=>h=[]∧∃out:List TX,out.map TX.t=(splitS l).2∧x=.tup [.c (txs true out),.c (errA (splitS l).1)]):=by
 refine fh_of_body Tryz.func96 rfl rfl (by simp [Tryz.ntmps96]) fun C hC=> ?_
 simp only [initS,Nat.reduceAdd]
 repeat' first|refine zV o0 ?_|refine zH o0 (fun hb=>?_) fun hb=>?_|fail
 ·refine aw_conv (t:=2) (v:=.c (txs true [])) (fun S w u hr=>repC_nil hr) rfl ?_
  refine xS ?_
  refine xU ?_
  unfold splitS
  rw [if_pos om]
  exact⟨rfl,[],rfl,rfl⟩
 generalize hS:splitT l l.length 0 []=S
 have hS':splitS l=S:=by unfold splitS;rw [if_neg om];exact hS
 rw [hS']
 refine aw_lp (fun x:Nat×Option Nat×Nat×List TX×Int×Int=>[(0,.c (.str (sB l))),(4,.c (gs x.2.1 5 x.2.2.1)),(5,.c (.int .i64 x.2.2.2.2.1)),(6,.c (.int .i64 x.2.2.2.2.2)),(7,.c (.int .i64 x.1))]) (fun x=>gh x.2.1 150 (x.2.2.1*5) (txsF x.2.2.2.1))
  (fun x=>x.1≤l.length∧(x.2.1=none→x.2.2.1=0)∧x.2.2.1≤x.1∧x.2.2.2.1.length=x.2.2.1∧0≤x.2.2.2.2.1∧x.2.2.2.2.1≤x.1+1∧0≤x.2.2.2.2.2∧x.2.2.2.2.2≤x.1∧splitT l (l.length-x.1) x.1 (x.2.2.2.1.map TX.t)=S) (fun x=>l.length-x.1) (0,none,0,[],1,0) eB (by simp only [gh];exact List.Sublist.refl _) ⟨Nat.zero_le _,fun _=>rfl,Nat.zero_le _,rfl,by decide,by decide,by decide,by decide,hS⟩ ?_
 rintro ⟨i,og,n,out,line,start⟩ ⟨hi,hog,hol,hn,hl0,hl1,hs0,hs1,hsp⟩
 dsimp only at hi hog hol hn hl0 hl1 hs0 hs1 hsp⊢
 have e1:=spanE_ge isIns l i
 have e2:=spanE_le (p:=isIns) hi
 have e3:=numE_ge l i
 have e4:=numE_le hi
 repeat' first|refine zV o0 ?_|(refine yC2 o0 (tblk_fa _ ?_) ?_;· exact bAt_lt l _)|(refine yD2 o0 (tblk_fa _ ?_) ?_;· exact bAt_lt l _)|(refine yC2 o0 (tlet_fa _) ?_)|(refine yD2 o0 (tlet_fa _) ?_)|(refine yC2 o0 (tdig_fa _) ?_)|(refine yD2 o0 (tdig_fa _) ?_)|(refine yC2 o0 (tsgn_fa _ ?_) ?_;· exact bAt_lt l _)|(refine yD2 o0 (tsgn_fa _ ?_) ?_;· exact bAt_lt l _)|(refine yC2 o0 (twend_fa l i hl ?_) ?_;· omega)|(refine yD2 o0 (twend_fa l i hl ?_) ?_;· omega)|(refine yC2 o0 (tnum_fa l i hl ?_) ?_;· omega)|(refine yD2 o0 (tnum_fa l i hl ?_) ?_;· omega)|refine zH o0 (fun hb=>?_) fun hb=>?_|fail
 ·rename_i hi' hk
  refine aw_stop ⟨(i+1,og,n,out,line+1,i+1),by dsimp only;omega,eB,List.Sublist.refl _,by dsimp only;omega,hog,by dsimp only;omega,hn,by dsimp only;omega,by dsimp only;omega,by dsimp only;omega,by dsimp only;omega,split_skip hsp hi' (stepT_blk hk)⟩
 ·rename_i hi' hk
  refine aw_stop ⟨(i+1,og,n,out,line,start),by dsimp only;omega,eB,List.Sublist.refl _,by dsimp only;omega,hog,by dsimp only;omega,hn,by dsimp only;omega,by dsimp only;omega,by dsimp only;omega,by dsimp only;omega,split_skip hsp hi' (stepT_blk hk)⟩
 ·rename_i hi' hk
  have h35:=hb
  have hq:=split_skip hsp hi' (stepT_cmt hk h35)
  have g1:=(stepT_skip hi' (stepT_cmt hk h35))
  generalize hE:spanE (fun b=>b !=10) l i=e at hq g1
  refine aw_lp (fun x:Nat=>[(0,.c (.str (sB l))),(4,.c (gs og 5 n)),(5,.c (.int .i64 line)),(6,.c (.int .i64 start)),(7,.c (.int .i64 x))]) (fun _=>gh og 150 (n*5) (txsF out)) (fun x=>i≤x∧x≤l.length∧spanE (fun b=>b !=10) l x=e) (fun x=>l.length-x) i eB zZ ⟨Nat.le_refl _,hi,hE⟩ ?_
  rintro x ⟨hx0,hx,hxe⟩
  repeat' first|refine zV o0 ?_|refine zH o0 (fun hb=>?_) fun hb=>?_|fail
  ·rename_i hx1
   have hx2:=hb
   refine aw_stop ⟨x+1,by omega,eB,List.Sublist.refl _,by omega,by omega,?_⟩
   rw [←spanE_yes hx1 (by simpa using hx2)];exact hxe
  ·rename_i hx1
   have hx2:=hb
   have:x=e:=by rw [←hxe,spanE_no hx1 (by simpa using hx2)]
   subst this
   exact aw_stop ⟨(x,og,n,out,line,start),by dsimp only;omega,eB,List.Sublist.refl _,by dsimp only;omega,hog,by dsimp only;omega,hn,by dsimp only;omega,by dsimp only;omega,by dsimp only;omega,by dsimp only;omega,hq⟩
  ·have hx1:=hb
   have:x=e:=by rw [←hxe,spanE_out om]
   subst this
   exact aw_stop ⟨(x,og,n,out,line,start),by dsimp only;omega,eB,List.Sublist.refl _,by dsimp only;omega,hog,by dsimp only;omega,hn,by dsimp only;omega,by dsimp only;omega,by dsimp only;omega,by dsimp only;omega,hq⟩
 ·rename_i hi' hk h35 hlt
  have hc:=split_err hsp hi' (by rw [stepT_let hk h35 hlt,if_pos om])
  refine aw_weak (h':=[]) (fun t=>.inr rfl) (List.nil_sublist _) ?_
  refine aw_conv (t:=2) (v:=.c (txs true [])) (fun S w u hr=>repC_nil hr) rfl ?_
  refine xS ?_
  refine xU ?_
  rw [hc]
  exact⟨rfl,[],rfl,rfl⟩
 ·rename_i hi' hk h35 hlt
  have hp:=split_tok hsp hi' (k:=0) (e:=spanE isIns l i) (by rw [stepT_let hk h35 hlt,if_neg om]) (i:Int) line ((i:Int)-start+1)
  have hp2:=stepT_tok (k:=0) (e:=spanE isIns l i) hi' (by rw [stepT_let hk h35 hlt,if_neg om])
  refine aw_push (pre:=[]) rfl rfl rfl rfl rfl rfl rfl eE eE (by rfl) om om eE om (by exact hog) eE (by rfl) (by rfl) (by first|rfl|simp only [Nat.mul_one,List.nil_append,List.cons_append]<;>rfl) (by unfold maxLen;omega) om (by exact lf_push hn (⟨⟨0,cutS l i (spanE isIns l i)⟩,i,line,(i:Int)-start+1⟩:TX) om) fun g hn_g=> ?_
  replace hn_g:=Heap.ne_of hn_g
  first|dsimp only [Heap.ne,gh] at hn_g|dsimp only [Heap.ne] at hn_g|skip
  refine yS hn_g ?_
  repeat' first|refine zV hn_g ?_|refine zH hn_g (fun hb=>?_) fun hb=>?_|fail
  exact aw_stop ⟨(spanE isIns l i,some g,n+1,out++[⟨⟨0,cutS l i (spanE isIns l i)⟩,i,line,(i:Int)-start+1⟩],line,start),by dsimp only;omega,(zB hn_g),List.Sublist.refl _,by dsimp only;omega,some_ne,by dsimp only;omega,by dsimp only;rw [List.length_append,hn];rfl,by dsimp only;omega,by dsimp only;omega,by dsimp only;omega,by dsimp only;omega,hp⟩
 ·rename_i hi' hk h35 hlt hdg hnl
  have hc:=split_err hsp hi' (by rw [stepT_dig hk h35 hlt hdg,if_pos ⟨hnl,.inl (isLet_ins hb)⟩])
  refine aw_weak (h':=[]) (fun t=>.inr rfl) (List.nil_sublist _) ?_
  refine aw_conv (t:=2) (v:=.c (txs true [])) (fun S w u hr=>repC_nil hr) rfl ?_
  refine xS ?_
  refine xU ?_
  rw [hc]
  exact⟨rfl,[],rfl,rfl⟩
 ·rename_i hi' hk h35 hlt hdg hnl h1
  have hc:=split_err hsp hi' (by rw [stepT_dig hk h35 hlt hdg,if_pos ⟨hnl,.inl (by unfold isIns;rw [hb];simp)⟩])
  refine aw_weak (h':=[]) (fun t=>.inr rfl) (List.nil_sublist _) ?_
  refine aw_conv (t:=2) (v:=.c (txs true [])) (fun S w u hr=>repC_nil hr) rfl ?_
  refine xS ?_
  refine xU ?_
  rw [hc]
  exact⟨rfl,[],rfl,rfl⟩
 ·rename_i hi' hk h35 hlt hdg hnl h1 h2
  have hc:=split_err hsp hi' (by rw [stepT_dig hk h35 hlt hdg,if_pos ⟨hnl,.inl (by unfold isIns;rw [hb];simp)⟩])
  refine aw_weak (h':=[]) (fun t=>.inr rfl) (List.nil_sublist _) ?_
  refine aw_conv (t:=2) (v:=.c (txs true [])) (fun S w u hr=>repC_nil hr) rfl ?_
  refine xS ?_
  refine xU ?_
  rw [hc]
  exact⟨rfl,[],rfl,rfl⟩
 ·rename_i hi' hk h35 hlt hdg hnl h1 h2 h3
  have hc:=split_err hsp hi' (by rw [stepT_dig hk h35 hlt hdg,if_pos ⟨hnl,.inr hb⟩])
  refine aw_weak (h':=[]) (fun t=>.inr rfl) (List.nil_sublist _) ?_
  refine aw_conv (t:=2) (v:=.c (txs true [])) (fun S w u hr=>repC_nil hr) rfl ?_
  refine xS ?_
  refine xU ?_
  rw [hc]
  exact⟨rfl,[],rfl,rfl⟩
 ·rename_i hi' hk h35 hlt hdg hnl h1 h2 h3
  have hp:=split_tok hsp hi' (k:=1) (e:=numE l i) (by rw [stepT_dig hk h35 hlt hdg,if_neg (fun z=>z.2.elim (ins_no h1 (numE_at hnl) h2 h3) hb)]) (i:Int) line ((i:Int)-start+1)
  have hp2:=stepT_tok (k:=1) (e:=numE l i) hi' (by rw [stepT_dig hk h35 hlt hdg,if_neg (fun z=>z.2.elim (ins_no h1 (numE_at hnl) h2 h3) hb)])
  refine aw_push (pre:=[]) rfl rfl rfl rfl rfl rfl rfl eE eE (by rfl) om om eE om (by exact hog) eE (by rfl) (by rfl) (by first|rfl|simp only [Nat.mul_one,List.nil_append,List.cons_append]<;>rfl) (by unfold maxLen;omega) om (by exact lf_push hn (⟨⟨1,cutS l i (numE l i)⟩,i,line,(i:Int)-start+1⟩:TX) om) fun g hn_g=> ?_
  replace hn_g:=Heap.ne_of hn_g
  first|dsimp only [Heap.ne,gh] at hn_g|dsimp only [Heap.ne] at hn_g|skip
  refine yS hn_g ?_
  repeat' first|refine zV hn_g ?_|refine zH hn_g (fun hb=>?_) fun hb=>?_|fail
  exact aw_stop ⟨(numE l i,some g,n+1,out++[⟨⟨1,cutS l i (numE l i)⟩,i,line,(i:Int)-start+1⟩],line,start),by dsimp only;omega,(zB hn_g),List.Sublist.refl _,by dsimp only;omega,some_ne,by dsimp only;omega,by dsimp only;rw [List.length_append,hn];rfl,by dsimp only;omega,by dsimp only;omega,by dsimp only;omega,by dsimp only;omega,hp⟩
 ·rename_i hi' hk h35 hlt hdg
  have hp:=split_tok hsp hi' (k:=1) (e:=numE l i) (by rw [stepT_dig hk h35 hlt hdg,if_neg (fun z=>hb z.1)]) (i:Int) line ((i:Int)-start+1)
  have hp2:=stepT_tok (k:=1) (e:=numE l i) hi' (by rw [stepT_dig hk h35 hlt hdg,if_neg (fun z=>hb z.1)])
  refine aw_push (pre:=[]) rfl rfl rfl rfl rfl rfl rfl eE eE (by rfl) om om eE om (by exact hog) eE (by rfl) (by rfl) (by first|rfl|simp only [Nat.mul_one,List.nil_append,List.cons_append]<;>rfl) (by unfold maxLen;omega) om (by exact lf_push hn (⟨⟨1,cutS l i (numE l i)⟩,i,line,(i:Int)-start+1⟩:TX) om) fun g hn_g=> ?_
  replace hn_g:=Heap.ne_of hn_g
  first|dsimp only [Heap.ne,gh] at hn_g|dsimp only [Heap.ne] at hn_g|skip
  refine yS hn_g ?_
  repeat' first|refine zV hn_g ?_|refine zH hn_g (fun hb=>?_) fun hb=>?_|fail
  exact aw_stop ⟨(numE l i,some g,n+1,out++[⟨⟨1,cutS l i (numE l i)⟩,i,line,(i:Int)-start+1⟩],line,start),by dsimp only;omega,(zB hn_g),List.Sublist.refl _,by dsimp only;omega,some_ne,by dsimp only;omega,by dsimp only;rw [List.length_append,hn];rfl,by dsimp only;omega,by dsimp only;omega,by dsimp only;omega,by dsimp only;omega,hp⟩
 ·rename_i hi' hk h35 hlt hdg
  have hp:=split_tok hsp hi' (k:=2) (e:=i+1) (by rw [stepT_els hk h35 hlt hdg,hb];rfl) (i:Int) line ((i:Int)-start+1)
  have hp2:=stepT_tok (k:=2) (e:=i+1) hi' (by rw [stepT_els hk h35 hlt hdg,hb];rfl)
  refine aw_push (pre:=[]) rfl rfl rfl rfl rfl rfl rfl eE eE (by rfl) om om eE om (by exact hog) eE (by rfl) (by rfl) (by first|rfl|simp only [Nat.mul_one,List.nil_append,List.cons_append]<;>rfl) (by unfold maxLen;omega) om (by exact lf_push hn (⟨⟨2,cutS l i (i+1)⟩,i,line,(i:Int)-start+1⟩:TX) om) fun g hn_g=> ?_
  replace hn_g:=Heap.ne_of hn_g
  first|dsimp only [Heap.ne,gh] at hn_g|dsimp only [Heap.ne] at hn_g|skip
  refine yS hn_g ?_
  repeat' first|refine zV hn_g ?_|refine zH hn_g (fun hb=>?_) fun hb=>?_|fail
  exact aw_stop ⟨(i+1,some g,n+1,out++[⟨⟨2,cutS l i (i+1)⟩,i,line,(i:Int)-start+1⟩],line,start),by dsimp only;omega,(zB hn_g),List.Sublist.refl _,by dsimp only;omega,some_ne,by dsimp only;omega,by dsimp only;rw [List.length_append,hn];rfl,by dsimp only;omega,by dsimp only;omega,by dsimp only;omega,by dsimp only;omega,hp⟩
 ·rename_i hi' hk h35 hlt hdg
  have hc:=split_err hsp hi' (by rw [stepT_els hk h35 hlt hdg,hb];rfl)
  refine aw_weak (h':=[]) (fun t=>.inr rfl) (List.nil_sublist _) ?_
  refine aw_conv (t:=2) (v:=.c (txs true [])) (fun S w u hr=>repC_nil hr) rfl ?_
  refine xS ?_
  refine xU ?_
  rw [hc]
  exact⟨rfl,[],rfl,rfl⟩
 ·have hc:=split_end hsp hb
  rw [show gh og 150 (n*5) (txsF out)=gh og 150 (n*5) (txsF out)++[] from(List.append_nil _).symm]
  refine aw_frzGT (t:=2) (n':=out.length) (f':=txsF out) hog hn.symm eE (fun g _ h=>by simpa [Heap.keys] using (hC g).1 h) (fun _ _=>rfl) rfl ?_
  refine xS ?_
  refine xU ?_
  rw [hc]
  exact⟨rfl,out,rfl,rfl⟩
end Go.Proofs.YtnmeahogifekdaaGreatDoor
namespace Go.PN
structure Perm0 (o:List Int):Prop where
 range:∀x∈o,0≤x∧x<o.length
 nodup:o.Nodup
theorem nodup_le:∀{l m:List Int},l.Nodup→(∀x∈l,x∈m)→l.length≤m.length
 |[],m,_,_=>by simp
 |a::l,m,hn,hs=>by
  simp only [List.nodup_cons] at hn
  have ha:=hs a (by simp)
  have:=nodup_le (l:=l) (m:=m.erase a) hn.2 fun x hx=>(List.mem_erase_of_ne (fun e=>hn.1 (by rw [←e];exact hx))).2 (hs x (by simp [hx]))
  rw [List.length_erase_of_mem ha] at this
  have:0<m.length:=List.length_pos_of_mem ha
  simp only [List.length_cons]
  omega
theorem Perm0.all {o:List Int} (h:Perm0 o) {j:Nat} (hj:j<o.length):(j:Int)∈o:=by
 by_cases hm:(j:Int)∈o
 ·exact hm
 ·exfalso
  have:=nodup_le (l:=(j:Int)::o) (m:=(List.range o.length).map (fun k:Nat=>(k:Int))) (by simp only [List.nodup_cons];exact⟨hm,h.nodup⟩) (fun x hx=>by
   rw [List.mem_map]
   rcases List.mem_cons.1 hx with rfl|hx
   ·exact⟨j,by simpa using hj,rfl⟩
   ·obtain⟨h1,h2⟩:=h.range x hx
    exact⟨x.toNat,by simp;omega,by omega⟩)
  simp at this
  omega
end Go.PN
namespace Go.AI
theorem updF_ofL {xs bs:List CV} (h:xs.length=bs.length):updF (ofL xs) 0 bs=ofL bs:=by
 funext j
 by_cases hj:j<bs.length
 ·have:=updF_in bs (ofL xs) 0 j hj
  rw [Nat.zero_add] at this
  exact this
 ·rw [updF_out _ _ _ _ om,ofL_at,ofL_at,List.getElem?_eq_none om,List.getElem?_eq_none om]
@[go_sem ↓] theorem updF_1 (a b:CV):updF (ofL [a]) 0 [b]=ofL [b]:=updF_ofL rfl
@[go_sem ↓] theorem updF_2 (a b c d:CV):updF (ofL [a,b]) 0 [c,d]=ofL [c,d]:=updF_ofL rfl
@[go_sem ↓] theorem updF_3 (a b c x y z:CV):updF (ofL [a,b,c]) 0 [x,y,z]=ofL [x,y,z]:=updF_ofL rfl
end Go.AI
namespace Go.AI
open Go.PN
theorem rats_push {vs:List RD} {n:Nat} (hn:vs.length=n) (v:RD):∀j,j<(n+1)*3→appF (ratsF vs) (n*3) (ofL [.bool v.neg,ws true v.num,ws true v.den]) j=ratsF (vs++[v]) j:=lf_push (c:=fun r:RD=>[CV.bool r.neg,ws true r.num,ws true r.den]) hn v om
end Go.AI
namespace Go.PN
open Go.AI
structure NodeOk (m k:Nat) (n:DN):Prop where
 v0:0≤n.v
 v1:n.v<m
 l0:0≤n.lo
 l1:n.lo<k+2
 h0:0≤n.hi
 h1:n.hi<k+2
end Go.PN

namespace Go.PN
open Go.AI
theorem sq_one {k:Nat} (h:k≠0):sq false k k=1:=by
 unfold sq sgn
 have:=Rat.mkRat_mul_left (n:=1) (d:=1) h
 rw [Int.mul_one,Nat.mul_one] at this
 simp only [Bool.false_eq_true,if_false]
 rw [this]
 rfl
theorem sq_div (x y:Bool) {n m d e:Nat} (hm:m≠0) (he:e≠0):sq (x !=y) (n*e) (d*m)=sq x n d/sq y m e:=by
 have h1:sq y m e*sq y e m=1:=by
  rw [←sq_mul,Nat.mul_comm e m,bne_self_eq_false]
  exact sq_one (Nat.mul_ne_zero hm he)
 have hb:sq y m e≠0:=fun h=>by rw [h,Rat.zero_mul] at h1;exact absurd h1 (by decide)
 have h2:(sq y m e)⁻¹=sq y e m:=by
  have h3:=Rat.inv_mul_cancel (sq y m e) hb
  have h4:(sq y m e)⁻¹*(sq y m e*sq y e m)=sq y e m:=by rw [←Rat.mul_assoc,h3,Rat.one_mul]
  rw [h1,Rat.mul_one] at h4
  exact h4
 rw [sq_mul,Rat.div_def,h2]
theorem RD.pn_ne {r:RD} (h:r.q≠0):r.pn≠0:=fun e=>h (by unfold RD.q;rw [e,sq_zero])
theorem q_div {a b:RD} {L:Nat} (hb:b.wf L) (hz:b.q≠0):sq (a.ps !=b.ps) (a.pn*b.pd) (a.pd*b.pn)=a.q/b.q:=sq_div _ _ (RD.pn_ne hz) (RD.pd_ne hb)
theorem fits_inv {q:Rat} {L:Nat} (h:fits q L) (hz:q≠0):fits q⁻¹ L:=by
 obtain⟨h1,h2⟩:=h
 have hn:q.num≠0:=fun e=>hz (Rat.num_eq_zero.1 e)
 have h3:(rd q).q=q:=rd_q q
 obtain⟨p1,p2,p3⟩:(rd q).ps=decide (q.num<0)∧(rd q).pn=q.num.natAbs∧(rd q).pd=q.den:=by
  have hs:=(rd_some hz).1
  unfold RD.ps RD.pn RD.pd
  rw [if_pos hs,if_pos hs,if_pos hs]
  unfold rd
  rw [if_neg hn]
  exact⟨rfl,val_words _,val_words _⟩
 have h4:q=sq (decide (q.num<0)) q.num.natAbs q.den:=by
  have:(rd q).q=sq (rd q).ps (rd q).pn (rd q).pd:=rfl
  rw [h3,p1,p2,p3] at this
  exact this
 have h5:sq false 1 1=1:=sq_one om
 have h6:=sq_div false (decide (q.num<0)) (n:=1) (d:=1) (m:=q.num.natAbs) (e:=q.den) om q.den_nz
 rw [h5,←h4,Rat.div_def,Rat.one_mul,Nat.one_mul,Nat.one_mul] at h6
 rw [←h6]
 exact fits_sq om h2 h1
theorem fits_div {a b:Rat} {L M:Nat} (ha:fits a L) (hb:fits b M) (hz:b≠0):fits (a/b) (L+M):=by
 rw [Rat.div_def]
 exact fits_mul ha (fits_inv hb hz)
end Go.PN
namespace Go.Proofs.YtnmeahogifekdaaGreatDoor
open Go.AI Go.PN
attribute [local irreducible] aw Fa Fh DrK
theorem rdiv_fa (a b:RD) (ha:a.wf 1073741824) (hb:b.wf 1073741824) (hz:b.q≠0):Fa Tryz.prog 262 [.agg (rdc a),.agg (rdc b)] (.tup [.agg (rdc (rd (a.q/b.q))),.c .nilI]):=by
 obtain⟨l1,l2⟩:=RD.p_len ha om
 obtain⟨l3,l4⟩:=RD.p_len hb om
 have dd:a.pd*b.pn≠0:=Nat.mul_ne_zero (RD.pd_ne ha) (RD.pn_ne hz)
 have m1:=words_mul_len a.pn b.pd
 have m3:=words_mul_len a.pd b.pn
 have hl:(((words b.pn).length:Int)==0)=false:=by
  rw [beq_eq_false_iff_ne]
  intro e
  exact RD.pn_ne hz (words_eq_nil.1 (List.length_eq_zero_iff.1 om))
 refine fa_of_body Tryz.func262 rfl rfl (by simp [Tryz.ntmps262]) fun C hC=> ?_
 simp only [initS,Nat.reduceAdd]
 refine yG hl ?_
 refine yB hl fun g2 hn_g2=>?_
 refine yB (oj hl hn_g2) fun g3 hn_g3=>?_
 refine yA (oj hl (oj hn_g2 hn_g3)) fun g4 hn_g4=>?_
 have J1:=oj hl (oj hn_g2 (oj hn_g3 hn_g4))
 refine yG J1 ?_
 refine yC J1 (rparts_fa a ha) ?_
 refine yG J1 ?_
 refine yC J1 (rparts_fa b hb) ?_
 refine yG J1 ?_
 refine yN J1 ?_
 refine yG J1 ?_
 refine yC J1 (mulW _ _ ?_ ?_) ?_
 ·omega
 ·omega
 refine yG J1 ?_
 refine yC J1 (mulW _ _ ?_ ?_) ?_
 ·omega
 ·omega
 refine yG J1 ?_
 refine yC J1 (rform_fa _ _ _ ?_ ?_ dd) ?_
 ·omega
 ·omega
 rw [q_div hb hz]
 refine yGWSGT hC J1 ?_
 exact .tup ⟨.agg lerl_rd,.c .nilI,trivial⟩
theorem rdiv_zero (a b:RD) (ha:a.wf 1073741824) (hb:b.wf 1073741824) (hz:b.q=0):Fa Tryz.prog 262 [.agg (rdc a),.agg (rdc b)] (.tup [.agg (rdc rd0),.c (errA 8)]):=by
 have hp:b.pn=0:=Classical.byContradiction fun h=>sq_ne h (RD.pd_ne hb) hz
 have hl:(((words b.pn).length:Int)==0)=true:=by rw [hp,words_zero];rfl
 refine fa_of_body Tryz.func262 rfl rfl (by simp [Tryz.ntmps262]) fun C hC=> ?_
 simp only [initS,Nat.reduceAdd]
 refine yG hl ?_
 refine yB hl fun g2 hn_g2=>?_
 refine yB (oj hl hn_g2) fun g3 hn_g3=>?_
 refine yA (oj hl (oj hn_g2 hn_g3)) fun g4 hn_g4=>?_
 have J1:=oj hl (oj hn_g2 (oj hn_g3 hn_g4))
 refine yG J1 ?_
 refine yC J1 (rparts_fa a ha) ?_
 refine yG J1 ?_
 refine yC J1 (rparts_fa b hb) ?_
 refine yG J1 ?_
 refine yP J1 ?_
 refine yGWSGT hC J1 ?_
 exact .tup ⟨.agg ⟨.bool _,.nils,.nils,trivial⟩,.c (ler_errN rfl (by decide)),trivial⟩
end Go.Proofs.YtnmeahogifekdaaGreatDoor
namespace Go.PN
open Go.AI
theorem natB_take {s:BS} {i:Nat} (h:i<s.length):natB (s.take (i+1))=natB (s.take i)*10+(bAt s i-48):=by
 unfold natB
 rw [List.take_succ_eq_append_getElem h,List.foldl_append,bAt_get h];rfl
theorem dig_le {n:Nat} (h:isDig n=true):48≤n∧n≤57:=by
 unfold isDig at h
 simp only [Bool.and_eq_true,decide_eq_true_eq] at h
 exact h
theorem natB_lt {s:BS} (hd:∀i,i<s.length→isDig (bAt s i)=true):∀i,i≤s.length→natB (s.take i)<10^i
 |0,_=>by simp [natB]
 |i+1,h=>by
  have h1:=natB_lt hd i om
  have h2:=dig_le (hd i om)
  rw [natB_take om,Nat.pow_succ]
  omega
theorem nat_fits {n L:Nat} (h:n<4294967296^L) (hL:1≤L):fits (n:Rat) L:=by
 have h1:(1:Nat)<4294967296^L:=Nat.one_lt_pow om (by decide)
 exact⟨by simpa using h,by simpa using h1⟩
theorem pow10_lt (k:Nat):10^k<4294967296^(k+1):=Nat.lt_of_le_of_lt (Nat.pow_le_pow_left (by decide) k) (Nat.pow_lt_pow_right (by decide) om)
theorem natB_fits {s:BS} (hd:∀i,i<s.length→isDig (bAt s i)=true) {i:Nat} (hi:i≤s.length):fits (natB (s.take i):Rat) (i+1):=
 nat_fits (Nat.lt_trans (natB_lt hd i hi) (pow10_lt i)) om
theorem step10 {s:BS} {i:Nat} (h:i<s.length) (hd:isDig (bAt s i)=true):(natB (s.take i):Rat)*((10:Int):Rat)+(((bAt s i:Nat):Int)-48:Int)=(natB (s.take (i+1)):Rat):=by
 have h2:=dig_le hd
 rw [natB_take h]
 have:(((bAt s i:Nat):Int)-48:Int)=((bAt s i-48:Nat):Int):=by omega
 rw [this]
 push_cast
 rfl
theorem fitsZ {n:Int} (h:n.natAbs<4294967296):fits (n:Rat) 1:=⟨by simpa using h,by simp⟩
end Go.PN
namespace Go.Proofs.YtnmeahogifekdaaGreatDoor
open Go.AI Go.PN
theorem zero_cells:∀j,j<3→∀(S:Bool→Nat→Prop) w u,RepC S w (ofL [.bool false,.nils,.nils] j) u→RepC S w (ofL (rdc rd0) j) u:=fun j hj S w u hr=>by
 match j,hj with
 |0,_=>exact hr
 |1,_=>exact repC_nil hr
 |2,_=>exact repC_nil hr
attribute [local irreducible] aw Fa Fh DrK
theorem twhole_fa (s:BS) (hd:∀i,i<s.length→isDig (bAt s i)=true) (hl:s.length≤1000):Fa Tryz.prog 263 [.c (.str (sB s))] (.agg (rdc (rd (natB s:Rat)))):=by
 refine fa_of_body Tryz.func263 rfl rfl (by simp [Tryz.ntmps263]) fun C hC=> ?_
 simp only [initS,Nat.reduceAdd]
 repeat' first|refine zV o0 ?_|refine zH o0 (fun hb=>?_) fun hb=>?_|fail
 refine xA fun g2 hn_g2=>?_
 repeat' first|refine zV hn_g2 ?_|refine zH hn_g2 (fun hb=>?_) fun hb=>?_|fail
 refine yA hn_g2 fun g3 hn_g3=>?_
 all_goals try(have Z:=(oj hn_g2 hn_g3);(repeat' first|refine zV Z ?_|refine zH Z (fun hb=>?_) fun hb=>?_|fail);all_goals clear Z)
 refine aw_convR (f':=ofL (rdc rd0)) zero_cells ?_
 refine aw_lp (fun x:Nat=>[(0,.c (.str (sB s))),(2,.c (.optr g2 0)),(3,.c (.optr g3 0)),(7,.c (.int .i64 s.length)),(8,.c (.int .i64 x))]) (fun x=>[(g3,.cells 47 3 (ofL (rdc (rd (natB (s.take x):Rat))))),(g2,.cells 47 3 (ofL [.bool false,.nils,.nils]))]) (fun x=>x≤s.length) (fun x=>s.length-x) 0 (zB (oj hn_g2 hn_g3)) (by rw [show rd (natB (s.take 0):Rat)=rd0 from rd_zero];exact List.Sublist.refl _) (Nat.zero_le _) ?_
 rintro x hx
 all_goals try(have Z:=(oj hn_g2 hn_g3);(repeat' first|refine zV Z ?_|refine zH Z (fun hb=>?_) fun hb=>?_|fail);all_goals clear Z)
 ·have hdx:=hd x hb
  have hx':=dig_le hdx
  have w0:(rd (natB (s.take x):Rat)).wf 1073741824:=rd_wf (fits_mono (natB_fits hd hx) om)
  have h10:=rof_fa 10 om om
  have w1:(rd ((10:Int):Rat)).wf 1073741824:=rd_wf (fits_mono (L:=1) ⟨by decide,by decide⟩ om)
  have hm:=rmul_fa _ _ w0 w1
  have w2:(rd ((natB (s.take x):Rat)*((10:Int):Rat))).wf 1073741824:=rd_wf (fits_mono (fits_mul (natB_fits hd hx) (L:=x+1) (M:=1) ⟨by decide,by decide⟩) om)
  rw [rd_q,rd_q] at hm
  have hs:=rof_fa (((bAt s x:Nat):Int)-48) om om
  have w3:(rd ((((bAt s x:Nat):Int)-48:Int):Rat)).wf 1073741824:=rd_wf (fits_mono (fitsZ om) om)
  have ha:=radd_fa _ _ w2 w3
  rw [rd_q,rd_q,step10 hb hdx] at ha
  refine aw_dr 10 ty_mixed (by kernel_rfl) ?_
  all_goals try(have Z:=(oj hn_g2 hn_g3);(repeat' first|refine zV Z ?_|(refine yC2 Z (h10) ?_)|(refine yD2 Z (h10) ?_)|(refine yC2 Z (hm) ?_)|(refine yD2 Z (hm) ?_)|(refine yC2 Z (hs) ?_)|(refine yD2 Z (hs) ?_)|(refine yC2 Z (ha) ?_)|(refine yD2 Z (ha) ?_)|refine zH Z (fun hb=>?_) fun hb=>?_|fail);all_goals clear Z)
  exact aw_stop ⟨x+1,by omega,(zB (oj hn_g2 hn_g3)),List.Sublist.refl _,by omega⟩
 ·refine yT hC (oj hn_g2 hn_g3) ?_
  obtain rfl:x=s.length:=by omega
  rw [List.take_length]
  exact .one (.agg lerl_rd)
end Go.Proofs.YtnmeahogifekdaaGreatDoor
