/- Parts of one proof, laid by a program. -/
import Derived.Test.YtfcnbgmclfkfcaaGreatM00
import Derived.Test.YtfcnbgmclfkfcaaGreatM01
set_option linter.unusedSimpArgs false
set_option linter.unusedVariables false
namespace Go.AI
section
variable {P : Program} {h : Heap} {ρ : Operand → AV}
def boundAV (ρ:Operand→AV) (dflt:Nat):Option Operand→Option Int
 |none=>some dflt
 |some x=>match ρ x with
  |.c (.int _ i)=>some i
  |_=>none
theorem run_sliceBounds {len cap:Nat} {l hi:Nat} {lo hi':Option Value} {w:World} (hlo:lo=none∧l=0∨∃k,lo=some (.int k l)) (hhi:hi'=none∧hi=len∨∃k,hi'=some (.int k hi)) (h1:l≤hi) (h2:hi≤cap) (hlc:len≤cap):
 (Instr.sliceBounds true len cap lo hi' none).run P w=.ok (l,hi,cap) w:=by
 unfold Instr.sliceBounds
 rcases hlo with ⟨rfl,rfl⟩|⟨k,rfl⟩<;>rcases hhi with ⟨rfl,rfl⟩|⟨k',rfl⟩<;>
  simp [Instr.sliceBound,asIntOf,h1,h2]
theorem POk.sliceR {t e size bytes n l hi:Nat} {tg:Bool} {f:Nat→CV} {x:Operand} {lo hi':Option Operand} (ht:tElem P t=some (e,size,bytes)) (hx:ρ x=.c (.row tg size n f)) (hlo:boundAV ρ 0 lo=some (l:Int)) (hhi:boundAV ρ n hi'=some (hi:Int)) (h1:l≤hi) (h2:hi≤n):
 POk P h ρ (.slice t x lo hi' none) (.c (.row tg size (hi-l) fun j=>f (l*size+j))):=fun S w ev' hS ho _=>by
 have r:=ho x (by simp [Op.operands])
 rw [hx] at r
 obtain⟨A,c,hv,hc,hn⟩:=r
 obtain⟨hu,inf,hi0,hsz,_⟩:=tElem_spec ht
 have hlo':lo.map ev'=none∧l=0∨∃k,lo.map ev'=some (.int k l):=by
  cases lo with
  |none=>simp only [boundAV,Option.some.injEq] at hlo;exact .inl ⟨rfl,by omega⟩
  |some y=>
   have ry:=ho y (by simp [Op.operands])
   simp only [boundAV] at hlo
   split at hlo
   ·rename_i k i hy;rw [hy] at ry;injection hlo with hlo;subst hlo;exact .inr ⟨k,by simp;exact ry⟩
   ·cases hlo
 have hhi':hi'.map ev'=none∧hi=n∨∃k,hi'.map ev'=some (.int k hi):=by
  cases hi' with
  |none=>simp only [boundAV,Option.some.injEq] at hhi;exact .inl ⟨rfl,by omega⟩
  |some y=>
   have ry:=ho y (by simp [Op.operands])
   simp only [boundAV] at hhi
   split at hhi
   ·rename_i k i hy;rw [hy] at ry;injection hhi with hhi;subst hhi;exact .inr ⟨k,by simp;exact ry⟩
   ·cases hhi
 refine⟨.slice (if c=l then A else A.map (·.add (l*size))) (hi-l) (c-l),fun o hop=> ?_,?_⟩
 ·simp only [execOp,hop,Instr.sliceAt,run_underlying hu,Sem.run_bind,Result.andThen_ok,Instr.slice,hv]
  simp [run_sliceBounds hlo' hhi' h1 om hc,sizeOf,typeInfo,hi0,hsz]
 ·refine⟨_,_,rfl,by omega,fun h0=> ?_⟩
  have hlt:l<hi:=by
   rcases Nat.lt_or_ge l hi with hl|hl
   ·exact hl
   ·rw [show hi-l=0 from by omega] at h0;simp at h0
  have hm1:(hi-l)*size+l*size=hi*size:=by rw [←Nat.add_mul];congr 1;omega
  have hm2:hi*size≤n*size:=Nat.mul_le_mul_right _ h2
  obtain⟨ad,hA,hb,hj⟩:=hn om
  subst hA
  rw [if_neg om]
  refine⟨ad.add (l*size),rfl,by rw [block_add];exact hb,fun j hjl=> ?_⟩
  rw [add_add]
  exact hj _ om
theorem POk.sliceO {t e size bytes g off n l hi:Nat} {x:Operand} {lo hi':Option Operand} (ht:tElem P t=some (e,size,bytes)) (hx:ρ x=.c (.osl g size off n)) (hlo:boundAV ρ 0 lo=some (l:Int)) (hhi:boundAV ρ n hi'=some (hi:Int)) (h1:l≤hi) (h2:hi≤n) (h3:l=0∨l<hi):
 POk P h ρ (.slice t x lo hi' none) (.c (.osl g size (off+l*size) (hi-l))):=fun S w ev' hS ho _=>by
 have r:=ho x (by simp [Op.operands])
 rw [hx] at r
 obtain⟨c,hv,hc,hcm,cs,ty,hb,hcs⟩:=r
 obtain⟨hu,inf,hi0,hsz,_⟩:=tElem_spec ht
 have hlo':lo.map ev'=none∧l=0∨∃k,lo.map ev'=some (.int k l):=by
  cases lo with
  |none=>simp only [boundAV,Option.some.injEq] at hlo;exact .inl ⟨rfl,by omega⟩
  |some y=>
   have ry:=ho y (by simp [Op.operands])
   simp only [boundAV] at hlo
   split at hlo
   ·rename_i k i hy;rw [hy] at ry;injection hlo with hlo;subst hlo;exact .inr ⟨k,by simp;exact ry⟩
   ·cases hlo
 have hhi':hi'.map ev'=none∧hi=n∨∃k,hi'.map ev'=some (.int k hi):=by
  cases hi' with
  |none=>simp only [boundAV,Option.some.injEq] at hhi;exact .inl ⟨rfl,by omega⟩
  |some y=>
   have ry:=ho y (by simp [Op.operands])
   simp only [boundAV] at hhi
   split at hhi
   ·rename_i k i hy;rw [hy] at ry;injection hhi with hhi;subst hhi;exact .inr ⟨k,by simp;exact ry⟩
   ·cases hhi
 refine⟨.slice (some ⟨g,off+l*size,none⟩) (hi-l) (c-l),fun o hop=> ?_,?_⟩
 ·simp only [execOp,hop,Instr.sliceAt,run_underlying hu,Sem.run_bind,Result.andThen_ok,Instr.slice,hv]
  have hsb:=run_sliceBounds (P:=P) (w:=w) hlo' hhi' h1 (show hi≤c from by omega) hc
  by_cases hcl:c=l
  ·have hl0:l=0:=by omega
   subst hl0
   subst hcl
   simp [hsb,sizeOf,typeInfo,hi0,hsz]
  ·simp [hsb,sizeOf,typeInfo,hi0,hsz,hcl,add_mk]
 ·refine⟨c-l,rfl,by omega,by omega,cs,ty,hb,?_⟩
  have hm1:(c-l)*size+l*size=c*size:=by rw [←Nat.add_mul];congr 1;omega
  omega
def sliceAV (P:Program) (ρ:Operand→AV) (t:TypeId) (x:Operand) (lo hi:Option Operand):Option (Prop×AV):=
 match ρ x with
 |.c (.row tg s n f)=>match tElem P t,boundAV ρ 0 lo,boundAV ρ n hi with
  |some (_,size,_),some l,some u=>some (s=size∧0≤l∧l≤u∧u≤n,.c (.row tg s (u.toNat-l.toNat) fun j=>f (l.toNat*s+j)))
  |_,_,_=>none
 |.c (.osl g s off n)=>match tElem P t,boundAV ρ 0 lo,boundAV ρ n hi with
  |some (_,size,_),some l,some u=>some (s=size∧0≤l∧l≤u∧u≤n∧(l=0∨l<u),.c (.osl g s (off+l.toNat*s) (u.toNat-l.toNat)))
  |_,_,_=>none
 |_=>none
theorem sliceAV_ok {t:TypeId} {x:Operand} {lo hi:Option Operand} {req:Prop} {r:AV} (hb:sliceAV P ρ t x lo hi=some (req,r)) (hreq:req):POk P h ρ (.slice t x lo hi none) r:=by
 unfold sliceAV at hb
 split at hb
 ·rename_i tg s n f hx
  split at hb
  ·rename_i e size bytes l u ht hl hu
   simp only [Option.some.injEq,Prod.mk.injEq] at hb
   obtain⟨rfl,rfl⟩:=hb
   obtain⟨rfl,h0,h1,h2⟩:=hreq
   exact POk.sliceR ht hx (by rw [hl];congr 1;omega) (by rw [hu];congr 1;omega) om om
  ·cases hb
 ·rename_i g s off n hx
  split at hb
  ·rename_i e size bytes l u ht hl hu
   simp only [Option.some.injEq,Prod.mk.injEq] at hb
   obtain⟨rfl,rfl⟩:=hb
   obtain⟨rfl,h0,h1,h2,h3⟩:=hreq
   exact POk.sliceO ht hx (by rw [hl];congr 1;omega) (by rw [hu];congr 1;omega) om om om
  ·cases hb
 ·cases hb
def tFlds (P:Program) (t:TypeId):Option (List (Nat×Nat)):=
 match P.underlying t with
 |some (.struct fs)=>fs.toList.mapM fun f=>(P.info? f.type).map fun j=>(f.offset,j.size)
 |_=>none
theorem tFlds_run {t:TypeId} {l:List (Nat×Nat)} (ht:tFlds P t=some l):∃fs,P.underlying t=some (.struct fs)∧∀w,(fs.mapM fun(f:Field)=>(do pure (f.offset,←sizeOf f.type):Sem (Nat×Nat))).run P w=.ok l.toArray w:=by
 unfold tFlds at ht
 split at ht
 ·rename_i fs hu
  refine⟨fs,hu,fun w=> ?_⟩
  have key:∀(fl:List Field) (l:List (Nat×Nat)),fl.mapM (fun f=>(P.info? f.type).map fun j=>(f.offset,j.size))=some l→(fl.mapM fun(f:Field)=>(do pure (f.offset,←sizeOf f.type):Sem (Nat×Nat))).run P w=.ok l w:=by
   intro fl
   induction fl with
   |nil=>intro l hl;simp at hl;subst hl;simp
   |cons f fl ih=>
    intro l hl
    rw [List.mapM_cons] at hl
    cases hi:P.info? f.type with
    |none=>rw [hi] at hl;cases hl
    |some j=>
     rw [hi] at hl
     cases hm:fl.mapM (fun f=>(P.info? f.type).map fun j=>(f.offset,j.size)) with
     |none=>rw [hm] at hl;cases hl
     |some l'=>
      rw [hm] at hl
      have:l=(f.offset,j.size)::l':=by injection hl with hl;exact hl.symm
      subst this
      rw [List.mapM_cons]
      have hs:(sizeOf f.type).run P w=.ok j.size w:=by simp [sizeOf,typeInfo,hi]
      simp only [Sem.run_bind,hs,Result.andThen_ok,Sem.run_pure,ih l' hm]
  have e:fs=fs.toList.toArray:=by simp
  rw [e,List.mapM_toArray]
  simp only [Sem.run_map,key _ _ ht,Result.andThen_ok]
 ·cases ht
def putC (zs:List CV) (off:Nat):List CV→List CV
 |[]=>zs
 |c::cs=>putC (zs.set off c) (off+1) cs
def fillC (fl:List (Nat×Nat)):List CV→List (Nat×List CV)→Option (List CV)
 |zs,[]=>some zs
 |zs,(i,cs)::rest=>match fl[i]? with
  |some (off,size)=>if cs.length=size∧off+size≤zs.length then fillC fl (putC zs off cs) rest else none
  |none=>none
theorem RepL.set {S:Bool→Nat→Prop} {w:World} {c:CV} {u:Value} (hc:RepC S w c u):∀(zs:List CV) (us:List Value) (k:Nat),RepL S w zs us→RepL S w (zs.set k c) (us.set k u)
 |[],[],_,_=>trivial
 |_::_,_::_,0,hr=>⟨hc,hr.2⟩
 |_::zs,_::us,k+1,hr=>⟨hr.1,RepL.set hc zs us k hr.2⟩
 |[],_::_,_,hr=>hr.elim
 |_::_,[],_,hr=>hr.elim
theorem fold_set {S:Bool→Nat→Prop} {w:World} (off:Nat):∀(cs:List CV) (vs:List Value) (zs:List CV) (us:Array Value) (k:Nat),RepL S w cs vs→RepL S w zs us.toList→
 RepL S w (putC zs (off+k) cs) ((vs.zipIdx k).foldl (fun a (p:Value×Nat)=>a.setIfInBounds (off+p.2) p.1) us).toList
 |[],[],zs,us,k,_,hz=>hz
 |c::cs,v::vs,zs,us,k,hc,hz=>by
  simp only [List.zipIdx_cons,List.foldl_cons,putC]
  exact fold_set off cs vs _ _ (k+1) hc.2 (by simpa using RepL.set hc.1 zs us.toList (off+k) hz)
 |[],_::_,_,_,_,hc,_=>hc.elim
 |_::_,[],_,_,_,hc,_=>hc.elim
theorem fold_set' {S:Bool→Nat→Prop} {w:World} (off:Nat) {cs:List CV} {v:Value} {zs:List CV} {us:Array Value} (hc:RepL S w cs v.cells.toList) (hz:RepL S w zs us.toList):
 RepL S w (putC zs off cs) (v.cells.zipIdx.foldl (fun a (c,j)=>a.setIfInBounds (off+j) c) us).toList:=by
 have:=fold_set (S:=S) (w:=w) off cs v.cells.toList zs us 0 hc hz
 rw [Nat.add_zero] at this
 rw [←Array.foldl_toList]
 simpa using this
theorem fillC_ok {S:Bool→Nat→Prop} {w:World} (fl:List (Nat×Nat)):∀(ps:List (Nat×List CV)) (vs:List (Nat×Value)) (zs:List CV) (us:Array Value) (out:List CV),(ps.map (·.1)=vs.map (·.1))→(∀(j:Nat) (p:Nat×List CV) (q:Nat×Value),ps[j]?=some p→vs[j]?=some q→RepL S w p.2 q.2.cells.toList)→RepL S w zs us.toList→fillC fl zs ps=some out→
 ∃us',Instr.fill (fl.toArray[·]?) us vs=some us'∧RepL S w out us'.toList
 |[],[],zs,us,out,_,_,hz,hf=>by simp only [fillC,Option.some.injEq] at hf;subst hf;exact⟨us,rfl,hz⟩
 |(i,cs)::ps,(i',v)::vs,zs,us,out,hm,hc,hz,hf=>by
  simp only [List.map_cons,List.cons.injEq] at hm
  obtain⟨rfl,hm⟩:=hm
  simp only [fillC] at hf
  split at hf
  ·rename_i off size hfl
   split at hf
   ·rename_i hle
    have h0:RepL S w cs v.cells.toList:=hc 0 _ _ rfl rfl
    have hs:v.cells.size=size:=by have:=h0.length;simp at this;omega
    have hus:us.size=zs.length:=by have:=hz.length;simpa using this
    obtain⟨us',h1,h2⟩:=fillC_ok fl ps vs _ _ out hm (fun j p q hp hq=>hc (j+1) p q (by simpa using hp) (by simpa using hq)) (fold_set' off h0 hz) hf
    refine⟨us',?_,h2⟩
    simp only [Instr.fill]
    rw [show fl.toArray[i]?=some (off,size) from by simpa using hfl]
    simp only
    rw [if_neg (by simp [hs,hus];omega)]
    exact h1
   ·cases hf
  ·cases hf
 |[],_::_,_,_,_,hm,_,_,_=>by simp at hm
 |_::_,[],_,_,_,hm,_,_,_=>by simp at hm
def AV.cells:AV→List CV
 |.c x=>[x]
 |.agg cs=>cs
 |.tup _=>[]
def CV.solid:CV→Bool
 |.any=>false
 |.raw v=>v.oneCell'
 |_=>true
theorem solid_one {S:Bool→Nat→Prop} {w:World} {x:CV} {v:Value} (hx:x.solid=true) (hr:RepC S w x v):v.oneCell'=true:=by
 cases x<;>simp only [CV.solid,reduceCtorEq] at hx
 case raw u=>exact(show v=u from hr)▸hx
 all_goals first
  |(have:v=_:=hr;rw [this];rfl)
  |(obtain⟨u,rfl,_⟩:=hr;rfl)
  |(obtain⟨u,rfl⟩:=hr;rfl)
  |(obtain⟨A,c,rfl,_⟩:=hr;rfl)
theorem rep_cells {S:Bool→Nat→Prop} {w:World} {x:AV} {v:Value} (ht:∀xs,x≠.tup xs) (hs:x.cells.all CV.solid=true) (hr:Rep S w x v):RepL S w x.cells v.cells.toList∧∀u∈v.cells,u.oneCell'=true:=by
 cases x with
 |tup xs=>exact absurd rfl (ht xs)
 |c x=>
  have h1:v.oneCell'=true:=solid_one (by simpa [AV.cells] using hs) hr
  have h2:v.cells= #[v]:=by cases v<;>first|rfl|(simp [Value.oneCell'] at h1)
  rw [h2]
  exact⟨⟨hr,trivial⟩,by simpa using h1⟩
 |agg cs=>
  obtain⟨us,rfl,hu⟩:=hr
  refine⟨by simpa [Value.cells,AV.cells] using hu,?_⟩
  have key:∀(cs:List CV) (us:List Value),cs.all CV.solid=true→RepL S w cs us→∀u∈us,u.oneCell'=true:=by
   intro cs
   induction cs with
   |nil=>intro us _ hr;cases us with
    |nil=>simp
    |cons=>exact hr.elim
   |cons c cs ih=>
    intro us hs hr
    cases us with
    |nil=>exact hr.elim
    |cons u us=>
     simp only [List.all_cons,Bool.and_eq_true] at hs
     intro x hx
     simp only [List.mem_cons] at hx
     rcases hx with rfl|hx
     ·exact solid_one hs.1 hr.1
     ·exact ih us hs.2 hr.2 x hx
  intro u hu'
  exact key cs us (by simpa [AV.cells] using hs) hu u (by simpa [Value.cells] using hu')
def buildAV (P:Program) (ρ:Operand→AV) (t:TypeId) (ps:List (Nat×Operand)):Option (Prop×AV):=
 match tFlds P t,tZero P t with
 |some fl,some z=>match fillC fl z (ps.map fun p=>(p.1,(ρ p.2).cells)) with
  |some out=>some (∀p∈ps,(∀xs,ρ p.2≠.tup xs)∧(ρ p.2).cells.all CV.solid=true,.agg out)
  |none=>none
 |_,_=>none
theorem tZero_spec {t:TypeId} {z:List CV} (hz:tZero P t=some z):∃i v,P.info? t=some i∧i.zero=some v∧z=v.cells.toList.map cstC:=by
 unfold tZero at hz
 cases hi:P.info? t with
 |none=>simp [hi] at hz
 |some i=>
  cases hv:i.zero with
  |none=>simp [hi,hv] at hz
  |some v=>simp [hi,hv] at hz;exact⟨i,v,rfl,hv,hz.symm⟩
theorem buildAV_ok {t:TypeId} {ps:List (Nat×Operand)} {req:Prop} {r:AV} (hb:buildAV P ρ t ps=some (req,r)) (hreq:req):POk P h ρ (.build t ps.toArray) r:=by
 unfold buildAV at hb
 split at hb
 ·rename_i fl z hfl hz
  split at hb
  ·rename_i out hout
   simp only [Option.some.injEq,Prod.mk.injEq] at hb
   obtain⟨rfl,rfl⟩:=hb
   intro S w e hS ho _
   obtain⟨fs,hu,hrun⟩:=tFlds_run hfl
   obtain⟨i,zv,hi,hzv,rfl⟩:=tZero_spec hz
   obtain⟨us',h1,h2⟩:=fillC_ok (S:=S) (w:=w) fl (ps.map fun p=>(p.1,(ρ p.2).cells)) (ps.map fun p=>(p.1,e p.2)) (zv.cells.toList.map cstC) zv.cells out (by simp)
    (fun j p q hp hq=>by
     rw [List.getElem?_map] at hp hq
     cases hj:ps[j]? with
     |none=>rw [hj] at hp;cases hp
     |some y=>
      rw [hj] at hp hq
      simp only [Option.map_some,Option.some.injEq] at hp hq
      subst hp
      subst hq
      have hm:y∈ps:=List.mem_of_getElem? hj
      obtain⟨hnt,hsol⟩:=hreq y hm
      exact(rep_cells hnt hsol (ho y.2 (by simp only [Op.operands,List.mem_toArray,List.mem_map];exact⟨y,hm,rfl⟩))).1)
    (cstL_rep S w _) hout
   refine⟨.agg us',fun o hop=> ?_,us'.toList,by simp,h2⟩
   have hmap:(Array.map (fun x:Nat×Operand=>(x.1,e x.2)) ps.toArray).toList=ps.map fun p=>(p.1,e p.2):=by simp
   simp only [execOp,hop,Instr.build,Sem.run_bind,zeroValue,typeInfo,run_program,hi,hzv,Result.andThen_ok,Sem.run_pure,run_underlying hu,hrun w]
   rw [hmap,h1]
   rfl
  ·cases hb
 ·cases hb
end
end Go.AI
namespace Go.AI
variable {E : Env} {K : List It} {σ σ' : Sl} {h : Heap} {all rest : List Oper} {o : Oper}
def sameB:Bool→Bool→Bool
 |true,true=>true
 |false,false=>true
 |true,false=>false
 |false,true=>false
def wantA (all:List Oper) (σ:Sl) (o:Oper):Option Bool:=
 match o.guard with
 |none=>some true
 |some (j,want)=>match (all[j]?).bind (·.dst) with
  |some t=>match σ.get t with
   |.c (.bool b)=>some (sameB b want)
   |.tup []=>some false
   |_=>none
  |none=>none
theorem St.wanted {N:Nat} {C:Ctx} {a:Act} {w:World} (s:St N C σ h a w) {b:Bool} (hw:wantA all σ o=some b):Region.wanted o (yielded all.toArray a.tmps)=b:=by
 unfold wantA at hw
 unfold Region.wanted
 cases hg:o.guard with
 |none=>rw [hg] at hw;injection hw
 |some p=>
  obtain⟨j,want⟩:=p
  rw [hg] at hw
  simp only at hw⊢
  split at hw
  ·rename_i t ht
   split at hw
   ·rename_i b' hb
    injection hw with hw
    have hs:=s.slots t
    rw [hb] at hs
    have hs':a.tmps.getD t undef=.bool b':=hs
    have hlt:t<a.tmps.size:=by
     rcases Nat.lt_or_ge t a.tmps.size with hl|hl
     ·exact hl
     ·simp [Array.getD,Nat.not_lt.2 hl,undef] at hs'
    have hq:a.tmps[t]?=some (.bool b'):=by
     simp [Array.getD,hlt] at hs'
     simp [hlt,hs']
    have:yielded all.toArray a.tmps j=some b':=by
     unfold yielded
     rw [show((all.toArray[j]?).bind (·.dst))=some t from by simpa using ht]
     simp [hq]
    rw [this,←hw]
    cases b'<;>cases want<;>rfl
   ·rename_i hb
    injection hw with hw
    subst hw
    have hs:=s.slots t
    rw [hb] at hs
    obtain⟨us,hs',hu⟩:=hs
    have hy:yielded all.toArray a.tmps j=none:=by
     unfold yielded
     rw [show((all.toArray[j]?).bind (·.dst))=some t from by simpa using ht]
     simp only [Option.bind_some]
     rw [Array.getD_eq_getD_getElem?] at hs'
     cases h4:a.tmps[t]? with
     |none=>rfl
     |some v=>
      rw [h4] at hs'
      have h5:v=.tuple us.toArray:=hs'
      subst h5
      rfl
    rw [hy];rfl
   ·cases hw
  ·cases hw
theorem ev_rep {N:Nat} {C:Ctx} {a:Act} {w:World} (s:St N C σ h a w) (x:Operand):Rep (Stab C h w) w (ev σ x) (a.eval x):=by
 cases x with
 |tmp t=>exact s.slots t
 |const v=>exact cst_rep _ _ v
 |global g=>exact rfl
 |func f=>exact rfl
theorem Stab.mono' {C:Ctx} {h:Heap} {w:World} (b:Nat) (hb:Stab C h w true b):Stab C h w false b:=⟨hb.1.imp (C.mono b) id,hb.2⟩
def dstOk (N:Nat):Option Nat→Bool
 |some d=>decide (d<N)
 |none=>true
theorem St.put {N:Nat} {C:Ctx} {a:Act} {w:World} (s:St N C σ h a w) {d:Option Nat} (hd:dstOk N d=true) {r:AV} {v:Value} (hr:Rep (Stab C h w) w r v):St N C (σ.setO d r) h (a.put d v) w:=by
 cases d with
 |none=>exact s
 |some d=>
  have hd':d<N:=by simpa [dstOk] using hd
  refine⟨by simp [Act.put,s.size],s.defers,fun t=> ?_,s.heap,s.nodup,s.keys,s.frame⟩
  simp only [Sl.setO,Sl.get_set,Act.put]
  by_cases e:d=t
  ·subst e
   have:d<a.tmps.size:=by rw [s.size];exact hd'
   simp [Array.getD,this,hr]
  ·rw [if_neg e]
   have h1:=s.slots t
   have:(a.tmps.setIfInBounds d v).getD t undef=a.tmps.getD t undef:=by
    rw [Array.getD_eq_getD_getElem?,Array.getD_eq_getD_getElem?,Array.getElem?_setIfInBounds_ne e]
   rw [this]
   exact h1
theorem aw_step {h':Heap} (hw:wantA all σ o=some true)
 (hs:∀a w,St E.N E.C σ h a w→∃v w',((execOp a.eval o).run E.P w=.ok (.value v) w'∨((execOp a.eval o).run E.P w=.ok .skip w'∧v=undef))∧St E.N E.C σ' h' (a.put o.dst v) w')
 (k:aw E (.ops all rest::K) σ' h'):aw E (.ops all (o::rest)::K) σ h:=fun a w s=>by
 show wpList _ _ _ _ _ _
 unfold wpList
 rw [if_pos (s.wanted hw)]
 refine .inl ?_
 obtain⟨v,w',hrun,s'⟩:=hs a w s
 have hk:=k _ _ s'
 unfold Oper.wp
 rcases hrun with hrun|⟨hrun,rfl⟩
 ·rw [hrun];exact hk
 ·rw [hrun];exact hk
theorem aw_skipped (hw:wantA all σ o=some false) (hd:dstOk E.N o.dst=true) (hσ:σ.setO o.dst (.tup [])=σ') (k:aw E (.ops all rest::K) σ' h):aw E (.ops all (o::rest)::K) σ h:=fun a w s=>by
 subst hσ
 show wpList _ _ _ _ _ _
 unfold wpList
 rw [if_neg (by rw [s.wanted hw];simp)]
 exact k _ _ (s.put hd (r:=.tup []) ⟨[],rfl,trivial⟩)
theorem aw_pure {r:AV} (hw:wantA all σ o=some true) (ho:POk E.P h (ev σ) o.op r) (hd:dstOk E.N o.dst=true) (hσ:σ.setO o.dst r=σ') (k:aw E (.ops all rest::K) σ' h):
 aw E (.ops all (o::rest)::K) σ h:=by
 subst hσ
 refine aw_step hw (fun a w s=> ?_) k
 obtain⟨v,hrun,hr⟩:=ho (Stab E.C h w) w a.eval Stab.mono' (fun x _=>ev_rep s x) s.heap
 exact⟨v,w,.inl (hrun o rfl),s.put hd hr⟩
theorem St.new {N:Nat} {C:Ctx} {a:Act} {w w':World} {g:Nat} {ob:AObj} (s:St N C σ h a w) (hg:g=w.heap.size) (hfr:Fr (fun _=>False) w w') (hlt:g<w'.heap.size)
 (ho:ORep (Stab C ((g,ob)::h) w') w' g ob):St N C σ ((g,ob)::h) a w':=by
 have hnk:g∉h.keys:=fun hm=>by have:=s.klt hm;omega
 have kp:Keeps (Stab C h w) (Stab C ((g,ob)::h) w') w w':=by
  refine⟨fun t b hb=>⟨hb.1,Nat.lt_of_lt_of_le hb.2.1 hfr.size,?_⟩,fun t b hb=>hfr.block b hb.2.1 (fun x=>x),hfr.has⟩
  have:=hb.2.1
  simp only [Heap.keys,List.map_cons,List.mem_cons,not_or]
  exact⟨by omega,hb.2.2⟩
 refine⟨s.size,s.defers,fun t=>Rep.keep kp (s.slots t),fun g' o' hm=> ?_,?_,fun g' hg'=> ?_,?_⟩
 ·simp only [List.mem_cons,Prod.mk.injEq] at hm
  rcases hm with ⟨rfl,rfl⟩|hm
  ·exact ho
  ·have h1:=s.heap g' o' hm
   exact ORep.keep kp (hfr.block g' h1.lt (fun x=>x)) h1
 ·simp only [Heap.keys,List.map_cons,List.nodup_cons]
  exact⟨hnk,s.nodup⟩
 ·simp only [Heap.keys,List.map_cons,List.mem_cons] at hg'
  rcases hg' with rfl|hg'
  ·right;have:=s.frame.size;omega
  ·exact s.keys g' hg'
 ·exact s.frame.trans hfr (fun x hx _=>hx.elim)
theorem aw_new {r:Nat→AV} {ob:AObj} (hw:wantA all σ o=some true) (hd:dstOk E.N o.dst=true)
 (hrun:∀a w,St E.N E.C σ h a w→∃v w',(execOp a.eval o).run E.P w=.ok (.value v) w'∧Fr (fun _=>False) w w'∧w.heap.size<w'.heap.size∧
  ORep (Stab E.C ((w.heap.size,ob)::h) w') w' w.heap.size ob∧Rep (Stab E.C ((w.heap.size,ob)::h) w') w' (r w.heap.size) v)
 (k:∀g,g∉h.keys→aw E (.ops all rest::K) (σ.setO o.dst (r g)) ((g,ob)::h)):aw E (.ops all (o::rest)::K) σ h:=fun a w s=>by
 obtain⟨v,w',hr,hfr,hlt,ho,hrep⟩:=hrun a w s
 have hnk:w.heap.size∉h.keys:=fun hm=>Nat.lt_irrefl _ (s.klt hm)
 have s':=(s.new rfl hfr hlt ho).put hd hrep
 have hk:=k _ hnk _ _ s'
 show wpList _ _ _ _ _ _
 unfold wpList
 rw [if_pos (s.wanted hw)]
 refine .inl ?_
 unfold Oper.wp
 rw [hr]
 exact hk
def ofL:List CV→Nat→CV
 |[],_=>.any
 |c::cs,n=>match n with
  |0=>c
  |n+1=>ofL cs n
theorem ofL_get:∀(cs:List CV) (j:Nat) (c:CV),cs[j]?=some c→ofL cs j=c
 |[],j,c,e=>by simp at e
 |a::cs,0,c,e=>by simpa [ofL] using e
 |a::cs,j+1,c,e=>by simp at e;exact ofL_get cs j c e
theorem orep_new {C:Ctx} {w:World} {cs:List CV} {us:List Value} {ty:TypeId} {h':Heap} (hr:RepL (Stab C h' (w.alloc (.cells us.toArray ty))) (w.alloc (.cells us.toArray ty)) cs us):
 ORep (Stab C h' (w.alloc (.cells us.toArray ty))) (w.alloc (.cells us.toArray ty)) w.heap.size (.cells ty cs.length (ofL cs)):=by
 refine⟨us.toArray,heap_alloc_new w _,by simp [hr.length],fun j hj=> ?_⟩
 obtain⟨u,hu,hc⟩:=hr.get j cs[j] (List.getElem?_eq_getElem hj)
 exact⟨u,by simpa using hu,by rw [ofL_get cs j _ (List.getElem?_eq_getElem hj)];exact hc⟩
theorem keeps_alloc {C:Ctx} {w:World} {ob:AObj} {o:Obj} (hnk:w.heap.size∉h.keys):Keeps (Stab C h w) (Stab C ((w.heap.size,ob)::h) (w.alloc o)) w (w.alloc o):=
 ⟨fun t b hb=>⟨hb.1,by have:=hb.2.1;simp;omega,by
  have:=hb.2.1
  simp only [Heap.keys,List.map_cons,List.mem_cons,not_or]
  exact⟨by omega,hb.2.2⟩⟩,fun t b hb=>RowKit.Below.heap_alloc w o b hb.2.1,(Fr.alloc (fun _=>False) w o).has⟩
theorem aw_box {t:TypeId} {x:Operand} (hop:o.op=.box t x) (hw:wantA all σ o=some true) (hd:dstOk E.N o.dst=true) {v:AV} (hx:ev σ x=v) (hnt:∀xs,v≠.tup xs) (hs:v.cells.all CV.solid=true)
 (k:∀g,g∉h.keys→aw E (.ops all rest::K) (σ.setO o.dst (.c (.optr g 0))) ((g,.cells t v.cells.length (ofL v.cells))::h)):aw E (.ops all (o::rest)::K) σ h:=by
 refine aw_new (r:=fun g=>.c (.optr g 0)) (ob:=.cells t v.cells.length (ofL v.cells)) hw hd (fun a w s=> ?_) k
 have h1:=ev_rep s x
 rw [hx] at h1
 have hnk:w.heap.size∉h.keys:=fun hm=>Nat.lt_irrefl _ (s.klt hm)
 obtain⟨hL,_⟩:=rep_cells hnt hs h1
 have e:(a.eval x).cells=(a.eval x).cells.toList.toArray:=by simp
 refine⟨.pointer (some ⟨w.heap.size,0,none⟩),w.alloc (.cells (a.eval x).cells.toList.toArray t),?_,Fr.alloc _ _ _,by simp,orep_new (hL.keep (keeps_alloc hnk)),rfl⟩
 simp only [execOp,hop,Instr.box,newVar,newRow,Sem.run_bind]
 rw [←e]
 rfl
theorem aw_alloc {t:TypeId} {z:List CV} (hop:o.op=.alloc t) (hw:wantA all σ o=some true) (hd:dstOk E.N o.dst=true) (hz:tZero E.P t=some z)
 (k:∀g,g∉h.keys→aw E (.ops all rest::K) (σ.setO o.dst (.c (.optr g 0))) ((g,.cells t z.length (ofL z))::h)):aw E (.ops all (o::rest)::K) σ h:=by
 refine aw_new (r:=fun g=>.c (.optr g 0)) (ob:=.cells t z.length (ofL z)) hw hd (fun a w s=> ?_) k
 obtain⟨i,v,hi,hv,rfl⟩:=tZero_spec hz
 refine⟨.pointer (some ⟨w.heap.size,0,none⟩),w.alloc (.cells v.cells.toList.toArray t),?_,Fr.alloc _ _ _,by simp,orep_new (cstL_rep _ _ _),rfl⟩
 simp only [execOp,hop,Instr.alloc,zeroValue,typeInfo,newVar,newRow,Sem.run_bind]
 simp [hi,hv]
end Go.AI
namespace Go.AI
inductive LeC (h:Heap):CV→CV→Prop
 |refl (x:CV):LeC h x x
 |any (x:CV):LeC h x .any
 |nils {t:Bool} {s:Nat} {f:Nat→CV}:LeC h .nils (.row t s 0 f)
 |row {t t':Bool} {s n:Nat} {f f':Nat→CV}:(t'=true→t=true)→(∀j,j<n*s→LeC h (f j) (f' j))→LeC h (.row t s n f) (.row t' s n f')
 |osl {g s off n m:Nat} {ty:TypeId} {f f':Nat→CV}:h.get g=some (.cells ty m f)→off+n*s≤m→(∀j,j<n*s→LeC h (f (off+j)) (f' j))→LeC h (.osl g s off n) (.row false s n f')
 |ifc {t:TypeId} {x y:CV}:LeC h x y→LeC h (.ifc t x) (.ifc t y)
def LeL (h:Heap):List CV→List CV→Prop
 |[],[]=>True
 |x::xs,y::ys=>LeC h x y∧LeL h xs ys
 |_,_=>False
inductive Le0 (h:Heap):AV→AV→Prop
 |c {x y:CV}:LeC h x y→Le0 h (.c x) (.c y)
 |agg {xs ys:List CV}:LeL h xs ys→Le0 h (.agg xs) (.agg ys)
def LeA (h:Heap):List AV→List AV→Prop
 |[],[]=>True
 |x::xs,y::ys=>Le0 h x y∧LeA h xs ys
 |_,_=>False
def Vis (S:Bool→Nat→Prop) (h:Heap) (t:Bool) (b:Nat):Prop:=S t b∨(t=false∧b∈h.keys)
theorem LeC.rep {S:Bool→Nat→Prop} {w:World} {h:Heap} (hm:∀b,S true b→S false b) (hh:∀g o,(g,o)∈h→ORep S w g o) {x y:CV} (le:LeC h x y):∀{v:Value},RepC S w x v→RepC (Vis S h) w y v:=by
 have kp:Keeps S (Vis S h) w w:=⟨fun _ _ hb=>.inl hb,fun _ _ _=>rfl,fun _ _ e=>e⟩
 induction le with
 |refl x=>intro v hr;exact hr.keep kp
 |any x=>intro v _;trivial
 |nils=>intro v hr;obtain⟨A,hv⟩:=hr;exact⟨A,0,hv,Nat.le_refl _,fun h0=>by simp at h0⟩
 | @row t t' s n f f' ht _ ih=>
   intro v hr
   obtain⟨A,c,hv,hc,hn⟩:=hr
   refine⟨A,c,hv,hc,fun h0=> ?_⟩
   obtain⟨ad,hA,hS,hj⟩:=hn h0
   refine⟨ad,hA,.inl ?_,fun j hjl=> ?_⟩
   ·cases t' with
    |true=>rw [ht rfl] at hS;exact hS
    |false=>cases t with
     |true=>exact hm _ hS
     |false=>exact hS
   ·obtain⟨u,hu,hf⟩:=hj j hjl
    exact⟨u,hu,ih j hjl hf⟩
 | @osl g s off n m ty f f' hg hle _ ih=>
   intro v hr
   obtain⟨c,hv,hc,_,_⟩:=hr
   obtain⟨cs,hb,hn,hj⟩:=hh g _ (Heap.get_mem hg)
   refine⟨some ⟨g,off,none⟩,c,hv,hc,fun _=>⟨⟨g,off,none⟩,rfl,.inr ⟨rfl,?_⟩,fun j hjl=> ?_⟩⟩
   ·exact List.mem_map.2 ⟨_,Heap.get_mem hg,rfl⟩
   ·obtain⟨u,hu,hf⟩:=hj (off+j) om
    exact⟨u,by rw [add_mk,cell_own hb];exact hu,ih j hjl hf⟩
 |ifc _ ih=>intro v hr;obtain⟨u,hu,hx⟩:=hr;exact⟨u,hu,ih hx⟩
theorem LeL.rep {S:Bool→Nat→Prop} {w:World} {h:Heap} (hm:∀b,S true b→S false b) (hh:∀g o,(g,o)∈h→ORep S w g o):∀{xs ys:List CV} {us:List Value},LeL h xs ys→RepL S w xs us→RepL (Vis S h) w ys us
 |[],[],[],_,_=>trivial
 |_::_,_::_,_::_,le,hr=>⟨le.1.rep hm hh hr.1,LeL.rep hm hh le.2 hr.2⟩
 |[],[],_::_,_,hr=>hr.elim
 |_::_,_::_,[],_,hr=>hr.elim
 |[],_::_,_,le,_=>le.elim
 |_::_,[],_,le,_=>le.elim
theorem Le0.rep {S:Bool→Nat→Prop} {w:World} {h:Heap} (hm:∀b,S true b→S false b) (hh:∀g o,(g,o)∈h→ORep S w g o) {x y:AV} {v:Value} (le:Le0 h x y) (hr:Rep S w x v):Rep0 (Vis S h) w y v:=by
 cases le with
 |c l=>exact l.rep hm hh hr
 |agg l=>obtain⟨us,hv,hu⟩:=hr;exact⟨us,hv,l.rep hm hh hu⟩
theorem LeA.rep {N:Nat} {C:Ctx} {σ:Sl} {h:Heap} {a:Act} {w:World} (s:St N C σ h a w):∀{xs:List Operand} {ys:List AV},LeA h (xs.map (ev σ)) ys→RepT (Vis (Stab C h w) h) w ys (xs.map a.eval)
 |[],[],_=>trivial
 |x::xs,y::ys,le=>⟨le.1.rep Stab.mono' s.heap (ev_rep s x),LeA.rep s le.2⟩
 |[],_::_,le=>le.elim
 |_::_,[],le=>le.elim
def Callable (P:Program) (f:FuncId):Prop:=∃fn,P.funcs[f]?=some fn∧fn.body.isNone=false∧(fn.name== "runtime.NumGoroutine")=false
theorem Callable.run {P:Program} {f:FuncId} (hc:Callable P f) (args:Array Value) (w:World):(callFunc f args).run P w=.ok (.enter f args) w:=by
 obtain⟨fn,hf,hb,hn⟩:=hc
 have hn':¬fn.name= "runtime.NumGoroutine" :=by simpa using hn
 have hb':¬fn.body=none:=fun e=>by rw [e] at hb;cases hb
 unfold callFunc
 simp [hf,hb',hn']
def Fa (P:Program) (f:FuncId) (args:List AV) (r:AV):Prop:=
 Callable P f∧∀(S:Bool→Nat→Prop) (w:World) (vs:List Value),(∀b,S true b→S false b)→(∀t b,S t b→b<w.heap.size)→RepT S w args vs→
  Calls P f vs.toArray w fun e w'=>∃v,e=.returned v∧Rep (fun _ b=>(S true b∨w.heap.size≤b)∧b<w'.heap.size) w' r v∧Fr (fun _=>False) w w'
section
variable {E : Env} {K : List It} {σ σ' : Sl} {h : Heap} {all rest : List Oper} {o : Oper}
theorem St.later {N:Nat} {C:Ctx} {a:Act} {w w':World} (s:St N C σ h a w) (hfr:Fr (fun _=>False) w w'):St N C σ h a w':=by
 have kp:Keeps (Stab C h w) (Stab C h w') w w':=⟨fun t b hb=>⟨hb.1,Nat.lt_of_lt_of_le hb.2.1 hfr.size,hb.2.2⟩,fun t b hb=>hfr.block b hb.2.1 (fun x=>x),hfr.has⟩
 exact⟨s.size,s.defers,fun t=>Rep.keep kp (s.slots t),fun g o hm=>by
  have h1:=s.heap g o hm
  exact ORep.keep kp (hfr.block g h1.lt (fun x=>x)) h1,s.nodup,s.keys,s.frame.trans hfr (fun x hx _=>hx.elim)⟩
theorem Fa.use {P:Program} {N:Nat} {C:Ctx} {a:Act} {w:World} {f:FuncId} {xs:List Operand} {args:List AV} {r:AV} (hf:Fa P f args r) (s:St N C σ h a w) (le:LeA h (xs.map (ev σ)) args):
 Calls P f (xs.map a.eval).toArray w fun e w'=>∃v,e=.returned v∧Rep (Stab C h w') w' r v∧Fr (fun _=>False) w w':=by
 have hlt:∀t b,Vis (Stab C h w) h t b→b<w.heap.size:=fun t b hb=>hb.elim (fun x=>x.2.1) (fun x=>s.klt x.2)
 refine(hf.2 (Vis (Stab C h w) h) w _ (fun b hb=> ?_) hlt (le.rep s)).mono ?_
 ·rcases hb with hb|hb
  ·exact .inl (Stab.mono' b hb)
  ·exact absurd hb.1 (by simp)
 ·rintro e w' ⟨v,he,hr,hfr⟩
  refine⟨v,he,hr.keep ⟨fun t b hb=> ?_,fun _ _ _=>rfl,fun _ _ x=>x⟩,hfr⟩
  obtain⟨hb1,hb2⟩:=hb
  rcases hb1 with (hb1|hb1)|hb1
  ·have h1:Stab C h w' true b:=⟨hb1.1,hb2,hb1.2.2⟩
   cases t
   ·exact Stab.mono' b h1
   ·exact h1
  ·exact absurd hb1.1 (by simp)
  ·refine⟨.inr ?_,hb2,fun hm=> ?_⟩
   ·have:=s.frame.size;omega
   ·have:=s.klt hm;omega
theorem aw_call {f:FuncId} {xs:List Operand} {ts:Array TypeId} {args:List AV} {r:AV} (hf:Fa E.P f args r) (hop:o.op=.call {callee:=.value (.func f),args:=xs.toArray,argTypes:=ts}) (hw:wantA all σ o=some true) (hd:dstOk E.N o.dst=true)
 (le:LeA h (xs.map (ev σ)) args) (hσ:σ.setO o.dst r=σ') (k:aw E (.ops all rest::K) σ' h):aw E (.ops all (o::rest)::K) σ h:=fun a w s=>by
 subst hσ
 show wpList _ _ _ _ _ _
 unfold wpList
 rw [if_pos (s.wanted hw)]
 refine .inl ?_
 unfold Oper.wp
 have hrun:(execOp a.eval o).run E.P w=.ok (.enter f (xs.map a.eval).toArray) w:=by
  simp only [execOp,hop,resolve,Act.eval,Deferred.ofValue,invoke,Sem.run_bind]
  have:=hf.1.run (#[]++(Array.map a.eval xs.toArray)++ #[]) w
  simp only [Sem.run_pure,Result.andThen_ok]
  rw [show((xs.map a.eval).toArray)=(#[]++(Array.map a.eval xs.toArray)++ #[]) from by simp]
  exact this
 rw [hrun]
 show Calls _ _ _ _ _
 refine(hf.use s le).mono ?_
 rintro e w' ⟨v,rfl,hr,hfr⟩
 exact k _ _ ((s.later hfr).put hd hr)
theorem aw_callq {f:FuncId} {xs:List Operand} {ts:Array TypeId} {args:List AV} {r:AV} (hf:Fa E.P f args r) (hop:o.op=.call {callee:=.value (.func f),args:=xs.toArray,argTypes:=ts}) (hw:wantA all σ o=some true) (hd:dstOk E.N o.dst=true)
 (le:LeA h (xs.map (ev σ)) args) (k:aw E (.ops all rest::K) (σ.setO o.dst r) h):aw E (.ops all (o::rest)::K) σ h:=aw_call hf hop hw hd le rfl k
inductive LeR (h:Heap):CV→CV→Prop
 |int (k:IntKind) (n:Int):LeR h (.int k n) (.int k n)
 |bool (b:Bool):LeR h (.bool b) (.bool b)
 |str (s:ByteArray):LeR h (.str s) (.str s)
 |nilI:LeR h .nilI .nilI
 |nils':LeR h .nils .nils
 |any (x:CV):LeR h x .any
 |nils {t:Bool} {s:Nat} {f:Nat→CV}:LeR h .nils (.row t s 0 f)
 |row {t:Bool} {s n:Nat} {f f':Nat→CV}:(∀j,j<n*s→LeR h (f j) (f' j))→LeR h (.row true s n f) (.row t s n f')
 |osl {t:Bool} {g s off n m:Nat} {ty:TypeId} {f f':Nat→CV}:h.get g=some (.cells ty m f)→off+n*s≤m→(∀j,j<n*s→LeR h (f (off+j)) (f' j))→LeR h (.osl g s off n) (.row t s n f')
 |ifc {t:TypeId} {x y:CV}:LeR h x y→LeR h (.ifc t x) (.ifc t y)
def LeRL (h:Heap):List CV→List CV→Prop
 |[],[]=>True
 |x::xs,y::ys=>LeR h x y∧LeRL h xs ys
 |_,_=>False
inductive LeR0 (h:Heap):AV→AV→Prop
 |c {x y:CV}:LeR h x y→LeR0 h (.c x) (.c y)
 |agg {xs ys:List CV}:LeRL h xs ys→LeR0 h (.agg xs) (.agg ys)
def LeRT (h:Heap):List AV→List AV→Prop
 |[],[]=>True
 |x::xs,y::ys=>LeR0 h x y∧LeRT h xs ys
 |_,_=>False
inductive LeRA (h:Heap):AV→AV→Prop
 |one {x y:AV}:LeR0 h x y→LeRA h x y
 |tup {xs ys:List AV}:LeRT h xs ys→LeRA h (.tup xs) (.tup ys)
def Back (C:Ctx) (w:World) (_:Bool) (b:Nat):Prop:=(C.S0 true b∨C.w0.heap.size≤b)∧b<w.heap.size
theorem LeR.rep {C:Ctx} {w:World} {h:Heap} (hk:∀g∈h.keys,C.w0.heap.size≤g) (hh:∀g o,(g,o)∈h→ORep (Stab C h w) w g o) {x y:CV} (le:LeR h x y):∀{v:Value},RepC (Stab C h w) w x v→RepC (Back C w) w y v:=by
 induction le with
 |int k n=>intro v hr;exact hr
 |bool b=>intro v hr;exact hr
 |str s=>intro v hr;exact hr
 |nilI=>intro v hr;exact hr
 |nils'=>intro v hr;exact hr
 |any x=>intro v _;trivial
 |nils=>intro v hr;obtain⟨A,hv⟩:=hr;exact⟨A,0,hv,Nat.le_refl _,fun h0=>by simp at h0⟩
 | @row t s n f f' _ ih=>
   intro v hr
   obtain⟨A,c,hv,hc,hn⟩:=hr
   refine⟨A,c,hv,hc,fun h0=> ?_⟩
   obtain⟨ad,hA,hS,hj⟩:=hn h0
   refine⟨ad,hA,⟨hS.1,hS.2.1⟩,fun j hjl=> ?_⟩
   obtain⟨u,hu,hf⟩:=hj j hjl
   exact⟨u,hu,ih j hjl hf⟩
 | @osl t g s off n m ty f f' hg hle _ ih=>
   intro v hr
   obtain⟨c,hv,hc,_,_⟩:=hr
   have ho:=hh g _ (Heap.get_mem hg)
   have hlt:=ho.lt
   obtain⟨cs,hb,hn,hj⟩:=ho
   refine⟨some ⟨g,off,none⟩,c,hv,hc,fun _=>⟨⟨g,off,none⟩,rfl,⟨.inr (hk g (List.mem_map.2 ⟨_,Heap.get_mem hg,rfl⟩)),hlt⟩,fun j hjl=> ?_⟩⟩
   obtain⟨u,hu,hf⟩:=hj (off+j) om
   exact⟨u,by rw [add_mk,cell_own hb];exact hu,ih j hjl hf⟩
 |ifc _ ih=>intro v hr;obtain⟨u,hu,hx⟩:=hr;exact⟨u,hu,ih hx⟩
theorem LeRL.rep {C:Ctx} {w:World} {h:Heap} (hk:∀g∈h.keys,C.w0.heap.size≤g) (hh:∀g o,(g,o)∈h→ORep (Stab C h w) w g o):∀{xs ys:List CV} {us:List Value},LeRL h xs ys→RepL (Stab C h w) w xs us→RepL (Back C w) w ys us
 |[],[],[],_,_=>trivial
 |_::_,_::_,_::_,le,hr=>⟨le.1.rep hk hh hr.1,LeRL.rep hk hh le.2 hr.2⟩
 |[],[],_::_,_,hr=>hr.elim
 |_::_,_::_,[],_,hr=>hr.elim
 |[],_::_,_,le,_=>le.elim
 |_::_,[],_,le,_=>le.elim
theorem LeR0.rep {C:Ctx} {w:World} {h:Heap} (hk:∀g∈h.keys,C.w0.heap.size≤g) (hh:∀g o,(g,o)∈h→ORep (Stab C h w) w g o) {x y:AV} {v:Value} (le:LeR0 h x y) (hr:Rep0 (Stab C h w) w x v):Rep0 (Back C w) w y v:=by
 cases le with
 |c l=>exact l.rep hk hh hr
 |agg l=>obtain⟨us,hv,hu⟩:=hr;exact⟨us,hv,l.rep hk hh hu⟩
theorem LeRT.rep {C:Ctx} {w:World} {h:Heap} (hk:∀g∈h.keys,C.w0.heap.size≤g) (hh:∀g o,(g,o)∈h→ORep (Stab C h w) w g o):∀{xs ys:List AV} {us:List Value},LeRT h xs ys→RepT (Stab C h w) w xs us→RepT (Back C w) w ys us
 |[],[],[],_,_=>trivial
 |_::_,_::_,_::_,le,hr=>⟨le.1.rep hk hh hr.1,LeRT.rep hk hh le.2 hr.2⟩
 |[],[],_::_,_,hr=>hr.elim
 |_::_,_::_,[],_,hr=>hr.elim
 |[],_::_,_,le,_=>le.elim
 |_::_,[],_,le,_=>le.elim
theorem rep_of_rep0 {S:Bool→Nat→Prop} {w:World} {x:AV} {v:Value} (hr:Rep0 S w x v):Rep S w x v:=by
 cases x with
 |tup xs=>exact hr.elim
 |c x=>exact hr
 |agg cs=>exact hr
theorem LeRA.rep {C:Ctx} {w:World} {h:Heap} (hk:∀g∈h.keys,C.w0.heap.size≤g) (hh:∀g o,(g,o)∈h→ORep (Stab C h w) w g o) {x y:AV} {v:Value} (le:LeRA h x y) (hr:Rep (Stab C h w) w x v):Rep (Back C w) w y v:=by
 cases le with
 |one l=>
  cases l with
  |c l=>exact l.rep hk hh hr
  |agg l=>obtain⟨us,hv,hu⟩:=hr;exact⟨us,hv,l.rep hk hh hu⟩
 |tup l=>obtain⟨us,hv,hu⟩:=hr;exact⟨us,hv,l.rep hk hh hu⟩
def rvAV (P:Program) (σ:Sl) (h:Heap):ResultVar→Option AV
 |.tmp t=>some (σ.get t)
 |.cell a t=>match σ.get a,tSz P t with
  |.c (.optr g off),some (ag,n)=>match h.get g with
   |some (.cells _ m f)=>if off+n≤m∧(ag=true∨n=1) then some (if ag then .agg (cellsAt f off 0 n) else .c (f off)) else none
   |_=>none
  |_,_=>none
theorem rvAV_run {P:Program} {N:Nat} {C:Ctx} {a:Act} {w:World} (s:St N C σ h a w) {rv:ResultVar} {x:AV} (hx:rvAV P σ h rv=some x):
 ∃v,(match rv with
  |.tmp t=>(pure (a.tmps.getD t undef):Sem Value)
  |.cell c t=>do loadVar t (←asAddr (a.tmps.getD c undef))).run P w=.ok v w∧Rep (Stab C h w) w x v:=by
 cases rv with
 |tmp t=>simp only [rvAV,Option.some.injEq] at hx;subst hx;exact⟨_,rfl,s.slots t⟩
 |cell c t=>
  simp only [rvAV] at hx
  split at hx
  ·rename_i g off ag n hc ht
   split at hx
   ·rename_i ty m f hg
    split at hx
    ·rename_i hle
     injection hx with hx
     subst hx
     have h1:=s.slots c
     rw [hc] at h1
     have hv:a.tmps.getD c undef=.pointer (some ⟨g,off,none⟩):=h1
     obtain⟨cs,hb,hn,hj⟩:=s.heap g _ (Heap.get_mem hg)
     obtain⟨v,hrun,hr⟩:=run_loadVar (P:=P) (ad:=⟨g,off,none⟩) (off:=off) ht (fun e=>hle.2.elim (fun x=>by rw [e] at x;cases x) id) (fun j hjn=>by
      obtain⟨u,hu,hr⟩:=hj (off+j) om
      exact⟨u,by rw [add_mk,cell_own hb];exact hu,hr⟩)
     exact⟨v,by simp only [hv,asAddr,Sem.run_bind,Sem.run_pure,Result.andThen_ok,hrun],hr⟩
    ·cases hx
   ·cases hx
  ·cases hx
def resAV (P:Program) (σ:Sl) (h:Heap):List ResultVar→Option AV
 |[rv]=>rvAV P σ h rv
 |rvs=>(rvs.mapM (rvAV P σ h)).map .tup
def AV.flat:AV→Bool
 |.tup _=>false
 |_=>true
theorem rep0_of_rep {S:Bool→Nat→Prop} {w:World} {x:AV} {v:Value} (hf:x.flat=true) (hr:Rep S w x v):Rep0 S w x v:=by
 cases x with
 |tup xs=>cases hf
 |c x=>exact hr
 |agg cs=>exact hr
def rvSem (tmps:Array Value):ResultVar→Sem Value
 |.tmp t=>pure (tmps.getD t undef)
 |.cell a t=>do loadVar t (←asAddr (tmps.getD a undef))
theorem rvs_run {P:Program} {N:Nat} {C:Ctx} {a:Act} {w:World} (s:St N C σ h a w):∀(rvs:List ResultVar) (xs:List AV),rvs.mapM (rvAV P σ h)=some xs→xs.all AV.flat=true→
 ∃vs:List Value,(rvs.mapM (rvSem a.tmps)).run P w=.ok vs w∧RepT (Stab C h w) w xs vs
 |[],xs,hx,_=>by
  simp at hx
  subst hx
  exact⟨[],by simp,trivial⟩
 |rv::rvs,xs,hx,hfl=>by
  rw [List.mapM_cons] at hx
  cases h1:rvAV P σ h rv with
  |none=>rw [h1] at hx;cases hx
  |some x=>
   rw [h1] at hx
   cases h2:rvs.mapM (rvAV P σ h) with
   |none=>rw [h2] at hx;cases hx
   |some ys=>
    rw [h2] at hx
    have hx':xs=x::ys:=by injection hx with hx;exact hx.symm
    subst hx'
    simp only [List.all_cons,Bool.and_eq_true] at hfl
    obtain⟨v,hv,hr⟩:=rvAV_run s h1
    obtain⟨vs,hvs,hrs⟩:=rvs_run s rvs ys h2 hfl.2
    refine⟨v::vs,?_,rep0_of_rep hfl.1 hr,hrs⟩
    rw [List.mapM_cons]
    have hv':(rvSem a.tmps rv).run P w=.ok v w:=by cases rv<;>exact hv
    simp [hv',hvs]
theorem results_run {P:Program} {N:Nat} {C:Ctx} {a:Act} {w:World} {fn:Func} (s:St N C σ h a w) {rvs:List ResultVar} (hrs:fn.results=rvs.toArray) {x:AV} (hx:resAV P σ h rvs=some x)
 (hfl:∀xs,x=.tup xs→xs.all AV.flat=true):∃v,(results fn a.tmps).run P w=.ok v w∧Rep (Stab C h w) w x v:=by
 have he:results fn a.tmps=(do let vs←fn.results.mapM (rvSem a.tmps);pure (if h:vs.size=1 then vs[0] else .tuple vs)):=by
  unfold results
  congr 1
 rw [he,hrs]
 match rvs,hx with
 |[rv],hx=>
  obtain⟨v,hv,hr⟩:=rvAV_run s hx
  have hv':(rvSem a.tmps rv).run P w=.ok v w:=by cases rv<;>exact hv
  exact⟨v,by simp [hv'],hr⟩
 |[],hx=>
  simp [resAV] at hx
  subst hx
  exact⟨.tuple #[],by simp,[],rfl,trivial⟩
 |r1::r2::rvs,hx=>
  simp only [resAV] at hx
  cases h2:(r1::r2::rvs).mapM (rvAV P σ h) with
  |none=>rw [h2] at hx;cases hx
  |some ys=>
   rw [h2] at hx
   injection hx with hx
   obtain⟨vs,hvs,hrs'⟩:=rvs_run s _ ys h2 (hfl ys hx.symm)
   subst hx
   have hl:vs.length=(r1::r2::rvs).length:=by
    have k1:∀(xs:List AV) (us:List Value),RepT (Stab C h w) w xs us→us.length=xs.length:=by
     intro xs
     induction xs with
     |nil=>intro us hr;cases us with
      |nil=>rfl
      |cons=>exact hr.elim
     |cons x xs ih=>intro us hr;cases us with
      |nil=>exact hr.elim
      |cons u us=>simp [ih us hr.2]
    have k2:∀(l:List ResultVar) (ys:List AV),l.mapM (rvAV P σ h)=some ys→ys.length=l.length:=by
     intro l
     induction l with
     |nil=>intro ys hy;simp at hy;subst hy;rfl
     |cons a l ih=>
      intro ys hy
      rw [List.mapM_cons] at hy
      cases e1:rvAV P σ h a with
      |none=>rw [e1] at hy;cases hy
      |some x=>
       rw [e1] at hy
       cases e2:l.mapM (rvAV P σ h) with
       |none=>rw [e2] at hy;cases hy
       |some zs=>
        rw [e2] at hy
        have:ys=x::zs:=by injection hy with hy;exact hy.symm
        subst this
        simp [ih zs e2]
    rw [k1 _ _ hrs',k2 _ _ h2]
   refine⟨.tuple vs.toArray,?_,vs,rfl,hrs'⟩
   have hm:(Array.mapM (rvSem a.tmps) (r1::r2::rvs).toArray).run P w=.ok vs.toArray w:=by
    rw [List.mapM_toArray]
    simp only [Sem.run_map,hvs,Result.andThen_ok]
   simp only [Sem.run_bind,hm,Result.andThen_ok,Sem.run_pure]
   rw [dif_neg (by simp [hl])]
def Done (C:Ctx) (r:AV):Ending→World→Prop:=fun e w'=>∃v,e=.returned v∧Rep (Back C w') w' r v∧Fr (fun _=>False) C.w0 w'
def envOf (P:Program) (fn:Func) (C:Ctx) (r:AV):Env:={P,N:=fn.ntmps,C,Q:=bodyPost P fn (Done C r)}
theorem done_of {P:Program} {fn:Func} {C:Ctx} {r x:AV} {a:Act} {w:World} (hC:∀b,¬C.own0 b) (s:St fn.ntmps C σ h a w) {rvs:List ResultVar} (hrs:fn.results=rvs.toArray) (hx:resAV P σ h rvs=some x)
 (hfl:∀xs,x=.tup xs→xs.all AV.flat=true) (le:LeRA h x r):a.defers=[]∧∃v,(results fn a.tmps).run P w=.ok v w∧Done C r (.returned v) w:=by
 obtain⟨v,hv,hr⟩:=results_run s hrs hx hfl
 refine⟨s.defers,v,hv,v,rfl,le.rep (fun g hg=>(s.keys g hg).resolve_left (hC g)) s.heap hr,?_⟩
 exact⟨s.frame.os,s.frame.tape,s.frame.output,s.frame.size,s.frame.drawn,fun b hb _=>s.frame.block b hb (hC b),s.frame.has⟩
theorem aw_ret {P:Program} {fn:Func} {C:Ctx} {r x:AV} {K:List It} (hC:∀b,¬C.own0 b) {rvs:List ResultVar} (hrs:fn.results=rvs.toArray) (hx:resAV P σ h rvs=some x) (hfl:∀xs,x=.tup xs→xs.all AV.flat=true)
 (le:LeRA h x r):aw (envOf P fn C r) (.code .ret::K) σ h:=fun a w s=>wp_ret (exW_ret a w (done_of hC s hrs hx hfl le))
def flatR:AV→Bool
 |.tup xs=>xs.all AV.flat
 |_=>true
theorem flatR_spec {x:AV} (hx:flatR x=true):∀xs,x=.tup xs→xs.all AV.flat=true:=fun xs e=>by subst e;exact hx
theorem aw_retq {P:Program} {fn:Func} {C:Ctx} {r:AV} {K:List It} (hC:∀b,¬C.own0 b) {rvs:List ResultVar} (hrs:fn.results=rvs.toArray) (k:∀R:Option AV→Prop,(∀x,flatR x=true→LeRA h x r→R (some x))→R (resAV P σ h rvs)):
 aw (envOf P fn C r) (.code .ret::K) σ h:=by
 have:=k (fun y=>y=resAV P σ h rvs→aw (envOf P fn C r) (.code .ret::K) σ h) (fun x hf le e=>aw_ret hC hrs e.symm (flatR_spec hf) le)
 exact this rfl
def initS:Nat→List AV→Sl
 |_,[]=>[]
 |i,x::xs=>(i,x)::initS (i+1) xs
theorem initS_get:∀(xs:List AV) (i t:Nat),(initS i xs).get t=if i≤t then xs.getD (t-i) (.c .any) else .c .any
 |[],i,t=>by simp [initS,Sl.get]
 |x::xs,i,t=>by
  simp only [initS,Sl.get,initS_get xs (i+1) t]
  by_cases h1:i=t
  ·subst h1;simp
  ·rw [if_neg h1]
   by_cases h2:i≤t
   ·have h3:i+1≤t:=by omega
    rw [if_pos h3,if_pos h2]
    have:t-i=(t-(i+1))+1:=by omega
    rw [this];simp
   ·rw [if_neg h2,if_neg om]
theorem RepT.getD {S:Bool→Nat→Prop} {w:World}:∀(xs:List AV) (vs:List Value),RepT S w xs vs→∀t,Rep S w (xs.getD t (.c .any)) (vs.getD t undef)
 |[],[],_,t=>by simp;trivial
 |x::xs,v::vs,hr,0=>rep_of_rep0 hr.1
 |x::xs,v::vs,hr,t+1=>by simpa using RepT.getD xs vs hr.2 t
 |[],_::_,hr,_=>hr.elim
 |_::_,[],hr,_=>hr.elim
theorem RepT.len {S:Bool→Nat→Prop} {w:World}:∀{xs:List AV} {vs:List Value},RepT S w xs vs→vs.length=xs.length
 |[],[],_=>rfl
 |_::_,_::_,hr=>by simp [RepT.len hr.2]
 |[],_::_,hr=>hr.elim
 |_::_,[],hr=>hr.elim
theorem fa_of_body {P:Program} {f:FuncId} {fn:Func} {c:Code} {args:List AV} {r:AV} (hf:P.funcs[f]?=some fn) (hb:fn.body=some c) (hn:(fn.name== "runtime.NumGoroutine")=false) (hl:args.length≤fn.ntmps)
 (k:∀C:Ctx,(∀b,¬C.own0 b)→aw (envOf P fn C r) [.code c] (initS 0 args) []):Fa P f args r:=by
 refine⟨⟨fn,hf,by rw [hb];rfl,hn⟩,fun S w vs hm hlt hr=> ?_⟩
 let C:Ctx:={w0:=w,S0:=S,own0:=fun _=>False,mono:=hm,apart:=fun _ _ _ x=>x,lt:=hlt}
 refine(calls_of_wp hf hb (R:=Done C r) ?_).mono ?_
 ·have hk:=k C (fun _ x=>x)
  have kp:Keeps S (Stab C [] w) w w:=⟨fun t b hb=>⟨.inl hb,hlt t b hb,by simp [Heap.keys]⟩,fun _ _ _=>rfl,fun _ _ x=>x⟩
  have hlen:=hr.len
  refine hk _ _ ⟨?_,rfl,fun t=> ?_,fun g o hm=>by simp at hm,by simp [Heap.keys],fun g hg=>by simp [Heap.keys] at hg,Fr.refl _ _⟩
  ·show(vs.toArray++Array.replicate (fn.ntmps-vs.toArray.size) undef).size=fn.ntmps
   simp;omega
  ·rw [initS_get]
   simp only [Nat.zero_le,if_true,Nat.sub_zero]
   refine Rep.keep kp ?_
   have h1:=RepT.getD args vs hr t
   have h2:(vs.toArray++Array.replicate (fn.ntmps-vs.toArray.size) undef).getD t undef=vs.getD t undef:=by
    rw [Array.getD_eq_getD_getElem?,List.getD_eq_getElem?_getD]
    by_cases ht:t<vs.length
    ·rw [Array.getElem?_append_left (by simpa using ht)];simp
    ·rw [Array.getElem?_append_right (by simpa using ht)]
     rw [List.getElem?_eq_none om]
     simp [Array.getElem?_replicate]
     split<;>rfl
   rw [h2]
   exact h1
 ·rintro e w' ⟨v,he,hr',hfr⟩
  exact⟨v,he,hr',hfr⟩
end
end Go.AI
