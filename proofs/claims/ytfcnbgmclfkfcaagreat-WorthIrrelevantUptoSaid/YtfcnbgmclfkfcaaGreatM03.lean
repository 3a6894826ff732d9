/- Parts of one proof, laid by a program. -/
import Derived.Test.YtfcnbgmclfkfcaaGreatM00
import Derived.Test.YtfcnbgmclfkfcaaGreatM02
import Derived.Laws.MakeOwn
set_option linter.unusedSimpArgs false
set_option linter.unusedVariables false
namespace Go.AI
variable {P : Program} {h : Heap} {ρ : Operand → AV}
def inRange:IntKind→Int→Prop
 |.i64,x=> -9223372036854775808≤x∧x≤9223372036854775807
 |.u64,x=>0≤x∧x≤18446744073709551615
 |.u32,x=>0≤x∧x≤4294967295
 |.u8,x=>0≤x∧x≤255
 |_,_=>False
theorem wrap_inRange {k:IntKind} {x:Int} (hx:inRange k x):k.wrap x=x:=by
 cases k<;>simp only [inRange] at hx
 ·rw [IntKind.wrap_i64];omega
 ·simp only [IntKind.wrap,IntKind.bits,IntKind.signed];simp;omega
 ·rw [IntKind.wrap_u32];omega
 ·rw [IntKind.wrap_u64];omega
noncomputable def binI (nw:Bool) (op:BinOp) (k:IntKind) (a b:Int):Option (Prop×CV):=
 match nw,op with
 |true,.add=>some (inRange k (a+b),.int k (a+b))
 |true,.sub=>some (inRange k (a-b),.int k (a-b))
 |true,.mul=>some (inRange k (a*b),.int k (a*b))
 |true,.shl=>none
 |_,_=>binInt op k a b
theorem POk.binI {nw:Bool} {op:BinOp} {t t':TypeId} {x y:Operand} {k:IntKind} {a b:Int} {req:Prop} {r:CV} (hx:ρ x=.c (.int k a)) (hy:ρ y=.c (.int k b))
 (hr:AI.binI nw op k a b=some (req,r)) (hreq:req):POk P h ρ (.binOp op t x y t') (.c r):=by
 cases nw with
 |false=>exact POk.binInt hx hy (by simpa [AI.binI] using hr) hreq
 |true=>
  cases op
  case add=>
   simp only [AI.binI,Option.some.injEq,Prod.mk.injEq] at hr
   obtain⟨rfl,rfl⟩:=hr
   exact POk.binInt (req:=True) hx hy (by simp [AI.binInt,wrapZ_eq,wrap_inRange hreq]) trivial
  case sub=>
   simp only [AI.binI,Option.some.injEq,Prod.mk.injEq] at hr
   obtain⟨rfl,rfl⟩:=hr
   exact POk.binInt (req:=True) hx hy (by simp [AI.binInt,wrapZ_eq,wrap_inRange hreq]) trivial
  case mul=>
   simp only [AI.binI,Option.some.injEq,Prod.mk.injEq] at hr
   obtain⟨rfl,rfl⟩:=hr
   exact POk.binInt (req:=True) hx hy (by simp [AI.binInt,wrapZ_eq,wrap_inRange hreq]) trivial
  case shl=>cases hr
  all_goals exact POk.binInt hx hy hr hreq
def isNil:Operand→Bool
 |.const .nilIface=>true
 |_=>false
theorem isNil_eq {x:Operand} (hx:isNil x=true):x=.const .nilIface:=by
 unfold isNil at hx
 split at hx
 ·rfl
 ·cases hx
def strEq (a b:ByteArray):Bool:=a.toList==b.toList
theorem run_eqGuard_str (op:BinOp) (t:TypeId) (x y:Operand) (a b:ByteArray) (w:World):(eqGuard op t x y (.string a) (.string b)).run P w=.ok () w:=by
 unfold eqGuard
 cases op<;>simp
theorem run_eql_str {t:TypeId} (a b:ByteArray) (w:World):(Go.binOp .eql t (.string a) (.string b)).run P w=.ok (.bool (strEq a b)) w:=by
 unfold Go.binOp
 simp [Op.stringOp,strEq]
theorem run_neq_str {t:TypeId} (a b:ByteArray) (w:World):(Go.binOp .neq t (.string a) (.string b)).run P w=.ok (.bool (!strEq a b)) w:=by
 unfold Go.binOp
 simp [Op.stringOp,strEq]
theorem POk.eqStr {t t':TypeId} {x y:Operand} {a b:ByteArray} (hx:ρ x=.c (.str a)) (hy:ρ y=.c (.str b)):POk P h ρ (.binOp .eql t x y t') (.c (.bool (strEq a b))):=fun S w e _ ho _=>by
 have h1:e x=.string a:=by have:=ho x (by simp [Op.operands]);rw [hx] at this;exact this
 have h2:e y=.string b:=by have:=ho y (by simp [Op.operands]);rw [hy] at this;exact this
 exact⟨.bool (strEq a b),fun o hop=>exec_bin hop (by rw [h1,h2];exact run_eqGuard_str ..) (by rw [h1,h2];exact run_eql_str a b w),rfl⟩
theorem POk.neqStr {t t':TypeId} {x y:Operand} {a b:ByteArray} (hx:ρ x=.c (.str a)) (hy:ρ y=.c (.str b)):POk P h ρ (.binOp .neq t x y t') (.c (.bool (!strEq a b))):=fun S w e _ ho _=>by
 have h1:e x=.string a:=by have:=ho x (by simp [Op.operands]);rw [hx] at this;exact this
 have h2:e y=.string b:=by have:=ho y (by simp [Op.operands]);rw [hy] at this;exact this
 exact⟨.bool (!strEq a b),fun o hop=>exec_bin hop (by rw [h1,h2];exact run_eqGuard_str ..) (by rw [h1,h2];exact run_neq_str a b w),rfl⟩
theorem POk.addStr {t t':TypeId} {x y:Operand} {a b:ByteArray} (hl:a.size+b.size≤9223372036854775807) (hx:ρ x=.c (.str a)) (hy:ρ y=.c (.str b)):POk P h ρ (.binOp .add t x y t') (.c (.str (a++b))):=fun S w e _ ho _=>by
 have h1:e x=.string a:=by have:=ho x (by simp [Op.operands]);rw [hx] at this;exact this
 have h2:e y=.string b:=by have:=ho y (by simp [Op.operands]);rw [hy] at this;exact this
 refine⟨.string (a++b),fun o hop=>exec_bin hop (by rw [h1,h2];exact run_eqGuard_str ..) ?_,rfl⟩
 rw [h1,h2]
 have hn:¬(9223372036854775807:Int)<(a.size:Int)+(b.size:Int):=by omega
 simp [Go.binOp,Op.stringOp,hn]
noncomputable def binAV (P:Program) (nw:Bool) (op:BinOp) (t:TypeId) (y:Operand):AV→AV→Option (Prop×AV)
 |.c (.int k a),.c (.int k' b)=>
  match op with
  |.shl=>(binSh .shl k a b).map fun p=>(p.1,.c p.2)
  |.shr=>(binSh .shr k a b).map fun p=>(p.1,.c p.2)
  |op=>if k=k' then(binI nw op k a b).map fun p=>(p.1,.c p.2) else none
 |.c (.bool a),.c (.bool b)=>
  match op with
  |.eql=>some (tBool P t=true,.c (.bool (a==b)))
  |.neq=>some (tBool P t=true,.c (.bool (a !=b)))
  |_=>none
 |.c (.str a),.c (.str b)=>
  match op with
  |.eql=>some (True,.c (.bool (strEq a b)))
  |.neq=>some (True,.c (.bool (!strEq a b)))
  |.add=>some (a.size+b.size≤9223372036854775807,.c (.str (a++b)))
  |_=>none
 |.c x,.c .nilI=>
  match op,isNil y,nilAV x with
  |.eql,true,some b=>some (tIfc P t=true,.c (.bool b))
  |.neq,true,some b=>some (tIfc P t=true,.c (.bool !b))
  |_,_,_=>none
 |_,_=>none
def loadAV (P:Program) (t:TypeId) (h:Heap):AV→Option (Prop×AV)
 |.c (.rptr m f)=>match tSz P t with
  |some (true,n)=>some (n≤m,.agg (cellsAt f 0 0 n))
  |some (false,1)=>some (1≤m,.c (f 0))
  |_=>none
 |.c (.optr g off)=>match h.get g,tSz P t with
  |some (.cells _ m f),some (true,n)=>some (off+n≤m,.agg (cellsAt f off 0 n))
  |some (.cells _ m f),some (false,1)=>some (off+1≤m,.c (f off))
  |_,_=>none
 |_=>none
def indexAV (P:Program) (t:TypeId):AV→AV→Option (Prop×AV)
 |.c (.row _ s n f),.c (.int _ i)=>match tElem P t with
  |some (_,size,_)=>some (s=size∧0<size∧0≤i∧i<n,.c (.rptr s fun j=>f (i.toNat*s+j)))
  |none=>none
 |.c (.osl g s off n),.c (.int _ i)=>match tElem P t with
  |some (_,size,_)=>some (s=size∧0≤i∧i<n,.c (.optr g (off+i.toNat*s)))
  |none=>none
 |_,_=>none
def fieldAV (P:Program) (t i:Nat):AV→Option (Prop×AV)
 |.c (.optr g o)=>(tFld P t i).map fun off=>(True,.c (.optr g (o+off)))
 |.c (.rptr n f)=>(tFld P t i).map fun off=>(off≤n,.c (.rptr (n-off) fun j=>f (off+j)))
 |_=>none
theorem POk.nilCheckO {x:Operand} {g off:Nat} (hx:ρ x=.c (.optr g off)):POk P h ρ (.nilCheck x) (.c (.optr g off)):=fun S w e _ ho _=>by
 have h1:=ho x (by simp [Op.operands])
 rw [hx] at h1
 have h2:e x=.pointer (some ⟨g,off,none⟩):=h1
 exact⟨_,fun o hop=>by simp only [execOp,hop,h2];rfl,rfl⟩
def wide:IntKind→IntKind→Bool
 |.u32,.u64=>true
 |.u32,.i64=>true
 |.u8,.i64=>true
 |.u8,.u64=>true
 |_,_=>false
noncomputable def pureOp (P:Program) (nw:Bool) (h:Heap) (ρ:Operand→AV):Op→Option (Prop×AV)
 |.move x=>some (True,ρ x)
 |.assign x=>some (True,ρ x)
 |.pick c a b=>match ρ c with
  |.c (.bool t)=>some (True,pickAV t (ρ a) (ρ b))
  |_=>none
 |.binOp op t x y _=>binAV P nw op t y (ρ x) (ρ y)
 |.unOp .not _ x=>match ρ x with
  |.c (.bool b)=>some (True,.c (.bool !b))
  |_=>none
 |.unOp .neg _ x=>match ρ x with
  |.c (.int k n)=>some (True,.c (.int k (wrapZ k (0-n))))
  |_=>none
 |.convert s d x=>match tInt P s,tInt P d,ρ x with
  |some _,some k',.c (.int ks n)=>if wide ks k' then some (inRange k' n,.c (.int k' n)) else some (True,.c (.int k' (wrapZ k' n)))
  |_,_,_=>none
 |.extract x i=>match ρ x with
  |.tup xs=>(xs[i]?).map fun y=>(True,y)
  |_=>none
 |.makeInterface t x=>match tInt P t,ρ x with
  |some _,.c c=>some (True,.c (.ifc t c))
  |_,_=>none
 |.load t a=>loadAV P t h (ρ a)
 |.slice t x lo hi none=>sliceAV P ρ t x lo hi
 |.build t ⟨ps⟩=>buildAV P ρ t ps
 |.nilCheck x=>match ρ x with
  |.c (.optr g off)=>some (True,.c (.optr g off))
  |_=>none
 |.fieldAddr t x i=>fieldAV P t i (ρ x)
 |.indexAddr t x ix=>indexAV P t (ρ x) (ρ ix)
 |.call {callee:=.builtin .len,args:=⟨[x]⟩,argTypes:=⟨[t]⟩}=>match tElem P t,ρ x with
  |some _,.c c=>(lenCV c).map fun(n:Nat)=>(True,.c (.int .i64 (n:Int)))
  |_,_=>none
 |.call {callee:=.builtin .max,args:=⟨[x,y]⟩,argTypes:=⟨[_,_]⟩}=>match ρ x,ρ y with
  |.c (.int k a),.c (.int k' b)=>some (k=k',.c (.int k (if b>a then b else a)))
  |_,_=>none
 |.call {callee:=.builtin .min,args:=⟨[x,y]⟩,argTypes:=⟨[_,_]⟩}=>match ρ x,ρ y with
  |.c (.int k a),.c (.int k' b)=>some (k=k',.c (.int k (if b<a then b else a)))
  |_,_=>none
 |_=>none
theorem binAV_ok {nw:Bool} {op:BinOp} {t t':TypeId} {x y:Operand} {req:Prop} {r:AV} (hk:∀v,ρ (.const v)=cst v) (hb:binAV P nw op t y (ρ x) (ρ y)=some (req,r)) (hreq:req):POk P h ρ (.binOp op t x y t') r:=by
 unfold binAV at hb
 split at hb
 ·rename_i k a k' b hx hy
  split at hb
  ·simp only [binSh,Option.map_some,Option.some.injEq,Prod.mk.injEq] at hb
   obtain⟨rfl,rfl⟩:=hb
   exact POk.binSh hx hy rfl hreq
  ·simp only [binSh,Option.map_some,Option.some.injEq,Prod.mk.injEq] at hb
   obtain⟨rfl,rfl⟩:=hb
   exact POk.binSh hx hy rfl hreq
  ·split at hb
   ·rename_i e
    subst e
    cases hi:binI nw op k a b with
    |none=>rw [hi] at hb;cases hb
    |some p=>
     rw [hi] at hb
     simp only [Option.map_some,Option.some.injEq,Prod.mk.injEq] at hb
     obtain⟨rfl,rfl⟩:=hb
     exact POk.binI hx hy hi hreq
   ·cases hb
 ·rename_i a b hx hy
  split at hb
  ·simp only [Option.some.injEq,Prod.mk.injEq] at hb
   obtain⟨rfl,rfl⟩:=hb
   exact POk.eqBool hreq hx hy
  ·simp only [Option.some.injEq,Prod.mk.injEq] at hb
   obtain⟨rfl,rfl⟩:=hb
   exact POk.neqBool hreq hx hy
  ·cases hb
 ·rename_i a b hx hy
  split at hb
  ·simp only [Option.some.injEq,Prod.mk.injEq] at hb
   obtain⟨rfl,rfl⟩:=hb
   exact POk.eqStr hx hy
  ·simp only [Option.some.injEq,Prod.mk.injEq] at hb
   obtain⟨rfl,rfl⟩:=hb
   exact POk.neqStr hx hy
  ·simp only [Option.some.injEq,Prod.mk.injEq] at hb
   obtain⟨rfl,rfl⟩:=hb
   exact POk.addStr hreq hx hy
  ·cases hb
 ·rename_i c hx hy
  split at hb
  ·rename_i b hn hc
   simp only [Option.some.injEq,Prod.mk.injEq] at hb
   obtain⟨rfl,rfl⟩:=hb
   obtain rfl:=isNil_eq hn
   exact POk.eqNil hreq hx hc hy
  ·rename_i b hn hc
   simp only [Option.some.injEq,Prod.mk.injEq] at hb
   obtain⟨rfl,rfl⟩:=hb
   obtain rfl:=isNil_eq hn
   exact POk.neqNil hreq hx hc hy
  ·cases hb
 ·cases hb
theorem loadAV_ok {t:TypeId} {a:Operand} {req:Prop} {r:AV} (hb:loadAV P t h (ρ a)=some (req,r)) (hreq:req):POk P h ρ (.load t a) r:=by
 unfold loadAV at hb
 split at hb
 ·rename_i m f ha
  split at hb
  ·rename_i n ht
   simp only [Option.some.injEq,Prod.mk.injEq] at hb
   obtain⟨rfl,rfl⟩:=hb
   exact POk.loadR ht (fun e=>by cases e) ha hreq
  ·rename_i ht
   simp only [Option.some.injEq,Prod.mk.injEq] at hb
   obtain⟨rfl,rfl⟩:=hb
   exact POk.loadR ht (fun _=>rfl) ha hreq
  ·cases hb
 ·rename_i g off ha
  split at hb
  ·rename_i ty m f n hg ht
   simp only [Option.some.injEq,Prod.mk.injEq] at hb
   obtain⟨rfl,rfl⟩:=hb
   exact POk.loadO ht (fun e=>by cases e) ha hg hreq
  ·rename_i ty m f hg ht
   simp only [Option.some.injEq,Prod.mk.injEq] at hb
   obtain⟨rfl,rfl⟩:=hb
   exact POk.loadO ht (fun _=>rfl) ha hg hreq
  ·cases hb
 ·cases hb
theorem pureOp_ok {nw:Bool} {op:Op} {req:Prop} {r:AV} (hk:∀v,ρ (.const v)=cst v) (hb:pureOp P nw h ρ op=some (req,r)) (hreq:req):POk P h ρ op r:=by
 unfold pureOp at hb
 split at hb
 ·simp only [Option.some.injEq,Prod.mk.injEq] at hb;obtain⟨rfl,rfl⟩:=hb;exact POk.move _
 ·simp only [Option.some.injEq,Prod.mk.injEq] at hb;obtain⟨rfl,rfl⟩:=hb;exact POk.assign _
 ·split at hb
  ·rename_i hc
   simp only [Option.some.injEq,Prod.mk.injEq] at hb;obtain⟨rfl,rfl⟩:=hb;exact POk.pick hc
  ·cases hb
 ·exact binAV_ok hk hb hreq
 ·split at hb
  ·rename_i hx
   simp only [Option.some.injEq,Prod.mk.injEq] at hb;obtain⟨rfl,rfl⟩:=hb;exact POk.not hx
  ·cases hb
 ·split at hb
  ·rename_i hx
   simp only [Option.some.injEq,Prod.mk.injEq] at hb;obtain⟨rfl,rfl⟩:=hb;exact POk.neg hx
  ·cases hb
 ·split at hb
  ·rename_i hs hd hx
   split at hb
   ·simp only [Option.some.injEq,Prod.mk.injEq] at hb;obtain⟨rfl,rfl⟩:=hb
    have:=POk.convert (h:=h) hs hd hx
    rwa [wrapZ_eq,wrap_inRange hreq] at this
   ·simp only [Option.some.injEq,Prod.mk.injEq] at hb;obtain⟨rfl,rfl⟩:=hb;exact POk.convert hs hd hx
  ·cases hb
 ·split at hb
  ·rename_i i _ xs hx
   cases hi:xs[i]? with
   |none=>rw [hi] at hb;cases hb
   |some y=>
    rw [hi] at hb
    simp only [Option.map_some,Option.some.injEq,Prod.mk.injEq] at hb;obtain⟨rfl,rfl⟩:=hb;exact POk.extract hx hi
  ·cases hb
 ·split at hb
  ·rename_i ht hx
   simp only [Option.some.injEq,Prod.mk.injEq] at hb;obtain⟨rfl,rfl⟩:=hb;exact POk.makeInterface ht hx
  ·cases hb
 ·exact loadAV_ok hb hreq
 ·exact sliceAV_ok hb hreq
 ·exact buildAV_ok hb hreq
 ·split at hb
  ·rename_i hx
   simp only [Option.some.injEq,Prod.mk.injEq] at hb;obtain⟨rfl,rfl⟩:=hb;exact POk.nilCheckO hx
  ·cases hb
 ·rename_i t x i
  unfold fieldAV at hb
  split at hb
  ·rename_i g o hx
   cases hf:tFld P t i with
   |none=>rw [hf] at hb;cases hb
   |some off=>
    rw [hf] at hb
    simp only [Option.map_some,Option.some.injEq,Prod.mk.injEq] at hb;obtain⟨rfl,rfl⟩:=hb;exact POk.fieldO hf hx
  ·rename_i n f hx
   cases hf:tFld P t i with
   |none=>rw [hf] at hb;cases hb
   |some off=>
    rw [hf] at hb
    simp only [Option.map_some,Option.some.injEq,Prod.mk.injEq] at hb;obtain⟨rfl,rfl⟩:=hb;exact POk.fieldR hf hx hreq
  ·cases hb
 ·unfold indexAV at hb
  split at hb
  ·rename_i hx hix
   split at hb
   ·rename_i ht
    simp only [Option.some.injEq,Prod.mk.injEq] at hb;obtain⟨rfl,rfl⟩:=hb
    obtain⟨rfl,hz,h0,hl⟩:=hreq
    exact POk.indexR ht hx hix h0 hl hz
   ·cases hb
  ·rename_i hx hix
   split at hb
   ·rename_i ht
    simp only [Option.some.injEq,Prod.mk.injEq] at hb;obtain⟨rfl,rfl⟩:=hb
    obtain⟨rfl,h0,hl⟩:=hreq
    exact POk.indexO ht hx hix h0 hl
   ·cases hb
  ·cases hb
 ·split at hb
  ·rename_i x t _ _ _ c ht hx
   cases hn:lenCV c with
   |none=>rw [hn] at hb;cases hb
   |some n=>
    rw [hn] at hb
    simp only [Option.map_some,Option.some.injEq,Prod.mk.injEq] at hb;obtain⟨rfl,rfl⟩:=hb
    exact POk.lenS ht hx hn
  ·cases hb
 ·split at hb
  ·rename_i hx hy
   simp only [Option.some.injEq,Prod.mk.injEq] at hb;obtain⟨rfl,rfl⟩:=hb
   subst hreq
   exact POk.max2 hx hy
  ·cases hb
 ·split at hb
  ·rename_i hx hy
   simp only [Option.some.injEq,Prod.mk.injEq] at hb;obtain⟨rfl,rfl⟩:=hb
   subst hreq
   exact POk.min2 hx hy
  ·cases hb
 ·cases hb
theorem aw_p {E:Env} {K:List It} {σ σ':Sl} {h:Heap} {all rest:List Oper} {o:Oper} (nw:Bool) {req:Prop} {r:AV} (hb:pureOp E.P nw h (ev σ) o.op=some (req,r)) (hreq:req) (hσ:σ.setO o.dst r=σ')
 (hw:wantA all σ o=some true) (hd:dstOk E.N o.dst=true) (k:aw E (.ops all rest::K) σ' h):aw E (.ops all (o::rest)::K) σ h:=
 aw_pure hw (pureOp_ok (fun _=>rfl) hb hreq) hd hσ k
end Go.AI
namespace Go.AI
noncomputable def runOps (P:Program) (nw:Bool) (h:Heap) (all:List Oper):List Oper→Prop→Sl→Option (Prop×Sl)
 |[],q,σ=>some (q,σ)
 |o::rest,q,σ=>match wantA all σ o with
  |some true=>match pureOp P nw h (ev σ) o.op with
   |some (q1,r)=>runOps P nw h all rest (q∧q1) (σ.setO o.dst r)
   |none=>none
  |some false=>runOps P nw h all rest q (σ.setO o.dst (.tup []))
  |none=>none
def dstsOk (N:Nat) (l:List Oper):Bool:=l.all fun o=>dstOk N o.dst
section
variable {E : Env} {K : List It} {σ σ' : Sl} {h : Heap} {all rest : List Oper} {o : Oper}
theorem runOps_q {P:Program} {nw:Bool}:∀(l:List Oper) (q:Prop) (σ σ':Sl) (q':Prop),runOps P nw h all l q σ=some (q',σ')→q'→q
 |[],q,σ,σ',q',hr,hq=>by
  simp only [runOps,Option.some.injEq,Prod.mk.injEq] at hr
  rw [hr.1];exact hq
 |o::l,q,σ,σ',q',hr,hq=>by
  unfold runOps at hr
  split at hr
  ·split at hr
   ·exact(runOps_q l _ _ _ _ hr hq).1
   ·cases hr
  ·exact runOps_q l _ _ _ _ hr hq
  ·cases hr
theorem aw_runOps (nw:Bool):∀(l:List Oper) (q:Prop) (σ σ':Sl) (q':Prop),runOps E.P nw h all l q σ=some (q',σ')→q'→dstsOk E.N l=true→aw E (.ops all rest::K) σ' h→aw E (.ops all (l++rest)::K) σ h
 |[],q,σ,σ',q',hr,_,_,k=>by
  simp only [runOps,Option.some.injEq,Prod.mk.injEq] at hr
  rw [hr.2]
  exact k
 |o::l,q,σ,σ',q',hr,hq,hd,k=>by
  simp only [dstsOk,List.all_cons,Bool.and_eq_true] at hd
  unfold runOps at hr
  split at hr
  ·rename_i hw
   split at hr
   ·rename_i q1 r hp
    exact aw_p nw hp (runOps_q l _ _ _ _ hr hq).2 rfl hw hd.1 (aw_runOps nw l _ _ _ q' hr hq hd.2 k)
   ·cases hr
  ·rename_i hw
   exact aw_skipped hw hd.1 rfl (aw_runOps nw l _ _ _ q' hr hq hd.2 k)
  ·cases hr
theorem aw_rp {id:Nat} {l:List Oper} (nw:Bool) {q:Prop} (hr:runOps E.P nw h l l True σ=some (q,σ')) (hq:q) (hd:dstsOk E.N l=true) (k:aw E K σ' h):aw E (.code (.region id l.toArray false)::K) σ h:=
 aw_region (by have:=aw_runOps (E:=E) (K:=K) (h:=h) (all:=l) (rest:=[]) nw l True σ σ' q hr hq hd (aw_ops_nil k);simpa using this)
def updF (f:Nat→CV) (off:Nat):List CV→Nat→CV
 |[]=>f
 |c::cs=>updF (fun j=>if j=off then c else f j) (off+1) cs
def putL (cs:Array Value) (k:Nat):List Value→Array Value
 |[]=>cs
 |u::us=>putL (cs.setIfInBounds k u) (k+1) us
theorem putL_size (us:List Value):∀(cs:Array Value) (k:Nat),(putL cs k us).size=cs.size:=by
 induction us with
 |nil=>intro cs k;rfl
 |cons u us ih=>intro cs k;simp [putL,ih]
theorem putL_rep {S:Bool→Nat→Prop} {w:World} {n:Nat}:∀(vs:List CV) (us:List Value) (cs:Array Value) (f:Nat→CV) (k:Nat),RepL S w vs us→n≤cs.size→(∀j,j<n→∃u,cs[j]?=some u∧RepC S w (f j) u)→
 ∀j,j<n→∃u,(putL cs k us)[j]?=some u∧RepC S w (updF f k vs j) u
 |[],[],cs,f,k,_,_,hc=>hc
 |c::vs,u::us,cs,f,k,hr,hn,hc=>by
  refine putL_rep vs us _ _ (k+1) hr.2 (by simpa using hn) (fun j hj=> ?_)
  by_cases e:j=k
  ·subst e
   exact⟨u,by simp [show j<cs.size from by omega],by simpa using hr.1⟩
  ·obtain⟨x,hx,hxr⟩:=hc j hj
   exact⟨x,by rw [Array.getElem?_setIfInBounds_ne (fun e'=>e e'.symm)];exact hx,by simpa [e] using hxr⟩
 |[],_::_,_,_,_,hr,_,_=>hr.elim
 |_::_,[],_,_,_,hr,_,_=>hr.elim
theorem run_storeCells {P:Program} {g:Nat} {ty:TypeId}:∀(us:List Value) (w:World) (cs:Array Value) (off i:Nat),w.heap[g]?=some (.cells cs ty (0,0))→off+i+us.length≤cs.size→(∀u∈us,u.oneCell'=true)→
 ∃w',(storeCells ⟨g,off,none⟩ us i).run P w=.ok () w'∧w'.heap[g]?=some (.cells (putL cs (off+i) us) ty (0,0))∧Fr (fun b=>b=g) w w'
 |[],w,cs,off,i,hb,_,_=>⟨w,by simp [storeCells],hb,Fr.refl _ _⟩
 |u::us,w,cs,off,i,hb,hl,h1=>by
  simp only [List.length_cons] at hl
  have hc:w.cell? ⟨g,off+i,none⟩=some (cs[off+i]'om):=by rw [cell_own hb];exact Array.getElem?_eq_getElem _
  have hz:w.frozen? ⟨g,off+i,none⟩=false:=by simp [World.frozen?,hb]
  have hb':(w.setCell ⟨g,off+i,none⟩ u).heap[g]?=some (.cells (cs.setIfInBounds (off+i) u) ty (0,0)):=by
   simp [World.setCell,Array.getElem?_modify,hb]
  obtain⟨w',hrun,hbl,hfr⟩:=run_storeCells us (w.setCell ⟨g,off+i,none⟩ u) _ off (i+1) hb' (by simp;omega) (fun x hx=>h1 x (List.mem_cons_of_mem _ hx))
  refine⟨w',?_,by simpa [putL,Nat.add_assoc] using hbl,(Fr.setCell w _ u (own:=fun b=>b=g) rfl).trans hfr (fun x hx _=>hx)⟩
  simp only [storeCells,Sem.run_bind,add_mk,run_store P w _ u _ (h1 u (by simp)),hc,hz]
  simpa using hrun
theorem St.setObj {N:Nat} {C:Ctx} {a:Act} {w w':World} {g:Nat} {ob ob':AObj} (s:St N C σ h a w) (hg:h.get g=some ob) (hfr:Fr (fun b=>b=g) w w') (ho:ORep (Stab C (h.set g ob') w') w' g ob'):
 St N C σ (h.set g ob') a w':=by
 have hgm:g∈h.keys:=List.mem_map.2 ⟨_,Heap.get_mem hg,rfl⟩
 have hk:(h.set g ob').keys=h.keys:=Heap.keys_set _ _ _
 have kp:Keeps (Stab C h w) (Stab C (h.set g ob') w') w w':=
  ⟨fun t b hb=>⟨hb.1,Nat.lt_of_lt_of_le hb.2.1 hfr.size,by rw [hk];exact hb.2.2⟩,fun t b hb=>hfr.block b hb.2.1 (fun e=>hb.2.2 (e▸hgm)),hfr.has⟩
 refine⟨s.size,s.defers,fun t=>Rep.keep kp (s.slots t),fun g' o' hm=> ?_,by rw [hk];exact s.nodup,by rw [hk];exact s.keys,?_⟩
 ·rcases Heap.mem_set s.nodup hm with e|⟨hm',hne⟩
  ·cases e;exact ho
  ·have h1:=s.heap g' o' hm'
   exact ORep.keep kp (hfr.block g' h1.lt hne) h1
 ·refine s.frame.trans hfr (fun x hx hlt=> ?_)
  subst hx
  exact(s.keys _ hgm).resolve_right om
theorem aw_store {t g off m n:Nat} {ty:TypeId} {ag:Bool} {f:Nat→CV} {a x:Operand} {v:AV} {h':Heap} (hop:o.op=.store t a x) (hw:wantA all σ o=some true) (hd:dstOk E.N o.dst=true) (hdn:o.dst=none) (ha:ev σ a=.c (.optr g off)) (hx:ev σ x=v)
 (hg:h.get g=some (.cells ty m f)) (ht:tSz E.P t=some (ag,n)) (hnt:∀xs,v≠.tup xs) (hs:v.cells.all CV.solid=true) (hlen:v.cells.length=n) (hle:off+n≤m)
 (hh:h.set g (.cells ty m (updF f off v.cells))=h') (k:aw E (.ops all rest::K) σ h'):aw E (.ops all (o::rest)::K) σ h:=by
 subst hh
 refine aw_step hw (fun ac w s=> ?_) k
 have h1:=ev_rep s a
 have h2:=ev_rep s x
 rw [ha] at h1
 rw [hx] at h2
 have h1':ac.eval a=.pointer (some ⟨g,off,none⟩):=h1
 obtain⟨hL,hone⟩:=rep_cells hnt hs h2
 obtain⟨cs,hb,hn,hj⟩:=s.heap g _ (Heap.get_mem hg)
 have hus:(ac.eval x).cells.toList.length=n:=by rw [hL.length,hlen]
 obtain⟨w',hrun,hbl,hfr⟩:=run_storeCells (P:=E.P) (ac.eval x).cells.toList w cs off 0 hb om (fun u hu=>hone u (by simpa using hu))
 refine⟨undef,w',.inr ⟨?_,rfl⟩,?_⟩
 ·have hsz:(ac.eval x).cells.size=n:=by rw [←hus];simp
  simp only [execOp,hop,Instr.storeAt,Instr.sureAddr,h1',storeVar,Sem.run_bind,Sem.run_pure,Result.andThen_ok,(tSz_run ht w).2,hsz,ne_eq,not_true_eq_false,if_false,hrun]
 ·have e:ac.put o.dst undef=ac:=by rw [hdn];rfl
  rw [e]
  have hgm:g∈h.keys:=List.mem_map.2 ⟨_,Heap.get_mem hg,rfl⟩
  have hkk:(h.set g (.cells ty m (updF f off v.cells))).keys=h.keys:=Heap.keys_set _ _ _
  have kp:Keeps (Stab E.C h w) (Stab E.C (h.set g (.cells ty m (updF f off v.cells))) w') w w':=
   ⟨fun t b hb=>⟨hb.1,Nat.lt_of_lt_of_le hb.2.1 hfr.size,by rw [hkk];exact hb.2.2⟩,fun t b hb=>hfr.block b hb.2.1 (fun e=>hb.2.2 (e▸hgm)),hfr.has⟩
  refine s.setObj hg hfr ⟨_,hbl,by rw [putL_size];exact hn,?_⟩
  have:=putL_rep v.cells (ac.eval x).cells.toList cs f (off+0) (hL.keep kp) hn (fun j hjn=>by obtain⟨u,hu,hr⟩:=hj j hjn;exact⟨u,hu,hr.keep kp⟩)
  simpa using this
end
end Go.AI
namespace Go.AI
section
variable {E : Env} {K : List It} {σ σ' : Sl} {h : Heap} {all rest : List Oper} {o : Oper}
theorem putL_get (us:List Value):∀(cs:Array Value) (k j:Nat),k+us.length≤cs.size→(putL cs k us)[j]?=if k≤j∧j<k+us.length then us[j-k]? else cs[j]?:=by
 induction us with
 |nil=>intro cs k j _;simp [putL];omega
 |cons u us ih=>
  intro cs k j hl
  simp only [List.length_cons] at hl
  rw [putL,ih _ _ _ (by simp;omega)]
  by_cases h1:k+1≤j∧j<k+1+us.length
  ·rw [if_pos h1,if_pos (by simp;omega)]
   have:j-k=(j-(k+1))+1:=by omega
   rw [this];simp
  ·rw [if_neg h1]
   by_cases h2:j=k
   ·subst h2
    rw [if_pos (by simp)]
    simp [show j<cs.size from by omega]
   ·rw [if_neg (by simp;omega),Array.getElem?_setIfInBounds_ne (fun e=>h2 e.symm)]
theorem putL_full (us:List Value) (cs:Array Value) (hs:cs.size=us.length):putL cs 0 us=us.toArray:=by
 apply Array.ext_getElem?
 intro j
 rw [putL_get us cs 0 j om]
 by_cases hj:j<us.length
 ·rw [if_pos om];simp
 ·rw [if_neg om,Array.getElem?_eq_none om];simp;omega
theorem fold_putL (us:List Value) (off:Nat):∀(cs:Array Value) (k:Nat),(us.zipIdx k).foldl (fun cs (p:Value×Nat)=>cs.setIfInBounds (off+p.2) p.1) cs=putL cs (off+k) us:=by
 induction us with
 |nil=>intro cs k;rfl
 |cons u us ih=>intro cs k;simp only [List.zipIdx_cons,List.foldl_cons,ih,putL,Nat.add_assoc]
theorem fold_putL' (v:Value) (off:Nat) (cs:Array Value):v.cells.zipIdx.foldl (fun cs (c,j)=>cs.setIfInBounds (off+j) c) cs=putL cs off v.cells.toList:=by
 have:=fold_putL v.cells.toList off cs 0
 rw [Nat.add_zero] at this
 rw [←this,←Array.foldl_toList]
 simp
def enumL:Nat→List Value→List (Nat×Value)
 |_,[]=>[]
 |k,v::vs=>(k,v)::enumL (k+1) vs
theorem putL_append (us vs:List Value):∀(cs:Array Value) (k:Nat),putL cs k (us++vs)=putL (putL cs k us) (k+us.length) vs:=by
 induction us with
 |nil=>intro cs k;simp [putL]
 |cons u us ih=>intro cs k;simp only [List.cons_append,putL,ih,List.length_cons];congr 1;omega
theorem fill_seq (size:Nat):∀(vs:List Value) (k:Nat) (cs:Array Value),(∀v∈vs,v.cells.size=size)→(k+vs.length)*size≤cs.size→
 Instr.fill (fun i=>some (i*size,size)) cs (enumL k vs)=some (putL cs (k*size) (vs.flatMap fun v=>v.cells.toList))
 |[],k,cs,_,_=>rfl
 |v::vs,k,cs,hv,hl=>by
  have h1:v.cells.size=size:=hv v (by simp)
  have h2:(k+(vs.length+1))*size=k*size+size+vs.length*size:=by rw [Nat.add_mul,Nat.add_mul];omega
  simp only [List.length_cons] at hl
  simp only [enumL,Instr.fill]
  rw [if_neg (by simp only [h1,ne_eq,not_true_eq_false,decide_false,Bool.false_or,decide_eq_true_eq];omega),fold_putL']
  rw [fill_seq size vs (k+1) _ (fun x hx=>hv x (List.mem_cons_of_mem _ hx)) (by rw [putL_size];rw [show k+1+vs.length=k+(vs.length+1) from by omega];exact hl)]
  simp only [List.flatMap_cons,putL_append]
  congr 2
  rw [Nat.add_mul]
  simp [h1]
theorem RepL.append {S:Bool→Nat→Prop} {w:World}:∀{xs ys:List CV} {us vs:List Value},RepL S w xs us→RepL S w ys vs→RepL S w (xs++ys) (us++vs)
 |[],_,[],_,_,h2=>h2
 |_::_,_,_::_,_,h1,h2=>⟨h1.1,RepL.append h1.2 h2⟩
 |[],_,_::_,_,h1,_=>h1.elim
 |_::_,_,[],_,h1,_=>h1.elim
theorem parts_rep {N:Nat} {C:Ctx} {a:Act} {w:World} (s:St N C σ h a w) (size:Nat):∀(xs:List Operand),(∀x∈xs,(ev σ x).flat=true∧(ev σ x).cells.all CV.solid=true∧(ev σ x).cells.length=size)→
 RepL (Stab C h w) w ((xs.map (ev σ)).flatMap AV.cells) ((xs.map a.eval).flatMap fun v=>v.cells.toList)∧∀v∈xs.map a.eval,v.cells.size=size
 |[],_=>⟨trivial,by simp⟩
 |x::xs,hx=>by
  obtain⟨h1,h2,h3⟩:=hx x (by simp)
  obtain⟨hL,_⟩:=rep_cells (fun ys e=>by rw [e] at h1;cases h1) h2 (ev_rep s x)
  obtain⟨r1,r2⟩:=parts_rep s size xs (fun y hy=>hx y (List.mem_cons_of_mem _ hy))
  refine⟨by simpa using hL.append r1,?_⟩
  intro v hv
  simp only [List.map_cons,List.mem_cons] at hv
  rcases hv with rfl|hv
  ·have:=hL.length;rw [h3] at this;simpa using this
  ·exact r2 v hv
def enumO:Nat→List Operand→List (Nat×Operand)
 |_,[]=>[]
 |k,v::vs=>(k,v)::enumO (k+1) vs
theorem enum_map (e:Operand→Value):∀(xs:List Operand) (k:Nat),(enumO k xs).map (fun p=>(p.1,e p.2))=enumL k (xs.map e)
 |[],_=>rfl
 |_::xs,k=>by simp [enumO,enumL,enum_map e xs (k+1)]
theorem aw_buildSlice {t e size bytes len:Nat} {xs:List Operand} {cells:List CV} (hop:o.op=.buildSlice t len (enumO 0 xs).toArray) (hw:wantA all σ o=some true) (hd:dstOk E.N o.dst=true) (ht:tElem E.P t=some (e,size,bytes))
 (hz:(tZero E.P e).isSome=true) (hl:xs.length=len) (hsm:len*size≤16777216) (hlm:len≤16777216) (hx:∀x∈xs,(ev σ x).flat=true∧(ev σ x).cells.all CV.solid=true∧(ev σ x).cells.length=size) (hc:(xs.map (ev σ)).flatMap AV.cells=cells)
 (k:∀g,g∉h.keys→aw E (.ops all rest::K) (σ.setO o.dst (.c (.osl g size 0 len))) ((g,.cells e (len*size) (ofL cells))::h)):aw E (.ops all (o::rest)::K) σ h:=by
 subst hc
 refine aw_new (r:=fun g=>.c (.osl g size 0 len)) (ob:=.cells e (len*size) (ofL ((xs.map (ev σ)).flatMap AV.cells))) hw hd (fun a w s=> ?_) k
 obtain⟨hu,inf,hi,hsz,_⟩:=tElem_spec ht
 obtain⟨z,hz'⟩:=Option.isSome_iff_exists.1 hz
 obtain⟨i',zv,hi',hzv,_⟩:=tZero_spec hz'
 rw [hi] at hi'
 injection hi' with hi'
 subst hi'
 obtain⟨hL,hcs⟩:=parts_rep s size xs hx
 have hnk:w.heap.size∉h.keys:=fun hm=>Nat.lt_irrefl _ (s.klt hm)
 generalize hvs:xs.map a.eval=vs at hL hcs
 have hlv:vs.length=len:=by rw [←hvs];simpa using hl
 have hfl:(vs.flatMap fun v=>v.cells.toList).length=len*size:=by
  rw [←hlv]
  clear hL hvs hlv
  induction vs with
  |nil=>simp
  |cons v vs ih=>simp only [List.flatMap_cons,List.length_append,List.length_cons,ih (fun x hx=>hcs x (List.mem_cons_of_mem _ hx)),Nat.add_mul];have:=hcs v (by simp);simp [this];omega
 refine⟨.slice (some ⟨w.heap.size,0,none⟩) len len,w.alloc (.cells (vs.flatMap fun v=>v.cells.toList).toArray e),?_,Fr.alloc _ _ _,by simp,?_,?_⟩
 ·have hm:(Array.map (fun x:Nat×Operand=>(x.1,a.eval x.2)) (enumO 0 xs).toArray).toList=enumL 0 vs:=by
   rw [←hvs,←enum_map];simp
  have hfill:∀zc:Array Value,Instr.fill (fun i=>some (i*size,size)) ((Array.range (len*size)).map (fun x=>zc[x%zc.size]!)) (enumL 0 vs)=some (vs.flatMap fun v=>v.cells.toList).toArray:=fun zc=>by
   rw [fill_seq size vs 0 _ hcs (by simp [hlv])]
   rw [Nat.zero_mul,putL_full _ _ (by simp [hfl])]
  simp only [execOp,hop,Instr.buildSlice,Sem.run_bind,run_underlying hu,Result.andThen_ok,sizeOf,typeInfo,Sem.run_pure]
  simp only [run_program,hi,Result.andThen_ok,Sem.run_pure,hsz]
  rw [if_neg om]
  rw [hm]
  by_cases h0:len*size=0
  ·rw [if_pos h0]
   simp only [Sem.run_bind,Sem.run_pure,Result.andThen_ok,hfill]
   rfl
  ·rw [if_neg h0]
   simp only [Sem.run_bind,Sem.run_pure,Result.andThen_ok,zeroValue,typeInfo,run_program,hi,hzv,hfill]
   rfl
 ·have hr:=orep_new (C:=E.C) (w:=w) (ty:=e) (h':=((w.heap.size,AObj.cells e (len*size) (ofL ((xs.map (ev σ)).flatMap AV.cells)))::h)) (hL.keep (keeps_alloc hnk))
  have hcl:((xs.map (ev σ)).flatMap AV.cells).length=len*size:=by rw [←hL.length,hfl]
  rw [hcl] at hr
  exact hr
 ·exact⟨len,rfl,Nat.le_refl _,by unfold maxLen;omega,(vs.flatMap fun v=>v.cells.toList).toArray,e,⟨_,heap_alloc_new w _⟩,by simp [hfl]⟩
end
end Go.AI
namespace Go.AI
section
variable {E : Env} {K : List It} {σ σ' : Sl} {h : Heap} {all rest : List Oper} {o : Oper}
theorem ofL_map_cst (l:List Value) (j:Nat) (hj:j<l.length) (S:Bool→Nat→Prop) (w:World):RepC S w (ofL (l.map cstC) j) (l[j]):=by
 rw [ofL_get (l.map cstC) j (cstC l[j]) (by simp [hj])]
 exact cstC_rep S w _
theorem aw_make {t e size bytes n c:Nat} {z:List CV} {xl xc:Operand} {kl kc:IntKind} {nl nc:Int} (hop:o.op=.makeSlice t xl xc) (hw:wantA all σ o=some true) (hd:dstOk E.N o.dst=true) (ht:tElem E.P t=some (e,size,bytes))
 (hz:tZero E.P e=some z) (hzl:z.length=size) (hs0:0<size) (hl:ev σ xl=.c (.int kl nl)) (hc:ev σ xc=.c (.int kc nc)) (hn:nl=n) (hcn:nc=c) (hnc:n≤c) (hby:bytes*c≤281474976710656) (hc63:c≤9223372036854775807)
 (k:∀g,g∉h.keys→aw E (.ops all rest::K) (σ.setO o.dst (.c (.osl g size 0 n))) ((g,.cells e (c*size) (fun j=>ofL z (j%size)))::h)):aw E (.ops all (o::rest)::K) σ h:=by
 refine aw_new (r:=fun g=>.c (.osl g size 0 n)) (ob:=.cells e (c*size) (fun j=>ofL z (j%size))) hw hd (fun a w s=> ?_) k
 obtain⟨hu,inf,hi,hsz,hbb⟩:=tElem_spec ht
 obtain⟨i',zv,hi',hzv,rfl⟩:=tZero_spec hz
 rw [hi] at hi'
 injection hi' with hi'
 subst hi'
 have h1:a.eval xl=.int kl n:=by have:=ev_rep s xl;rw [hl,hn] at this;exact this
 have h2:a.eval xc=.int kc c:=by have:=ev_rep s xc;rw [hc,hcn] at this;exact this
 have hb':(inf.bytes:Int)*(c:Int)≤281474976710656:=by
  have h:((inf.bytes*c:Nat):Int)≤281474976710656:=by rw [hbb];omega
  rwa [Int.natCast_mul] at h
 have hr:=run_make (P:=E.P) w t e inf zv hu hi hzv kl kc n c om om hb' om
 simp only [Int.toNat_natCast] at hr
 refine⟨.slice (some ⟨w.heap.size,0,none⟩) n c,w.alloc (.cells (madeCells zv.cells (c*inf.size)) e),?_,Fr.alloc _ _ _,by simp,?_,?_⟩
 ·simp only [execOp,hop,h1,h2,Sem.run_bind,hr,Result.andThen_ok]
  rfl
 ·refine⟨_,heap_alloc_new w _,by rw [size_madeCells,hsz];exact Nat.le_refl _,fun j hj=> ?_⟩
  have hzs:zv.cells.size=size:=by simpa using hzl
  have hlt:j%size<zv.cells.size:=by rw [hzs];exact Nat.mod_lt _ hs0
  refine⟨zv.cells[j%size],?_,?_⟩
  ·have hlt':j%size<zv.cells.size:=hlt
   simp only [madeCells,hsz,hzs]
   simp [hj,hlt',getElem!_pos]
  ·exact ofL_map_cst zv.cells.toList (j%size) (by simpa using hlt) _ _
 ·exact⟨c,rfl,hnc,by unfold maxLen;omega,_,e,⟨_,heap_alloc_new w _⟩,by rw [size_madeCells,hsz];simp⟩
inductive Src (h:Heap) (size:Nat):CV→Nat→(Nat→CV)→Prop
 |nils {f:Nat→CV}:Src h size .nils 0 f
 |row {t:Bool} {n:Nat} {f:Nat→CV}:Src h size (.row t size n f) n f
 |osl {g off n m:Nat} {ty:TypeId} {f f':Nat→CV}:h.get g=some (.cells ty m f')→off+n*size≤m→(∀j,j<n*size→f j=f' (off+j))→Src h size (.osl g size off n) n f
theorem Src.cells {S:Bool→Nat→Prop} {w:World} {size n:Nat} {x:CV} {f:Nat→CV} {v:Value} (hh:∀g o,(g,o)∈h→ORep S w g o) (hs:Src h size x n f) (hr:RepC S w x v):
 ∃A c,v=.slice A n c∧(0<n*size→∃ad,A=some ad∧∀j,j<n*size→∃u,w.cell? (ad.add j)=some u∧RepC S w (f j) u):=by
 cases hs with
 |nils=>obtain⟨A,hv⟩:=hr;exact⟨A,0,hv,fun h0=>by simp at h0⟩
 |row=>obtain⟨A,c,hv,_,hn⟩:=hr;exact⟨A,c,hv,fun h0=>by obtain⟨ad,hA,_,hj⟩:=hn h0;exact⟨ad,hA,hj⟩⟩
 | @osl g off n m ty f f' hg hle hf=>
   obtain⟨c,hv,_,_,_⟩:=hr
   obtain⟨cs,hb,hn,hj⟩:=hh _ _ (Heap.get_mem hg)
   refine⟨_,c,hv,fun _=>⟨_,rfl,fun j hjl=> ?_⟩⟩
   obtain⟨u,hu,hr⟩:=hj (off+j) om
   exact⟨u,by rw [add_mk,cell_own hb];exact hu,by rw [hf j hjl];exact hr⟩
theorem list_of_cells {S:Bool→Nat→Prop} {w:World} {ad:Addr} {f:Nat→CV}:∀(n:Nat),(∀j,j<n→∃u,w.cell? (ad.add j)=some u∧RepC S w (f j) u)→
 ∃us:List Value,us.length=n∧(∀j u,us[j]?=some u→w.cell? (ad.add j)=some u∧RepC S w (f j) u)
 |0,_=>⟨[],rfl,fun j u e=>by simp at e⟩
 |n+1,hc=>by
  obtain⟨us,hl,hu⟩:=list_of_cells n (fun j hj=>hc j om)
  obtain⟨u,h1,h2⟩:=hc n om
  refine⟨us++[u],by simp [hl],fun j x e=> ?_⟩
  rw [List.getElem?_append] at e
  split at e
  ·exact hu j x e
  ·rename_i hj
   have:j-us.length=0:=by
    rcases Nat.eq_zero_or_pos (j-us.length) with h0|h0
    ·exact h0
    ·rw [List.getElem?_eq_none (by simp;omega)] at e;cases e
   rw [this] at e
   simp at e
   subst e
   have hjn:j=n:=by omega
   subst hjn
   exact⟨h1,h2⟩
def appF (f:Nat→CV) (m:Nat) (f2:Nat→CV) (j:Nat):CV:=if j<m then f j else f2 (j-m)
def Heap.del:Heap→Nat→Heap
 |[],_=>[]
 |(g',x)::h,g=>if g'=g then h else(g',x)::Heap.del h g
theorem Heap.del_sub (h:Heap) (g:Nat):(h.del g).Sublist h:=by
 induction h with
 |nil=>exact .slnil
 |cons p h ih=>
  obtain⟨g',x⟩:=p
  unfold Heap.del
  split
  ·exact List.sublist_cons_self _ _
  ·exact ih.cons_cons _
theorem Heap.del_not (h:Heap) (g:Nat) (hn:h.keys.Nodup):g∉(h.del g).keys:=by
 induction h with
 |nil=>simp [Heap.del,Heap.keys]
 |cons p h ih=>
  obtain⟨g',x⟩:=p
  simp only [Heap.keys,List.map_cons,List.nodup_cons] at hn
  unfold Heap.del
  split
  ·rename_i e;subst e;exact hn.1
  ·rename_i e
   simp only [Heap.keys,List.map_cons,List.mem_cons,not_or]
   exact⟨fun e'=>e e'.symm,ih hn.2⟩
theorem Fr.setRow {w:World} {g:Nat} {cs cs':Array Value} {e:TypeId} (hg:w.heap[g]?=some (.cells cs e (0,0))) (hs:cs'.size=cs.size):Fr (fun b=>b=g) w (w.setRow g cs'):=by
 refine⟨rfl,rfl,rfl,by simp [World.setRow],Nat.le_refl _,fun b _ hn=>setRow_other w g b cs' hn,fun g1 m hh=> ?_⟩
 obtain⟨c1,t1,⟨f1,h1⟩,h2⟩:=hh
 by_cases hne:g1=g
 ·subst hne
  rw [hg] at h1
  injection h1 with h1
  injection h1 with h1 h3
  subst h1
  exact⟨cs',e,⟨_,setRow_heap w g1 cs cs' e _ hg⟩,by rw [hs];exact h2⟩
 ·exact⟨c1,t1,⟨f1,(setRow_other w g g1 cs' hne).trans h1⟩,h2⟩
theorem append_own {P:Program} {w:World} {t ty e size bytes n c k d g:Nat} {z:List CV} {cs:Array Value} {ad:Addr} {news:List Value} (ht:tElem P t=some (e,size,bytes)) (hz:tZero P e=some z) (hzl:z.length=size)
 (hb:w.heap[g]?=some (.cells cs e (0,0))) (hcs:c*size≤cs.size) (hnc:n≤c) (hcm:c≤maxLen) (hnl:news.length=k*size) (hnews:∀j u,news[j]?=some u→w.cell? (ad.add j)=some u) (h1:∀u∈news,u.oneCell'=true)
 (h63:n+k≤maxLen) (hby:(n+k)*bytes≤140737488355328):
 ∃g' c' w' cs',(Builtin.append_ #[t,t] ty #[.slice (some ⟨g,0,none⟩) n c,.slice (some ad) k d]).run P w=.ok (.slice (some ⟨g',0,none⟩) (n+k) c') w'∧w'.heap[g']?=some (.cells cs' e (0,0))∧c'*size≤cs'.size∧n+k≤c'∧c'≤maxLen∧
  (∀j,j<n*size→cs'[j]?=cs[j]?)∧(∀j,j<k*size→cs'[n*size+j]?=news[j]?)∧(g'=g∨g'=w.heap.size)∧Fr (fun b=>b=g) w w':=by
 obtain⟨hu,inf,hi,hsz,hbb⟩:=tElem_spec ht
 obtain⟨i',zv,hi',hzv,rfl⟩:=tZero_spec hz
 rw [hi] at hi'
 injection hi' with hi'
 subst hi'
 subst hsz
 subst hbb
 have hzs:zv.cells.size=inf.size:=by simpa using hzl
 have hmul:(n+k)*inf.size=n*inf.size+k*inf.size:=Nat.add_mul _ _ _
 have hns:n*inf.size≤cs.size:=Nat.le_trans (Nat.mul_le_mul_right _ hnc) hcs
 have h63':n+k≤9223372036854775807:=by simp only [maxLen] at h63;omega
 by_cases hroom:n+k≤c
 ·have hfit:n*inf.size+news.length≤cs.size:=by rw [hnl,←Nat.add_mul];exact Nat.le_trans (Nat.mul_le_mul_right _ hroom) hcs
  have hr:=run_append_room (P:=P) w t ty e inf hu hi g n c cs hb ad k d news hnl hnews h1 hroom hfit
  refine⟨g,c,_,_,hr,setRow_heap w g cs _ e _ hb,?_,hroom,hcm,fun j hj=> ?_,fun j hj=> ?_,.inl rfl,Fr.setRow hb ?_⟩
  ·refine Nat.le_trans hcs ?_;simp only [List.size_toArray,List.length_append,List.length_take,List.length_drop,Array.length_toList];omega
  ·simp only [List.getElem?_toArray,List.append_assoc]
   rw [List.getElem?_append_left (by simp;omega),List.getElem?_take]
   simp [hj]
  ·simp only [List.getElem?_toArray,List.append_assoc]
   rw [List.getElem?_append_right (by simp;omega),List.getElem?_append_left (by simp;omega)]
   simp [Nat.min_eq_left hns]
  ·simp only [List.size_toArray,List.length_append,List.length_take,List.length_drop,Array.length_toList];omega
 ·have hold:∀j v,(cs.toList.take (n*inf.size))[j]?=some v→w.cell? ((⟨g,0,none⟩:Addr).add j)=some v:=by
   intro j v hv
   rw [add_mk,cell_own hb,Nat.zero_add]
   rw [List.getElem?_take] at hv
   split at hv
   ·simpa using hv
   ·cases hv
  have hol:(cs.toList.take (n*inf.size)).length=n*inf.size:=by simp;omega
  have hr:=run_append_grow (P:=P) w t ty e inf zv hu hi hzv ⟨g,0,none⟩ n c _ hol hold ad k d news hnl hnews om om (growslice_fits om hby)
  have hge:=grownCap_ge w (n+k) c e
  refine⟨w.heap.size,_,_,_,hr,heap_alloc_new w.drew _,?_,hge,grownCap_le_maxLen w (n+k) c e h63,fun j hj=> ?_,fun j hj=> ?_,.inr rfl,?_⟩
  ·refine Nat.le_of_eq ?_
   simp only [Array.size_append,List.size_toArray,size_zeroCells,hzs,hol,hnl,←Nat.add_mul]
   congr 1
   omega
  ·rw [Array.append_assoc,Array.getElem?_append_left (by simp;omega)]
   simp [hj]
  ·rw [Array.append_assoc,Array.getElem?_append_right (by simp;omega),Array.getElem?_append_left (by simp;omega)]
   simp [Nat.min_eq_left hns]
  ·exact(Fr.drew (fun b=>b=g) w (w.drawn+1)).trans (Fr.alloc (fun _=>False) w.drew _) (fun x hx _=>hx.elim)
theorem append_new {P:Program} {w:World} {t ty e size bytes k d:Nat} {z:List CV} {A:Option Addr} {ad:Addr} {news:List Value} (ht:tElem P t=some (e,size,bytes)) (hz:tZero P e=some z) (hzl:z.length=size)
 (hnl:news.length=k*size) (hnews:∀j u,news[j]?=some u→w.cell? (ad.add j)=some u) (hk:0<k) (h63:k≤maxLen) (hby:k*bytes≤140737488355328):
 ∃c' w' cs',(Builtin.append_ #[t,t] ty #[.slice A 0 0,.slice (some ad) k d]).run P w=.ok (.slice (some ⟨w.heap.size,0,none⟩) k c') w'∧w'.heap[w.heap.size]?=some (.cells cs' e (0,0))∧c'*size≤cs'.size∧k≤c'∧c'≤maxLen∧
  (∀j,j<k*size→cs'[j]?=news[j]?)∧Fr (fun _=>False) w w':=by
 obtain⟨hu,inf,hi,hsz,hbb⟩:=tElem_spec ht
 obtain⟨i',zv,hi',hzv,rfl⟩:=tZero_spec hz
 rw [hi] at hi'
 injection hi' with hi'
 subst hi'
 subst hsz
 subst hbb
 have hzs:zv.cells.size=inf.size:=by simpa using hzl
 have h63':k≤9223372036854775807:=by simp only [maxLen] at h63;omega
 cases A with
 |none=>
  have hr:=run_append_nil (P:=P) w t ty e inf zv hu hi hzv ad k d news hnl hnews hk om om
  have hge:=grownCap_ge w k 0 e
  refine⟨_,_,_,hr,heap_alloc_new w.drew _,?_,hge,grownCap_le_maxLen w k 0 e h63,fun j hj=> ?_,?_⟩
  ·refine Nat.le_of_eq ?_
   simp only [Array.size_append,List.size_toArray,size_zeroCells,hzs,hnl,←Nat.add_mul]
   congr 1
   omega
  ·rw [Array.getElem?_append_left (by simp;omega)]
   simp
  ·exact(Fr.drew (fun _=>False) w (w.drawn+1)).trans (Fr.alloc (fun _=>False) w.drew _) (fun x hx _=>hx.elim)
 |some ad0=>
  have hr:=run_append_grow (P:=P) w t ty e inf zv hu hi hzv ad0 0 0 [] (by simp) (by simp) ad k d news hnl hnews om om (growslice_fits om (by simpa using hby))
  rw [Nat.zero_add] at hr
  have hge:=grownCap_ge w k 0 e
  refine⟨_,_,_,hr,heap_alloc_new w.drew _,?_,hge,grownCap_le_maxLen w k 0 e h63,fun j hj=> ?_,?_⟩
  ·refine Nat.le_of_eq ?_
   simp only [Array.size_append,List.size_toArray,size_zeroCells,hzs,hnl,List.length_nil,Nat.zero_add,←Nat.add_mul]
   congr 1
   omega
  ·rw [Array.append_assoc,Array.getElem?_append_right (by simp),Array.getElem?_append_left (by simp;omega)]
   simp
  ·exact(Fr.drew (fun _=>False) w (w.drawn+1)).trans (Fr.alloc (fun _=>False) w.drew _) (fun x hx _=>hx.elim)
theorem St.replace {N:Nat} {C:Ctx} {a:Act} {w w':World} {g g':Nat} {ob ob':AObj} (s:St N C σ h a w) (hg:h.get g=some ob) (hfr:Fr (fun b=>b=g) w w') (hat:g'=g∨g'=w.heap.size)
 (ho:Keeps (Stab C h w) (Stab C ((g',ob')::h.del g) w') w w'→ORep (Stab C ((g',ob')::h.del g) w') w' g' ob'):St N C σ ((g',ob')::h.del g) a w'∧g'∉(h.del g).keys:=by
 have hgm:g∈h.keys:=List.mem_map.2 ⟨_,Heap.get_mem hg,rfl⟩
 have hsub:∀b,b∈(h.del g).keys→b∈h.keys:=fun b hb=>by
  obtain⟨p,hp,e⟩:=List.mem_map.1 hb
  exact List.mem_map.2 ⟨p,(Heap.del_sub h g).subset hp,e⟩
 have hglt:=s.klt hgm
 have hnot:g'∉(h.del g).keys:=by
  rcases hat with rfl|rfl
  ·exact Heap.del_not h _ s.nodup
  ·exact fun hm=>Nat.lt_irrefl _ (s.klt (hsub _ hm))
 have kp:Keeps (Stab C h w) (Stab C ((g',ob')::h.del g) w') w w':=by
  refine⟨fun t b hb=>⟨hb.1,Nat.lt_of_lt_of_le hb.2.1 hfr.size,?_⟩,fun t b hb=>hfr.block b hb.2.1 (fun e=>hb.2.2 (e▸hgm)),hfr.has⟩
  simp only [Heap.keys,List.map_cons,List.mem_cons,not_or]
  refine⟨?_,fun hm=>hb.2.2 (hsub b hm)⟩
  rcases hat with rfl|rfl
  ·exact fun e=>hb.2.2 (e▸hgm)
  ·have:=hb.2.1;omega
 refine⟨⟨s.size,s.defers,fun t=>Rep.keep kp (s.slots t),fun g1 o1 hm=> ?_,?_,fun g1 hg1=> ?_,?_⟩,hnot⟩
 ·simp only [List.mem_cons,Prod.mk.injEq] at hm
  rcases hm with ⟨rfl,rfl⟩|hm
  ·exact ho kp
  ·have h1:=s.heap g1 o1 ((Heap.del_sub h g).subset hm)
   have hmk:g1∈(h.del g).keys:=List.mem_map.2 ⟨(g1,o1),hm,rfl⟩
   have hne:g1≠g:=fun e=>Heap.del_not h g s.nodup (e▸hmk)
   exact ORep.keep kp (hfr.block g1 h1.lt hne) h1
 ·simp only [Heap.keys,List.map_cons,List.nodup_cons]
  exact⟨hnot,((Heap.del_sub h g).map _).nodup s.nodup⟩
 ·simp only [Heap.keys,List.map_cons,List.mem_cons] at hg1
  rcases hg1 with rfl|hg1
  ·rcases hat with rfl|rfl
   ·exact s.keys _ hgm
   ·right;exact s.frame.size
  ·exact s.keys g1 (hsub _ hg1)
 ·refine s.frame.trans hfr (fun x hx hlt=> ?_)
  subst hx
  exact(s.keys _ hgm).resolve_right om
end
end Go.AI
namespace Go.AI
section
variable {E : Env} {K : List It} {σ σ' : Sl} {h : Heap} {all rest : List Oper} {o : Oper}
theorem exec_append {P:Program} {o:Oper} {s x:Operand} {t:TypeId} {e:Operand→Value} {w w':World} {v:Value} (hop:o.op=.call {callee:=.builtin .append,args:= #[s,x],argTypes:= #[t,t]})
 (hr:(Builtin.append_ #[t,t] o.type #[e s,e x]).run P w=.ok v w'):(execOp e o).run P w=.ok (.value v) w':=by
 simp only [execOp,hop,resolve,invoke,Go.builtin,Sem.run_bind,Sem.run_pure,Result.andThen_ok,List.map_toArray,List.map_cons,List.map_nil,hr]
theorem aw_append {t e size bytes n k m g:Nat} {z:List CV} {f f2:Nat→CV} {s x:Operand} {cx:CV} {h2:Heap} (hop:o.op=.call {callee:=.builtin .append,args:= #[s,x],argTypes:= #[t,t]}) (hw:wantA all σ o=some true) (hd:dstOk E.N o.dst=true)
 (ht:tElem E.P t=some (e,size,bytes)) (hz:tZero E.P e=some z) (hzl:z.length=size) (hs0:0<size) (hs:ev σ s=.c (.osl g size 0 n)) (hg:h.get g=some (.cells e m f)) (hm:n*size≤m) (hx:ev σ x=.c cx) (hsrc:Src h size cx k f2) (hsol:∀j,j<k*size→(f2 j).solid=true) (hk:0<k)
 (h63:n+k≤maxLen) (hby:(n+k)*bytes≤140737488355328) (hh2:h.del g=h2)
 (kk:∀g',g'∉h2.keys→aw E (.ops all rest::K) (σ.setO o.dst (.c (.osl g' size 0 (n+k)))) ((g',.cells e ((n+k)*size) (appF f (n*size) f2))::h2)):aw E (.ops all (o::rest)::K) σ h:=fun a w st=>by
 subst hh2
 have r1:=ev_rep st s
 have r2:=ev_rep st x
 rw [hs] at r1
 rw [hx] at r2
 obtain⟨c,hv1,hnc,hcm,cs0,ty0,⟨_,hb0⟩,hcs0⟩:=r1
 obtain⟨cs,hb,hn,hj⟩:=st.heap g _ (Heap.get_mem hg)
 rw [hb] at hb0
 injection hb0 with hb0
 injection hb0 with hb0 _
 subst hb0
 obtain⟨A,d,hv2,hA⟩:=hsrc.cells st.heap r2
 obtain⟨ad,rfl,hc⟩:=hA (Nat.mul_pos hk hs0)
 obtain⟨news,hnl,hnews⟩:=list_of_cells (k*size) hc
 obtain⟨g',c',w',cs',hrun,hb',hcs',hle',hcm',hold,hnew,hat,hfr⟩:=append_own (P:=E.P) (ty:=o.type) (d:=d) ht hz hzl hb (by simpa using hcs0) hnc hcm hnl (fun j u e=>(hnews j u e).1)
  (fun u hu'=>by
   obtain⟨j,hj',rfl⟩:=List.getElem_of_mem hu'
   exact solid_one (hsol j om) (hnews j _ (List.getElem?_eq_getElem hj')).2) h63 hby
 have hmul:(n+k)*size=n*size+k*size:=Nat.add_mul _ _ _
 have hsz':(n+k)*size≤cs'.size:=Nat.le_trans (Nat.mul_le_mul_right _ hle') hcs'
 obtain⟨st',hnot⟩:=st.replace (ob':=.cells e ((n+k)*size) (appF f (n*size) f2)) hg hfr hat (fun kp=>⟨cs',hb',hsz',fun j hjl=>by
  unfold appF
  by_cases hjn:j<n*size
  ·rw [if_pos hjn,hold j hjn]
   obtain⟨u,hu,hr⟩:=hj j om
   exact⟨u,hu,hr.keep kp⟩
  ·rw [if_neg hjn]
   have hjk:j-n*size<k*size:=by omega
   have:=hnew (j-n*size) hjk
   rw [show n*size+(j-n*size)=j from by omega] at this
   rw [this]
   have hlt:j-n*size<news.length:=by omega
   exact⟨news[j-n*size],List.getElem?_eq_getElem hlt,(hnews _ _ (List.getElem?_eq_getElem hlt)).2.keep kp⟩⟩)
 have st2:=st'.put hd (r:=.c (.osl g' size 0 (n+k))) (v:=.slice (some ⟨g',0,none⟩) (n+k) c') ⟨c',rfl,hle',hcm',cs',e,⟨_,hb'⟩,by simp [hcs']⟩
 have hk':=kk g' hnot _ _ st2
 show wpList _ _ _ _ _ _
 unfold wpList
 rw [if_pos (st.wanted hw)]
 refine .inl ?_
 unfold Oper.wp
 rw [exec_append hop (by rw [hv1,hv2];exact hrun)]
 exact hk'
theorem aw_appendN {t e size bytes k:Nat} {z:List CV} {f2:Nat→CV} {s x:Operand} {cx:CV} (hop:o.op=.call {callee:=.builtin .append,args:= #[s,x],argTypes:= #[t,t]}) (hw:wantA all σ o=some true) (hd:dstOk E.N o.dst=true)
 (ht:tElem E.P t=some (e,size,bytes)) (hz:tZero E.P e=some z) (hzl:z.length=size) (hs0:0<size) (hs:ev σ s=.c .nils) (hx:ev σ x=.c cx) (hsrc:Src h size cx k f2) (hk:0<k)
 (h63:k≤maxLen) (hby:k*bytes≤140737488355328)
 (kk:∀g',g'∉h.keys→aw E (.ops all rest::K) (σ.setO o.dst (.c (.osl g' size 0 k))) ((g',.cells e (k*size) f2)::h)):aw E (.ops all (o::rest)::K) σ h:=by
 refine aw_new (r:=fun g=>.c (.osl g size 0 k)) (ob:=.cells e (k*size) f2) hw hd (fun a w st=> ?_) kk
 have r1:=ev_rep st s
 have r2:=ev_rep st x
 rw [hs] at r1
 rw [hx] at r2
 obtain⟨A0,hv1⟩:=r1
 obtain⟨A,d,hv2,hA⟩:=hsrc.cells st.heap r2
 obtain⟨ad,rfl,hc⟩:=hA (Nat.mul_pos hk hs0)
 obtain⟨news,hnl,hnews⟩:=list_of_cells (k*size) hc
 obtain⟨c',w',cs',hrun,hb',hcs',hle',hcm',hnew,hfr⟩:=append_new (P:=E.P) (ty:=o.type) (d:=d) ht hz hzl hnl (fun j u e=>(hnews j u e).1) hk h63 hby
 have hlt:w.heap.size<w'.heap.size:=(Array.getElem?_eq_some_iff.1 hb').1
 have hnk:w.heap.size∉h.keys:=fun hm=>Nat.lt_irrefl _ (st.klt hm)
 have kp:Keeps (Stab E.C h w) (Stab E.C ((w.heap.size,.cells e (k*size) f2)::h) w') w w':=
  ⟨fun t b hb=>⟨hb.1,Nat.lt_of_lt_of_le hb.2.1 hfr.size,by
   have:=hb.2.1
   simp only [Heap.keys,List.map_cons,List.mem_cons,not_or]
   exact⟨by omega,hb.2.2⟩⟩,fun t b hb=>hfr.block b hb.2.1 (fun x=>x),hfr.has⟩
 refine⟨_,w',exec_append hop (by rw [hv1,hv2];exact hrun),hfr,hlt,⟨cs',hb',Nat.le_trans (Nat.mul_le_mul_right _ hle') hcs',fun j hjl=> ?_⟩,c',rfl,hle',hcm',cs',e,⟨_,hb'⟩,by simp [hcs']⟩
 rw [hnew j hjl]
 have hl:j<news.length:=by omega
 exact⟨news[j],List.getElem?_eq_getElem hl,(hnews _ _ (List.getElem?_eq_getElem hl)).2.keep kp⟩
theorem run_append_zero {P:Program} {t ty e size bytes n c d:Nat} {A B:Option Addr} {w:World} (ht:tElem P t=some (e,size,bytes)) (hnc:n≤c):(Builtin.append_ #[t,t] ty #[.slice A n c,.slice B 0 d]).run P w=.ok (.slice A n c) w:=by
 obtain⟨hu,inf,hi,hsz,hbb⟩:=tElem_spec ht
 cases A<;>cases B<;>simp [Builtin.append_,run_underlying hu,sizeOf,typeInfo,hi,Builtin.lenOf,Builtin.firstCells,loadCells,loadCellsFrom,hnc,storeCells]
def isSlice:CV→Bool
 |.nils=>true
 |.osl _ _ _ _=>true
 |_=>false
theorem aw_append0 {t e size bytes:Nat} {f2:Nat→CV} {s x:Operand} {cs cx:CV} (hop:o.op=.call {callee:=.builtin .append,args:= #[s,x],argTypes:= #[t,t]}) (hw:wantA all σ o=some true) (hd:dstOk E.N o.dst=true)
 (ht:tElem E.P t=some (e,size,bytes)) (hs:ev σ s=.c cs) (hsl:isSlice cs=true) (hx:ev σ x=.c cx) (hsrc:Src h size cx 0 f2) (hσ:σ.setO o.dst (.c cs)=σ')
 (kk:aw E (.ops all rest::K) σ' h):aw E (.ops all (o::rest)::K) σ h:=by
 subst hσ
 refine aw_step hw (fun a w st=> ?_) kk
 have r1:=ev_rep st s
 have r2:=ev_rep st x
 rw [hs] at r1
 rw [hx] at r2
 obtain⟨B,d,hv2,_⟩:=hsrc.cells st.heap r2
 have hv1:∃A n c,a.eval s=.slice A n c∧n≤c:=by
  cases cs<;>simp only [isSlice,reduceCtorEq] at hsl
  ·obtain⟨A,hv⟩:=r1;exact⟨A,0,0,hv,Nat.le_refl _⟩
  ·obtain⟨c,hv,hle,_⟩:=r1;exact⟨_,_,c,hv,hle⟩
 obtain⟨A,n,c,hv1,hnc⟩:=hv1
 refine⟨a.eval s,w,.inl (exec_append hop ?_),st.put hd r1⟩
 rw [hv1,hv2]
 exact run_append_zero ht hnc
end
end Go.AI
