/- Parts of one proof, laid by a program. -/
import Derived.Test.YteocnikcjjonbaaGreatM00
import Derived.Test.YteocnikcjjonbaaGreatM09
set_option linter.unusedSimpArgs false
set_option linter.unusedVariables false
set_option maxRecDepth 100000
set_option maxHeartbeats 12800000
namespace Go.PN
open Go.AI
variable {α β σ : Type}
def fidx (p:α→Bool):List α→Int
 |[]=> -1
 |x::l=>if p x then 0 else if fidx p l<0 then-1 else fidx p l+1
theorem fidx_ge (p:α→Bool):∀l:List α,-1≤fidx p l
 |[]=>Int.le_refl _
 |x::l=>by
  have:=fidx_ge p l
  unfold fidx
  split
  ·decide
  ·split<;>omega
theorem fidx_lt (p:α→Bool):∀l:List α,fidx p l<l.length
 |[]=>(show(-1:Int)<0 from by decide)
 |x::l=>by
  have:=fidx_lt p l
  unfold fidx
  rw [List.length_cons]
  split
  ·omega
  ·split<;>omega
theorem fidx_no {p:α→Bool} (d:α):∀{l:List α},(∀j,j<l.length→p (l.getD j d)=false)→fidx p l= -1
 |[],_=>rfl
 |x::l,h=>by
  have h0:p x=false:=by simpa using h 0 (by simp)
  have ih:=fidx_no d (l:=l) fun j hj=>by simpa using h (j+1) (by simpa using hj)
  unfold fidx
  rw [h0,ih];rfl
theorem fidx_at {p:α→Bool} (d:α):∀{l:List α} {i:Nat},i<l.length→p (l.getD i d)=true→(∀j,j<i→p (l.getD j d)=false)→fidx p l=i
 |x::l,0,_,h,_=>by
  have:p x=true:=by simpa using h
  unfold fidx
  rw [this];rfl
 |x::l,i+1,hl,h,hn=>by
  have h0:p x=false:=by simpa using hn 0 om
  have ih:=fidx_at d (l:=l) (i:=i) (by simpa using hl) (by simpa using h) fun j hj=>by simpa using hn (j+1) om
  unfold fidx
  rw [h0,ih]
  rw [if_neg (by decide),if_neg om]
  omega
def frst (f:Nat→α→Int):List α→Nat→Int
 |[],_=>0
 |x::l,i=>if f i x=0 then frst f l (i+1) else f i x
theorem frst_step {f:Nat→α→Int} (d:α) {l:List α} {i:Nat} (h:i<l.length):frst f (l.drop i) i=if f i (l.getD i d)=0 then frst f (l.drop (i+1)) (i+1) else f i (l.getD i d):=by
 rw [List.drop_eq_getElem_cons h,List.getD_eq_getElem?_getD,List.getElem?_eq_getElem h];rfl
theorem frst_end {f:Nat→α→Int} {l:List α} {i:Nat} (h:¬i<l.length):frst f (l.drop i) i=0:=by rw [List.drop_of_length_le om];rfl
def frsS (f:Nat→α→σ→Int×σ):List α→Nat→σ→Int×σ
 |[],_,s=>(0,s)
 |x::l,i,s=>if(f i x s).1=0 then frsS f l (i+1) (f i x s).2 else f i x s
theorem frsS_step {f:Nat→α→σ→Int×σ} (d:α) {l:List α} {i:Nat} {s:σ} (h:i<l.length):frsS f (l.drop i) i s=if(f i (l.getD i d) s).1=0 then frsS f (l.drop (i+1)) (i+1) (f i (l.getD i d) s).2 else f i (l.getD i d) s:=by
 rw [List.drop_eq_getElem_cons h,List.getD_eq_getElem?_getD,List.getElem?_eq_getElem h];rfl
theorem frsS_end {f:Nat→α→σ→Int×σ} {l:List α} {i:Nat} {s:σ} (h:¬i<l.length):frsS f (l.drop i) i s=(0,s):=by rw [List.drop_of_length_le om];rfl
def frsN (f:Nat→σ→Int×σ):Nat→Nat→σ→Int×σ
 |0,_,s=>(0,s)
 |n+1,i,s=>if(f i s).1=0 then frsN f n (i+1) (f i s).2 else f i s
def orC (a b:Int):Int:=if a=0 then b else a
def evI (m:MdD) (n:BS):Int:=fidx (fun x=>x.name==n) m.events
def hsI (m:MdD) (n:BS):Int:=fidx (fun x=>x.name==n) m.houses
def gtI (l:List GtD) (n:BS):Int:=fidx (fun x=>x.name==n) l
def pgI (m:MdD) (n:BS):Int:=fidx (fun x=>x.name==n) m.pages
def gtsK (m:MdD):Nat→List GtD
 |0=>m.gates
 |k+1=>(m.pages.getD k pg0).gates
def rateB (r:RD):Bool:=r.valid&&decide (signQ r.q≥0)
def nameOk (s:BS):Bool:=decide (0<s.length)&&decide (s.length≤24)&&isLet (bAt s 0)&&decide (spanE isIns s 0=s.length)
def evC (m:MdD) (i:Nat) (x:EvD):Int:=if nameOk x.name=false then 5 else if evI m x.name<i then 6
 else if x.p.prob=false∨rateB x.fail=false∨rateB x.rep=false∨x.cost<0∨x.cost>1073741824 then 3 else 0
def hsC (m:MdD) (i:Nat) (x:HsD):Int:=if nameOk x.name=false then 5 else if evI m x.name≥0∨hsI m x.name<i then 6 else 0
def evhC (m:MdD):Int:=if m.events.length>24 then 4 else orC (frst (evC m) m.events 0) (if m.houses.length>16 then 4 else frst (hsC m) m.houses 0)
def gtN (m:MdD):Nat:=m.gates.length+(m.pages.map fun p=>p.gates.length).sum
def pgC (m:MdD) (i:Nat) (x:PgD):Int:=if nameOk x.name=false then 5 else if pgI m x.name<i then 6 else 0
def pgsC (m:MdD):Int:=if m.pages.length>8∨gtN m>64 then 4 else frst (pgC m) m.pages 0
def inpB (k:Int) (n:Nat):Bool:=if k=3 then n==1 else if k=5 then n==2 else if k=6∨k=7∨k=8 then decide (n≥2)&&decide (n≤16) else decide (n≥1)&&decide (n≤16)
def zeroB (r:RD):Bool:= !r.neg&&r.num.length==0&&r.den.length==0
def shpC (x:GtD):Int:=if x.kind<0∨x.kind>8 then 7 else if inpB x.kind x.inputs.length=false then 11
 else if x.kind=2∧(x.k<1∨x.k>x.inputs.length) then 3 else if x.kind≠2∧x.k≠0 then 2
 else if x.kind=7∧x.dorm.prob=false then 3 else if x.kind≠7∧zeroB x.dorm=false then 2 else 0
def gtC (m:MdD) (k:Nat) (i:Nat) (x:GtD):Int:=if nameOk x.name=false then 5 else if evI m x.name≥0∨hsI m x.name≥0∨gtI (gtsK m k) x.name<i then 6 else shpC x
def gtsC (m:MdD) (k:Nat):Int:=frst (gtC m k) (gtsK m k) 0
def isInp (m:MdD) (k:Nat) (i:BS):Bool:=if 0<i.length∧bAt i 0=64 then decide (pgI m (i.drop 1)≥0) else decide (evI m i≥0)||decide (hsI m i≥0)||decide (gtI (gtsK m k) i≥0)
def mustE (x:GtD) (j:Nat):Bool:=decide (x.kind=7)||(decide (x.kind=8)&&decide (j>0))
def inI (m:MdD) (k:Nat) (x:GtD) (j:Nat) (i:BS) (sp:List BS):Int×List BS:=if isInp m k i=false then(5,sp) else if mustE x j=true∧evI m i<0 then(7,sp)
 else if x.kind=7 then(if sp.contains i then(6,sp) else(0,sp++[i])) else(0,sp)
def inG (m:MdD) (k:Nat) (_:Nat) (x:GtD) (sp:List BS):Int×List BS:=frsS (inI m k x) x.inputs 0 sp
def tpC (m:MdD):Nat→Int
 |0=>0
 |k+1=>if gtI (m.pages.getD k pg0).gates (m.pages.getD k pg0).top<0∧evI m (m.pages.getD k pg0).top<0 then 5 else 0
def inP (m:MdD) (k:Nat) (sp:List BS):Int×List BS:=if(frsS (inG m k) (gtsK m k) 0 sp).1=0 then(tpC m k,(frsS (inG m k) (gtsK m k) 0 sp).2) else frsS (inG m k) (gtsK m k) 0 sp
def meC (m:MdD) (_:Nat) (n:BS) (ms:List BS):Int×List BS:=if evI m n<0 then(5,ms) else if ms.contains n then(6,ms) else(0,ms++[n])
def grC (m:MdD) (i:Nat) (x:GrD) (ms:List BS):Int×List BS:=if nameOk x.name=false then(5,ms) else if fidx (fun y=>y.name==x.name) m.groups<i then(6,ms)
 else if x.kind≠0∧x.kind≠1 then(7,ms)
 else if(x.members.length:Int)<2∨(x.members.length:Int)>(if x.kind=1 then 4 else 24)∨(x.factors.length:Int)≠(if x.kind=1 then(x.members.length:Int)-1 else 1) then(11,ms)
 else if(frsS (meC m) x.members 0 ms).1≠0 then frsS (meC m) x.members 0 ms
 else if x.factors.all RD.prob=false then(3,ms) else(0,(frsS (meC m) x.members 0 ms).2)
def grsC (m:MdD):Int:=if m.groups.length>8 then 4 else(frsS (grC m) m.groups 0 []).1
def vlC (m:MdD) (x:PhD) (k:Nat) (v:VlD):Int:=if evI m v.event<0 then 5 else if fidx (fun y=>y.event==v.event) x.values<k then 6 else if v.p.prob=false then 3 else 0
def phC (m:MdD) (i:Nat) (x:PhD):Int:=if nameOk x.name=false then 5 else if fidx (fun y=>y.name==x.name) m.phases<i then 6 else if isInp m 0 x.top=false then 5 else frst (vlC m x) x.values 0
def phsC (m:MdD):Int:=if m.phases.length>6 then 4 else frst (phC m) m.phases 0
def mcode0 (m:MdD):Int:=orC (if nameOk m.name then 0 else 5) (orC (evhC m) (orC (pgsC m) (orC (frsN (fun k (_:Unit)=>(gtsC m k,())) (m.pages.length+1) 0 ()).1
 (orC (frsN (inP m) (m.pages.length+1) 0 []).1 (orC (if isInp m 0 m.top then 0 else 5) (orC (grsC m) (phsC m)))))))
end Go.PN
namespace Go.AI
section
variable {E : Env} {K : List It} {σ σ' : Sl} {h : Heap} {all l rest : List Oper} {o : Oper}
theorem aw_cgv {f:FuncId} {x:Operand} {xs:List Operand} {ts:Array TypeId} {g:Nat} {ob ob':AObj} {args:List AV} {r:AV} (hf:Fg E.P f g ob (args++[.c (.optr g 0)]) r ob') (hop:o.op=.call {callee:=.value x,args:=xs.toArray,argTypes:=ts}) (hw:wantA all σ o=some true) (hd:dstOk E.N o.dst=true)
  (hx:ev σ x=.c (fnC f [g])) (hg:h.get g=some ob) (le:LeA [] (xs.map (ev σ)) args) (k:aw E (.ops all rest::K) (σ.setO o.dst r) (h.set g ob')):aw E (.ops all (o::rest)::K) σ h:=by
 refine aw_callhv (gs:=[g]) hf hop hw hd hx (hr:=h.del g) (Heap.get_perm hg) le ?_
 rintro _ _ ⟨rfl,rfl⟩ _
 exact aw_perm (Heap.set_perm hg).symm k
end
end Go.AI
namespace Go.Proofs.YteocnikcjjonbaaGreat
open Go.AI Go.PN
abbrev stO (n:BS):AObj:=.cells 9 1 (ofL [.str (sB n)])
attribute [local irreducible] aw Fa Fh DrK
theorem event1_fg (g:Nat) (n:BS) (x:EvD):Fg Tryz.prog 128 g (stO n) [.agg (evc x),.c (.optr g 0)] (.c (.bool (x.name==n))) (stO n):=by
 unfold Fg
 refine fh_of_body Tryz.func128 rfl rfl (by simp [Tryz.ntmps128]) fun C hC=> ?_
 simp only [initS,Nat.reduceAdd]
 repeat' first|refine yA1 o0 ?_|(refine xW ?_;refine xS ?_)|refine xP ?_|refine xN ?_|refine aw_cd eE (fun hb=>?_) (fun hb=>?_)|refine aw_ce eE (fun hb=>?_) (fun hb=>?_)|refine aw_cn eE (fun hb=>?_) (fun hb=>?_)|(refine xF (fun hb=>?_) (fun hb=>?_)<;>fail_if_success (cases hb;done))|(refine aw_gsd rfl rfl eE (fun hb=>?_) (fun hb=>?_)<;>refine xS ?_)|(refine aw_gse rfl rfl eE (fun hb=>?_) (fun hb=>?_)<;>refine xS ?_)|(refine aw_gsn rfl rfl eE (fun hb=>?_) (fun hb=>?_)<;>refine xS ?_)|(refine aw_gs rfl rfl eE (fun hb=>?_) (fun hb=>?_)<;>fail_if_success (cases hb;done)<;>refine xS ?_)|(refine drk_gsd rfl rfl eE (fun hb=>?_) (fun hb=>?_)<;>refine xS ?_)|(refine drk_gse rfl rfl eE (fun hb=>?_) (fun hb=>?_)<;>refine xS ?_)|(refine drk_gsn rfl rfl eE (fun hb=>?_) (fun hb=>?_)<;>refine xS ?_)|(refine drk_gs rfl rfl eE (fun hb=>?_) (fun hb=>?_)<;>fail_if_success (cases hb;done)<;>refine xS ?_)
 refine xB fun g1 hn_g1=>?_
 repeat' first|refine yA1 hn_g1 ?_|(refine yW hn_g1 ?_;refine yS hn_g1 ?_)|refine yP hn_g1 ?_|refine yN hn_g1 ?_|refine aw_cd (zE hn_g1) (fun hb=>?_) (fun hb=>?_)|refine aw_ce (zE hn_g1) (fun hb=>?_) (fun hb=>?_)|refine aw_cn (zE hn_g1) (fun hb=>?_) (fun hb=>?_)|(refine yF hn_g1 (fun hb=>?_) (fun hb=>?_)<;>fail_if_success (cases hb;done))|(refine aw_gsd rfl rfl (zE hn_g1) (fun hb=>?_) (fun hb=>?_)<;>refine yS hn_g1 ?_)|(refine aw_gse rfl rfl (zE hn_g1) (fun hb=>?_) (fun hb=>?_)<;>refine yS hn_g1 ?_)|(refine aw_gsn rfl rfl (zE hn_g1) (fun hb=>?_) (fun hb=>?_)<;>refine yS hn_g1 ?_)|(refine aw_gs rfl rfl (zE hn_g1) (fun hb=>?_) (fun hb=>?_)<;>fail_if_success (cases hb;done)<;>refine yS hn_g1 ?_)|(refine drk_gsd rfl rfl (zE hn_g1) (fun hb=>?_) (fun hb=>?_)<;>refine yS hn_g1 ?_)|(refine drk_gse rfl rfl (zE hn_g1) (fun hb=>?_) (fun hb=>?_)<;>refine yS hn_g1 ?_)|(refine drk_gsn rfl rfl (zE hn_g1) (fun hb=>?_) (fun hb=>?_)<;>refine yS hn_g1 ?_)|(refine drk_gs rfl rfl (zE hn_g1) (fun hb=>?_) (fun hb=>?_)<;>fail_if_success (cases hb;done)<;>refine yS hn_g1 ?_)
 refine aw_rethw (h':=[(g,stO n)]) rfl (by first|exact List.Sublist.refl _|exact .cons _ (.refl _)|exact .cons _ (.cons _ (.refl _))|exact .cons _ (.cons _ (.cons _ (.refl _)))) fun R r=>?_;simp only[go_sem,hn_g1];refine r _ rfl ?_;clear r R
 exact⟨rfl,rfl⟩
theorem eventI_fg (g:Nat) (n:BS) (l:List EvD) (hl:l.length≤1099511627776):Fg Tryz.prog 127 g (stO n) [.c (evs true l),.c (fnC 128 [g])] (.c (.int .i64 (fidx (fun x=>x.name==n) l))) (stO n):=by
 unfold Fg
 refine fh_of_body Tryz.func127 rfl rfl (by simp [Tryz.ntmps127]) fun C hC=> ?_
 simp only [initS,Nat.reduceAdd]
 repeat' first|refine yA1 o0 ?_|(refine xW ?_;refine xS ?_)|refine xP ?_|refine xN ?_|refine aw_cd eE (fun hb=>?_) (fun hb=>?_)|refine aw_ce eE (fun hb=>?_) (fun hb=>?_)|refine aw_cn eE (fun hb=>?_) (fun hb=>?_)|(refine xF (fun hb=>?_) (fun hb=>?_)<;>fail_if_success (cases hb;done))|(refine aw_gsd rfl rfl eE (fun hb=>?_) (fun hb=>?_)<;>refine xS ?_)|(refine aw_gse rfl rfl eE (fun hb=>?_) (fun hb=>?_)<;>refine xS ?_)|(refine aw_gsn rfl rfl eE (fun hb=>?_) (fun hb=>?_)<;>refine xS ?_)|(refine aw_gs rfl rfl eE (fun hb=>?_) (fun hb=>?_)<;>fail_if_success (cases hb;done)<;>refine xS ?_)|(refine drk_gsd rfl rfl eE (fun hb=>?_) (fun hb=>?_)<;>refine xS ?_)|(refine drk_gse rfl rfl eE (fun hb=>?_) (fun hb=>?_)<;>refine xS ?_)|(refine drk_gsn rfl rfl eE (fun hb=>?_) (fun hb=>?_)<;>refine xS ?_)|(refine drk_gs rfl rfl eE (fun hb=>?_) (fun hb=>?_)<;>fail_if_success (cases hb;done)<;>refine xS ?_)
 refine aw_lp (fun i:Nat=>[(0,.c (evs true l)),(1,.c (fnC 128 [g])),(4,.c (.int .i64 0)),(7,.c (.int .i64 l.length)),(8,.c (.int .i64 i))]) (fun _=>[(g,stO n)]) (fun i=>i≤l.length∧∀j,j<i→((fun x:EvD=>x.name==n) (l.getD j ev0))=false) (fun i=>l.length-i) 0 eB zZ ⟨Nat.zero_le _,fun j hj=>absurd hj om⟩ ?_
 rintro i ⟨hi,hn⟩
 repeat' first|refine yA1 o0 ?_|(refine xW ?_;refine xS ?_)|refine xP ?_|refine xN ?_|refine aw_cd eE (fun hb=>?_) (fun hb=>?_)|refine aw_ce eE (fun hb=>?_) (fun hb=>?_)|refine aw_cn eE (fun hb=>?_) (fun hb=>?_)|(refine xF (fun hb=>?_) (fun hb=>?_)<;>fail_if_success (cases hb;done))|(refine aw_gsd rfl rfl eE (fun hb=>?_) (fun hb=>?_)<;>refine xS ?_)|(refine aw_gse rfl rfl eE (fun hb=>?_) (fun hb=>?_)<;>refine xS ?_)|(refine aw_gsn rfl rfl eE (fun hb=>?_) (fun hb=>?_)<;>refine xS ?_)|(refine aw_gs rfl rfl eE (fun hb=>?_) (fun hb=>?_)<;>fail_if_success (cases hb;done)<;>refine xS ?_)|(refine drk_gsd rfl rfl eE (fun hb=>?_) (fun hb=>?_)<;>refine xS ?_)|(refine drk_gse rfl rfl eE (fun hb=>?_) (fun hb=>?_)<;>refine xS ?_)|(refine drk_gsn rfl rfl eE (fun hb=>?_) (fun hb=>?_)<;>refine xS ?_)|(refine drk_gs rfl rfl eE (fun hb=>?_) (fun hb=>?_)<;>fail_if_success (cases hb;done)<;>refine xS ?_)
 ·have hi':=hb
  have hf:=event1_fg g n (l.getD i ev0)
  refine aw_cgv (args:=[.agg (evc (l.getD i ev0))]) hf rfl rfl rfl eE eE eL ?_
  refine xS ?_
  repeat' first|refine yA1 o0 ?_|(refine xW ?_;refine xS ?_)|refine xP ?_|refine xN ?_|refine aw_cd eE (fun hb=>?_) (fun hb=>?_)|refine aw_ce eE (fun hb=>?_) (fun hb=>?_)|refine aw_cn eE (fun hb=>?_) (fun hb=>?_)|(refine xF (fun hb=>?_) (fun hb=>?_)<;>fail_if_success (cases hb;done))|(refine aw_gsd rfl rfl eE (fun hb=>?_) (fun hb=>?_)<;>refine xS ?_)|(refine aw_gse rfl rfl eE (fun hb=>?_) (fun hb=>?_)<;>refine xS ?_)|(refine aw_gsn rfl rfl eE (fun hb=>?_) (fun hb=>?_)<;>refine xS ?_)|(refine aw_gs rfl rfl eE (fun hb=>?_) (fun hb=>?_)<;>fail_if_success (cases hb;done)<;>refine xS ?_)|(refine drk_gsd rfl rfl eE (fun hb=>?_) (fun hb=>?_)<;>refine xS ?_)|(refine drk_gse rfl rfl eE (fun hb=>?_) (fun hb=>?_)<;>refine xS ?_)|(refine drk_gsn rfl rfl eE (fun hb=>?_) (fun hb=>?_)<;>refine xS ?_)|(refine drk_gs rfl rfl eE (fun hb=>?_) (fun hb=>?_)<;>fail_if_success (cases hb;done)<;>refine xS ?_)
  ·rw [fidx_at (p:=fun x:EvD=>x.name==n) ev0 hi' (by simpa using hb) hn]
   refine xU ?_
   exact⟨rfl,rfl⟩
  ·refine aw_stop ⟨i+1,?_⟩
   have hn':∀j,j<i+1→((fun x:EvD=>x.name==n) (l.getD j ev0))=false:=fun j hj=>by
    by_cases e:j=i
    ·subst e;simpa using hb
    ·exact hn j om
   and_intros
   all_goals first|rfl|exact List.Sublist.refl _|exact True.intro|exact hn'|omega
 ·have hf:fidx (fun x=>x.name==n) l= -1:=fidx_no ev0 (fun j hj=>hn j om)
  rw [hf]
  refine xU ?_
  exact⟨rfl,rfl⟩
theorem event_fa (m:MdD) (n:BS) (hl:m.events.length≤1099511627776):Fa Tryz.prog 84 [.agg (mdc true m),.c (.str (sB n))] (.c (.int .i64 (fidx (fun x=>x.name==n) m.events))):=by
 refine fa_of_body Tryz.func84 rfl rfl (by simp [Tryz.ntmps84]) fun C hC=> ?_
 simp only [initS,Nat.reduceAdd]
 repeat' first|refine yA1 o0 ?_|(refine xW ?_;refine xS ?_)|refine xP ?_|refine xN ?_|refine aw_cd eE (fun hb=>?_) (fun hb=>?_)|refine aw_ce eE (fun hb=>?_) (fun hb=>?_)|refine aw_cn eE (fun hb=>?_) (fun hb=>?_)|(refine xF (fun hb=>?_) (fun hb=>?_)<;>fail_if_success (cases hb;done))|(refine aw_gsd rfl rfl eE (fun hb=>?_) (fun hb=>?_)<;>refine xS ?_)|(refine aw_gse rfl rfl eE (fun hb=>?_) (fun hb=>?_)<;>refine xS ?_)|(refine aw_gsn rfl rfl eE (fun hb=>?_) (fun hb=>?_)<;>refine xS ?_)|(refine aw_gs rfl rfl eE (fun hb=>?_) (fun hb=>?_)<;>fail_if_success (cases hb;done)<;>refine xS ?_)|(refine drk_gsd rfl rfl eE (fun hb=>?_) (fun hb=>?_)<;>refine xS ?_)|(refine drk_gse rfl rfl eE (fun hb=>?_) (fun hb=>?_)<;>refine xS ?_)|(refine drk_gsn rfl rfl eE (fun hb=>?_) (fun hb=>?_)<;>refine xS ?_)|(refine drk_gs rfl rfl eE (fun hb=>?_) (fun hb=>?_)<;>fail_if_success (cases hb;done)<;>refine xS ?_)
 refine xB fun g1 hn_g1=>?_
 repeat' first|refine yA1 hn_g1 ?_|(refine yW hn_g1 ?_;refine yS hn_g1 ?_)|refine yP hn_g1 ?_|refine yN hn_g1 ?_|refine aw_cd (zE hn_g1) (fun hb=>?_) (fun hb=>?_)|refine aw_ce (zE hn_g1) (fun hb=>?_) (fun hb=>?_)|refine aw_cn (zE hn_g1) (fun hb=>?_) (fun hb=>?_)|(refine yF hn_g1 (fun hb=>?_) (fun hb=>?_)<;>fail_if_success (cases hb;done))|(refine aw_gsd rfl rfl (zE hn_g1) (fun hb=>?_) (fun hb=>?_)<;>refine yS hn_g1 ?_)|(refine aw_gse rfl rfl (zE hn_g1) (fun hb=>?_) (fun hb=>?_)<;>refine yS hn_g1 ?_)|(refine aw_gsn rfl rfl (zE hn_g1) (fun hb=>?_) (fun hb=>?_)<;>refine yS hn_g1 ?_)|(refine aw_gs rfl rfl (zE hn_g1) (fun hb=>?_) (fun hb=>?_)<;>fail_if_success (cases hb;done)<;>refine yS hn_g1 ?_)|(refine drk_gsd rfl rfl (zE hn_g1) (fun hb=>?_) (fun hb=>?_)<;>refine yS hn_g1 ?_)|(refine drk_gse rfl rfl (zE hn_g1) (fun hb=>?_) (fun hb=>?_)<;>refine yS hn_g1 ?_)|(refine drk_gsn rfl rfl (zE hn_g1) (fun hb=>?_) (fun hb=>?_)<;>refine yS hn_g1 ?_)|(refine drk_gs rfl rfl (zE hn_g1) (fun hb=>?_) (fun hb=>?_)<;>fail_if_success (cases hb;done)<;>refine yS hn_g1 ?_)
 refine yB hn_g1 fun g2 hn_g2=>?_
 repeat' first|refine yA1 (oj hn_g1 hn_g2) ?_|(refine yW (oj hn_g1 hn_g2) ?_;refine yS (oj hn_g1 hn_g2) ?_)|refine yP (oj hn_g1 hn_g2) ?_|refine yN (oj hn_g1 hn_g2) ?_|refine aw_cd (zE (oj hn_g1 hn_g2)) (fun hb=>?_) (fun hb=>?_)|refine aw_ce (zE (oj hn_g1 hn_g2)) (fun hb=>?_) (fun hb=>?_)|refine aw_cn (zE (oj hn_g1 hn_g2)) (fun hb=>?_) (fun hb=>?_)|(refine yF (oj hn_g1 hn_g2) (fun hb=>?_) (fun hb=>?_)<;>fail_if_success (cases hb;done))|(refine aw_gsd rfl rfl (zE (oj hn_g1 hn_g2)) (fun hb=>?_) (fun hb=>?_)<;>refine yS (oj hn_g1 hn_g2) ?_)|(refine aw_gse rfl rfl (zE (oj hn_g1 hn_g2)) (fun hb=>?_) (fun hb=>?_)<;>refine yS (oj hn_g1 hn_g2) ?_)|(refine aw_gsn rfl rfl (zE (oj hn_g1 hn_g2)) (fun hb=>?_) (fun hb=>?_)<;>refine yS (oj hn_g1 hn_g2) ?_)|(refine aw_gs rfl rfl (zE (oj hn_g1 hn_g2)) (fun hb=>?_) (fun hb=>?_)<;>fail_if_success (cases hb;done)<;>refine yS (oj hn_g1 hn_g2) ?_)|(refine drk_gsd rfl rfl (zE (oj hn_g1 hn_g2)) (fun hb=>?_) (fun hb=>?_)<;>refine yS (oj hn_g1 hn_g2) ?_)|(refine drk_gse rfl rfl (zE (oj hn_g1 hn_g2)) (fun hb=>?_) (fun hb=>?_)<;>refine yS (oj hn_g1 hn_g2) ?_)|(refine drk_gsn rfl rfl (zE (oj hn_g1 hn_g2)) (fun hb=>?_) (fun hb=>?_)<;>refine yS (oj hn_g1 hn_g2) ?_)|(refine drk_gs rfl rfl (zE (oj hn_g1 hn_g2)) (fun hb=>?_) (fun hb=>?_)<;>fail_if_success (cases hb;done)<;>refine yS (oj hn_g1 hn_g2) ?_)
 refine aw_makeFunc (gs:=[g2]) rfl rfl rfl (zE (oj hn_g1 hn_g2)) ?_
 have J1:=oj hn_g1 hn_g2
 refine yS J1 ?_
 have hf:=eventI_fg g2 n m.events hl
 repeat' first|refine yA1 J1 ?_|(refine aw_cg (hf) rfl rfl rfl (zE J1) (zL2 J1) ?_;refine yS J1 ?_)|(refine yW J1 ?_;refine yS J1 ?_)|refine yP J1 ?_|refine yN J1 ?_|refine aw_cd (zE J1) (fun hb=>?_) (fun hb=>?_)|refine aw_ce (zE J1) (fun hb=>?_) (fun hb=>?_)|refine aw_cn (zE J1) (fun hb=>?_) (fun hb=>?_)|(refine yF J1 (fun hb=>?_) (fun hb=>?_)<;>fail_if_success (cases hb;done))|(refine aw_gsd rfl rfl (zE J1) (fun hb=>?_) (fun hb=>?_)<;>refine yS J1 ?_)|(refine aw_gse rfl rfl (zE J1) (fun hb=>?_) (fun hb=>?_)<;>refine yS J1 ?_)|(refine aw_gsn rfl rfl (zE J1) (fun hb=>?_) (fun hb=>?_)<;>refine yS J1 ?_)|(refine aw_gs rfl rfl (zE J1) (fun hb=>?_) (fun hb=>?_)<;>fail_if_success (cases hb;done)<;>refine yS J1 ?_)|(refine drk_gsd rfl rfl (zE J1) (fun hb=>?_) (fun hb=>?_)<;>refine yS J1 ?_)|(refine drk_gse rfl rfl (zE J1) (fun hb=>?_) (fun hb=>?_)<;>refine yS J1 ?_)|(refine drk_gsn rfl rfl (zE J1) (fun hb=>?_) (fun hb=>?_)<;>refine yS J1 ?_)|(refine drk_gs rfl rfl (zE J1) (fun hb=>?_) (fun hb=>?_)<;>fail_if_success (cases hb;done)<;>refine yS J1 ?_)
 refine yT hC J1 ?_
 exact .one (.c (.int _ _))
theorem house1_fg (g:Nat) (n:BS) (x:HsD):Fg Tryz.prog 133 g (stO n) [.agg (hsc x),.c (.optr g 0)] (.c (.bool (x.name==n))) (stO n):=by
 unfold Fg
 refine fh_of_body Tryz.func133 rfl rfl (by simp [Tryz.ntmps133]) fun C hC=> ?_
 simp only [initS,Nat.reduceAdd]
 repeat' first|refine yA1 o0 ?_|(refine xW ?_;refine xS ?_)|refine xP ?_|refine xN ?_|refine aw_cd eE (fun hb=>?_) (fun hb=>?_)|refine aw_ce eE (fun hb=>?_) (fun hb=>?_)|refine aw_cn eE (fun hb=>?_) (fun hb=>?_)|(refine xF (fun hb=>?_) (fun hb=>?_)<;>fail_if_success (cases hb;done))|(refine aw_gsd rfl rfl eE (fun hb=>?_) (fun hb=>?_)<;>refine xS ?_)|(refine aw_gse rfl rfl eE (fun hb=>?_) (fun hb=>?_)<;>refine xS ?_)|(refine aw_gsn rfl rfl eE (fun hb=>?_) (fun hb=>?_)<;>refine xS ?_)|(refine aw_gs rfl rfl eE (fun hb=>?_) (fun hb=>?_)<;>fail_if_success (cases hb;done)<;>refine xS ?_)|(refine drk_gsd rfl rfl eE (fun hb=>?_) (fun hb=>?_)<;>refine xS ?_)|(refine drk_gse rfl rfl eE (fun hb=>?_) (fun hb=>?_)<;>refine xS ?_)|(refine drk_gsn rfl rfl eE (fun hb=>?_) (fun hb=>?_)<;>refine xS ?_)|(refine drk_gs rfl rfl eE (fun hb=>?_) (fun hb=>?_)<;>fail_if_success (cases hb;done)<;>refine xS ?_)
 refine xB fun g1 hn_g1=>?_
 repeat' first|refine yA1 hn_g1 ?_|(refine yW hn_g1 ?_;refine yS hn_g1 ?_)|refine yP hn_g1 ?_|refine yN hn_g1 ?_|refine aw_cd (zE hn_g1) (fun hb=>?_) (fun hb=>?_)|refine aw_ce (zE hn_g1) (fun hb=>?_) (fun hb=>?_)|refine aw_cn (zE hn_g1) (fun hb=>?_) (fun hb=>?_)|(refine yF hn_g1 (fun hb=>?_) (fun hb=>?_)<;>fail_if_success (cases hb;done))|(refine aw_gsd rfl rfl (zE hn_g1) (fun hb=>?_) (fun hb=>?_)<;>refine yS hn_g1 ?_)|(refine aw_gse rfl rfl (zE hn_g1) (fun hb=>?_) (fun hb=>?_)<;>refine yS hn_g1 ?_)|(refine aw_gsn rfl rfl (zE hn_g1) (fun hb=>?_) (fun hb=>?_)<;>refine yS hn_g1 ?_)|(refine aw_gs rfl rfl (zE hn_g1) (fun hb=>?_) (fun hb=>?_)<;>fail_if_success (cases hb;done)<;>refine yS hn_g1 ?_)|(refine drk_gsd rfl rfl (zE hn_g1) (fun hb=>?_) (fun hb=>?_)<;>refine yS hn_g1 ?_)|(refine drk_gse rfl rfl (zE hn_g1) (fun hb=>?_) (fun hb=>?_)<;>refine yS hn_g1 ?_)|(refine drk_gsn rfl rfl (zE hn_g1) (fun hb=>?_) (fun hb=>?_)<;>refine yS hn_g1 ?_)|(refine drk_gs rfl rfl (zE hn_g1) (fun hb=>?_) (fun hb=>?_)<;>fail_if_success (cases hb;done)<;>refine yS hn_g1 ?_)
 refine aw_rethw (h':=[(g,stO n)]) rfl (by first|exact List.Sublist.refl _|exact .cons _ (.refl _)|exact .cons _ (.cons _ (.refl _))|exact .cons _ (.cons _ (.cons _ (.refl _)))) fun R r=>?_;simp only[go_sem,hn_g1];refine r _ rfl ?_;clear r R
 exact⟨rfl,rfl⟩
theorem houseI_fg (g:Nat) (n:BS) (l:List HsD) (hl:l.length≤1099511627776):Fg Tryz.prog 132 g (stO n) [.c (hss true l),.c (fnC 133 [g])] (.c (.int .i64 (fidx (fun x=>x.name==n) l))) (stO n):=by
 unfold Fg
 refine fh_of_body Tryz.func132 rfl rfl (by simp [Tryz.ntmps132]) fun C hC=> ?_
 simp only [initS,Nat.reduceAdd]
 repeat' first|refine yA1 o0 ?_|(refine xW ?_;refine xS ?_)|refine xP ?_|refine xN ?_|refine aw_cd eE (fun hb=>?_) (fun hb=>?_)|refine aw_ce eE (fun hb=>?_) (fun hb=>?_)|refine aw_cn eE (fun hb=>?_) (fun hb=>?_)|(refine xF (fun hb=>?_) (fun hb=>?_)<;>fail_if_success (cases hb;done))|(refine aw_gsd rfl rfl eE (fun hb=>?_) (fun hb=>?_)<;>refine xS ?_)|(refine aw_gse rfl rfl eE (fun hb=>?_) (fun hb=>?_)<;>refine xS ?_)|(refine aw_gsn rfl rfl eE (fun hb=>?_) (fun hb=>?_)<;>refine xS ?_)|(refine aw_gs rfl rfl eE (fun hb=>?_) (fun hb=>?_)<;>fail_if_success (cases hb;done)<;>refine xS ?_)|(refine drk_gsd rfl rfl eE (fun hb=>?_) (fun hb=>?_)<;>refine xS ?_)|(refine drk_gse rfl rfl eE (fun hb=>?_) (fun hb=>?_)<;>refine xS ?_)|(refine drk_gsn rfl rfl eE (fun hb=>?_) (fun hb=>?_)<;>refine xS ?_)|(refine drk_gs rfl rfl eE (fun hb=>?_) (fun hb=>?_)<;>fail_if_success (cases hb;done)<;>refine xS ?_)
 refine aw_lp (fun i:Nat=>[(0,.c (hss true l)),(1,.c (fnC 133 [g])),(4,.c (.int .i64 0)),(7,.c (.int .i64 l.length)),(8,.c (.int .i64 i))]) (fun _=>[(g,stO n)]) (fun i=>i≤l.length∧∀j,j<i→((fun x:HsD=>x.name==n) (l.getD j hs0))=false) (fun i=>l.length-i) 0 eB zZ ⟨Nat.zero_le _,fun j hj=>absurd hj om⟩ ?_
 rintro i ⟨hi,hn⟩
 repeat' first|refine yA1 o0 ?_|(refine xW ?_;refine xS ?_)|refine xP ?_|refine xN ?_|refine aw_cd eE (fun hb=>?_) (fun hb=>?_)|refine aw_ce eE (fun hb=>?_) (fun hb=>?_)|refine aw_cn eE (fun hb=>?_) (fun hb=>?_)|(refine xF (fun hb=>?_) (fun hb=>?_)<;>fail_if_success (cases hb;done))|(refine aw_gsd rfl rfl eE (fun hb=>?_) (fun hb=>?_)<;>refine xS ?_)|(refine aw_gse rfl rfl eE (fun hb=>?_) (fun hb=>?_)<;>refine xS ?_)|(refine aw_gsn rfl rfl eE (fun hb=>?_) (fun hb=>?_)<;>refine xS ?_)|(refine aw_gs rfl rfl eE (fun hb=>?_) (fun hb=>?_)<;>fail_if_success (cases hb;done)<;>refine xS ?_)|(refine drk_gsd rfl rfl eE (fun hb=>?_) (fun hb=>?_)<;>refine xS ?_)|(refine drk_gse rfl rfl eE (fun hb=>?_) (fun hb=>?_)<;>refine xS ?_)|(refine drk_gsn rfl rfl eE (fun hb=>?_) (fun hb=>?_)<;>refine xS ?_)|(refine drk_gs rfl rfl eE (fun hb=>?_) (fun hb=>?_)<;>fail_if_success (cases hb;done)<;>refine xS ?_)
 ·have hi':=hb
  have hf:=house1_fg g n (l.getD i hs0)
  refine aw_cgv (args:=[.agg (hsc (l.getD i hs0))]) hf rfl rfl rfl eE eE eL ?_
  refine xS ?_
  repeat' first|refine yA1 o0 ?_|(refine xW ?_;refine xS ?_)|refine xP ?_|refine xN ?_|refine aw_cd eE (fun hb=>?_) (fun hb=>?_)|refine aw_ce eE (fun hb=>?_) (fun hb=>?_)|refine aw_cn eE (fun hb=>?_) (fun hb=>?_)|(refine xF (fun hb=>?_) (fun hb=>?_)<;>fail_if_success (cases hb;done))|(refine aw_gsd rfl rfl eE (fun hb=>?_) (fun hb=>?_)<;>refine xS ?_)|(refine aw_gse rfl rfl eE (fun hb=>?_) (fun hb=>?_)<;>refine xS ?_)|(refine aw_gsn rfl rfl eE (fun hb=>?_) (fun hb=>?_)<;>refine xS ?_)|(refine aw_gs rfl rfl eE (fun hb=>?_) (fun hb=>?_)<;>fail_if_success (cases hb;done)<;>refine xS ?_)|(refine drk_gsd rfl rfl eE (fun hb=>?_) (fun hb=>?_)<;>refine xS ?_)|(refine drk_gse rfl rfl eE (fun hb=>?_) (fun hb=>?_)<;>refine xS ?_)|(refine drk_gsn rfl rfl eE (fun hb=>?_) (fun hb=>?_)<;>refine xS ?_)|(refine drk_gs rfl rfl eE (fun hb=>?_) (fun hb=>?_)<;>fail_if_success (cases hb;done)<;>refine xS ?_)
  ·rw [fidx_at (p:=fun x:HsD=>x.name==n) hs0 hi' (by simpa using hb) hn]
   refine xU ?_
   exact⟨rfl,rfl⟩
  ·refine aw_stop ⟨i+1,?_⟩
   have hn':∀j,j<i+1→((fun x:HsD=>x.name==n) (l.getD j hs0))=false:=fun j hj=>by
    by_cases e:j=i
    ·subst e;simpa using hb
    ·exact hn j om
   and_intros
   all_goals first|rfl|exact List.Sublist.refl _|exact True.intro|exact hn'|omega
 ·have hf:fidx (fun x=>x.name==n) l= -1:=fidx_no hs0 (fun j hj=>hn j om)
  rw [hf]
  refine xU ?_
  exact⟨rfl,rfl⟩
theorem house_fa (m:MdD) (n:BS) (hl:m.houses.length≤1099511627776):Fa Tryz.prog 87 [.agg (mdc true m),.c (.str (sB n))] (.c (.int .i64 (fidx (fun x=>x.name==n) m.houses))):=by
 refine fa_of_body Tryz.func87 rfl rfl (by simp [Tryz.ntmps87]) fun C hC=> ?_
 simp only [initS,Nat.reduceAdd]
 repeat' first|refine yA1 o0 ?_|(refine xW ?_;refine xS ?_)|refine xP ?_|refine xN ?_|refine aw_cd eE (fun hb=>?_) (fun hb=>?_)|refine aw_ce eE (fun hb=>?_) (fun hb=>?_)|refine aw_cn eE (fun hb=>?_) (fun hb=>?_)|(refine xF (fun hb=>?_) (fun hb=>?_)<;>fail_if_success (cases hb;done))|(refine aw_gsd rfl rfl eE (fun hb=>?_) (fun hb=>?_)<;>refine xS ?_)|(refine aw_gse rfl rfl eE (fun hb=>?_) (fun hb=>?_)<;>refine xS ?_)|(refine aw_gsn rfl rfl eE (fun hb=>?_) (fun hb=>?_)<;>refine xS ?_)|(refine aw_gs rfl rfl eE (fun hb=>?_) (fun hb=>?_)<;>fail_if_success (cases hb;done)<;>refine xS ?_)|(refine drk_gsd rfl rfl eE (fun hb=>?_) (fun hb=>?_)<;>refine xS ?_)|(refine drk_gse rfl rfl eE (fun hb=>?_) (fun hb=>?_)<;>refine xS ?_)|(refine drk_gsn rfl rfl eE (fun hb=>?_) (fun hb=>?_)<;>refine xS ?_)|(refine drk_gs rfl rfl eE (fun hb=>?_) (fun hb=>?_)<;>fail_if_success (cases hb;done)<;>refine xS ?_)
 refine xB fun g1 hn_g1=>?_
 repeat' first|refine yA1 hn_g1 ?_|(refine yW hn_g1 ?_;refine yS hn_g1 ?_)|refine yP hn_g1 ?_|refine yN hn_g1 ?_|refine aw_cd (zE hn_g1) (fun hb=>?_) (fun hb=>?_)|refine aw_ce (zE hn_g1) (fun hb=>?_) (fun hb=>?_)|refine aw_cn (zE hn_g1) (fun hb=>?_) (fun hb=>?_)|(refine yF hn_g1 (fun hb=>?_) (fun hb=>?_)<;>fail_if_success (cases hb;done))|(refine aw_gsd rfl rfl (zE hn_g1) (fun hb=>?_) (fun hb=>?_)<;>refine yS hn_g1 ?_)|(refine aw_gse rfl rfl (zE hn_g1) (fun hb=>?_) (fun hb=>?_)<;>refine yS hn_g1 ?_)|(refine aw_gsn rfl rfl (zE hn_g1) (fun hb=>?_) (fun hb=>?_)<;>refine yS hn_g1 ?_)|(refine aw_gs rfl rfl (zE hn_g1) (fun hb=>?_) (fun hb=>?_)<;>fail_if_success (cases hb;done)<;>refine yS hn_g1 ?_)|(refine drk_gsd rfl rfl (zE hn_g1) (fun hb=>?_) (fun hb=>?_)<;>refine yS hn_g1 ?_)|(refine drk_gse rfl rfl (zE hn_g1) (fun hb=>?_) (fun hb=>?_)<;>refine yS hn_g1 ?_)|(refine drk_gsn rfl rfl (zE hn_g1) (fun hb=>?_) (fun hb=>?_)<;>refine yS hn_g1 ?_)|(refine drk_gs rfl rfl (zE hn_g1) (fun hb=>?_) (fun hb=>?_)<;>fail_if_success (cases hb;done)<;>refine yS hn_g1 ?_)
 refine yB hn_g1 fun g2 hn_g2=>?_
 repeat' first|refine yA1 (oj hn_g1 hn_g2) ?_|(refine yW (oj hn_g1 hn_g2) ?_;refine yS (oj hn_g1 hn_g2) ?_)|refine yP (oj hn_g1 hn_g2) ?_|refine yN (oj hn_g1 hn_g2) ?_|refine aw_cd (zE (oj hn_g1 hn_g2)) (fun hb=>?_) (fun hb=>?_)|refine aw_ce (zE (oj hn_g1 hn_g2)) (fun hb=>?_) (fun hb=>?_)|refine aw_cn (zE (oj hn_g1 hn_g2)) (fun hb=>?_) (fun hb=>?_)|(refine yF (oj hn_g1 hn_g2) (fun hb=>?_) (fun hb=>?_)<;>fail_if_success (cases hb;done))|(refine aw_gsd rfl rfl (zE (oj hn_g1 hn_g2)) (fun hb=>?_) (fun hb=>?_)<;>refine yS (oj hn_g1 hn_g2) ?_)|(refine aw_gse rfl rfl (zE (oj hn_g1 hn_g2)) (fun hb=>?_) (fun hb=>?_)<;>refine yS (oj hn_g1 hn_g2) ?_)|(refine aw_gsn rfl rfl (zE (oj hn_g1 hn_g2)) (fun hb=>?_) (fun hb=>?_)<;>refine yS (oj hn_g1 hn_g2) ?_)|(refine aw_gs rfl rfl (zE (oj hn_g1 hn_g2)) (fun hb=>?_) (fun hb=>?_)<;>fail_if_success (cases hb;done)<;>refine yS (oj hn_g1 hn_g2) ?_)|(refine drk_gsd rfl rfl (zE (oj hn_g1 hn_g2)) (fun hb=>?_) (fun hb=>?_)<;>refine yS (oj hn_g1 hn_g2) ?_)|(refine drk_gse rfl rfl (zE (oj hn_g1 hn_g2)) (fun hb=>?_) (fun hb=>?_)<;>refine yS (oj hn_g1 hn_g2) ?_)|(refine drk_gsn rfl rfl (zE (oj hn_g1 hn_g2)) (fun hb=>?_) (fun hb=>?_)<;>refine yS (oj hn_g1 hn_g2) ?_)|(refine drk_gs rfl rfl (zE (oj hn_g1 hn_g2)) (fun hb=>?_) (fun hb=>?_)<;>fail_if_success (cases hb;done)<;>refine yS (oj hn_g1 hn_g2) ?_)
 refine aw_makeFunc (gs:=[g2]) rfl rfl rfl (zE (oj hn_g1 hn_g2)) ?_
 have J1:=oj hn_g1 hn_g2
 refine yS J1 ?_
 have hf:=houseI_fg g2 n m.houses hl
 repeat' first|refine yA1 J1 ?_|(refine aw_cg (hf) rfl rfl rfl (zE J1) (zL2 J1) ?_;refine yS J1 ?_)|(refine yW J1 ?_;refine yS J1 ?_)|refine yP J1 ?_|refine yN J1 ?_|refine aw_cd (zE J1) (fun hb=>?_) (fun hb=>?_)|refine aw_ce (zE J1) (fun hb=>?_) (fun hb=>?_)|refine aw_cn (zE J1) (fun hb=>?_) (fun hb=>?_)|(refine yF J1 (fun hb=>?_) (fun hb=>?_)<;>fail_if_success (cases hb;done))|(refine aw_gsd rfl rfl (zE J1) (fun hb=>?_) (fun hb=>?_)<;>refine yS J1 ?_)|(refine aw_gse rfl rfl (zE J1) (fun hb=>?_) (fun hb=>?_)<;>refine yS J1 ?_)|(refine aw_gsn rfl rfl (zE J1) (fun hb=>?_) (fun hb=>?_)<;>refine yS J1 ?_)|(refine aw_gs rfl rfl (zE J1) (fun hb=>?_) (fun hb=>?_)<;>fail_if_success (cases hb;done)<;>refine yS J1 ?_)|(refine drk_gsd rfl rfl (zE J1) (fun hb=>?_) (fun hb=>?_)<;>refine yS J1 ?_)|(refine drk_gse rfl rfl (zE J1) (fun hb=>?_) (fun hb=>?_)<;>refine yS J1 ?_)|(refine drk_gsn rfl rfl (zE J1) (fun hb=>?_) (fun hb=>?_)<;>refine yS J1 ?_)|(refine drk_gs rfl rfl (zE J1) (fun hb=>?_) (fun hb=>?_)<;>fail_if_success (cases hb;done)<;>refine yS J1 ?_)
 refine yT hC J1 ?_
 exact .one (.c (.int _ _))
theorem page1_fg (g:Nat) (n:BS) (x:PgD):Fg Tryz.prog 135 g (stO n) [.agg (pgc x),.c (.optr g 0)] (.c (.bool (x.name==n))) (stO n):=by
 unfold Fg
 refine fh_of_body Tryz.func135 rfl rfl (by simp [Tryz.ntmps135]) fun C hC=> ?_
 simp only [initS,Nat.reduceAdd]
 repeat' first|refine yA1 o0 ?_|(refine xW ?_;refine xS ?_)|refine xP ?_|refine xN ?_|refine aw_cd eE (fun hb=>?_) (fun hb=>?_)|refine aw_ce eE (fun hb=>?_) (fun hb=>?_)|refine aw_cn eE (fun hb=>?_) (fun hb=>?_)|(refine xF (fun hb=>?_) (fun hb=>?_)<;>fail_if_success (cases hb;done))|(refine aw_gsd rfl rfl eE (fun hb=>?_) (fun hb=>?_)<;>refine xS ?_)|(refine aw_gse rfl rfl eE (fun hb=>?_) (fun hb=>?_)<;>refine xS ?_)|(refine aw_gsn rfl rfl eE (fun hb=>?_) (fun hb=>?_)<;>refine xS ?_)|(refine aw_gs rfl rfl eE (fun hb=>?_) (fun hb=>?_)<;>fail_if_success (cases hb;done)<;>refine xS ?_)|(refine drk_gsd rfl rfl eE (fun hb=>?_) (fun hb=>?_)<;>refine xS ?_)|(refine drk_gse rfl rfl eE (fun hb=>?_) (fun hb=>?_)<;>refine xS ?_)|(refine drk_gsn rfl rfl eE (fun hb=>?_) (fun hb=>?_)<;>refine xS ?_)|(refine drk_gs rfl rfl eE (fun hb=>?_) (fun hb=>?_)<;>fail_if_success (cases hb;done)<;>refine xS ?_)
 refine xB fun g1 hn_g1=>?_
 repeat' first|refine yA1 hn_g1 ?_|(refine yW hn_g1 ?_;refine yS hn_g1 ?_)|refine yP hn_g1 ?_|refine yN hn_g1 ?_|refine aw_cd (zE hn_g1) (fun hb=>?_) (fun hb=>?_)|refine aw_ce (zE hn_g1) (fun hb=>?_) (fun hb=>?_)|refine aw_cn (zE hn_g1) (fun hb=>?_) (fun hb=>?_)|(refine yF hn_g1 (fun hb=>?_) (fun hb=>?_)<;>fail_if_success (cases hb;done))|(refine aw_gsd rfl rfl (zE hn_g1) (fun hb=>?_) (fun hb=>?_)<;>refine yS hn_g1 ?_)|(refine aw_gse rfl rfl (zE hn_g1) (fun hb=>?_) (fun hb=>?_)<;>refine yS hn_g1 ?_)|(refine aw_gsn rfl rfl (zE hn_g1) (fun hb=>?_) (fun hb=>?_)<;>refine yS hn_g1 ?_)|(refine aw_gs rfl rfl (zE hn_g1) (fun hb=>?_) (fun hb=>?_)<;>fail_if_success (cases hb;done)<;>refine yS hn_g1 ?_)|(refine drk_gsd rfl rfl (zE hn_g1) (fun hb=>?_) (fun hb=>?_)<;>refine yS hn_g1 ?_)|(refine drk_gse rfl rfl (zE hn_g1) (fun hb=>?_) (fun hb=>?_)<;>refine yS hn_g1 ?_)|(refine drk_gsn rfl rfl (zE hn_g1) (fun hb=>?_) (fun hb=>?_)<;>refine yS hn_g1 ?_)|(refine drk_gs rfl rfl (zE hn_g1) (fun hb=>?_) (fun hb=>?_)<;>fail_if_success (cases hb;done)<;>refine yS hn_g1 ?_)
 refine aw_rethw (h':=[(g,stO n)]) rfl (by first|exact List.Sublist.refl _|exact .cons _ (.refl _)|exact .cons _ (.cons _ (.refl _))|exact .cons _ (.cons _ (.cons _ (.refl _)))) fun R r=>?_;simp only[go_sem,hn_g1];refine r _ rfl ?_;clear r R
 exact⟨rfl,rfl⟩
theorem pageI_fg (g:Nat) (n:BS) (l:List PgD) (hl:l.length≤1099511627776):Fg Tryz.prog 134 g (stO n) [.c (pgs true l),.c (fnC 135 [g])] (.c (.int .i64 (fidx (fun x=>x.name==n) l))) (stO n):=by
 unfold Fg
 refine fh_of_body Tryz.func134 rfl rfl (by simp [Tryz.ntmps134]) fun C hC=> ?_
 simp only [initS,Nat.reduceAdd]
 repeat' first|refine yA1 o0 ?_|(refine xW ?_;refine xS ?_)|refine xP ?_|refine xN ?_|refine aw_cd eE (fun hb=>?_) (fun hb=>?_)|refine aw_ce eE (fun hb=>?_) (fun hb=>?_)|refine aw_cn eE (fun hb=>?_) (fun hb=>?_)|(refine xF (fun hb=>?_) (fun hb=>?_)<;>fail_if_success (cases hb;done))|(refine aw_gsd rfl rfl eE (fun hb=>?_) (fun hb=>?_)<;>refine xS ?_)|(refine aw_gse rfl rfl eE (fun hb=>?_) (fun hb=>?_)<;>refine xS ?_)|(refine aw_gsn rfl rfl eE (fun hb=>?_) (fun hb=>?_)<;>refine xS ?_)|(refine aw_gs rfl rfl eE (fun hb=>?_) (fun hb=>?_)<;>fail_if_success (cases hb;done)<;>refine xS ?_)|(refine drk_gsd rfl rfl eE (fun hb=>?_) (fun hb=>?_)<;>refine xS ?_)|(refine drk_gse rfl rfl eE (fun hb=>?_) (fun hb=>?_)<;>refine xS ?_)|(refine drk_gsn rfl rfl eE (fun hb=>?_) (fun hb=>?_)<;>refine xS ?_)|(refine drk_gs rfl rfl eE (fun hb=>?_) (fun hb=>?_)<;>fail_if_success (cases hb;done)<;>refine xS ?_)
 refine aw_lp (fun i:Nat=>[(0,.c (pgs true l)),(1,.c (fnC 135 [g])),(4,.c (.int .i64 0)),(7,.c (.int .i64 l.length)),(8,.c (.int .i64 i))]) (fun _=>[(g,stO n)]) (fun i=>i≤l.length∧∀j,j<i→((fun x:PgD=>x.name==n) (l.getD j pg0))=false) (fun i=>l.length-i) 0 eB zZ ⟨Nat.zero_le _,fun j hj=>absurd hj om⟩ ?_
 rintro i ⟨hi,hn⟩
 repeat' first|refine yA1 o0 ?_|(refine xW ?_;refine xS ?_)|refine xP ?_|refine xN ?_|refine aw_cd eE (fun hb=>?_) (fun hb=>?_)|refine aw_ce eE (fun hb=>?_) (fun hb=>?_)|refine aw_cn eE (fun hb=>?_) (fun hb=>?_)|(refine xF (fun hb=>?_) (fun hb=>?_)<;>fail_if_success (cases hb;done))|(refine aw_gsd rfl rfl eE (fun hb=>?_) (fun hb=>?_)<;>refine xS ?_)|(refine aw_gse rfl rfl eE (fun hb=>?_) (fun hb=>?_)<;>refine xS ?_)|(refine aw_gsn rfl rfl eE (fun hb=>?_) (fun hb=>?_)<;>refine xS ?_)|(refine aw_gs rfl rfl eE (fun hb=>?_) (fun hb=>?_)<;>fail_if_success (cases hb;done)<;>refine xS ?_)|(refine drk_gsd rfl rfl eE (fun hb=>?_) (fun hb=>?_)<;>refine xS ?_)|(refine drk_gse rfl rfl eE (fun hb=>?_) (fun hb=>?_)<;>refine xS ?_)|(refine drk_gsn rfl rfl eE (fun hb=>?_) (fun hb=>?_)<;>refine xS ?_)|(refine drk_gs rfl rfl eE (fun hb=>?_) (fun hb=>?_)<;>fail_if_success (cases hb;done)<;>refine xS ?_)
 ·have hi':=hb
  have hf:=page1_fg g n (l.getD i pg0)
  refine aw_cgv (args:=[.agg (pgc (l.getD i pg0))]) hf rfl rfl rfl eE eE eL ?_
  refine xS ?_
  repeat' first|refine yA1 o0 ?_|(refine xW ?_;refine xS ?_)|refine xP ?_|refine xN ?_|refine aw_cd eE (fun hb=>?_) (fun hb=>?_)|refine aw_ce eE (fun hb=>?_) (fun hb=>?_)|refine aw_cn eE (fun hb=>?_) (fun hb=>?_)|(refine xF (fun hb=>?_) (fun hb=>?_)<;>fail_if_success (cases hb;done))|(refine aw_gsd rfl rfl eE (fun hb=>?_) (fun hb=>?_)<;>refine xS ?_)|(refine aw_gse rfl rfl eE (fun hb=>?_) (fun hb=>?_)<;>refine xS ?_)|(refine aw_gsn rfl rfl eE (fun hb=>?_) (fun hb=>?_)<;>refine xS ?_)|(refine aw_gs rfl rfl eE (fun hb=>?_) (fun hb=>?_)<;>fail_if_success (cases hb;done)<;>refine xS ?_)|(refine drk_gsd rfl rfl eE (fun hb=>?_) (fun hb=>?_)<;>refine xS ?_)|(refine drk_gse rfl rfl eE (fun hb=>?_) (fun hb=>?_)<;>refine xS ?_)|(refine drk_gsn rfl rfl eE (fun hb=>?_) (fun hb=>?_)<;>refine xS ?_)|(refine drk_gs rfl rfl eE (fun hb=>?_) (fun hb=>?_)<;>fail_if_success (cases hb;done)<;>refine xS ?_)
  ·rw [fidx_at (p:=fun x:PgD=>x.name==n) pg0 hi' (by simpa using hb) hn]
   refine xU ?_
   exact⟨rfl,rfl⟩
  ·refine aw_stop ⟨i+1,?_⟩
   have hn':∀j,j<i+1→((fun x:PgD=>x.name==n) (l.getD j pg0))=false:=fun j hj=>by
    by_cases e:j=i
    ·subst e;simpa using hb
    ·exact hn j om
   and_intros
   all_goals first|rfl|exact List.Sublist.refl _|exact True.intro|exact hn'|omega
 ·have hf:fidx (fun x=>x.name==n) l= -1:=fidx_no pg0 (fun j hj=>hn j om)
  rw [hf]
  refine xU ?_
  exact⟨rfl,rfl⟩
theorem page_fa (m:MdD) (n:BS) (hl:m.pages.length≤1099511627776):Fa Tryz.prog 88 [.agg (mdc true m),.c (.str (sB n))] (.c (.int .i64 (fidx (fun x=>x.name==n) m.pages))):=by
 refine fa_of_body Tryz.func88 rfl rfl (by simp [Tryz.ntmps88]) fun C hC=> ?_
 simp only [initS,Nat.reduceAdd]
 repeat' first|refine yA1 o0 ?_|(refine xW ?_;refine xS ?_)|refine xP ?_|refine xN ?_|refine aw_cd eE (fun hb=>?_) (fun hb=>?_)|refine aw_ce eE (fun hb=>?_) (fun hb=>?_)|refine aw_cn eE (fun hb=>?_) (fun hb=>?_)|(refine xF (fun hb=>?_) (fun hb=>?_)<;>fail_if_success (cases hb;done))|(refine aw_gsd rfl rfl eE (fun hb=>?_) (fun hb=>?_)<;>refine xS ?_)|(refine aw_gse rfl rfl eE (fun hb=>?_) (fun hb=>?_)<;>refine xS ?_)|(refine aw_gsn rfl rfl eE (fun hb=>?_) (fun hb=>?_)<;>refine xS ?_)|(refine aw_gs rfl rfl eE (fun hb=>?_) (fun hb=>?_)<;>fail_if_success (cases hb;done)<;>refine xS ?_)|(refine drk_gsd rfl rfl eE (fun hb=>?_) (fun hb=>?_)<;>refine xS ?_)|(refine drk_gse rfl rfl eE (fun hb=>?_) (fun hb=>?_)<;>refine xS ?_)|(refine drk_gsn rfl rfl eE (fun hb=>?_) (fun hb=>?_)<;>refine xS ?_)|(refine drk_gs rfl rfl eE (fun hb=>?_) (fun hb=>?_)<;>fail_if_success (cases hb;done)<;>refine xS ?_)
 refine xB fun g1 hn_g1=>?_
 repeat' first|refine yA1 hn_g1 ?_|(refine yW hn_g1 ?_;refine yS hn_g1 ?_)|refine yP hn_g1 ?_|refine yN hn_g1 ?_|refine aw_cd (zE hn_g1) (fun hb=>?_) (fun hb=>?_)|refine aw_ce (zE hn_g1) (fun hb=>?_) (fun hb=>?_)|refine aw_cn (zE hn_g1) (fun hb=>?_) (fun hb=>?_)|(refine yF hn_g1 (fun hb=>?_) (fun hb=>?_)<;>fail_if_success (cases hb;done))|(refine aw_gsd rfl rfl (zE hn_g1) (fun hb=>?_) (fun hb=>?_)<;>refine yS hn_g1 ?_)|(refine aw_gse rfl rfl (zE hn_g1) (fun hb=>?_) (fun hb=>?_)<;>refine yS hn_g1 ?_)|(refine aw_gsn rfl rfl (zE hn_g1) (fun hb=>?_) (fun hb=>?_)<;>refine yS hn_g1 ?_)|(refine aw_gs rfl rfl (zE hn_g1) (fun hb=>?_) (fun hb=>?_)<;>fail_if_success (cases hb;done)<;>refine yS hn_g1 ?_)|(refine drk_gsd rfl rfl (zE hn_g1) (fun hb=>?_) (fun hb=>?_)<;>refine yS hn_g1 ?_)|(refine drk_gse rfl rfl (zE hn_g1) (fun hb=>?_) (fun hb=>?_)<;>refine yS hn_g1 ?_)|(refine drk_gsn rfl rfl (zE hn_g1) (fun hb=>?_) (fun hb=>?_)<;>refine yS hn_g1 ?_)|(refine drk_gs rfl rfl (zE hn_g1) (fun hb=>?_) (fun hb=>?_)<;>fail_if_success (cases hb;done)<;>refine yS hn_g1 ?_)
 refine yB hn_g1 fun g2 hn_g2=>?_
 repeat' first|refine yA1 (oj hn_g1 hn_g2) ?_|(refine yW (oj hn_g1 hn_g2) ?_;refine yS (oj hn_g1 hn_g2) ?_)|refine yP (oj hn_g1 hn_g2) ?_|refine yN (oj hn_g1 hn_g2) ?_|refine aw_cd (zE (oj hn_g1 hn_g2)) (fun hb=>?_) (fun hb=>?_)|refine aw_ce (zE (oj hn_g1 hn_g2)) (fun hb=>?_) (fun hb=>?_)|refine aw_cn (zE (oj hn_g1 hn_g2)) (fun hb=>?_) (fun hb=>?_)|(refine yF (oj hn_g1 hn_g2) (fun hb=>?_) (fun hb=>?_)<;>fail_if_success (cases hb;done))|(refine aw_gsd rfl rfl (zE (oj hn_g1 hn_g2)) (fun hb=>?_) (fun hb=>?_)<;>refine yS (oj hn_g1 hn_g2) ?_)|(refine aw_gse rfl rfl (zE (oj hn_g1 hn_g2)) (fun hb=>?_) (fun hb=>?_)<;>refine yS (oj hn_g1 hn_g2) ?_)|(refine aw_gsn rfl rfl (zE (oj hn_g1 hn_g2)) (fun hb=>?_) (fun hb=>?_)<;>refine yS (oj hn_g1 hn_g2) ?_)|(refine aw_gs rfl rfl (zE (oj hn_g1 hn_g2)) (fun hb=>?_) (fun hb=>?_)<;>fail_if_success (cases hb;done)<;>refine yS (oj hn_g1 hn_g2) ?_)|(refine drk_gsd rfl rfl (zE (oj hn_g1 hn_g2)) (fun hb=>?_) (fun hb=>?_)<;>refine yS (oj hn_g1 hn_g2) ?_)|(refine drk_gse rfl rfl (zE (oj hn_g1 hn_g2)) (fun hb=>?_) (fun hb=>?_)<;>refine yS (oj hn_g1 hn_g2) ?_)|(refine drk_gsn rfl rfl (zE (oj hn_g1 hn_g2)) (fun hb=>?_) (fun hb=>?_)<;>refine yS (oj hn_g1 hn_g2) ?_)|(refine drk_gs rfl rfl (zE (oj hn_g1 hn_g2)) (fun hb=>?_) (fun hb=>?_)<;>fail_if_success (cases hb;done)<;>refine yS (oj hn_g1 hn_g2) ?_)
 refine aw_makeFunc (gs:=[g2]) rfl rfl rfl (zE (oj hn_g1 hn_g2)) ?_
 have J1:=oj hn_g1 hn_g2
 refine yS J1 ?_
 have hf:=pageI_fg g2 n m.pages hl
 repeat' first|refine yA1 J1 ?_|(refine aw_cg (hf) rfl rfl rfl (zE J1) (zL2 J1) ?_;refine yS J1 ?_)|(refine yW J1 ?_;refine yS J1 ?_)|refine yP J1 ?_|refine yN J1 ?_|refine aw_cd (zE J1) (fun hb=>?_) (fun hb=>?_)|refine aw_ce (zE J1) (fun hb=>?_) (fun hb=>?_)|refine aw_cn (zE J1) (fun hb=>?_) (fun hb=>?_)|(refine yF J1 (fun hb=>?_) (fun hb=>?_)<;>fail_if_success (cases hb;done))|(refine aw_gsd rfl rfl (zE J1) (fun hb=>?_) (fun hb=>?_)<;>refine yS J1 ?_)|(refine aw_gse rfl rfl (zE J1) (fun hb=>?_) (fun hb=>?_)<;>refine yS J1 ?_)|(refine aw_gsn rfl rfl (zE J1) (fun hb=>?_) (fun hb=>?_)<;>refine yS J1 ?_)|(refine aw_gs rfl rfl (zE J1) (fun hb=>?_) (fun hb=>?_)<;>fail_if_success (cases hb;done)<;>refine yS J1 ?_)|(refine drk_gsd rfl rfl (zE J1) (fun hb=>?_) (fun hb=>?_)<;>refine yS J1 ?_)|(refine drk_gse rfl rfl (zE J1) (fun hb=>?_) (fun hb=>?_)<;>refine yS J1 ?_)|(refine drk_gsn rfl rfl (zE J1) (fun hb=>?_) (fun hb=>?_)<;>refine yS J1 ?_)|(refine drk_gs rfl rfl (zE J1) (fun hb=>?_) (fun hb=>?_)<;>fail_if_success (cases hb;done)<;>refine yS J1 ?_)
 refine yT hC J1 ?_
 exact .one (.c (.int _ _))
theorem gate1_fg (g:Nat) (n:BS) (x:GtD):Fg Tryz.prog 137 g (stO n) [.agg (gtc x),.c (.optr g 0)] (.c (.bool (x.name==n))) (stO n):=by
 unfold Fg
 refine fh_of_body Tryz.func137 rfl rfl (by simp [Tryz.ntmps137]) fun C hC=> ?_
 simp only [initS,Nat.reduceAdd]
 repeat' first|refine yA1 o0 ?_|(refine xW ?_;refine xS ?_)|refine xP ?_|refine xN ?_|refine aw_cd eE (fun hb=>?_) (fun hb=>?_)|refine aw_ce eE (fun hb=>?_) (fun hb=>?_)|refine aw_cn eE (fun hb=>?_) (fun hb=>?_)|(refine xF (fun hb=>?_) (fun hb=>?_)<;>fail_if_success (cases hb;done))|(refine aw_gsd rfl rfl eE (fun hb=>?_) (fun hb=>?_)<;>refine xS ?_)|(refine aw_gse rfl rfl eE (fun hb=>?_) (fun hb=>?_)<;>refine xS ?_)|(refine aw_gsn rfl rfl eE (fun hb=>?_) (fun hb=>?_)<;>refine xS ?_)|(refine aw_gs rfl rfl eE (fun hb=>?_) (fun hb=>?_)<;>fail_if_success (cases hb;done)<;>refine xS ?_)|(refine drk_gsd rfl rfl eE (fun hb=>?_) (fun hb=>?_)<;>refine xS ?_)|(refine drk_gse rfl rfl eE (fun hb=>?_) (fun hb=>?_)<;>refine xS ?_)|(refine drk_gsn rfl rfl eE (fun hb=>?_) (fun hb=>?_)<;>refine xS ?_)|(refine drk_gs rfl rfl eE (fun hb=>?_) (fun hb=>?_)<;>fail_if_success (cases hb;done)<;>refine xS ?_)
 refine xB fun g1 hn_g1=>?_
 repeat' first|refine yA1 hn_g1 ?_|(refine yW hn_g1 ?_;refine yS hn_g1 ?_)|refine yP hn_g1 ?_|refine yN hn_g1 ?_|refine aw_cd (zE hn_g1) (fun hb=>?_) (fun hb=>?_)|refine aw_ce (zE hn_g1) (fun hb=>?_) (fun hb=>?_)|refine aw_cn (zE hn_g1) (fun hb=>?_) (fun hb=>?_)|(refine yF hn_g1 (fun hb=>?_) (fun hb=>?_)<;>fail_if_success (cases hb;done))|(refine aw_gsd rfl rfl (zE hn_g1) (fun hb=>?_) (fun hb=>?_)<;>refine yS hn_g1 ?_)|(refine aw_gse rfl rfl (zE hn_g1) (fun hb=>?_) (fun hb=>?_)<;>refine yS hn_g1 ?_)|(refine aw_gsn rfl rfl (zE hn_g1) (fun hb=>?_) (fun hb=>?_)<;>refine yS hn_g1 ?_)|(refine aw_gs rfl rfl (zE hn_g1) (fun hb=>?_) (fun hb=>?_)<;>fail_if_success (cases hb;done)<;>refine yS hn_g1 ?_)|(refine drk_gsd rfl rfl (zE hn_g1) (fun hb=>?_) (fun hb=>?_)<;>refine yS hn_g1 ?_)|(refine drk_gse rfl rfl (zE hn_g1) (fun hb=>?_) (fun hb=>?_)<;>refine yS hn_g1 ?_)|(refine drk_gsn rfl rfl (zE hn_g1) (fun hb=>?_) (fun hb=>?_)<;>refine yS hn_g1 ?_)|(refine drk_gs rfl rfl (zE hn_g1) (fun hb=>?_) (fun hb=>?_)<;>fail_if_success (cases hb;done)<;>refine yS hn_g1 ?_)
 refine aw_rethw (h':=[(g,stO n)]) rfl (by first|exact List.Sublist.refl _|exact .cons _ (.refl _)|exact .cons _ (.cons _ (.refl _))|exact .cons _ (.cons _ (.cons _ (.refl _)))) fun R r=>?_;simp only[go_sem,hn_g1];refine r _ rfl ?_;clear r R
 exact⟨rfl,rfl⟩
theorem gateI_fg (g:Nat) (n:BS) (l:List GtD) (hl:l.length≤1099511627776):Fg Tryz.prog 136 g (stO n) [.c (gts true l),.c (fnC 137 [g])] (.c (.int .i64 (fidx (fun x=>x.name==n) l))) (stO n):=by
 unfold Fg
 refine fh_of_body Tryz.func136 rfl rfl (by simp [Tryz.ntmps136]) fun C hC=> ?_
 simp only [initS,Nat.reduceAdd]
 repeat' first|refine yA1 o0 ?_|(refine xW ?_;refine xS ?_)|refine xP ?_|refine xN ?_|refine aw_cd eE (fun hb=>?_) (fun hb=>?_)|refine aw_ce eE (fun hb=>?_) (fun hb=>?_)|refine aw_cn eE (fun hb=>?_) (fun hb=>?_)|(refine xF (fun hb=>?_) (fun hb=>?_)<;>fail_if_success (cases hb;done))|(refine aw_gsd rfl rfl eE (fun hb=>?_) (fun hb=>?_)<;>refine xS ?_)|(refine aw_gse rfl rfl eE (fun hb=>?_) (fun hb=>?_)<;>refine xS ?_)|(refine aw_gsn rfl rfl eE (fun hb=>?_) (fun hb=>?_)<;>refine xS ?_)|(refine aw_gs rfl rfl eE (fun hb=>?_) (fun hb=>?_)<;>fail_if_success (cases hb;done)<;>refine xS ?_)|(refine drk_gsd rfl rfl eE (fun hb=>?_) (fun hb=>?_)<;>refine xS ?_)|(refine drk_gse rfl rfl eE (fun hb=>?_) (fun hb=>?_)<;>refine xS ?_)|(refine drk_gsn rfl rfl eE (fun hb=>?_) (fun hb=>?_)<;>refine xS ?_)|(refine drk_gs rfl rfl eE (fun hb=>?_) (fun hb=>?_)<;>fail_if_success (cases hb;done)<;>refine xS ?_)
 refine aw_lp (fun i:Nat=>[(0,.c (gts true l)),(1,.c (fnC 137 [g])),(4,.c (.int .i64 0)),(7,.c (.int .i64 l.length)),(8,.c (.int .i64 i))]) (fun _=>[(g,stO n)]) (fun i=>i≤l.length∧∀j,j<i→((fun x:GtD=>x.name==n) (l.getD j gt0))=false) (fun i=>l.length-i) 0 eB zZ ⟨Nat.zero_le _,fun j hj=>absurd hj om⟩ ?_
 rintro i ⟨hi,hn⟩
 repeat' first|refine yA1 o0 ?_|(refine xW ?_;refine xS ?_)|refine xP ?_|refine xN ?_|refine aw_cd eE (fun hb=>?_) (fun hb=>?_)|refine aw_ce eE (fun hb=>?_) (fun hb=>?_)|refine aw_cn eE (fun hb=>?_) (fun hb=>?_)|(refine xF (fun hb=>?_) (fun hb=>?_)<;>fail_if_success (cases hb;done))|(refine aw_gsd rfl rfl eE (fun hb=>?_) (fun hb=>?_)<;>refine xS ?_)|(refine aw_gse rfl rfl eE (fun hb=>?_) (fun hb=>?_)<;>refine xS ?_)|(refine aw_gsn rfl rfl eE (fun hb=>?_) (fun hb=>?_)<;>refine xS ?_)|(refine aw_gs rfl rfl eE (fun hb=>?_) (fun hb=>?_)<;>fail_if_success (cases hb;done)<;>refine xS ?_)|(refine drk_gsd rfl rfl eE (fun hb=>?_) (fun hb=>?_)<;>refine xS ?_)|(refine drk_gse rfl rfl eE (fun hb=>?_) (fun hb=>?_)<;>refine xS ?_)|(refine drk_gsn rfl rfl eE (fun hb=>?_) (fun hb=>?_)<;>refine xS ?_)|(refine drk_gs rfl rfl eE (fun hb=>?_) (fun hb=>?_)<;>fail_if_success (cases hb;done)<;>refine xS ?_)
 ·have hi':=hb
  have hf:=gate1_fg g n (l.getD i gt0)
  refine aw_cgv (args:=[.agg (gtc (l.getD i gt0))]) hf rfl rfl rfl eE eE eL ?_
  refine xS ?_
  repeat' first|refine yA1 o0 ?_|(refine xW ?_;refine xS ?_)|refine xP ?_|refine xN ?_|refine aw_cd eE (fun hb=>?_) (fun hb=>?_)|refine aw_ce eE (fun hb=>?_) (fun hb=>?_)|refine aw_cn eE (fun hb=>?_) (fun hb=>?_)|(refine xF (fun hb=>?_) (fun hb=>?_)<;>fail_if_success (cases hb;done))|(refine aw_gsd rfl rfl eE (fun hb=>?_) (fun hb=>?_)<;>refine xS ?_)|(refine aw_gse rfl rfl eE (fun hb=>?_) (fun hb=>?_)<;>refine xS ?_)|(refine aw_gsn rfl rfl eE (fun hb=>?_) (fun hb=>?_)<;>refine xS ?_)|(refine aw_gs rfl rfl eE (fun hb=>?_) (fun hb=>?_)<;>fail_if_success (cases hb;done)<;>refine xS ?_)|(refine drk_gsd rfl rfl eE (fun hb=>?_) (fun hb=>?_)<;>refine xS ?_)|(refine drk_gse rfl rfl eE (fun hb=>?_) (fun hb=>?_)<;>refine xS ?_)|(refine drk_gsn rfl rfl eE (fun hb=>?_) (fun hb=>?_)<;>refine xS ?_)|(refine drk_gs rfl rfl eE (fun hb=>?_) (fun hb=>?_)<;>fail_if_success (cases hb;done)<;>refine xS ?_)
  ·rw [fidx_at (p:=fun x:GtD=>x.name==n) gt0 hi' (by simpa using hb) hn]
   refine xU ?_
   exact⟨rfl,rfl⟩
  ·refine aw_stop ⟨i+1,?_⟩
   have hn':∀j,j<i+1→((fun x:GtD=>x.name==n) (l.getD j gt0))=false:=fun j hj=>by
    by_cases e:j=i
    ·subst e;simpa using hb
    ·exact hn j om
   and_intros
   all_goals first|rfl|exact List.Sublist.refl _|exact True.intro|exact hn'|omega
 ·have hf:fidx (fun x=>x.name==n) l= -1:=fidx_no gt0 (fun j hj=>hn j om)
  rw [hf]
  refine xU ?_
  exact⟨rfl,rfl⟩
theorem gate_fa (l:List GtD) (n:BS) (hl:l.length≤1099511627776):Fa Tryz.prog 90 [.c (gts true l),.c (.str (sB n))] (.c (.int .i64 (gtI l n))):=by
 refine fa_of_body Tryz.func90 rfl rfl (by simp [Tryz.ntmps90]) fun C hC=> ?_
 simp only [initS,Nat.reduceAdd]
 repeat' first|refine yA1 o0 ?_|(refine xW ?_;refine xS ?_)|refine xP ?_|refine xN ?_|refine aw_cd eE (fun hb=>?_) (fun hb=>?_)|refine aw_ce eE (fun hb=>?_) (fun hb=>?_)|refine aw_cn eE (fun hb=>?_) (fun hb=>?_)|(refine xF (fun hb=>?_) (fun hb=>?_)<;>fail_if_success (cases hb;done))|(refine aw_gsd rfl rfl eE (fun hb=>?_) (fun hb=>?_)<;>refine xS ?_)|(refine aw_gse rfl rfl eE (fun hb=>?_) (fun hb=>?_)<;>refine xS ?_)|(refine aw_gsn rfl rfl eE (fun hb=>?_) (fun hb=>?_)<;>refine xS ?_)|(refine aw_gs rfl rfl eE (fun hb=>?_) (fun hb=>?_)<;>fail_if_success (cases hb;done)<;>refine xS ?_)|(refine drk_gsd rfl rfl eE (fun hb=>?_) (fun hb=>?_)<;>refine xS ?_)|(refine drk_gse rfl rfl eE (fun hb=>?_) (fun hb=>?_)<;>refine xS ?_)|(refine drk_gsn rfl rfl eE (fun hb=>?_) (fun hb=>?_)<;>refine xS ?_)|(refine drk_gs rfl rfl eE (fun hb=>?_) (fun hb=>?_)<;>fail_if_success (cases hb;done)<;>refine xS ?_)
 refine xB fun g2 hn_g2=>?_
 repeat' first|refine yA1 hn_g2 ?_|(refine yW hn_g2 ?_;refine yS hn_g2 ?_)|refine yP hn_g2 ?_|refine yN hn_g2 ?_|refine aw_cd (zE hn_g2) (fun hb=>?_) (fun hb=>?_)|refine aw_ce (zE hn_g2) (fun hb=>?_) (fun hb=>?_)|refine aw_cn (zE hn_g2) (fun hb=>?_) (fun hb=>?_)|(refine yF hn_g2 (fun hb=>?_) (fun hb=>?_)<;>fail_if_success (cases hb;done))|(refine aw_gsd rfl rfl (zE hn_g2) (fun hb=>?_) (fun hb=>?_)<;>refine yS hn_g2 ?_)|(refine aw_gse rfl rfl (zE hn_g2) (fun hb=>?_) (fun hb=>?_)<;>refine yS hn_g2 ?_)|(refine aw_gsn rfl rfl (zE hn_g2) (fun hb=>?_) (fun hb=>?_)<;>refine yS hn_g2 ?_)|(refine aw_gs rfl rfl (zE hn_g2) (fun hb=>?_) (fun hb=>?_)<;>fail_if_success (cases hb;done)<;>refine yS hn_g2 ?_)|(refine drk_gsd rfl rfl (zE hn_g2) (fun hb=>?_) (fun hb=>?_)<;>refine yS hn_g2 ?_)|(refine drk_gse rfl rfl (zE hn_g2) (fun hb=>?_) (fun hb=>?_)<;>refine yS hn_g2 ?_)|(refine drk_gsn rfl rfl (zE hn_g2) (fun hb=>?_) (fun hb=>?_)<;>refine yS hn_g2 ?_)|(refine drk_gs rfl rfl (zE hn_g2) (fun hb=>?_) (fun hb=>?_)<;>fail_if_success (cases hb;done)<;>refine yS hn_g2 ?_)
 refine aw_makeFunc (gs:=[g2]) rfl rfl rfl (zE hn_g2) ?_
 refine yS hn_g2 ?_
 have hf:=gateI_fg g2 n l hl
 repeat' first|refine yA1 hn_g2 ?_|(refine aw_cg (hf) rfl rfl rfl (zE hn_g2) (zL2 hn_g2) ?_;refine yS hn_g2 ?_)|(refine yW hn_g2 ?_;refine yS hn_g2 ?_)|refine yP hn_g2 ?_|refine yN hn_g2 ?_|refine aw_cd (zE hn_g2) (fun hb=>?_) (fun hb=>?_)|refine aw_ce (zE hn_g2) (fun hb=>?_) (fun hb=>?_)|refine aw_cn (zE hn_g2) (fun hb=>?_) (fun hb=>?_)|(refine yF hn_g2 (fun hb=>?_) (fun hb=>?_)<;>fail_if_success (cases hb;done))|(refine aw_gsd rfl rfl (zE hn_g2) (fun hb=>?_) (fun hb=>?_)<;>refine yS hn_g2 ?_)|(refine aw_gse rfl rfl (zE hn_g2) (fun hb=>?_) (fun hb=>?_)<;>refine yS hn_g2 ?_)|(refine aw_gsn rfl rfl (zE hn_g2) (fun hb=>?_) (fun hb=>?_)<;>refine yS hn_g2 ?_)|(refine aw_gs rfl rfl (zE hn_g2) (fun hb=>?_) (fun hb=>?_)<;>fail_if_success (cases hb;done)<;>refine yS hn_g2 ?_)|(refine drk_gsd rfl rfl (zE hn_g2) (fun hb=>?_) (fun hb=>?_)<;>refine yS hn_g2 ?_)|(refine drk_gse rfl rfl (zE hn_g2) (fun hb=>?_) (fun hb=>?_)<;>refine yS hn_g2 ?_)|(refine drk_gsn rfl rfl (zE hn_g2) (fun hb=>?_) (fun hb=>?_)<;>refine yS hn_g2 ?_)|(refine drk_gs rfl rfl (zE hn_g2) (fun hb=>?_) (fun hb=>?_)<;>fail_if_success (cases hb;done)<;>refine yS hn_g2 ?_)
 refine yT hC hn_g2 ?_
 exact .one (.c (.int _ _))
end Go.Proofs.YteocnikcjjonbaaGreat
namespace Go.PN
open Go.AI
theorem RD.wf.mono {r:RD} {a b:Nat} (h:r.wf a) (hab:a≤b):r.wf b:=by
 exact⟨h.1,h.2.1,Nat.le_trans h.2.2.1 hab,Nat.le_trans h.2.2.2 hab⟩
end Go.PN
namespace Go.Proofs.YteocnikcjjonbaaGreat
open Go.AI Go.PN
attribute [local irreducible] aw Fa Fh DrK
theorem rate_fa (r:RD) (hw:r.wf 1073741824):Fa Tryz.prog 86 [.agg (rdc r)] (.c (.bool (rateB r))):=by
 have f1:=rvalid_fa r (hw.mono (by decide))
 have f2:=rsign_fa r hw
 unfold rateB
 refine fa_of_body Tryz.func86 rfl rfl (by simp [Tryz.ntmps86]) fun C hC=> ?_
 simp only [initS,Nat.reduceAdd]
 repeat' first|refine yA1 o0 ?_|(refine xW ?_;refine xS ?_)|refine xP ?_|refine xN ?_|refine aw_cd eE (fun hb=>?_) (fun hb=>?_)|refine aw_ce eE (fun hb=>?_) (fun hb=>?_)|refine aw_cn eE (fun hb=>?_) (fun hb=>?_)|(refine xF (fun hb=>?_) (fun hb=>?_)<;>fail_if_success (cases hb;done))|(refine aw_gsd rfl rfl eE (fun hb=>?_) (fun hb=>?_)<;>refine xS ?_)|(refine aw_gse rfl rfl eE (fun hb=>?_) (fun hb=>?_)<;>refine xS ?_)|(refine aw_gsn rfl rfl eE (fun hb=>?_) (fun hb=>?_)<;>refine xS ?_)|(refine aw_gs rfl rfl eE (fun hb=>?_) (fun hb=>?_)<;>fail_if_success (cases hb;done)<;>refine xS ?_)|(refine drk_gsd rfl rfl eE (fun hb=>?_) (fun hb=>?_)<;>refine xS ?_)|(refine drk_gse rfl rfl eE (fun hb=>?_) (fun hb=>?_)<;>refine xS ?_)|(refine drk_gsn rfl rfl eE (fun hb=>?_) (fun hb=>?_)<;>refine xS ?_)|(refine drk_gs rfl rfl eE (fun hb=>?_) (fun hb=>?_)<;>fail_if_success (cases hb;done)<;>refine xS ?_)
 refine xB fun g1 hn_g1=>?_
 repeat' first|refine yA1 hn_g1 ?_|(refine yC2 hn_g1 (f1) ?_)|(refine yD2 hn_g1 (f1) ?_)|(refine yC2 hn_g1 (f2) ?_)|(refine yD2 hn_g1 (f2) ?_)|(refine yW hn_g1 ?_;refine yS hn_g1 ?_)|refine yP hn_g1 ?_|refine yN hn_g1 ?_|refine aw_cd (zE hn_g1) (fun hb=>?_) (fun hb=>?_)|refine aw_ce (zE hn_g1) (fun hb=>?_) (fun hb=>?_)|refine aw_cn (zE hn_g1) (fun hb=>?_) (fun hb=>?_)|(refine yF hn_g1 (fun hb=>?_) (fun hb=>?_)<;>fail_if_success (cases hb;done))|(refine aw_gsd rfl rfl (zE hn_g1) (fun hb=>?_) (fun hb=>?_)<;>refine yS hn_g1 ?_)|(refine aw_gse rfl rfl (zE hn_g1) (fun hb=>?_) (fun hb=>?_)<;>refine yS hn_g1 ?_)|(refine aw_gsn rfl rfl (zE hn_g1) (fun hb=>?_) (fun hb=>?_)<;>refine yS hn_g1 ?_)|(refine aw_gs rfl rfl (zE hn_g1) (fun hb=>?_) (fun hb=>?_)<;>fail_if_success (cases hb;done)<;>refine yS hn_g1 ?_)|(refine drk_gsd rfl rfl (zE hn_g1) (fun hb=>?_) (fun hb=>?_)<;>refine yS hn_g1 ?_)|(refine drk_gse rfl rfl (zE hn_g1) (fun hb=>?_) (fun hb=>?_)<;>refine yS hn_g1 ?_)|(refine drk_gsn rfl rfl (zE hn_g1) (fun hb=>?_) (fun hb=>?_)<;>refine yS hn_g1 ?_)|(refine drk_gs rfl rfl (zE hn_g1) (fun hb=>?_) (fun hb=>?_)<;>fail_if_success (cases hb;done)<;>refine yS hn_g1 ?_)
 all_goals
  refine yT hC hn_g1 ?_
  refine .one (.c (ler_bool ?_))
  simp [hb]
theorem must_fa (x:GtD) (j:Nat) (hj:j≤1099511627776):Fa Tryz.prog 92 [.agg (gtc x),.c (.int .i64 j)] (.c (.bool (mustE x j))):=by
 unfold mustE
 refine fa_of_body Tryz.func92 rfl rfl (by simp [Tryz.ntmps92]) fun C hC=> ?_
 simp only [initS,Nat.reduceAdd]
 repeat' first|refine yA1 o0 ?_|(refine xW ?_;refine xS ?_)|refine xP ?_|refine xN ?_|refine aw_cd eE (fun hb=>?_) (fun hb=>?_)|refine aw_ce eE (fun hb=>?_) (fun hb=>?_)|refine aw_cn eE (fun hb=>?_) (fun hb=>?_)|(refine xF (fun hb=>?_) (fun hb=>?_)<;>fail_if_success (cases hb;done))|(refine aw_gsd rfl rfl eE (fun hb=>?_) (fun hb=>?_)<;>refine xS ?_)|(refine aw_gse rfl rfl eE (fun hb=>?_) (fun hb=>?_)<;>refine xS ?_)|(refine aw_gsn rfl rfl eE (fun hb=>?_) (fun hb=>?_)<;>refine xS ?_)|(refine aw_gs rfl rfl eE (fun hb=>?_) (fun hb=>?_)<;>fail_if_success (cases hb;done)<;>refine xS ?_)|(refine drk_gsd rfl rfl eE (fun hb=>?_) (fun hb=>?_)<;>refine xS ?_)|(refine drk_gse rfl rfl eE (fun hb=>?_) (fun hb=>?_)<;>refine xS ?_)|(refine drk_gsn rfl rfl eE (fun hb=>?_) (fun hb=>?_)<;>refine xS ?_)|(refine drk_gs rfl rfl eE (fun hb=>?_) (fun hb=>?_)<;>fail_if_success (cases hb;done)<;>refine xS ?_)
 refine xB fun g1 hn_g1=>?_
 repeat' first|refine yA1 hn_g1 ?_|(refine yW hn_g1 ?_;refine yS hn_g1 ?_)|refine yP hn_g1 ?_|refine yN hn_g1 ?_|refine aw_cd (zE hn_g1) (fun hb=>?_) (fun hb=>?_)|refine aw_ce (zE hn_g1) (fun hb=>?_) (fun hb=>?_)|refine aw_cn (zE hn_g1) (fun hb=>?_) (fun hb=>?_)|(refine yF hn_g1 (fun hb=>?_) (fun hb=>?_)<;>fail_if_success (cases hb;done))|(refine aw_gsd rfl rfl (zE hn_g1) (fun hb=>?_) (fun hb=>?_)<;>refine yS hn_g1 ?_)|(refine aw_gse rfl rfl (zE hn_g1) (fun hb=>?_) (fun hb=>?_)<;>refine yS hn_g1 ?_)|(refine aw_gsn rfl rfl (zE hn_g1) (fun hb=>?_) (fun hb=>?_)<;>refine yS hn_g1 ?_)|(refine aw_gs rfl rfl (zE hn_g1) (fun hb=>?_) (fun hb=>?_)<;>fail_if_success (cases hb;done)<;>refine yS hn_g1 ?_)|(refine drk_gsd rfl rfl (zE hn_g1) (fun hb=>?_) (fun hb=>?_)<;>refine yS hn_g1 ?_)|(refine drk_gse rfl rfl (zE hn_g1) (fun hb=>?_) (fun hb=>?_)<;>refine yS hn_g1 ?_)|(refine drk_gsn rfl rfl (zE hn_g1) (fun hb=>?_) (fun hb=>?_)<;>refine yS hn_g1 ?_)|(refine drk_gs rfl rfl (zE hn_g1) (fun hb=>?_) (fun hb=>?_)<;>fail_if_success (cases hb;done)<;>refine yS hn_g1 ?_)
 all_goals
  refine yT hC hn_g1 ?_
  refine .one (.c (ler_bool ?_))
  simp_all
theorem minp_fa (k:Int) (n:Nat) (hn:n≤1099511627776):Fa Tryz.prog 138 [.c (.int .i64 k),.c (.int .i64 n)] (.c (.bool (inpB k n))):=by
 unfold inpB
 refine fa_of_body Tryz.func138 rfl rfl (by simp [Tryz.ntmps138]) fun C hC=> ?_
 simp only [initS,Nat.reduceAdd]
 repeat' first|refine yA1 o0 ?_|(refine xW ?_;refine xS ?_)|refine xP ?_|refine xN ?_|refine aw_cd eE (fun hb=>?_) (fun hb=>?_)|refine aw_ce eE (fun hb=>?_) (fun hb=>?_)|refine aw_cn eE (fun hb=>?_) (fun hb=>?_)|(refine xF (fun hb=>?_) (fun hb=>?_)<;>fail_if_success (cases hb;done))|(refine aw_gsd rfl rfl eE (fun hb=>?_) (fun hb=>?_)<;>refine xS ?_)|(refine aw_gse rfl rfl eE (fun hb=>?_) (fun hb=>?_)<;>refine xS ?_)|(refine aw_gsn rfl rfl eE (fun hb=>?_) (fun hb=>?_)<;>refine xS ?_)|(refine aw_gs rfl rfl eE (fun hb=>?_) (fun hb=>?_)<;>fail_if_success (cases hb;done)<;>refine xS ?_)|(refine drk_gsd rfl rfl eE (fun hb=>?_) (fun hb=>?_)<;>refine xS ?_)|(refine drk_gse rfl rfl eE (fun hb=>?_) (fun hb=>?_)<;>refine xS ?_)|(refine drk_gsn rfl rfl eE (fun hb=>?_) (fun hb=>?_)<;>refine xS ?_)|(refine drk_gs rfl rfl eE (fun hb=>?_) (fun hb=>?_)<;>fail_if_success (cases hb;done)<;>refine xS ?_)
 all_goals first
  |(exfalso;omega)
  |(refine xT hC ?_
    refine .one (.c (ler_bool ?_))
    simp_all<;>omega)
theorem mzero_fa (r:RD) (hw:r.wf 1073741824):Fa Tryz.prog 139 [.agg (rdc r)] (.c (.bool (zeroB r))):=by
 unfold zeroB
 obtain⟨w1,w2⟩:r.num.length≤1073741824∧r.den.length≤1073741824:=⟨hw.2.2.1,hw.2.2.2⟩
 refine fa_of_body Tryz.func139 rfl rfl (by simp [Tryz.ntmps139]) fun C hC=> ?_
 simp only [initS,Nat.reduceAdd]
 repeat' first|refine yA1 o0 ?_|(refine xW ?_;refine xS ?_)|refine xP ?_|refine xN ?_|refine aw_cd eE (fun hb=>?_) (fun hb=>?_)|refine aw_ce eE (fun hb=>?_) (fun hb=>?_)|refine aw_cn eE (fun hb=>?_) (fun hb=>?_)|(refine xF (fun hb=>?_) (fun hb=>?_)<;>fail_if_success (cases hb;done))|(refine aw_gsd rfl rfl eE (fun hb=>?_) (fun hb=>?_)<;>refine xS ?_)|(refine aw_gse rfl rfl eE (fun hb=>?_) (fun hb=>?_)<;>refine xS ?_)|(refine aw_gsn rfl rfl eE (fun hb=>?_) (fun hb=>?_)<;>refine xS ?_)|(refine aw_gs rfl rfl eE (fun hb=>?_) (fun hb=>?_)<;>fail_if_success (cases hb;done)<;>refine xS ?_)|(refine drk_gsd rfl rfl eE (fun hb=>?_) (fun hb=>?_)<;>refine xS ?_)|(refine drk_gse rfl rfl eE (fun hb=>?_) (fun hb=>?_)<;>refine xS ?_)|(refine drk_gsn rfl rfl eE (fun hb=>?_) (fun hb=>?_)<;>refine xS ?_)|(refine drk_gs rfl rfl eE (fun hb=>?_) (fun hb=>?_)<;>fail_if_success (cases hb;done)<;>refine xS ?_)
 refine xB fun g1 hn_g1=>?_
 repeat' first|refine yA1 hn_g1 ?_|(refine yW hn_g1 ?_;refine yS hn_g1 ?_)|refine yP hn_g1 ?_|refine yN hn_g1 ?_|refine aw_cd (zE hn_g1) (fun hb=>?_) (fun hb=>?_)|refine aw_ce (zE hn_g1) (fun hb=>?_) (fun hb=>?_)|refine aw_cn (zE hn_g1) (fun hb=>?_) (fun hb=>?_)|(refine yF hn_g1 (fun hb=>?_) (fun hb=>?_)<;>fail_if_success (cases hb;done))|(refine aw_gsd rfl rfl (zE hn_g1) (fun hb=>?_) (fun hb=>?_)<;>refine yS hn_g1 ?_)|(refine aw_gse rfl rfl (zE hn_g1) (fun hb=>?_) (fun hb=>?_)<;>refine yS hn_g1 ?_)|(refine aw_gsn rfl rfl (zE hn_g1) (fun hb=>?_) (fun hb=>?_)<;>refine yS hn_g1 ?_)|(refine aw_gs rfl rfl (zE hn_g1) (fun hb=>?_) (fun hb=>?_)<;>fail_if_success (cases hb;done)<;>refine yS hn_g1 ?_)|(refine drk_gsd rfl rfl (zE hn_g1) (fun hb=>?_) (fun hb=>?_)<;>refine yS hn_g1 ?_)|(refine drk_gse rfl rfl (zE hn_g1) (fun hb=>?_) (fun hb=>?_)<;>refine yS hn_g1 ?_)|(refine drk_gsn rfl rfl (zE hn_g1) (fun hb=>?_) (fun hb=>?_)<;>refine yS hn_g1 ?_)|(refine drk_gs rfl rfl (zE hn_g1) (fun hb=>?_) (fun hb=>?_)<;>fail_if_success (cases hb;done)<;>refine yS hn_g1 ?_)
 all_goals
  refine yT hC hn_g1 ?_
  refine .one (.c (ler_bool ?_))
  simp_all
theorem gatesOf_fa (m:MdD) (k:Nat) (hk:k≤m.pages.length) (hl:m.pages.length≤1099511627776):Fa Tryz.prog 89 [.agg (mdc true m),.c (.int .i64 ((k:Int)-1))] (.c (gts true (gtsK m k))):=by
 refine fa_of_body Tryz.func89 rfl rfl (by simp [Tryz.ntmps89]) fun C hC=> ?_
 simp only [initS,Nat.reduceAdd]
 repeat' first|refine yA1 o0 ?_|(refine xW ?_;refine xS ?_)|refine xP ?_|refine xN ?_|refine aw_cd eE (fun hb=>?_) (fun hb=>?_)|refine aw_ce eE (fun hb=>?_) (fun hb=>?_)|refine aw_cn eE (fun hb=>?_) (fun hb=>?_)|(refine xF (fun hb=>?_) (fun hb=>?_)<;>fail_if_success (cases hb;done))|(refine aw_gsd rfl rfl eE (fun hb=>?_) (fun hb=>?_)<;>refine xS ?_)|(refine aw_gse rfl rfl eE (fun hb=>?_) (fun hb=>?_)<;>refine xS ?_)|(refine aw_gsn rfl rfl eE (fun hb=>?_) (fun hb=>?_)<;>refine xS ?_)|(refine aw_gs rfl rfl eE (fun hb=>?_) (fun hb=>?_)<;>fail_if_success (cases hb;done)<;>refine xS ?_)|(refine drk_gsd rfl rfl eE (fun hb=>?_) (fun hb=>?_)<;>refine xS ?_)|(refine drk_gse rfl rfl eE (fun hb=>?_) (fun hb=>?_)<;>refine xS ?_)|(refine drk_gsn rfl rfl eE (fun hb=>?_) (fun hb=>?_)<;>refine xS ?_)|(refine drk_gs rfl rfl eE (fun hb=>?_) (fun hb=>?_)<;>fail_if_success (cases hb;done)<;>refine xS ?_)
 refine xB fun g1 hn_g1=>?_
 repeat' first|refine yA1 hn_g1 ?_|(refine yW hn_g1 ?_;refine yS hn_g1 ?_)|refine yP hn_g1 ?_|refine yN hn_g1 ?_|refine aw_cd (zE hn_g1) (fun hb=>?_) (fun hb=>?_)|refine aw_ce (zE hn_g1) (fun hb=>?_) (fun hb=>?_)|refine aw_cn (zE hn_g1) (fun hb=>?_) (fun hb=>?_)|(refine yF hn_g1 (fun hb=>?_) (fun hb=>?_)<;>fail_if_success (cases hb;done))|(refine aw_gsd rfl rfl (zE hn_g1) (fun hb=>?_) (fun hb=>?_)<;>refine yS hn_g1 ?_)|(refine aw_gse rfl rfl (zE hn_g1) (fun hb=>?_) (fun hb=>?_)<;>refine yS hn_g1 ?_)|(refine aw_gsn rfl rfl (zE hn_g1) (fun hb=>?_) (fun hb=>?_)<;>refine yS hn_g1 ?_)|(refine aw_gs rfl rfl (zE hn_g1) (fun hb=>?_) (fun hb=>?_)<;>fail_if_success (cases hb;done)<;>refine yS hn_g1 ?_)|(refine drk_gsd rfl rfl (zE hn_g1) (fun hb=>?_) (fun hb=>?_)<;>refine yS hn_g1 ?_)|(refine drk_gse rfl rfl (zE hn_g1) (fun hb=>?_) (fun hb=>?_)<;>refine yS hn_g1 ?_)|(refine drk_gsn rfl rfl (zE hn_g1) (fun hb=>?_) (fun hb=>?_)<;>refine yS hn_g1 ?_)|(refine drk_gs rfl rfl (zE hn_g1) (fun hb=>?_) (fun hb=>?_)<;>fail_if_success (cases hb;done)<;>refine yS hn_g1 ?_)
 ·have h0:k=0:=by omega
  subst h0
  refine yT hC hn_g1 ?_
  exact .one (.c ler_gts)
 ·obtain⟨j,rfl⟩:∃j,k=j+1:=⟨k-1,by omega⟩
  refine yT hC hn_g1 ?_
  exact .one (.c ler_gts)
theorem ler_errE {h:Heap} {T:TypeId} {n c:Int} (e:c=n) (h0:n≠0):LeR h (.ifc T (.int .i64 n)) (errC T c):=ler_errN e.symm (by rw [e];exact h0)
theorem fidx_mem (n:BS):∀l:List BS,decide (fidx (fun x=>n==x) l≥0)=l.contains n
 |[]=>rfl
 |x::l=>by
  have ih:=fidx_mem n l
  rw [List.contains_cons,←ih]
  have hg:=fidx_ge (fun x=>n==x) l
  show decide ((if(n==x)=true then(0:Int) else if fidx (fun x=>n==x) l<0 then-1 else fidx (fun x=>n==x) l+1)≥0)=(n==x||decide (fidx (fun x=>n==x) l≥0))
  cases h:(n==x) with
  |true=>rfl
  |false=>
   rw [if_neg (by simp),Bool.false_or]
   by_cases h2:fidx (fun x=>n==x) l<0
   ·have a:¬fidx (fun x=>n==x) l≥0:=by omega
    rw [if_pos h2,decide_eq_false a];rfl
   ·have a:fidx (fun x=>n==x) l≥0:=by omega
    have b:fidx (fun x=>n==x) l+1≥0:=by omega
    rw [if_neg h2,decide_eq_true a,decide_eq_true b]
theorem checkGate_fa (x:GtD) (hw:x.dorm.wf 1073741824) (hl:x.inputs.length≤1099511627776):Fa Tryz.prog 91 [.agg (gtc x)] (.c (errA (shpC x))):=by
 have f1:=minp_fa x.kind x.inputs.length hl
 have f2:=rprob_fa x.dorm hw
 have f3:=mzero_fa x.dorm hw
 refine fa_of_body Tryz.func91 rfl rfl (by simp [Tryz.ntmps91]) fun C hC=> ?_
 simp only [initS,Nat.reduceAdd]
 repeat' first|refine yA1 o0 ?_|(refine xW ?_;refine xS ?_)|refine xP ?_|refine xN ?_|refine aw_cd eE (fun hb=>?_) (fun hb=>?_)|refine aw_ce eE (fun hb=>?_) (fun hb=>?_)|refine aw_cn eE (fun hb=>?_) (fun hb=>?_)|(refine xF (fun hb=>?_) (fun hb=>?_)<;>fail_if_success (cases hb;done))|(refine aw_gsd rfl rfl eE (fun hb=>?_) (fun hb=>?_)<;>refine xS ?_)|(refine aw_gse rfl rfl eE (fun hb=>?_) (fun hb=>?_)<;>refine xS ?_)|(refine aw_gsn rfl rfl eE (fun hb=>?_) (fun hb=>?_)<;>refine xS ?_)|(refine aw_gs rfl rfl eE (fun hb=>?_) (fun hb=>?_)<;>fail_if_success (cases hb;done)<;>refine xS ?_)|(refine drk_gsd rfl rfl eE (fun hb=>?_) (fun hb=>?_)<;>refine xS ?_)|(refine drk_gse rfl rfl eE (fun hb=>?_) (fun hb=>?_)<;>refine xS ?_)|(refine drk_gsn rfl rfl eE (fun hb=>?_) (fun hb=>?_)<;>refine xS ?_)|(refine drk_gs rfl rfl eE (fun hb=>?_) (fun hb=>?_)<;>fail_if_success (cases hb;done)<;>refine xS ?_)
 refine xB fun g1 hn_g1=>?_
 repeat' first|refine yA1 hn_g1 ?_|(refine yC2 hn_g1 (f1) ?_)|(refine yD2 hn_g1 (f1) ?_)|(refine yC2 hn_g1 (f2) ?_)|(refine yD2 hn_g1 (f2) ?_)|(refine yC2 hn_g1 (f3) ?_)|(refine yD2 hn_g1 (f3) ?_)|(refine yW hn_g1 ?_;refine yS hn_g1 ?_)|refine yP hn_g1 ?_|refine yN hn_g1 ?_|refine aw_cd (zE hn_g1) (fun hb=>?_) (fun hb=>?_)|refine aw_ce (zE hn_g1) (fun hb=>?_) (fun hb=>?_)|refine aw_cn (zE hn_g1) (fun hb=>?_) (fun hb=>?_)|(refine yF hn_g1 (fun hb=>?_) (fun hb=>?_)<;>fail_if_success (cases hb;done))|(refine aw_gsd rfl rfl (zE hn_g1) (fun hb=>?_) (fun hb=>?_)<;>refine yS hn_g1 ?_)|(refine aw_gse rfl rfl (zE hn_g1) (fun hb=>?_) (fun hb=>?_)<;>refine yS hn_g1 ?_)|(refine aw_gsn rfl rfl (zE hn_g1) (fun hb=>?_) (fun hb=>?_)<;>refine yS hn_g1 ?_)|(refine aw_gs rfl rfl (zE hn_g1) (fun hb=>?_) (fun hb=>?_)<;>fail_if_success (cases hb;done)<;>refine yS hn_g1 ?_)|(refine drk_gsd rfl rfl (zE hn_g1) (fun hb=>?_) (fun hb=>?_)<;>refine yS hn_g1 ?_)|(refine drk_gse rfl rfl (zE hn_g1) (fun hb=>?_) (fun hb=>?_)<;>refine yS hn_g1 ?_)|(refine drk_gsn rfl rfl (zE hn_g1) (fun hb=>?_) (fun hb=>?_)<;>refine yS hn_g1 ?_)|(refine drk_gs rfl rfl (zE hn_g1) (fun hb=>?_) (fun hb=>?_)<;>fail_if_success (cases hb;done)<;>refine yS hn_g1 ?_)
 all_goals first
  |(exfalso;omega)
  |(refine yT hC hn_g1 ?_
    first
     |(refine .one (.c (ler_errE (c:=shpC x) ?_ (by decide)))
       unfold shpC
       repeat' split
       all_goals first|rfl|(exfalso;simp_all;done)|(exfalso;simp_all;omega))
     |(refine .one (.c (ler_err0 (c:=shpC x) ?_))
       unfold shpC
       repeat' split
       all_goals first|rfl|(exfalso;simp_all;done)|(exfalso;simp_all;omega)))
structure MdOk (m:MdD):Prop where
 ev:m.events.length≤1099511627776
 hs:m.houses.length≤1099511627776
 gt:m.gates.length≤1099511627776
 pg:m.pages.length≤1099511627776
 pgt:∀p∈m.pages,p.gates.length≤1099511627776
theorem isInput_fa (m:MdD) (k:Nat) (n:BS) (hk:k≤m.pages.length) (hm:MdOk m) (hg:(gtsK m k).length≤1099511627776) (hn:n.length≤1099511627776):Fa Tryz.prog 47 [.agg (mdc true m),.c (.int .i64 ((k:Int)-1)),.c (.str (sB n))] (.c (.bool (isInp m k n))):=by
 have f1:=event_fa m n hm.ev
 have f2:=house_fa m n hm.hs
 have f3:=page_fa m (cutS n 1 n.length) hm.pg
 have f4:=gatesOf_fa m k hk hm.pg
 have f5:=gate_fa (gtsK m k) n hg
 refine fa_of_body Tryz.func47 rfl rfl (by simp [Tryz.ntmps47]) fun C hC=> ?_
 simp only [initS,Nat.reduceAdd]
 repeat' first|refine yA1 o0 ?_|(refine xW ?_;refine xS ?_)|refine xP ?_|refine xN ?_|refine aw_cd eE (fun hb=>?_) (fun hb=>?_)|refine aw_ce eE (fun hb=>?_) (fun hb=>?_)|refine aw_cn eE (fun hb=>?_) (fun hb=>?_)|(refine xF (fun hb=>?_) (fun hb=>?_)<;>fail_if_success (cases hb;done))|(refine aw_gsd rfl rfl eE (fun hb=>?_) (fun hb=>?_)<;>refine xS ?_)|(refine aw_gse rfl rfl eE (fun hb=>?_) (fun hb=>?_)<;>refine xS ?_)|(refine aw_gsn rfl rfl eE (fun hb=>?_) (fun hb=>?_)<;>refine xS ?_)|(refine aw_gs rfl rfl eE (fun hb=>?_) (fun hb=>?_)<;>fail_if_success (cases hb;done)<;>refine xS ?_)|(refine drk_gsd rfl rfl eE (fun hb=>?_) (fun hb=>?_)<;>refine xS ?_)|(refine drk_gse rfl rfl eE (fun hb=>?_) (fun hb=>?_)<;>refine xS ?_)|(refine drk_gsn rfl rfl eE (fun hb=>?_) (fun hb=>?_)<;>refine xS ?_)|(refine drk_gs rfl rfl eE (fun hb=>?_) (fun hb=>?_)<;>fail_if_success (cases hb;done)<;>refine xS ?_)
 refine xB fun g1 hn_g1=>?_
 repeat' first|refine yA1 hn_g1 ?_|(refine yC2 hn_g1 (f1) ?_)|(refine yD2 hn_g1 (f1) ?_)|(refine yC2 hn_g1 (f2) ?_)|(refine yD2 hn_g1 (f2) ?_)|(refine yC2 hn_g1 (f3) ?_)|(refine yD2 hn_g1 (f3) ?_)|(refine yC2 hn_g1 (f4) ?_)|(refine yD2 hn_g1 (f4) ?_)|(refine yC2 hn_g1 (f5) ?_)|(refine yD2 hn_g1 (f5) ?_)|(refine yW hn_g1 ?_;refine yS hn_g1 ?_)|refine yP hn_g1 ?_|refine yN hn_g1 ?_|refine aw_cd (zE hn_g1) (fun hb=>?_) (fun hb=>?_)|refine aw_ce (zE hn_g1) (fun hb=>?_) (fun hb=>?_)|refine aw_cn (zE hn_g1) (fun hb=>?_) (fun hb=>?_)|(refine yF hn_g1 (fun hb=>?_) (fun hb=>?_)<;>fail_if_success (cases hb;done))|(refine aw_gsd rfl rfl (zE hn_g1) (fun hb=>?_) (fun hb=>?_)<;>refine yS hn_g1 ?_)|(refine aw_gse rfl rfl (zE hn_g1) (fun hb=>?_) (fun hb=>?_)<;>refine yS hn_g1 ?_)|(refine aw_gsn rfl rfl (zE hn_g1) (fun hb=>?_) (fun hb=>?_)<;>refine yS hn_g1 ?_)|(refine aw_gs rfl rfl (zE hn_g1) (fun hb=>?_) (fun hb=>?_)<;>fail_if_success (cases hb;done)<;>refine yS hn_g1 ?_)|(refine drk_gsd rfl rfl (zE hn_g1) (fun hb=>?_) (fun hb=>?_)<;>refine yS hn_g1 ?_)|(refine drk_gse rfl rfl (zE hn_g1) (fun hb=>?_) (fun hb=>?_)<;>refine yS hn_g1 ?_)|(refine drk_gsn rfl rfl (zE hn_g1) (fun hb=>?_) (fun hb=>?_)<;>refine yS hn_g1 ?_)|(refine drk_gs rfl rfl (zE hn_g1) (fun hb=>?_) (fun hb=>?_)<;>fail_if_success (cases hb;done)<;>refine yS hn_g1 ?_)
 ·rename_i h0
  refine aw_dr 6 ty_mixed (by kernel_rfl) ?_
  repeat' first|refine yA1 hn_g1 ?_|(refine yC2 hn_g1 (f3) ?_)|(refine yD2 hn_g1 (f3) ?_)|(refine yW hn_g1 ?_;refine yS hn_g1 ?_)|refine yP hn_g1 ?_|refine yN hn_g1 ?_|refine aw_cd (zE hn_g1) (fun hb=>?_) (fun hb=>?_)|refine aw_ce (zE hn_g1) (fun hb=>?_) (fun hb=>?_)|refine aw_cn (zE hn_g1) (fun hb=>?_) (fun hb=>?_)|(refine yF hn_g1 (fun hb=>?_) (fun hb=>?_)<;>fail_if_success (cases hb;done))|(refine aw_gsd rfl rfl (zE hn_g1) (fun hb=>?_) (fun hb=>?_)<;>refine yS hn_g1 ?_)|(refine aw_gse rfl rfl (zE hn_g1) (fun hb=>?_) (fun hb=>?_)<;>refine yS hn_g1 ?_)|(refine aw_gsn rfl rfl (zE hn_g1) (fun hb=>?_) (fun hb=>?_)<;>refine yS hn_g1 ?_)|(refine aw_gs rfl rfl (zE hn_g1) (fun hb=>?_) (fun hb=>?_)<;>fail_if_success (cases hb;done)<;>refine yS hn_g1 ?_)|(refine drk_gsd rfl rfl (zE hn_g1) (fun hb=>?_) (fun hb=>?_)<;>refine yS hn_g1 ?_)|(refine drk_gse rfl rfl (zE hn_g1) (fun hb=>?_) (fun hb=>?_)<;>refine yS hn_g1 ?_)|(refine drk_gsn rfl rfl (zE hn_g1) (fun hb=>?_) (fun hb=>?_)<;>refine yS hn_g1 ?_)|(refine drk_gs rfl rfl (zE hn_g1) (fun hb=>?_) (fun hb=>?_)<;>fail_if_success (cases hb;done)<;>refine yS hn_g1 ?_)
  rw [cutS_drop]
  rw [show isInp m k n=decide (pgI m (n.drop 1)≥0) from if_pos ⟨h0,hb⟩]
  refine yT hC hn_g1 ?_
  exact .one (.c (.bool _))
 all_goals
  clear f1 f2 f3 f4 f5
  refine yT hC hn_g1 ?_
  refine .one (.c (ler_bool ?_))
  unfold isInp evI hsI
  simp_all<;>omega
end Go.Proofs.YteocnikcjjonbaaGreat
namespace Go.PN
open Go.AI
theorem frst_ret {α:Type} {f:Nat→α→Int} {l:List α} {d:α} {i:Nat} {F:Int} (h:frst f (l.drop i) i=F) (hi:i<l.length) {c:Int} (hc:f i (l.getD i d)=c) (h0:c≠0):F=c:=by
 rw [frst_step d hi,hc,if_neg h0] at h
 exact h.symm
theorem frst_go {α:Type} {f:Nat→α→Int} {l:List α} {d:α} {i:Nat} {F:Int} (h:frst f (l.drop i) i=F) (hi:i<l.length) (hc:f i (l.getD i d)=0):frst f (l.drop (i+1)) (i+1)=F:=by
 rw [frst_step d hi,hc,if_pos rfl] at h
 exact h
theorem frst_fin {α:Type} {f:Nat→α→Int} {l:List α} {i:Nat} {F:Int} (h:frst f (l.drop i) i=F) (hi:¬i<l.length):F=0:=by
 rw [frst_end hi] at h
 exact h.symm
structure MdWf (m:MdD):Prop where
 nm:m.name.length≤1099511627776
 ev:∀i,(m.events.getD i ev0).name.length≤1099511627776∧(m.events.getD i ev0).p.wf 1073741824∧(m.events.getD i ev0).fail.wf 1073741824∧(m.events.getD i ev0).rep.wf 1073741824
 hs:∀i,(m.houses.getD i hs0).name.length≤1099511627776
end Go.PN
namespace Go.Proofs.YteocnikcjjonbaaGreat
open Go.AI Go.PN
attribute [local irreducible] aw Fa Fh DrK
theorem checkEvents_fa (m:MdD) (hm:MdOk m) (hw:MdWf m):Fa Tryz.prog 43 [.agg (mdc true m)] (.c (errA (evhC m))):=by
 refine fa_of_body Tryz.func43 rfl rfl (by simp [Tryz.ntmps43]) fun C hC=> ?_
 simp only [initS,Nat.reduceAdd]
 repeat' first|refine yA1 o0 ?_|(refine xW ?_;refine xS ?_)|refine xP ?_|refine xN ?_|refine aw_cd eE (fun hb=>?_) (fun hb=>?_)|refine aw_ce eE (fun hb=>?_) (fun hb=>?_)|refine aw_cn eE (fun hb=>?_) (fun hb=>?_)|(refine xF (fun hb=>?_) (fun hb=>?_)<;>fail_if_success (cases hb;done))|(refine aw_gsd rfl rfl eE (fun hb=>?_) (fun hb=>?_)<;>refine xS ?_)|(refine aw_gse rfl rfl eE (fun hb=>?_) (fun hb=>?_)<;>refine xS ?_)|(refine aw_gsn rfl rfl eE (fun hb=>?_) (fun hb=>?_)<;>refine xS ?_)|(refine aw_gs rfl rfl eE (fun hb=>?_) (fun hb=>?_)<;>fail_if_success (cases hb;done)<;>refine xS ?_)|(refine drk_gsd rfl rfl eE (fun hb=>?_) (fun hb=>?_)<;>refine xS ?_)|(refine drk_gse rfl rfl eE (fun hb=>?_) (fun hb=>?_)<;>refine xS ?_)|(refine drk_gsn rfl rfl eE (fun hb=>?_) (fun hb=>?_)<;>refine xS ?_)|(refine drk_gs rfl rfl eE (fun hb=>?_) (fun hb=>?_)<;>fail_if_success (cases hb;done)<;>refine xS ?_)
 refine xB fun g1 hn_g1=>?_
 repeat' first|refine yA1 hn_g1 ?_|(refine yW hn_g1 ?_;refine yS hn_g1 ?_)|refine yP hn_g1 ?_|refine yN hn_g1 ?_|refine aw_cd (zE hn_g1) (fun hb=>?_) (fun hb=>?_)|refine aw_ce (zE hn_g1) (fun hb=>?_) (fun hb=>?_)|refine aw_cn (zE hn_g1) (fun hb=>?_) (fun hb=>?_)|(refine yF hn_g1 (fun hb=>?_) (fun hb=>?_)<;>fail_if_success (cases hb;done))|(refine aw_gsd rfl rfl (zE hn_g1) (fun hb=>?_) (fun hb=>?_)<;>refine yS hn_g1 ?_)|(refine aw_gse rfl rfl (zE hn_g1) (fun hb=>?_) (fun hb=>?_)<;>refine yS hn_g1 ?_)|(refine aw_gsn rfl rfl (zE hn_g1) (fun hb=>?_) (fun hb=>?_)<;>refine yS hn_g1 ?_)|(refine aw_gs rfl rfl (zE hn_g1) (fun hb=>?_) (fun hb=>?_)<;>fail_if_success (cases hb;done)<;>refine yS hn_g1 ?_)|(refine drk_gsd rfl rfl (zE hn_g1) (fun hb=>?_) (fun hb=>?_)<;>refine yS hn_g1 ?_)|(refine drk_gse rfl rfl (zE hn_g1) (fun hb=>?_) (fun hb=>?_)<;>refine yS hn_g1 ?_)|(refine drk_gsn rfl rfl (zE hn_g1) (fun hb=>?_) (fun hb=>?_)<;>refine yS hn_g1 ?_)|(refine drk_gs rfl rfl (zE hn_g1) (fun hb=>?_) (fun hb=>?_)<;>fail_if_success (cases hb;done)<;>refine yS hn_g1 ?_)
 ·refine yT hC hn_g1 ?_
  exact .one (.c (ler_errE (by unfold evhC;rw [if_pos om]) (by decide)))
 have he:¬m.events.length>24:=by omega
 generalize hF:frst (evC m) m.events 0=F
 have hl1:=hm.ev
 have hl2:=hm.hs
 refine aw_lp (fun i:Nat=>[(1,.c (.optr g1 0)),(2,.c .nilI),(13,.c (evs true m.events)),(14,.c (.int .i64 m.events.length)),(15,.c (.int .i64 i))]) (fun _=>[(g1,.cells 30 8 (ofL (mdc true m)))]) (fun i=>i≤m.events.length∧frst (evC m) (m.events.drop i) i=F) (fun i=>m.events.length-i) 0 (zB hn_g1) zZ ⟨Nat.zero_le _,hF⟩ ?_
 rintro i ⟨hi,hlp⟩
 repeat' first|refine yA1 hn_g1 ?_|(refine yW hn_g1 ?_;refine yS hn_g1 ?_)|refine yP hn_g1 ?_|refine yN hn_g1 ?_|refine aw_cd (zE hn_g1) (fun hb=>?_) (fun hb=>?_)|refine aw_ce (zE hn_g1) (fun hb=>?_) (fun hb=>?_)|refine aw_cn (zE hn_g1) (fun hb=>?_) (fun hb=>?_)|(refine yF hn_g1 (fun hb=>?_) (fun hb=>?_)<;>fail_if_success (cases hb;done))|(refine aw_gsd rfl rfl (zE hn_g1) (fun hb=>?_) (fun hb=>?_)<;>refine yS hn_g1 ?_)|(refine aw_gse rfl rfl (zE hn_g1) (fun hb=>?_) (fun hb=>?_)<;>refine yS hn_g1 ?_)|(refine aw_gsn rfl rfl (zE hn_g1) (fun hb=>?_) (fun hb=>?_)<;>refine yS hn_g1 ?_)|(refine aw_gs rfl rfl (zE hn_g1) (fun hb=>?_) (fun hb=>?_)<;>fail_if_success (cases hb;done)<;>refine yS hn_g1 ?_)|(refine drk_gsd rfl rfl (zE hn_g1) (fun hb=>?_) (fun hb=>?_)<;>refine yS hn_g1 ?_)|(refine drk_gse rfl rfl (zE hn_g1) (fun hb=>?_) (fun hb=>?_)<;>refine yS hn_g1 ?_)|(refine drk_gsn rfl rfl (zE hn_g1) (fun hb=>?_) (fun hb=>?_)<;>refine yS hn_g1 ?_)|(refine drk_gs rfl rfl (zE hn_g1) (fun hb=>?_) (fun hb=>?_)<;>fail_if_success (cases hb;done)<;>refine yS hn_g1 ?_)
 ·obtain⟨w0,w1,w2,w3⟩:=hw.ev i
  have hi':=hb
  have hR:∀c,evC m i (m.events.getD i ev0)=c→c≠0→evhC m=c:=fun c hc h0=>by
   have:=frst_ret hlp hi' hc h0
   unfold evhC orC
   rw [if_neg he,hF,this,if_neg h0]
  have hG:=frst_go (d:=ev0) hlp hi'
  generalize hx:m.events.getD i ev0=x at*
  have f1:Fa Tryz.prog 42 [.c (.str (sB x.name))] (.c (.bool (nameOk x.name))):=tname_fa x.name w0
  have f2:=event_fa m x.name hl1
  have f3:=rprob_fa x.p w1
  have f4:=rate_fa x.fail w2
  have f5:=rate_fa x.rep w3
  refine yA hn_g1 fun g4 hn_g4=>?_
  repeat' first|refine yA1 (oj hn_g1 hn_g4) ?_|(refine yC2 (oj hn_g1 hn_g4) (f1) ?_)|(refine yD2 (oj hn_g1 hn_g4) (f1) ?_)|(refine yC2 (oj hn_g1 hn_g4) (f2) ?_)|(refine yD2 (oj hn_g1 hn_g4) (f2) ?_)|(refine yC2 (oj hn_g1 hn_g4) (f3) ?_)|(refine yD2 (oj hn_g1 hn_g4) (f3) ?_)|(refine yC2 (oj hn_g1 hn_g4) (f4) ?_)|(refine yD2 (oj hn_g1 hn_g4) (f4) ?_)|(refine yC2 (oj hn_g1 hn_g4) (f5) ?_)|(refine yD2 (oj hn_g1 hn_g4) (f5) ?_)|(refine yW (oj hn_g1 hn_g4) ?_;refine yS (oj hn_g1 hn_g4) ?_)|refine yP (oj hn_g1 hn_g4) ?_|refine yN (oj hn_g1 hn_g4) ?_|refine aw_cd (zE (oj hn_g1 hn_g4)) (fun hb=>?_) (fun hb=>?_)|refine aw_ce (zE (oj hn_g1 hn_g4)) (fun hb=>?_) (fun hb=>?_)|refine aw_cn (zE (oj hn_g1 hn_g4)) (fun hb=>?_) (fun hb=>?_)|(refine yF (oj hn_g1 hn_g4) (fun hb=>?_) (fun hb=>?_)<;>fail_if_success (cases hb;done))|(refine aw_gsd rfl rfl (zE (oj hn_g1 hn_g4)) (fun hb=>?_) (fun hb=>?_)<;>refine yS (oj hn_g1 hn_g4) ?_)|(refine aw_gse rfl rfl (zE (oj hn_g1 hn_g4)) (fun hb=>?_) (fun hb=>?_)<;>refine yS (oj hn_g1 hn_g4) ?_)|(refine aw_gsn rfl rfl (zE (oj hn_g1 hn_g4)) (fun hb=>?_) (fun hb=>?_)<;>refine yS (oj hn_g1 hn_g4) ?_)|(refine aw_gs rfl rfl (zE (oj hn_g1 hn_g4)) (fun hb=>?_) (fun hb=>?_)<;>fail_if_success (cases hb;done)<;>refine yS (oj hn_g1 hn_g4) ?_)|(refine drk_gsd rfl rfl (zE (oj hn_g1 hn_g4)) (fun hb=>?_) (fun hb=>?_)<;>refine yS (oj hn_g1 hn_g4) ?_)|(refine drk_gse rfl rfl (zE (oj hn_g1 hn_g4)) (fun hb=>?_) (fun hb=>?_)<;>refine yS (oj hn_g1 hn_g4) ?_)|(refine drk_gsn rfl rfl (zE (oj hn_g1 hn_g4)) (fun hb=>?_) (fun hb=>?_)<;>refine yS (oj hn_g1 hn_g4) ?_)|(refine drk_gs rfl rfl (zE (oj hn_g1 hn_g4)) (fun hb=>?_) (fun hb=>?_)<;>fail_if_success (cases hb;done)<;>refine yS (oj hn_g1 hn_g4) ?_)
  all_goals clear f1 f2 f3 f4 f5
  all_goals first
   |(refine yT hC (oj hn_g1 hn_g4) ?_
     refine .one (.c (ler_errE (c:=evhC m) (hR _ ?_ (by decide)) (by decide)))
     clear hR hG hlp hF hx
     unfold evC evI
     repeat' split
     all_goals first|rfl|(exfalso;simp_all;done)|(exfalso;simp_all;omega))
   |(refine aw_stop ⟨i+1,?_⟩
     have hz:evC m i x=0:=by
      clear hR hG hlp hF hx
      unfold evC evI
      repeat' split
      all_goals first|rfl|(exfalso;simp_all;done)|(exfalso;simp_all;omega)
     and_intros
     all_goals first|rfl|exact List.Sublist.refl _|exact List.sublist_cons_self _ _|exact True.intro|exact hG hz|omega)
 ·rename_i hi0
  have hF0:=frst_fin hlp hi0
  subst hF0
  refine yT hC hn_g1 ?_
  refine .one (.c (ler_errE (c:=evhC m) ?_ (by decide)))
  unfold evhC orC
  rw [if_neg he,hF,if_pos rfl,if_pos om]
 rename_i hi0
 have hF0:=frst_fin hlp hi0
 subst hF0
 have hh:¬m.houses.length>16:=by omega
 have he2:evhC m=frst (hsC m) m.houses 0:=by
  unfold evhC orC
  rw [if_neg he,hF,if_pos rfl,if_neg hh]
 clear hlp hi0 hi hF
 generalize hF:frst (hsC m) m.houses 0=F at he2
 refine aw_lp (fun i:Nat=>[(1,.c (.optr g1 0)),(2,.c .nilI),(69,.c (hss true m.houses)),(70,.c (.int .i64 m.houses.length)),(71,.c (.int .i64 i))]) (fun _=>[(g1,.cells 30 8 (ofL (mdc true m)))]) (fun i=>i≤m.houses.length∧frst (hsC m) (m.houses.drop i) i=F) (fun i=>m.houses.length-i) 0 (zB hn_g1) zZ ⟨Nat.zero_le _,hF⟩ ?_
 rintro i ⟨hi,hlp⟩
 repeat' first|refine yA1 hn_g1 ?_|(refine yW hn_g1 ?_;refine yS hn_g1 ?_)|refine yP hn_g1 ?_|refine yN hn_g1 ?_|refine aw_cd (zE hn_g1) (fun hb=>?_) (fun hb=>?_)|refine aw_ce (zE hn_g1) (fun hb=>?_) (fun hb=>?_)|refine aw_cn (zE hn_g1) (fun hb=>?_) (fun hb=>?_)|(refine yF hn_g1 (fun hb=>?_) (fun hb=>?_)<;>fail_if_success (cases hb;done))|(refine aw_gsd rfl rfl (zE hn_g1) (fun hb=>?_) (fun hb=>?_)<;>refine yS hn_g1 ?_)|(refine aw_gse rfl rfl (zE hn_g1) (fun hb=>?_) (fun hb=>?_)<;>refine yS hn_g1 ?_)|(refine aw_gsn rfl rfl (zE hn_g1) (fun hb=>?_) (fun hb=>?_)<;>refine yS hn_g1 ?_)|(refine aw_gs rfl rfl (zE hn_g1) (fun hb=>?_) (fun hb=>?_)<;>fail_if_success (cases hb;done)<;>refine yS hn_g1 ?_)|(refine drk_gsd rfl rfl (zE hn_g1) (fun hb=>?_) (fun hb=>?_)<;>refine yS hn_g1 ?_)|(refine drk_gse rfl rfl (zE hn_g1) (fun hb=>?_) (fun hb=>?_)<;>refine yS hn_g1 ?_)|(refine drk_gsn rfl rfl (zE hn_g1) (fun hb=>?_) (fun hb=>?_)<;>refine yS hn_g1 ?_)|(refine drk_gs rfl rfl (zE hn_g1) (fun hb=>?_) (fun hb=>?_)<;>fail_if_success (cases hb;done)<;>refine yS hn_g1 ?_)
 ·have w0:=hw.hs i
  have hi':=hb
  have hR:∀c,hsC m i (m.houses.getD i hs0)=c→c≠0→evhC m=c:=fun c hc h0=>by
   rw [he2];exact frst_ret hlp hi' hc h0
  have hG:=frst_go (d:=hs0) hlp hi'
  generalize hx:m.houses.getD i hs0=x at*
  have f1:Fa Tryz.prog 42 [.c (.str (sB x.name))] (.c (.bool (nameOk x.name))):=tname_fa x.name w0
  have f2:=event_fa m x.name hl1
  have f3:=house_fa m x.name hl2
  refine yA hn_g1 fun g4 hn_g4=>?_
  repeat' first|refine yA1 (oj hn_g1 hn_g4) ?_|(refine yC2 (oj hn_g1 hn_g4) (f1) ?_)|(refine yD2 (oj hn_g1 hn_g4) (f1) ?_)|(refine yC2 (oj hn_g1 hn_g4) (f2) ?_)|(refine yD2 (oj hn_g1 hn_g4) (f2) ?_)|(refine yC2 (oj hn_g1 hn_g4) (f3) ?_)|(refine yD2 (oj hn_g1 hn_g4) (f3) ?_)|(refine yW (oj hn_g1 hn_g4) ?_;refine yS (oj hn_g1 hn_g4) ?_)|refine yP (oj hn_g1 hn_g4) ?_|refine yN (oj hn_g1 hn_g4) ?_|refine aw_cd (zE (oj hn_g1 hn_g4)) (fun hb=>?_) (fun hb=>?_)|refine aw_ce (zE (oj hn_g1 hn_g4)) (fun hb=>?_) (fun hb=>?_)|refine aw_cn (zE (oj hn_g1 hn_g4)) (fun hb=>?_) (fun hb=>?_)|(refine yF (oj hn_g1 hn_g4) (fun hb=>?_) (fun hb=>?_)<;>fail_if_success (cases hb;done))|(refine aw_gsd rfl rfl (zE (oj hn_g1 hn_g4)) (fun hb=>?_) (fun hb=>?_)<;>refine yS (oj hn_g1 hn_g4) ?_)|(refine aw_gse rfl rfl (zE (oj hn_g1 hn_g4)) (fun hb=>?_) (fun hb=>?_)<;>refine yS (oj hn_g1 hn_g4) ?_)|(refine aw_gsn rfl rfl (zE (oj hn_g1 hn_g4)) (fun hb=>?_) (fun hb=>?_)<;>refine yS (oj hn_g1 hn_g4) ?_)|(refine aw_gs rfl rfl (zE (oj hn_g1 hn_g4)) (fun hb=>?_) (fun hb=>?_)<;>fail_if_success (cases hb;done)<;>refine yS (oj hn_g1 hn_g4) ?_)|(refine drk_gsd rfl rfl (zE (oj hn_g1 hn_g4)) (fun hb=>?_) (fun hb=>?_)<;>refine yS (oj hn_g1 hn_g4) ?_)|(refine drk_gse rfl rfl (zE (oj hn_g1 hn_g4)) (fun hb=>?_) (fun hb=>?_)<;>refine yS (oj hn_g1 hn_g4) ?_)|(refine drk_gsn rfl rfl (zE (oj hn_g1 hn_g4)) (fun hb=>?_) (fun hb=>?_)<;>refine yS (oj hn_g1 hn_g4) ?_)|(refine drk_gs rfl rfl (zE (oj hn_g1 hn_g4)) (fun hb=>?_) (fun hb=>?_)<;>fail_if_success (cases hb;done)<;>refine yS (oj hn_g1 hn_g4) ?_)
  all_goals clear f1 f2 f3
  all_goals first
   |(refine yT hC (oj hn_g1 hn_g4) ?_
     refine .one (.c (ler_errE (c:=evhC m) (hR _ ?_ (by decide)) (by decide)))
     clear hR hG hlp hF hx
     unfold hsC evI hsI
     repeat' split
     all_goals first|rfl|(exfalso;simp_all;done)|(exfalso;simp_all;omega))
   |(refine aw_stop ⟨i+1,?_⟩
     have hz:hsC m i x=0:=by
      clear hR hG hlp hF hx
      unfold hsC evI hsI
      repeat' split
      all_goals first|rfl|(exfalso;simp_all;done)|(exfalso;simp_all;omega)
     and_intros
     all_goals first|rfl|exact List.Sublist.refl _|exact List.sublist_cons_self _ _|exact True.intro|exact hG hz|omega)
 ·have hF0:=frst_fin hlp hb
  subst hF0
  refine yT hC hn_g1 ?_
  exact .one (.c (ler_err0 he2))
end Go.Proofs.YteocnikcjjonbaaGreat
namespace Go.PN
open Go.AI
structure MdWf2 (m:MdD):Prop where
 pg:∀i,(m.pages.getD i pg0).name.length≤1099511627776∧(m.pages.getD i pg0).gates.length≤1048576
 gl:m.gates.length≤1048576
 pl:m.pages.length≤1048576
 gt:∀k i,((gtsK m k).getD i gt0).name.length≤1099511627776∧((gtsK m k).getD i gt0).dorm.wf 1073741824∧((gtsK m k).getD i gt0).inputs.length≤1099511627776
theorem gtsK_len {m:MdD} (h:MdWf2 m) (k:Nat):(gtsK m k).length≤1048576:=match k with
 |0=>h.gl
 |k+1=>(h.pg k).2
def pgS (l:List PgD):Nat:=(l.map fun p=>p.gates.length).sum
theorem pgS_le {l:List PgD} (h:∀i,(l.getD i pg0).gates.length≤1048576):pgS l≤l.length*1048576:=by
 induction l with
 |nil=>exact Nat.zero_le _
 |cons p l ih=>
  have h0:=h 0
  have:=ih fun i=>h (i+1)
  show p.gates.length+pgS l≤_
  rw [List.length_cons]
  have h1:p.gates.length≤1048576:=h0
  omega
theorem pgS_take {l:List PgD} {i:Nat} (h:i<l.length):pgS (l.take (i+1))=pgS (l.take i)+(l.getD i pg0).gates.length:=by
 have e:l.getD i pg0=l[i]:=by rw [List.getD_eq_getElem?_getD,List.getElem?_eq_getElem h];rfl
 rw [List.take_succ_eq_append_getElem h,e]
 unfold pgS
 rw [List.map_append,List.sum_append]
 simp
end Go.PN
namespace Go.Proofs.YteocnikcjjonbaaGreat
open Go.AI Go.PN
attribute [local irreducible] aw Fa Fh DrK
theorem checkPages_fa (m:MdD) (hm:MdOk m) (hw:MdWf2 m):Fa Tryz.prog 44 [.agg (mdc true m)] (.c (errA (pgsC m))):=by
 have hgl:=hw.gl
 have hpl:=hw.pl
 have hP:∀i,i≤m.pages.length→pgS (m.pages.take i)≤1099511627776:=fun i hi=>by
  have h1:∀j,((m.pages.take i).getD j pg0).gates.length≤1048576:=fun j=>by
   by_cases hj:j<i
   ·have:=(hw.pg j).2
    rw [List.getD_eq_getElem?_getD,List.getElem?_take_of_lt hj,←List.getD_eq_getElem?_getD];exact this
   ·rw [List.getD_eq_getElem?_getD,List.getElem?_take_eq_none om];exact Nat.zero_le _
  have h2:=pgS_le h1
  rw [List.length_take] at h2
  have:min i m.pages.length≤1048576:=by omega
  calc _≤_:=h2
   _≤1048576*1048576:=Nat.mul_le_mul_right _ this
 refine fa_of_body Tryz.func44 rfl rfl (by simp [Tryz.ntmps44]) fun C hC=> ?_
 simp only [initS,Nat.reduceAdd]
 repeat' first|refine yA1 o0 ?_|(refine xW ?_;refine xS ?_)|refine xP ?_|refine xN ?_|refine aw_cd eE (fun hb=>?_) (fun hb=>?_)|refine aw_ce eE (fun hb=>?_) (fun hb=>?_)|refine aw_cn eE (fun hb=>?_) (fun hb=>?_)|(refine xF (fun hb=>?_) (fun hb=>?_)<;>fail_if_success (cases hb;done))|(refine aw_gsd rfl rfl eE (fun hb=>?_) (fun hb=>?_)<;>refine xS ?_)|(refine aw_gse rfl rfl eE (fun hb=>?_) (fun hb=>?_)<;>refine xS ?_)|(refine aw_gsn rfl rfl eE (fun hb=>?_) (fun hb=>?_)<;>refine xS ?_)|(refine aw_gs rfl rfl eE (fun hb=>?_) (fun hb=>?_)<;>fail_if_success (cases hb;done)<;>refine xS ?_)|(refine drk_gsd rfl rfl eE (fun hb=>?_) (fun hb=>?_)<;>refine xS ?_)|(refine drk_gse rfl rfl eE (fun hb=>?_) (fun hb=>?_)<;>refine xS ?_)|(refine drk_gsn rfl rfl eE (fun hb=>?_) (fun hb=>?_)<;>refine xS ?_)|(refine drk_gs rfl rfl eE (fun hb=>?_) (fun hb=>?_)<;>fail_if_success (cases hb;done)<;>refine xS ?_)
 refine xB fun g1 hn_g1=>?_
 repeat' first|refine yA1 hn_g1 ?_|(refine yW hn_g1 ?_;refine yS hn_g1 ?_)|refine yP hn_g1 ?_|refine yN hn_g1 ?_|refine aw_cd (zE hn_g1) (fun hb=>?_) (fun hb=>?_)|refine aw_ce (zE hn_g1) (fun hb=>?_) (fun hb=>?_)|refine aw_cn (zE hn_g1) (fun hb=>?_) (fun hb=>?_)|(refine yF hn_g1 (fun hb=>?_) (fun hb=>?_)<;>fail_if_success (cases hb;done))|(refine aw_gsd rfl rfl (zE hn_g1) (fun hb=>?_) (fun hb=>?_)<;>refine yS hn_g1 ?_)|(refine aw_gse rfl rfl (zE hn_g1) (fun hb=>?_) (fun hb=>?_)<;>refine yS hn_g1 ?_)|(refine aw_gsn rfl rfl (zE hn_g1) (fun hb=>?_) (fun hb=>?_)<;>refine yS hn_g1 ?_)|(refine aw_gs rfl rfl (zE hn_g1) (fun hb=>?_) (fun hb=>?_)<;>fail_if_success (cases hb;done)<;>refine yS hn_g1 ?_)|(refine drk_gsd rfl rfl (zE hn_g1) (fun hb=>?_) (fun hb=>?_)<;>refine yS hn_g1 ?_)|(refine drk_gse rfl rfl (zE hn_g1) (fun hb=>?_) (fun hb=>?_)<;>refine yS hn_g1 ?_)|(refine drk_gsn rfl rfl (zE hn_g1) (fun hb=>?_) (fun hb=>?_)<;>refine yS hn_g1 ?_)|(refine drk_gs rfl rfl (zE hn_g1) (fun hb=>?_) (fun hb=>?_)<;>fail_if_success (cases hb;done)<;>refine yS hn_g1 ?_)
 refine aw_lp (fun i:Nat=>[(1,.c (.optr g1 0)),(2,.c .nilI),(3,.c (.int .i64 ((m.gates.length+pgS (m.pages.take i):Nat):Int))),(12,.c (pgs true m.pages)),(13,.c (.int .i64 m.pages.length)),(14,.c (.int .i64 i))]) (fun _=>[(g1,.cells 30 8 (ofL (mdc true m)))]) (fun i=>i≤m.pages.length) (fun i=>m.pages.length-i) 0 (zB hn_g1) zZ (Nat.zero_le _) ?_
 rintro i hi
 have hPi:=hP i hi
 repeat' first|refine yA1 hn_g1 ?_|(refine yW hn_g1 ?_;refine yS hn_g1 ?_)|refine yP hn_g1 ?_|refine yN hn_g1 ?_|refine aw_cd (zE hn_g1) (fun hb=>?_) (fun hb=>?_)|refine aw_ce (zE hn_g1) (fun hb=>?_) (fun hb=>?_)|refine aw_cn (zE hn_g1) (fun hb=>?_) (fun hb=>?_)|(refine yF hn_g1 (fun hb=>?_) (fun hb=>?_)<;>fail_if_success (cases hb;done))|(refine aw_gsd rfl rfl (zE hn_g1) (fun hb=>?_) (fun hb=>?_)<;>refine yS hn_g1 ?_)|(refine aw_gse rfl rfl (zE hn_g1) (fun hb=>?_) (fun hb=>?_)<;>refine yS hn_g1 ?_)|(refine aw_gsn rfl rfl (zE hn_g1) (fun hb=>?_) (fun hb=>?_)<;>refine yS hn_g1 ?_)|(refine aw_gs rfl rfl (zE hn_g1) (fun hb=>?_) (fun hb=>?_)<;>fail_if_success (cases hb;done)<;>refine yS hn_g1 ?_)|(refine drk_gsd rfl rfl (zE hn_g1) (fun hb=>?_) (fun hb=>?_)<;>refine yS hn_g1 ?_)|(refine drk_gse rfl rfl (zE hn_g1) (fun hb=>?_) (fun hb=>?_)<;>refine yS hn_g1 ?_)|(refine drk_gsn rfl rfl (zE hn_g1) (fun hb=>?_) (fun hb=>?_)<;>refine yS hn_g1 ?_)|(refine drk_gs rfl rfl (zE hn_g1) (fun hb=>?_) (fun hb=>?_)<;>fail_if_success (cases hb;done)<;>refine yS hn_g1 ?_)
 ·have hi':=hb
  have hP2:=hP (i+1) hi'
  have ht:=pgS_take hi'
  have hpg:=(hw.pg i).2
  refine yA hn_g1 fun g4 hn_g4=>?_
  repeat' first|refine yA1 (oj hn_g1 hn_g4) ?_|(refine yW (oj hn_g1 hn_g4) ?_;refine yS (oj hn_g1 hn_g4) ?_)|refine yP (oj hn_g1 hn_g4) ?_|refine yN (oj hn_g1 hn_g4) ?_|refine aw_cd (zE (oj hn_g1 hn_g4)) (fun hb=>?_) (fun hb=>?_)|refine aw_ce (zE (oj hn_g1 hn_g4)) (fun hb=>?_) (fun hb=>?_)|refine aw_cn (zE (oj hn_g1 hn_g4)) (fun hb=>?_) (fun hb=>?_)|(refine yF (oj hn_g1 hn_g4) (fun hb=>?_) (fun hb=>?_)<;>fail_if_success (cases hb;done))|(refine aw_gsd rfl rfl (zE (oj hn_g1 hn_g4)) (fun hb=>?_) (fun hb=>?_)<;>refine yS (oj hn_g1 hn_g4) ?_)|(refine aw_gse rfl rfl (zE (oj hn_g1 hn_g4)) (fun hb=>?_) (fun hb=>?_)<;>refine yS (oj hn_g1 hn_g4) ?_)|(refine aw_gsn rfl rfl (zE (oj hn_g1 hn_g4)) (fun hb=>?_) (fun hb=>?_)<;>refine yS (oj hn_g1 hn_g4) ?_)|(refine aw_gs rfl rfl (zE (oj hn_g1 hn_g4)) (fun hb=>?_) (fun hb=>?_)<;>fail_if_success (cases hb;done)<;>refine yS (oj hn_g1 hn_g4) ?_)|(refine drk_gsd rfl rfl (zE (oj hn_g1 hn_g4)) (fun hb=>?_) (fun hb=>?_)<;>refine yS (oj hn_g1 hn_g4) ?_)|(refine drk_gse rfl rfl (zE (oj hn_g1 hn_g4)) (fun hb=>?_) (fun hb=>?_)<;>refine yS (oj hn_g1 hn_g4) ?_)|(refine drk_gsn rfl rfl (zE (oj hn_g1 hn_g4)) (fun hb=>?_) (fun hb=>?_)<;>refine yS (oj hn_g1 hn_g4) ?_)|(refine drk_gs rfl rfl (zE (oj hn_g1 hn_g4)) (fun hb=>?_) (fun hb=>?_)<;>fail_if_success (cases hb;done)<;>refine yS (oj hn_g1 hn_g4) ?_)
  refine aw_stop ⟨i+1,?_⟩
  and_intros
  all_goals first|rfl|exact List.Sublist.refl _|exact List.sublist_cons_self _ _|exact True.intro|exact c_int om|omega
 ·rename_i hi0
  refine yT hC hn_g1 ?_
  exact .one (.c (ler_errE (by unfold pgsC;rw [if_pos (.inl om)]) (by decide)))
 ·rename_i h8 hi0
  have htk:m.pages.take i=m.pages:=List.take_of_length_le om
  rw [htk] at hb
  have hg:gtN m>64:=by
   show m.gates.length+pgS m.pages>64
   omega
  refine yT hC hn_g1 ?_
  exact .one (.c (ler_errE (by unfold pgsC;rw [if_pos (.inr hg)]) (by decide)))
 rename_i h8 hi0
 have htk:m.pages.take i=m.pages:=List.take_of_length_le om
 rw [htk] at hb
 have hg:¬gtN m>64:=by
  show¬m.gates.length+pgS m.pages>64
  omega
 have he2:pgsC m=frst (pgC m) m.pages 0:=by
  unfold pgsC
  rw [if_neg (fun z=>z.elim om hg)]
 generalize hF:frst (pgC m) m.pages 0=F at he2
 refine aw_lp (fun i:Nat=>[(1,.c (.optr g1 0)),(2,.c .nilI),(34,.c (pgs true m.pages)),(35,.c (.int .i64 m.pages.length)),(36,.c (.int .i64 i))]) (fun _=>[(g1,.cells 30 8 (ofL (mdc true m)))]) (fun i=>i≤m.pages.length∧frst (pgC m) (m.pages.drop i) i=F) (fun i=>m.pages.length-i) 0 (zB hn_g1) zZ ⟨Nat.zero_le _,hF⟩ ?_
 rintro i ⟨hi,hlp⟩
 repeat' first|refine yA1 hn_g1 ?_|(refine yW hn_g1 ?_;refine yS hn_g1 ?_)|refine yP hn_g1 ?_|refine yN hn_g1 ?_|refine aw_cd (zE hn_g1) (fun hb=>?_) (fun hb=>?_)|refine aw_ce (zE hn_g1) (fun hb=>?_) (fun hb=>?_)|refine aw_cn (zE hn_g1) (fun hb=>?_) (fun hb=>?_)|(refine yF hn_g1 (fun hb=>?_) (fun hb=>?_)<;>fail_if_success (cases hb;done))|(refine aw_gsd rfl rfl (zE hn_g1) (fun hb=>?_) (fun hb=>?_)<;>refine yS hn_g1 ?_)|(refine aw_gse rfl rfl (zE hn_g1) (fun hb=>?_) (fun hb=>?_)<;>refine yS hn_g1 ?_)|(refine aw_gsn rfl rfl (zE hn_g1) (fun hb=>?_) (fun hb=>?_)<;>refine yS hn_g1 ?_)|(refine aw_gs rfl rfl (zE hn_g1) (fun hb=>?_) (fun hb=>?_)<;>fail_if_success (cases hb;done)<;>refine yS hn_g1 ?_)|(refine drk_gsd rfl rfl (zE hn_g1) (fun hb=>?_) (fun hb=>?_)<;>refine yS hn_g1 ?_)|(refine drk_gse rfl rfl (zE hn_g1) (fun hb=>?_) (fun hb=>?_)<;>refine yS hn_g1 ?_)|(refine drk_gsn rfl rfl (zE hn_g1) (fun hb=>?_) (fun hb=>?_)<;>refine yS hn_g1 ?_)|(refine drk_gs rfl rfl (zE hn_g1) (fun hb=>?_) (fun hb=>?_)<;>fail_if_success (cases hb;done)<;>refine yS hn_g1 ?_)
 ·obtain⟨w0,_⟩:=hw.pg i
  have hi':=hb
  have hR:∀c,pgC m i (m.pages.getD i pg0)=c→c≠0→pgsC m=c:=fun c hc h0=>by
   rw [he2];exact frst_ret hlp hi' hc h0
  have hG:=frst_go (d:=pg0) hlp hi'
  generalize hx:m.pages.getD i pg0=x at*
  have f1:Fa Tryz.prog 42 [.c (.str (sB x.name))] (.c (.bool (nameOk x.name))):=tname_fa x.name w0
  have f2:=page_fa m x.name hm.pg
  refine yA hn_g1 fun g4 hn_g4=>?_
  repeat' first|refine yA1 (oj hn_g1 hn_g4) ?_|(refine yC2 (oj hn_g1 hn_g4) (f1) ?_)|(refine yD2 (oj hn_g1 hn_g4) (f1) ?_)|(refine yC2 (oj hn_g1 hn_g4) (f2) ?_)|(refine yD2 (oj hn_g1 hn_g4) (f2) ?_)|(refine yW (oj hn_g1 hn_g4) ?_;refine yS (oj hn_g1 hn_g4) ?_)|refine yP (oj hn_g1 hn_g4) ?_|refine yN (oj hn_g1 hn_g4) ?_|refine aw_cd (zE (oj hn_g1 hn_g4)) (fun hb=>?_) (fun hb=>?_)|refine aw_ce (zE (oj hn_g1 hn_g4)) (fun hb=>?_) (fun hb=>?_)|refine aw_cn (zE (oj hn_g1 hn_g4)) (fun hb=>?_) (fun hb=>?_)|(refine yF (oj hn_g1 hn_g4) (fun hb=>?_) (fun hb=>?_)<;>fail_if_success (cases hb;done))|(refine aw_gsd rfl rfl (zE (oj hn_g1 hn_g4)) (fun hb=>?_) (fun hb=>?_)<;>refine yS (oj hn_g1 hn_g4) ?_)|(refine aw_gse rfl rfl (zE (oj hn_g1 hn_g4)) (fun hb=>?_) (fun hb=>?_)<;>refine yS (oj hn_g1 hn_g4) ?_)|(refine aw_gsn rfl rfl (zE (oj hn_g1 hn_g4)) (fun hb=>?_) (fun hb=>?_)<;>refine yS (oj hn_g1 hn_g4) ?_)|(refine aw_gs rfl rfl (zE (oj hn_g1 hn_g4)) (fun hb=>?_) (fun hb=>?_)<;>fail_if_success (cases hb;done)<;>refine yS (oj hn_g1 hn_g4) ?_)|(refine drk_gsd rfl rfl (zE (oj hn_g1 hn_g4)) (fun hb=>?_) (fun hb=>?_)<;>refine yS (oj hn_g1 hn_g4) ?_)|(refine drk_gse rfl rfl (zE (oj hn_g1 hn_g4)) (fun hb=>?_) (fun hb=>?_)<;>refine yS (oj hn_g1 hn_g4) ?_)|(refine drk_gsn rfl rfl (zE (oj hn_g1 hn_g4)) (fun hb=>?_) (fun hb=>?_)<;>refine yS (oj hn_g1 hn_g4) ?_)|(refine drk_gs rfl rfl (zE (oj hn_g1 hn_g4)) (fun hb=>?_) (fun hb=>?_)<;>fail_if_success (cases hb;done)<;>refine yS (oj hn_g1 hn_g4) ?_)
  all_goals clear f1 f2
  all_goals first
   |(refine yT hC (oj hn_g1 hn_g4) ?_
     refine .one (.c (ler_errE (c:=pgsC m) (hR _ ?_ (by decide)) (by decide)))
     clear hR hG hlp hF hx
     unfold pgC pgI
     repeat' split
     all_goals first|rfl|(exfalso;simp_all;done)|(exfalso;simp_all;omega))
   |(refine aw_stop ⟨i+1,?_⟩
     have hz:pgC m i x=0:=by
      clear hR hG hlp hF hx
      unfold pgC pgI
      repeat' split
      all_goals first|rfl|(exfalso;simp_all;done)|(exfalso;simp_all;omega)
     and_intros
     all_goals first|rfl|exact List.Sublist.refl _|exact List.sublist_cons_self _ _|exact True.intro|exact hG hz|omega)
 ·have hF0:=frst_fin hlp hb
  subst hF0
  refine yT hC hn_g1 ?_
  exact .one (.c (ler_err0 he2))
theorem checkGates_fa (m:MdD) (k:Nat) (hk:k≤m.pages.length) (hm:MdOk m) (hw:MdWf2 m):Fa Tryz.prog 45 [.agg (mdc true m),.c (.int .i64 ((k:Int)-1))] (.c (errA (gtsC m k))):=by
 have hkl:=gtsK_len hw k
 have f0:=gatesOf_fa m k hk hm.pg
 refine fa_of_body Tryz.func45 rfl rfl (by simp [Tryz.ntmps45]) fun C hC=> ?_
 simp only [initS,Nat.reduceAdd]
 repeat' first|refine yA1 o0 ?_|(refine xW ?_;refine xS ?_)|refine xP ?_|refine xN ?_|refine aw_cd eE (fun hb=>?_) (fun hb=>?_)|refine aw_ce eE (fun hb=>?_) (fun hb=>?_)|refine aw_cn eE (fun hb=>?_) (fun hb=>?_)|(refine xF (fun hb=>?_) (fun hb=>?_)<;>fail_if_success (cases hb;done))|(refine aw_gsd rfl rfl eE (fun hb=>?_) (fun hb=>?_)<;>refine xS ?_)|(refine aw_gse rfl rfl eE (fun hb=>?_) (fun hb=>?_)<;>refine xS ?_)|(refine aw_gsn rfl rfl eE (fun hb=>?_) (fun hb=>?_)<;>refine xS ?_)|(refine aw_gs rfl rfl eE (fun hb=>?_) (fun hb=>?_)<;>fail_if_success (cases hb;done)<;>refine xS ?_)|(refine drk_gsd rfl rfl eE (fun hb=>?_) (fun hb=>?_)<;>refine xS ?_)|(refine drk_gse rfl rfl eE (fun hb=>?_) (fun hb=>?_)<;>refine xS ?_)|(refine drk_gsn rfl rfl eE (fun hb=>?_) (fun hb=>?_)<;>refine xS ?_)|(refine drk_gs rfl rfl eE (fun hb=>?_) (fun hb=>?_)<;>fail_if_success (cases hb;done)<;>refine xS ?_)
 refine xB fun g1 hn_g1=>?_
 repeat' first|refine yA1 hn_g1 ?_|(refine yC2 hn_g1 (f0) ?_)|(refine yD2 hn_g1 (f0) ?_)|(refine yW hn_g1 ?_;refine yS hn_g1 ?_)|refine yP hn_g1 ?_|refine yN hn_g1 ?_|refine aw_cd (zE hn_g1) (fun hb=>?_) (fun hb=>?_)|refine aw_ce (zE hn_g1) (fun hb=>?_) (fun hb=>?_)|refine aw_cn (zE hn_g1) (fun hb=>?_) (fun hb=>?_)|(refine yF hn_g1 (fun hb=>?_) (fun hb=>?_)<;>fail_if_success (cases hb;done))|(refine aw_gsd rfl rfl (zE hn_g1) (fun hb=>?_) (fun hb=>?_)<;>refine yS hn_g1 ?_)|(refine aw_gse rfl rfl (zE hn_g1) (fun hb=>?_) (fun hb=>?_)<;>refine yS hn_g1 ?_)|(refine aw_gsn rfl rfl (zE hn_g1) (fun hb=>?_) (fun hb=>?_)<;>refine yS hn_g1 ?_)|(refine aw_gs rfl rfl (zE hn_g1) (fun hb=>?_) (fun hb=>?_)<;>fail_if_success (cases hb;done)<;>refine yS hn_g1 ?_)|(refine drk_gsd rfl rfl (zE hn_g1) (fun hb=>?_) (fun hb=>?_)<;>refine yS hn_g1 ?_)|(refine drk_gse rfl rfl (zE hn_g1) (fun hb=>?_) (fun hb=>?_)<;>refine yS hn_g1 ?_)|(refine drk_gsn rfl rfl (zE hn_g1) (fun hb=>?_) (fun hb=>?_)<;>refine yS hn_g1 ?_)|(refine drk_gs rfl rfl (zE hn_g1) (fun hb=>?_) (fun hb=>?_)<;>fail_if_success (cases hb;done)<;>refine yS hn_g1 ?_)
 have he2:gtsC m k=frst (gtC m k) (gtsK m k) 0:=rfl
 generalize hF:frst (gtC m k) (gtsK m k) 0=F at he2
 generalize hL:gtsK m k=L at*
 refine aw_lp (fun i:Nat=>[(1,.c (.int .i64 ((k:Int)-1))),(2,.c (.optr g1 0)),(4,.c .nilI),(5,.c (gts true L)),(12,.c (gts true L)),(13,.c (.int .i64 L.length)),(14,.c (.int .i64 i))]) (fun _=>[(g1,.cells 30 8 (ofL (mdc true m)))]) (fun i=>i≤L.length∧frst (gtC m k) (L.drop i) i=F) (fun i=>L.length-i) 0 (zB hn_g1) zZ ⟨Nat.zero_le _,hF⟩ ?_
 rintro i ⟨hi,hlp⟩
 repeat' first|refine yA1 hn_g1 ?_|(refine yW hn_g1 ?_;refine yS hn_g1 ?_)|refine yP hn_g1 ?_|refine yN hn_g1 ?_|refine aw_cd (zE hn_g1) (fun hb=>?_) (fun hb=>?_)|refine aw_ce (zE hn_g1) (fun hb=>?_) (fun hb=>?_)|refine aw_cn (zE hn_g1) (fun hb=>?_) (fun hb=>?_)|(refine yF hn_g1 (fun hb=>?_) (fun hb=>?_)<;>fail_if_success (cases hb;done))|(refine aw_gsd rfl rfl (zE hn_g1) (fun hb=>?_) (fun hb=>?_)<;>refine yS hn_g1 ?_)|(refine aw_gse rfl rfl (zE hn_g1) (fun hb=>?_) (fun hb=>?_)<;>refine yS hn_g1 ?_)|(refine aw_gsn rfl rfl (zE hn_g1) (fun hb=>?_) (fun hb=>?_)<;>refine yS hn_g1 ?_)|(refine aw_gs rfl rfl (zE hn_g1) (fun hb=>?_) (fun hb=>?_)<;>fail_if_success (cases hb;done)<;>refine yS hn_g1 ?_)|(refine drk_gsd rfl rfl (zE hn_g1) (fun hb=>?_) (fun hb=>?_)<;>refine yS hn_g1 ?_)|(refine drk_gse rfl rfl (zE hn_g1) (fun hb=>?_) (fun hb=>?_)<;>refine yS hn_g1 ?_)|(refine drk_gsn rfl rfl (zE hn_g1) (fun hb=>?_) (fun hb=>?_)<;>refine yS hn_g1 ?_)|(refine drk_gs rfl rfl (zE hn_g1) (fun hb=>?_) (fun hb=>?_)<;>fail_if_success (cases hb;done)<;>refine yS hn_g1 ?_)
 ·obtain⟨w0,w1,w2⟩:=hw.gt k i
  rw [hL] at w0 w1 w2
  have hi':=hb
  have hR:∀c,gtC m k i (L.getD i gt0)=c→c≠0→gtsC m k=c:=fun c hc h0=>by
   rw [he2];exact frst_ret hlp hi' hc h0
  have hG:=frst_go (d:=gt0) hlp hi'
  generalize hx:L.getD i gt0=x at*
  have f1:Fa Tryz.prog 42 [.c (.str (sB x.name))] (.c (.bool (nameOk x.name))):=tname_fa x.name w0
  have f2:=event_fa m x.name hm.ev
  have f3:=house_fa m x.name hm.hs
  have f4:=gate_fa L x.name om
  have f5:=checkGate_fa x w1 w2
  refine yA hn_g1 fun g4 hn_g4=>?_
  repeat' first|refine yA1 (oj hn_g1 hn_g4) ?_|(refine yC2 (oj hn_g1 hn_g4) (f1) ?_)|(refine yD2 (oj hn_g1 hn_g4) (f1) ?_)|(refine yC2 (oj hn_g1 hn_g4) (f2) ?_)|(refine yD2 (oj hn_g1 hn_g4) (f2) ?_)|(refine yC2 (oj hn_g1 hn_g4) (f3) ?_)|(refine yD2 (oj hn_g1 hn_g4) (f3) ?_)|(refine yC2 (oj hn_g1 hn_g4) (f4) ?_)|(refine yD2 (oj hn_g1 hn_g4) (f4) ?_)|(refine yC2 (oj hn_g1 hn_g4) (f5) ?_)|(refine yD2 (oj hn_g1 hn_g4) (f5) ?_)|(refine yW (oj hn_g1 hn_g4) ?_;refine yS (oj hn_g1 hn_g4) ?_)|refine yP (oj hn_g1 hn_g4) ?_|refine yN (oj hn_g1 hn_g4) ?_|refine aw_cd (zE (oj hn_g1 hn_g4)) (fun hb=>?_) (fun hb=>?_)|refine aw_ce (zE (oj hn_g1 hn_g4)) (fun hb=>?_) (fun hb=>?_)|refine aw_cn (zE (oj hn_g1 hn_g4)) (fun hb=>?_) (fun hb=>?_)|(refine yF (oj hn_g1 hn_g4) (fun hb=>?_) (fun hb=>?_)<;>fail_if_success (cases hb;done))|(refine aw_gsd rfl rfl (zE (oj hn_g1 hn_g4)) (fun hb=>?_) (fun hb=>?_)<;>refine yS (oj hn_g1 hn_g4) ?_)|(refine aw_gse rfl rfl (zE (oj hn_g1 hn_g4)) (fun hb=>?_) (fun hb=>?_)<;>refine yS (oj hn_g1 hn_g4) ?_)|(refine aw_gsn rfl rfl (zE (oj hn_g1 hn_g4)) (fun hb=>?_) (fun hb=>?_)<;>refine yS (oj hn_g1 hn_g4) ?_)|(refine aw_gs rfl rfl (zE (oj hn_g1 hn_g4)) (fun hb=>?_) (fun hb=>?_)<;>fail_if_success (cases hb;done)<;>refine yS (oj hn_g1 hn_g4) ?_)|(refine drk_gsd rfl rfl (zE (oj hn_g1 hn_g4)) (fun hb=>?_) (fun hb=>?_)<;>refine yS (oj hn_g1 hn_g4) ?_)|(refine drk_gse rfl rfl (zE (oj hn_g1 hn_g4)) (fun hb=>?_) (fun hb=>?_)<;>refine yS (oj hn_g1 hn_g4) ?_)|(refine drk_gsn rfl rfl (zE (oj hn_g1 hn_g4)) (fun hb=>?_) (fun hb=>?_)<;>refine yS (oj hn_g1 hn_g4) ?_)|(refine drk_gs rfl rfl (zE (oj hn_g1 hn_g4)) (fun hb=>?_) (fun hb=>?_)<;>fail_if_success (cases hb;done)<;>refine yS (oj hn_g1 hn_g4) ?_)
  all_goals clear f1 f2 f3 f4 f5
  all_goals first
   |(refine yT hC (oj hn_g1 hn_g4) ?_
     refine .one (.c (ler_errE (c:=gtsC m k) (hR _ ?_ (by decide)) (by decide)))
     clear hR hG hlp hF hx
     unfold gtC evI hsI
     repeat' split
     all_goals first|rfl|(exfalso;simp_all;done)|(exfalso;simp_all;omega))
   |(refine aw_stop ⟨i+1,?_⟩
     have hz:gtC m k i x=0:=by
      clear hR hG hlp hF hx
      unfold gtC evI hsI
      repeat' split
      all_goals first|rfl|(exfalso;simp_all;done)|(exfalso;simp_all;omega)|simp_all
     and_intros
     all_goals first|rfl|exact List.Sublist.refl _|exact List.sublist_cons_self _ _|exact True.intro|exact hG hz|omega)
   |(have h0:shpC x≠0:=by simpa using hb
     have hz:gtC m k i x=shpC x:=by
      clear hR hG hlp hF hx
      unfold gtC evI hsI
      repeat' split
      all_goals first|rfl|(exfalso;simp_all;done)|(exfalso;simp_all;omega)
     refine yT hC (oj hn_g1 hn_g4) ?_
     rw [hR (shpC x) hz h0]
     exact .one (.c ler_err))
 ·have hF0:=frst_fin hlp hb
  subst hF0
  refine yT hC hn_g1 ?_
  exact .one (.c (ler_err0 he2))
end Go.Proofs.YteocnikcjjonbaaGreat
