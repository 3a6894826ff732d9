/- Parts of one proof, laid by a program. -/
import Derived.Test.YteehccacfedolaaGreatP00
import Derived.Test.YteehccacfedolaaGreatP06
import Derived.Lib.Bytealg
import Derived.Laws.RangeString
set_option linter.unusedSimpArgs false
set_option linter.unusedVariables false
set_option maxRecDepth 100000
set_option maxHeartbeats 12800000
namespace Go.PN
open Go.AI
structure EvD where
 name:BS
 p:RD
 fail:RD
 rep:RD
 cost:Int
structure HsD where
 name:BS
 on:Bool
structure GtD where
 name:BS
 kind:Int
 k:Int
 inputs:List BS
 dorm:RD
structure PgD where
 name:BS
 top:BS
 gates:List GtD
structure GrD where
 name:BS
 kind:Int
 members:List BS
 factors:List RD
structure VlD where
 event:BS
 p:RD
structure PhD where
 name:BS
 top:BS
 values:List VlD
structure MdD where
 name:BS
 top:BS
 events:List EvD
 houses:List HsD
 gates:List GtD
 pages:List PgD
 groups:List GrD
 phases:List PhD
abbrev ev0:EvD:=⟨[],rd0,rd0,rd0,0⟩
abbrev hs0:HsD:=⟨[],false⟩
abbrev gt0:GtD:=⟨[],0,0,[],rd0⟩
abbrev pg0:PgD:=⟨[],[],[]⟩
abbrev gr0:GrD:=⟨[],0,[],[]⟩
abbrev vl0:VlD:=⟨[],rd0⟩
abbrev ph0:PhD:=⟨[],[],[]⟩
abbrev md0:MdD:=⟨[],[],[],[],[],[],[],[]⟩
abbrev kP:BS:=[112]
abbrev kFail:BS:=[102,97,105,108]
abbrev kRepair:BS:=[114,101,112,97,105,114]
abbrev kCost:BS:=[99,111,115,116]
abbrev kSemi:BS:=[59]
abbrev kAt:BS:=[64]
abbrev kColon:BS:=[58]
abbrev kOpen:BS:=[123]
abbrev kClose:BS:=[125]
abbrev kOn:BS:=[111,110]
abbrev kOff:BS:=[111,102,102]
abbrev kTop:BS:=[116,111,112]
abbrev kGate:BS:=[103,97,116,101]
abbrev kBeta:BS:=[98,101,116,97]
abbrev kGreek:BS:=[103,114,101,101,107]
abbrev kModel:BS:=[109,111,100,101,108]
abbrev kEvent:BS:=[101,118,101,110,116]
abbrev kHouse:BS:=[104,111,117,115,101]
abbrev kPage:BS:=[112,97,103,101]
abbrev kGroup:BS:=[103,114,111,117,112]
abbrev kPhase:BS:=[112,104,97,115,101]
abbrev kAnd:BS:=[97,110,100]
abbrev kOr:BS:=[111,114]
abbrev kVote:BS:=[118,111,116,101]
abbrev kNot:BS:=[110,111,116]
abbrev kXor:BS:=[120,111,114]
abbrev kInhibit:BS:=[105,110,104,105,98,105,116]
abbrev kPand:BS:=[112,97,110,100]
abbrev kSpare:BS:=[115,112,97,114,101]
abbrev kDepend:BS:=[100,101,112,101,110,100]
def natB (s:BS):Nat:=s.foldl (fun n b=>n*10+(b.toNat-48)) 0
def idxB (b:UInt8) (s:BS):Nat:=(s.takeWhile (· !=b)).length
def isNum (s:BS):Bool:=decide (0<s.length)&&isDig (bAt s 0)&&numE s 0==s.length
def valC (s:BS):Int:=if s.length>100 then 4 else if isNum s=false then 2
 else if idxB 47 s<s.length∧natB (s.drop (idxB 47 s+1))=0 then 8 else 0
def valQ (s:BS):Rat:=if idxB 47 s<s.length then(natB (s.take (idxB 47 s)):Rat)/(natB (s.drop (idxB 47 s+1)):Rat)
 else(natB (s.take (idxB 46 s)++s.drop (idxB 46 s+1)):Rat)/((10^(s.drop (idxB 46 s+1)).length:Nat):Rat)
def valR (s:BS):RD:=if valC s=0 then rd (valQ s) else rd0
def intQ (q:Rat):Option Int:=if q.den=1∧ -9223372036854775808≤q.num∧q.num≤9223372036854775807 then some q.num else none
structure PS where
 l:List TK
 e:Int
def failS (c:Int) (s:PS):PS:=if s.e=0 then⟨s.l,c⟩ else s
def kindS (s:PS) (k:Nat):Bool:=decide (s.e=0)&&match s.l with|[]=>false|t::_=>t.kind==k
def isS (s:PS) (w:BS):Bool:=decide (s.e=0)&&match s.l with|[]=>false|t::_=>t.kind !=1&&t.text==w
def hdT (s:PS):BS:=match s.l with|[]=>[]|t::_=>t.text
def takeS (may:Bool) (s:PS):BS×PS:=if s.e=0 then(match s.l with
 |[]=>([],⟨[],20⟩)
 |t::l=>if may then(t.text,⟨l,0⟩) else([],⟨t::l,2⟩)) else([],s)
def expS (w:BS) (s:PS):PS:=(takeS (isS s w) s).2
def wordS (s:PS):BS×PS:=takeS (kindS s 0) s
def numS (s:PS):RD×PS:=let r:=takeS (kindS s 1) s
 if r.2.e=0 then(valR r.1,if valC r.1=0 then r.2 else⟨r.2.l,valC r.1⟩) else(rd0,r.2)
def wholeS (s:PS):Int×PS:=let r:=numS s
 if r.2.e=0 then(match intQ r.1.q with
  |some n=>if 0≤n∧n≤1073741824 then(n,r.2) else(0,⟨r.2.l,3⟩)
  |none=>(0,⟨r.2.l,3⟩)) else(0,r.2)
def inputS (s:PS):BS×PS:=if isS s kAt then(let r:=wordS (expS kAt s);(64::r.1,r.2)) else wordS s
def mS (s:PS):Nat:=if s.e=0 then s.l.length+1 else 0
def loopS {α:Type} (c:PS→Bool) (b:α→PS→α×PS):Nat→α→PS→α×PS
 |0,a,s=>(a,s)
 |n+1,a,s=>if s.e=0∧c s=true then loopS c b n (b a s).1 (b a s).2 else(a,s)
def lpS {α:Type} (c:PS→Bool) (b:α→PS→α×PS) (a:α) (s:PS):α×PS:=loopS c b (mS s) a s
theorem loopS_end {α:Type} {c:PS→Bool} {b:α→PS→α×PS} {n:Nat} {a:α} {s:PS} (h:¬(s.e=0∧c s=true)):loopS c b n a s=(a,s):=by
 cases n with
 |zero=>rfl
 |succ n=>unfold loopS;rw [if_neg h]
theorem loopS_fuel {α:Type} {c:PS→Bool} {b:α→PS→α×PS} (hd:∀a s,s.e=0→c s=true→mS (b a s).2<mS s):∀(n m:Nat) (a:α) (s:PS),mS s≤n→mS s≤m→loopS c b n a s=loopS c b m a s:=by
 intro n
 induction n with
 |zero=>
  intro m a s h1 h2
  have:¬(s.e=0∧c s=true):=fun h=>by unfold mS at h1;rw [if_pos h.1] at h1;omega
  rw [loopS_end this,loopS_end this]
 |succ n ih=>
  intro m a s h1 h2
  by_cases h:s.e=0∧c s=true
  ·have h3:=hd a s h.1 h.2
   cases m with
   |zero=>omega
   |succ m=>
    unfold loopS
    rw [if_pos h,if_pos h]
    exact ih m _ _ om om
  ·rw [loopS_end h,loopS_end h]
theorem lpS_step {α:Type} {c:PS→Bool} {b:α→PS→α×PS} (hd:∀a s,s.e=0→c s=true→mS (b a s).2<mS s) {a:α} {s:PS} (h0:s.e=0) (h1:c s=true):lpS c b a s=lpS c b (b a s).1 (b a s).2:=by
 have h3:=hd a s h0 h1
 unfold lpS
 obtain⟨n,hn⟩:∃n,mS s=n+1:=⟨mS s-1,by omega⟩
 rw [hn]
 show(if _ then _ else _)=_
 rw [if_pos ⟨h0,h1⟩]
 exact loopS_fuel hd _ _ _ _ om (Nat.le_refl _)
theorem lpS_end {α:Type} {c:PS→Bool} {b:α→PS→α×PS} {a:α} {s:PS} (h:¬(s.e=0∧c s=true)):lpS c b a s=(a,s):=loopS_end h
def evB (x:List BS×EvD) (s:PS):(List BS×EvD)×PS:=
 let may:=isS s kP||isS s kFail||isS s kRepair||isS s kCost
 if may&&x.1.contains (hdT s) then(x,failS 6 s) else
 let r:=takeS may s
 if r.1==kP then((r.1::x.1,{x.2 with p:=(numS r.2).1}),(numS r.2).2)
 else if r.1==kFail then((r.1::x.1,{x.2 with fail:=(numS r.2).1}),(numS r.2).2)
 else if r.1==kRepair then((r.1::x.1,{x.2 with rep:=(numS r.2).1}),(numS r.2).2)
 else if r.1==kCost then((r.1::x.1,{x.2 with cost:=(wholeS r.2).1}),(wholeS r.2).2)
 else((r.1::x.1,x.2),r.2)
def eventS (s:PS):EvD×PS:=let r:=wordS s
 let q:=lpS (fun s=> !isS s kSemi) evB ([],{ev0 with name:=r.1}) r.2
 (q.1.2,expS kSemi q.2)
def houseS (s:PS):HsD×PS:=let r:=wordS s
 let q:=takeS (isS r.2 kOn||isS r.2 kOff) r.2
 (⟨r.1,q.1==kOn⟩,expS kSemi q.2)
def gkind (w:BS):Option Int:=if w==kAnd then some 0 else if w==kOr then some 1 else if w==kVote then some 2 else if w==kNot then some 3 else if w==kXor then some 4
 else if w==kInhibit then some 5 else if w==kPand then some 6 else if w==kSpare then some 7 else if w==kDepend then some 8 else none
def inB (x:List BS) (s:PS):List BS×PS:=(x++[(inputS s).1],(inputS s).2)
def gateS (s:PS):GtD×PS:=let r:=wordS s
 let k:=if kindS r.2 0 then gkind (hdT r.2) else none
 let s2:=(takeS k.isSome r.2).2
 let v:=if k=some 2 then wholeS s2 else(0,s2)
 let d:=if k=some 7 then numS v.2 else(rd0,v.2)
 let q:=lpS (fun s=> !isS s kSemi) inB [] d.2
 (⟨r.1,k.getD 0,v.1,q.1,d.1⟩,expS kSemi q.2)
def pgB (x:List GtD) (s:PS):List GtD×PS:=(x++[(gateS (expS kGate s)).1],(gateS (expS kGate s)).2)
def pageS (s:PS):PgD×PS:=let r:=wordS s
 let t:=inputS (expS kTop r.2)
 let q:=lpS (fun s=> !isS s kClose) pgB [] (expS kOpen t.2)
 (⟨r.1,t.1,q.1⟩,expS kClose q.2)
def facB (x:List RD) (s:PS):List RD×PS:=(x++[(numS s).1],(numS s).2)
def memB (x:List BS) (s:PS):List BS×PS:=(x++[(wordS s).1],(wordS s).2)
def groupS (s:PS):GrD×PS:=let r:=wordS s
 let g:=takeS (isS r.2 kBeta||isS r.2 kGreek) r.2
 let f:=lpS (fun s=>kindS s 1) facB [] g.2
 let m:=lpS (fun s=>kindS s 0) memB [] (expS kColon f.2)
 (⟨r.1,if g.1==kGreek then 1 else 0,m.1,f.1⟩,expS kSemi m.2)
def vlB (x:List VlD) (s:PS):List VlD×PS:=let r:=wordS s
 (x++[⟨r.1,(numS r.2).1⟩],expS kSemi (numS r.2).2)
def phaseS (s:PS):PhD×PS:=let r:=wordS s
 let t:=inputS (expS kTop r.2)
 let q:=lpS (fun s=> !isS s kClose) vlB [] (expS kOpen t.2)
 (⟨r.1,t.1,q.1⟩,expS kClose q.2)
def stB (m:MdD) (s:PS):MdD×PS:=
 let r:=takeS (isS s kEvent||isS s kHouse||isS s kGate||isS s kPage||isS s kGroup||isS s kPhase) s
 if r.1==kEvent then({m with events:=m.events++[(eventS r.2).1]},(eventS r.2).2)
 else if r.1==kHouse then({m with houses:=m.houses++[(houseS r.2).1]},(houseS r.2).2)
 else if r.1==kGate then({m with gates:=m.gates++[(gateS r.2).1]},(gateS r.2).2)
 else if r.1==kPage then({m with pages:=m.pages++[(pageS r.2).1]},(pageS r.2).2)
 else if r.1==kGroup then({m with groups:=m.groups++[(groupS r.2).1]},(groupS r.2).2)
 else if r.1==kPhase then({m with phases:=m.phases++[(phaseS r.2).1]},(phaseS r.2).2)
 else(m,r.2)
def endS (s:PS):PS:=if s.e=0∧s.l≠[] then⟨s.l,2⟩ else s
def readS (s:PS):MdD×PS:=let r:=wordS (expS kModel s)
 let q:=lpS (fun s=> !isS s kTop) stB {md0 with name:=r.1} (expS kSemi r.2)
 let t:=inputS (expS kTop q.2)
 ({q.1 with top:=t.1},endS (expS kSemi t.2))
def nextR (s:PS) (k:Nat) (w:BS):Bool:=decide (s.e=0)&&match s.l with|[]=>false|t::_=>t.kind==k&&(w==[]||t.text==w)
def takeR (s:PS) (k:Nat) (w:BS):BS×PS:=takeS (nextR s k w) s
def numR (s:PS):RD×PS:=let r:=takeR s 1 []
 if r.2.e=0 then(valR r.1,if valC r.1=0 then r.2 else⟨r.2.l,valC r.1⟩) else(rd0,r.2)
def wholeR (s:PS):Int×PS:=let r:=numR s
 match intQ r.1.q with
  |some n=>if r.2.e=0∧¬(0≤n∧n≤1073741824) then(0,⟨r.2.l,3⟩) else(n,r.2)
  |none=>if r.2.e=0 then(0,⟨r.2.l,3⟩) else(0,r.2)
def wordR (s:PS):BS×PS:=takeR s 0 []
def inputR (s:PS):BS×PS:=if nextR s 2 kAt then(let r:=wordR (takeR s 2 kAt).2;(64::r.1,r.2)) else wordR s
def inBR (x:List BS) (s:PS):List BS×PS:=(x++[(inputR s).1],(inputR s).2)
def inputsR (s:PS):List BS×PS:=let q:=lpS (fun s=> !nextR s 2 kSemi) inBR [] s
 (q.1,(takeR q.2 2 kSemi).2)
def gateR (s:PS):GtD×PS:=let r:=wordR s
 let w:=wordR r.2
 match gkind w.1 with
 |none=>(gt0,failS 2 w.2)
 |some k=>
  let v:=if k=2 then wholeR w.2 else(0,w.2)
  let d:=if k=7 then numR v.2 else(rd0,v.2)
  let q:=inputsR d.2
  (⟨r.1,k,v.1,q.1,d.1⟩,q.2)
def atR (s:PS):Option Nat:=if nextR s 0 kCost then some 3 else if nextR s 0 kRepair then some 2 else if nextR s 0 kFail then some 1 else if nextR s 0 kP then some 0 else none
def evBR (x:List Bool×EvD) (s:PS):(List Bool×EvD)×PS:=
 match atR s with
 |none=>(x,failS (if s.l=[] then 20 else 2) s)
 |some k=>if x.1.getD k false then(x,failS 6 s) else
  let r:=(wordR s).2
  if k=0 then((x.1.set k true,{x.2 with p:=(numR r).1}),(numR r).2)
  else if k=1 then((x.1.set k true,{x.2 with fail:=(numR r).1}),(numR r).2)
  else if k=2 then((x.1.set k true,{x.2 with rep:=(numR r).1}),(numR r).2)
  else((x.1.set k true,{x.2 with cost:=(wholeR r).1}),(wholeR r).2)
def eventR (s:PS):EvD×PS:=let r:=wordR s
 let q:=lpS (fun s=> !nextR s 2 kSemi) evBR ([false,false,false,false],{ev0 with name:=r.1}) r.2
 (q.1.2,(takeR q.2 2 kSemi).2)
def houseR (s:PS):HsD×PS:=let r:=wordR s
 if nextR r.2 0 kOn then(⟨r.1,true⟩,(takeR (takeR r.2 0 kOn).2 2 kSemi).2) else(⟨r.1,false⟩,(takeR (takeR r.2 0 kOff).2 2 kSemi).2)
def pgBR (x:List GtD) (s:PS):List GtD×PS:=let r:=(takeR s 0 kGate).2
 if r.e=0 then(x++[(gateR r).1],(gateR r).2) else(x++[gt0],r)
def pageR (s:PS):PgD×PS:=let r:=wordR s
 let t:=inputR (takeR r.2 0 kTop).2
 let q:=lpS (fun s=> !nextR s 2 kClose) pgBR [] (takeR t.2 2 kOpen).2
 (⟨r.1,t.1,q.1⟩,(takeR q.2 2 kClose).2)
def facBR (x:List RD) (s:PS):List RD×PS:=(x++[(numR s).1],(numR s).2)
def memBR (x:List BS) (s:PS):List BS×PS:=(x++[(wordR s).1],(wordR s).2)
def groupR (s:PS):GrD×PS:=let r:=wordR s
 let g:=if nextR r.2 0 kGreek then((1:Int),(takeR r.2 0 kGreek).2) else(0,(takeR r.2 0 kBeta).2)
 let f:=lpS (fun s=> !nextR s 2 kColon) facBR [] g.2
 let m:=lpS (fun s=> !nextR s 2 kSemi) memBR [] (takeR f.2 2 kColon).2
 (⟨r.1,g.1,m.1,f.1⟩,(takeR m.2 2 kSemi).2)
def vlBR (x:List VlD) (s:PS):List VlD×PS:=let r:=wordR s
 (x++[⟨r.1,(numR r.2).1⟩],(takeR (numR r.2).2 2 kSemi).2)
def phaseR (s:PS):PhD×PS:=let r:=wordR s
 let t:=inputR (takeR r.2 0 kTop).2
 let q:=lpS (fun s=> !nextR s 2 kClose) vlBR [] (takeR t.2 2 kOpen).2
 (⟨r.1,t.1,q.1⟩,(takeR q.2 2 kClose).2)
def statR (m:MdD) (w:BS) (s:PS):MdD×PS:=
 if w==kEvent then({m with events:=m.events++[(eventR s).1]},(eventR s).2)
 else if w==kHouse then({m with houses:=m.houses++[(houseR s).1]},(houseR s).2)
 else if w==kGate then({m with gates:=m.gates++[(gateR s).1]},(gateR s).2)
 else if w==kPage then({m with pages:=m.pages++[(pageR s).1]},(pageR s).2)
 else if w==kGroup then({m with groups:=m.groups++[(groupR s).1]},(groupR s).2)
 else if w==kPhase then({m with phases:=m.phases++[(phaseR s).1]},(phaseR s).2)
 else(m,failS 2 s)
def stBR (m:MdD) (s:PS):MdD×PS:=let r:=wordR s
 if r.2.e=0 then statR m r.1 r.2 else(m,r.2)
def readR (s:PS):MdD×PS:=let r:=wordR (takeR s 0 kModel).2
 let q:=lpS (fun s=> !nextR s 0 kTop) stBR {md0 with name:=r.1} (takeR r.2 2 kSemi).2
 let t:=inputR (takeR q.2 0 kTop).2
 ({q.1 with top:=t.1},endS (takeR t.2 2 kSemi).2)
end Go.PN
namespace Go.AI
open Go.PN
structure TX where
 t:TK
 a:Int
 b:Int
 c:Int
abbrev tx0:TX:=⟨⟨0,[]⟩,0,0,0⟩
abbrev stc (r:BS):List CV:=[CV.str (sB r)]
def strsF (l:List BS):Nat→CV:=lf 1 stc ([]:BS) l
@[go_sem] theorem strsF_0 (l:List BS) (i:Nat):strsF l (i)=.str (sB (l.getD i [])):=by have:=lf_at (s:=1) (c:=stc) (d:=([]:BS)) (xs:=l) (i:=i) (k:=0) om;rw [Nat.mul_one,Nat.add_zero] at this;exact this
abbrev strs (t:Bool) (l:List BS):CV:=.row t 1 l.length (strsF l)
abbrev evc (r:EvD):List CV:=[CV.str (sB r.name),.bool r.p.neg,ws true r.p.num,ws true r.p.den,.bool r.fail.neg,ws true r.fail.num,ws true r.fail.den,.bool r.rep.neg,ws true r.rep.num,ws true r.rep.den,.int .i64 r.cost]
def evsF (l:List EvD):Nat→CV:=lf 11 evc (ev0:EvD) l
@[go_sem] theorem evsF_0 (l:List EvD) (i:Nat):evsF l (i*11)=.str (sB (l.getD i ev0).name):=by have:=lf_at (s:=11) (c:=evc) (d:=(ev0:EvD)) (xs:=l) (i:=i) (k:=0) om;exact this
@[go_sem] theorem evsF_1 (l:List EvD) (i:Nat):evsF l (i*11+1)=.bool (l.getD i ev0).p.neg:=by have:=lf_at (s:=11) (c:=evc) (d:=(ev0:EvD)) (xs:=l) (i:=i) (k:=1) om;exact this
@[go_sem] theorem evsF_2 (l:List EvD) (i:Nat):evsF l (i*11+2)=ws true (l.getD i ev0).p.num:=by have:=lf_at (s:=11) (c:=evc) (d:=(ev0:EvD)) (xs:=l) (i:=i) (k:=2) om;exact this
@[go_sem] theorem evsF_3 (l:List EvD) (i:Nat):evsF l (i*11+3)=ws true (l.getD i ev0).p.den:=by have:=lf_at (s:=11) (c:=evc) (d:=(ev0:EvD)) (xs:=l) (i:=i) (k:=3) om;exact this
@[go_sem] theorem evsF_4 (l:List EvD) (i:Nat):evsF l (i*11+4)=.bool (l.getD i ev0).fail.neg:=by have:=lf_at (s:=11) (c:=evc) (d:=(ev0:EvD)) (xs:=l) (i:=i) (k:=4) om;exact this
@[go_sem] theorem evsF_5 (l:List EvD) (i:Nat):evsF l (i*11+5)=ws true (l.getD i ev0).fail.num:=by have:=lf_at (s:=11) (c:=evc) (d:=(ev0:EvD)) (xs:=l) (i:=i) (k:=5) om;exact this
@[go_sem] theorem evsF_6 (l:List EvD) (i:Nat):evsF l (i*11+6)=ws true (l.getD i ev0).fail.den:=by have:=lf_at (s:=11) (c:=evc) (d:=(ev0:EvD)) (xs:=l) (i:=i) (k:=6) om;exact this
@[go_sem] theorem evsF_7 (l:List EvD) (i:Nat):evsF l (i*11+7)=.bool (l.getD i ev0).rep.neg:=by have:=lf_at (s:=11) (c:=evc) (d:=(ev0:EvD)) (xs:=l) (i:=i) (k:=7) om;exact this
@[go_sem] theorem evsF_8 (l:List EvD) (i:Nat):evsF l (i*11+8)=ws true (l.getD i ev0).rep.num:=by have:=lf_at (s:=11) (c:=evc) (d:=(ev0:EvD)) (xs:=l) (i:=i) (k:=8) om;exact this
@[go_sem] theorem evsF_9 (l:List EvD) (i:Nat):evsF l (i*11+9)=ws true (l.getD i ev0).rep.den:=by have:=lf_at (s:=11) (c:=evc) (d:=(ev0:EvD)) (xs:=l) (i:=i) (k:=9) om;exact this
@[go_sem] theorem evsF_10 (l:List EvD) (i:Nat):evsF l (i*11+10)=.int .i64 (l.getD i ev0).cost:=by have:=lf_at (s:=11) (c:=evc) (d:=(ev0:EvD)) (xs:=l) (i:=i) (k:=10) om;exact this
abbrev evs (t:Bool) (l:List EvD):CV:=.row t 11 l.length (evsF l)
abbrev hsc (r:HsD):List CV:=[CV.str (sB r.name),.bool r.on]
def hssF (l:List HsD):Nat→CV:=lf 2 hsc (hs0:HsD) l
@[go_sem] theorem hssF_0 (l:List HsD) (i:Nat):hssF l (i*2)=.str (sB (l.getD i hs0).name):=by have:=lf_at (s:=2) (c:=hsc) (d:=(hs0:HsD)) (xs:=l) (i:=i) (k:=0) om;exact this
@[go_sem] theorem hssF_1 (l:List HsD) (i:Nat):hssF l (i*2+1)=.bool (l.getD i hs0).on:=by have:=lf_at (s:=2) (c:=hsc) (d:=(hs0:HsD)) (xs:=l) (i:=i) (k:=1) om;exact this
abbrev hss (t:Bool) (l:List HsD):CV:=.row t 2 l.length (hssF l)
abbrev gtc (r:GtD):List CV:=[CV.str (sB r.name),.int .i64 r.kind,.int .i64 r.k,strs true r.inputs,.bool r.dorm.neg,ws true r.dorm.num,ws true r.dorm.den]
def gtsF (l:List GtD):Nat→CV:=lf 7 gtc (gt0:GtD) l
@[go_sem] theorem gtsF_0 (l:List GtD) (i:Nat):gtsF l (i*7)=.str (sB (l.getD i gt0).name):=by have:=lf_at (s:=7) (c:=gtc) (d:=(gt0:GtD)) (xs:=l) (i:=i) (k:=0) om;exact this
@[go_sem] theorem gtsF_1 (l:List GtD) (i:Nat):gtsF l (i*7+1)=.int .i64 (l.getD i gt0).kind:=by have:=lf_at (s:=7) (c:=gtc) (d:=(gt0:GtD)) (xs:=l) (i:=i) (k:=1) om;exact this
@[go_sem] theorem gtsF_2 (l:List GtD) (i:Nat):gtsF l (i*7+2)=.int .i64 (l.getD i gt0).k:=by have:=lf_at (s:=7) (c:=gtc) (d:=(gt0:GtD)) (xs:=l) (i:=i) (k:=2) om;exact this
@[go_sem] theorem gtsF_3 (l:List GtD) (i:Nat):gtsF l (i*7+3)=strs true (l.getD i gt0).inputs:=by have:=lf_at (s:=7) (c:=gtc) (d:=(gt0:GtD)) (xs:=l) (i:=i) (k:=3) om;exact this
@[go_sem] theorem gtsF_4 (l:List GtD) (i:Nat):gtsF l (i*7+4)=.bool (l.getD i gt0).dorm.neg:=by have:=lf_at (s:=7) (c:=gtc) (d:=(gt0:GtD)) (xs:=l) (i:=i) (k:=4) om;exact this
@[go_sem] theorem gtsF_5 (l:List GtD) (i:Nat):gtsF l (i*7+5)=ws true (l.getD i gt0).dorm.num:=by have:=lf_at (s:=7) (c:=gtc) (d:=(gt0:GtD)) (xs:=l) (i:=i) (k:=5) om;exact this
@[go_sem] theorem gtsF_6 (l:List GtD) (i:Nat):gtsF l (i*7+6)=ws true (l.getD i gt0).dorm.den:=by have:=lf_at (s:=7) (c:=gtc) (d:=(gt0:GtD)) (xs:=l) (i:=i) (k:=6) om;exact this
abbrev gts (t:Bool) (l:List GtD):CV:=.row t 7 l.length (gtsF l)
abbrev pgc (r:PgD):List CV:=[CV.str (sB r.name),.str (sB r.top),gts true r.gates]
def pgsF (l:List PgD):Nat→CV:=lf 3 pgc (pg0:PgD) l
@[go_sem] theorem pgsF_0 (l:List PgD) (i:Nat):pgsF l (i*3)=.str (sB (l.getD i pg0).name):=by have:=lf_at (s:=3) (c:=pgc) (d:=(pg0:PgD)) (xs:=l) (i:=i) (k:=0) om;exact this
@[go_sem] theorem pgsF_1 (l:List PgD) (i:Nat):pgsF l (i*3+1)=.str (sB (l.getD i pg0).top):=by have:=lf_at (s:=3) (c:=pgc) (d:=(pg0:PgD)) (xs:=l) (i:=i) (k:=1) om;exact this
@[go_sem] theorem pgsF_2 (l:List PgD) (i:Nat):pgsF l (i*3+2)=gts true (l.getD i pg0).gates:=by have:=lf_at (s:=3) (c:=pgc) (d:=(pg0:PgD)) (xs:=l) (i:=i) (k:=2) om;exact this
abbrev pgs (t:Bool) (l:List PgD):CV:=.row t 3 l.length (pgsF l)
abbrev grc (r:GrD):List CV:=[CV.str (sB r.name),.int .i64 r.kind,strs true r.members,rats true r.factors]
def grsF (l:List GrD):Nat→CV:=lf 4 grc (gr0:GrD) l
@[go_sem] theorem grsF_0 (l:List GrD) (i:Nat):grsF l (i*4)=.str (sB (l.getD i gr0).name):=by have:=lf_at (s:=4) (c:=grc) (d:=(gr0:GrD)) (xs:=l) (i:=i) (k:=0) om;exact this
@[go_sem] theorem grsF_1 (l:List GrD) (i:Nat):grsF l (i*4+1)=.int .i64 (l.getD i gr0).kind:=by have:=lf_at (s:=4) (c:=grc) (d:=(gr0:GrD)) (xs:=l) (i:=i) (k:=1) om;exact this
@[go_sem] theorem grsF_2 (l:List GrD) (i:Nat):grsF l (i*4+2)=strs true (l.getD i gr0).members:=by have:=lf_at (s:=4) (c:=grc) (d:=(gr0:GrD)) (xs:=l) (i:=i) (k:=2) om;exact this
@[go_sem] theorem grsF_3 (l:List GrD) (i:Nat):grsF l (i*4+3)=rats true (l.getD i gr0).factors:=by have:=lf_at (s:=4) (c:=grc) (d:=(gr0:GrD)) (xs:=l) (i:=i) (k:=3) om;exact this
abbrev grs (t:Bool) (l:List GrD):CV:=.row t 4 l.length (grsF l)
abbrev vlc (r:VlD):List CV:=[CV.str (sB r.event),.bool r.p.neg,ws true r.p.num,ws true r.p.den]
def vlsF (l:List VlD):Nat→CV:=lf 4 vlc (vl0:VlD) l
@[go_sem] theorem vlsF_0 (l:List VlD) (i:Nat):vlsF l (i*4)=.str (sB (l.getD i vl0).event):=by have:=lf_at (s:=4) (c:=vlc) (d:=(vl0:VlD)) (xs:=l) (i:=i) (k:=0) om;exact this
@[go_sem] theorem vlsF_1 (l:List VlD) (i:Nat):vlsF l (i*4+1)=.bool (l.getD i vl0).p.neg:=by have:=lf_at (s:=4) (c:=vlc) (d:=(vl0:VlD)) (xs:=l) (i:=i) (k:=1) om;exact this
@[go_sem] theorem vlsF_2 (l:List VlD) (i:Nat):vlsF l (i*4+2)=ws true (l.getD i vl0).p.num:=by have:=lf_at (s:=4) (c:=vlc) (d:=(vl0:VlD)) (xs:=l) (i:=i) (k:=2) om;exact this
@[go_sem] theorem vlsF_3 (l:List VlD) (i:Nat):vlsF l (i*4+3)=ws true (l.getD i vl0).p.den:=by have:=lf_at (s:=4) (c:=vlc) (d:=(vl0:VlD)) (xs:=l) (i:=i) (k:=3) om;exact this
abbrev vls (t:Bool) (l:List VlD):CV:=.row t 4 l.length (vlsF l)
abbrev phc (r:PhD):List CV:=[CV.str (sB r.name),.str (sB r.top),vls true r.values]
def phsF (l:List PhD):Nat→CV:=lf 3 phc (ph0:PhD) l
@[go_sem] theorem phsF_0 (l:List PhD) (i:Nat):phsF l (i*3)=.str (sB (l.getD i ph0).name):=by have:=lf_at (s:=3) (c:=phc) (d:=(ph0:PhD)) (xs:=l) (i:=i) (k:=0) om;exact this
@[go_sem] theorem phsF_1 (l:List PhD) (i:Nat):phsF l (i*3+1)=.str (sB (l.getD i ph0).top):=by have:=lf_at (s:=3) (c:=phc) (d:=(ph0:PhD)) (xs:=l) (i:=i) (k:=1) om;exact this
@[go_sem] theorem phsF_2 (l:List PhD) (i:Nat):phsF l (i*3+2)=vls true (l.getD i ph0).values:=by have:=lf_at (s:=3) (c:=phc) (d:=(ph0:PhD)) (xs:=l) (i:=i) (k:=2) om;exact this
abbrev phs (t:Bool) (l:List PhD):CV:=.row t 3 l.length (phsF l)
abbrev txc (r:TX):List CV:=[CV.int .i64 r.t.kind,.str (sB r.t.text),.int .i64 r.a,.int .i64 r.b,.int .i64 r.c]
def txsF (l:List TX):Nat→CV:=lf 5 txc (tx0:TX) l
@[go_sem] theorem txsF_0 (l:List TX) (i:Nat):txsF l (i*5)=.int .i64 (l.getD i tx0).t.kind:=by have:=lf_at (s:=5) (c:=txc) (d:=(tx0:TX)) (xs:=l) (i:=i) (k:=0) om;exact this
@[go_sem] theorem txsF_1 (l:List TX) (i:Nat):txsF l (i*5+1)=.str (sB (l.getD i tx0).t.text):=by have:=lf_at (s:=5) (c:=txc) (d:=(tx0:TX)) (xs:=l) (i:=i) (k:=1) om;exact this
@[go_sem] theorem txsF_2 (l:List TX) (i:Nat):txsF l (i*5+2)=.int .i64 (l.getD i tx0).a:=by have:=lf_at (s:=5) (c:=txc) (d:=(tx0:TX)) (xs:=l) (i:=i) (k:=2) om;exact this
@[go_sem] theorem txsF_3 (l:List TX) (i:Nat):txsF l (i*5+3)=.int .i64 (l.getD i tx0).b:=by have:=lf_at (s:=5) (c:=txc) (d:=(tx0:TX)) (xs:=l) (i:=i) (k:=3) om;exact this
@[go_sem] theorem txsF_4 (l:List TX) (i:Nat):txsF l (i*5+4)=.int .i64 (l.getD i tx0).c:=by have:=lf_at (s:=5) (c:=txc) (d:=(tx0:TX)) (xs:=l) (i:=i) (k:=4) om;exact this
abbrev txs (t:Bool) (l:List TX):CV:=.row t 5 l.length (txsF l)
abbrev mdc (t:Bool) (m:MdD):List CV:=[.str (sB m.name),.str (sB m.top),evs t m.events,hss t m.houses,gts t m.gates,pgs t m.pages,grs t m.groups,phs t m.phases]
end Go.AI
namespace Go.PN
open Go.AI
theorem numE_at {l:BS} {i:Nat} (h:numE l i<l.length):isDig (bAt l (numE l i))=false:=by
 unfold numE at h⊢
 split at h
 ·rename_i h1;rw [if_pos h1];exact spanE_at h
 ·rename_i h1;rw [if_neg h1];exact spanE_at h
theorem ins_no {n:Nat} (h1:isLet n=false) (h2:isDig n=false) (h3:¬n=95) (h4:¬n=46):¬isIns n=true:=by unfold isIns;simp [h1,h2,h3,h4]
theorem stepT_blk {l:BS} {i:Nat} (h:isBlk (bAt l i)=true):stepT l i=.skip (i+1):=by unfold stepT;rw [if_pos h]
theorem stepT_cmt {l:BS} {i:Nat} (h:isBlk (bAt l i)=false) (h1:bAt l i=35):stepT l i=.skip (spanE (fun b=>b !=10) l i):=by unfold stepT;rw [if_neg (by rw [h];decide),if_pos h1]
theorem stepT_let {l:BS} {i:Nat} (h:isBlk (bAt l i)=false) (h1:¬bAt l i=35) (h2:isLet (bAt l i)=true):stepT l i=if spanE isIns l i-i>24 then .err 5 else .tok 0 (spanE isIns l i):=by unfold stepT;rw [if_neg (by rw [h];decide),if_neg h1,if_pos h2]
theorem stepT_dig {l:BS} {i:Nat} (h:isBlk (bAt l i)=false) (h1:¬bAt l i=35) (h2:isLet (bAt l i)=false) (h3:isDig (bAt l i)=true):stepT l i=if numE l i<l.length∧(isIns (bAt l (numE l i))=true∨bAt l (numE l i)=47) then .err 2 else .tok 1 (numE l i):=by unfold stepT;rw [if_neg (by rw [h];decide),if_neg h1,if_neg (by rw [h2];decide),if_pos h3]
theorem stepT_els {l:BS} {i:Nat} (h:isBlk (bAt l i)=false) (h1:¬bAt l i=35) (h2:isLet (bAt l i)=false) (h3:isDig (bAt l i)=false):stepT l i=if isSgn (bAt l i) then .tok 2 (i+1) else .err 2:=by unfold stepT;rw [if_neg (by rw [h];decide),if_neg h1,if_neg (by rw [h2];decide),if_neg (by rw [h3];decide)]
theorem split_err {l:BS} {i:Nat} {out:List TK} {S:Int×List TK} {c:Int} (hs:splitT l (l.length-i) i out=S) (hi:i<l.length) (h:stepT l i=.err c):S=(c,[]):=by rw [splitT_step hi,h] at hs;exact hs.symm
theorem split_skip {l:BS} {i e:Nat} {out:List TK} {S:Int×List TK} (hs:splitT l (l.length-i) i out=S) (hi:i<l.length) (h:stepT l i=.skip e):splitT l (l.length-e) e out=S:=by rw [splitT_step hi,h] at hs;exact hs
theorem split_tok {l:BS} {i e k:Nat} {out:List TX} {S:Int×List TK} (hs:splitT l (l.length-i) i (out.map TX.t)=S) (hi:i<l.length) (h:stepT l i=.tok k e) (a b c:Int):splitT l (l.length-e) e ((out++[(⟨⟨k,cutS l i e⟩,a,b,c⟩:TX)]).map TX.t)=S:=by
 rw [splitT_step hi,h] at hs
 rw [List.map_append]
 exact hs
theorem split_end {l:BS} {i:Nat} {out:List TK} {S:Int×List TK} (hs:splitT l (l.length-i) i out=S) (hi:¬i<l.length):S=(0,out):=by rw [splitT_end om] at hs;exact hs.symm
end Go.PN
namespace Go.Proofs.YteehccacfedolaaGreat
open Go.AI Go.PN
attribute [local irreducible] aw Fa Fh DrK
theorem tsplit_fh (l:BS) (hl:l.length≤1099511627776):Fh Tryz.prog 31 [] [.c (.str (sB l))] (fun x h=>h=[]∧∃out:List TX,out.map TX.t=(splitS l).2∧x=.tup [.c (txs true out),.c (errA (splitS l).1)]):=by
 refine fh_of_body Tryz.func31 rfl rfl (by simp [Tryz.ntmps31]) fun C hC=> ?_
 simp only [initS,Nat.reduceAdd]
 repeat' first|refine yA1 o0 ?_|refine zW o0 ?_|refine yP o0 ?_|refine yN o0 ?_|refine zC o0 (fun hb=>?_) fun hb=>?_|refine zG o0 (fun hb=>?_) fun hb=>?_|refine zD o0 (fun hb=>?_) fun hb=>?_
 ·refine aw_conv (t:=2) (v:=.c (txs true [])) (fun S w u hr=>repC_nil hr) rfl ?_
  refine xSU ?_
  unfold splitS
  rw [if_pos om]
  exact⟨rfl,[],rfl,rfl⟩
 generalize hS:splitT l l.length 0 []=S
 have hS':splitS l=S:=by unfold splitS;rw [if_neg om];exact hS
 rw [hS']
 refine aw_lp (fun x:Nat×Option Nat×Nat×List TX×Int×Int=>[(0,.c (.str (sB l))),(4,.c (gs x.2.1 5 x.2.2.1)),(5,.c (.int .i64 x.2.2.2.2.1)),(6,.c (.int .i64 x.2.2.2.2.2)),(7,.c (.int .i64 x.1))]) (fun x=>gh x.2.1 92 (x.2.2.1*5) (txsF x.2.2.2.1))
  (fun x=>x.1≤l.length∧(x.2.1=none→x.2.2.1=0)∧x.2.2.1≤x.1∧x.2.2.2.1.length=x.2.2.1∧0≤x.2.2.2.2.1∧x.2.2.2.2.1≤x.1+1∧0≤x.2.2.2.2.2∧x.2.2.2.2.2≤x.1∧splitT l (l.length-x.1) x.1 (x.2.2.2.1.map TX.t)=S) (fun x=>l.length-x.1) (0,none,0,[],1,0) eB (by simp only [gh];exact List.Sublist.refl _) ⟨Nat.zero_le _,fun _=>rfl,Nat.zero_le _,rfl,by decide,by decide,by decide,by decide,hS⟩ ?_
 rintro ⟨i,og,n,out,line,start⟩ ⟨hi,hog,hol,hn,hl0,hl1,hs0,hs1,hsp⟩
 dsimp only at hi hog hol hn hl0 hl1 hs0 hs1 hsp⊢
 have e1:=spanE_ge isIns l i
 have e2:=spanE_le (p:=isIns) hi
 have e3:=numE_ge l i
 have e4:=numE_le hi
 repeat' first|refine yA1 o0 ?_|(refine yC2 o0 (tblk_fa _ ?_) ?_;· exact bAt_lt l _)|(refine yD2 o0 (tblk_fa _ ?_) ?_;· exact bAt_lt l _)|(refine yC2 o0 (tlet_fa _) ?_)|(refine yD2 o0 (tlet_fa _) ?_)|(refine yC2 o0 (tdig_fa _) ?_)|(refine yD2 o0 (tdig_fa _) ?_)|(refine yC2 o0 (tsgn_fa _ ?_) ?_;· exact bAt_lt l _)|(refine yD2 o0 (tsgn_fa _ ?_) ?_;· exact bAt_lt l _)|(refine yC2 o0 (twend_fa l i hl ?_) ?_;· omega)|(refine yD2 o0 (twend_fa l i hl ?_) ?_;· omega)|(refine yC2 o0 (tnum_fa l i hl ?_) ?_;· omega)|(refine yD2 o0 (tnum_fa l i hl ?_) ?_;· omega)|refine zW o0 ?_|refine yP o0 ?_|refine yN o0 ?_|refine zC o0 (fun hb=>?_) fun hb=>?_|refine zG o0 (fun hb=>?_) fun hb=>?_|refine zD o0 (fun hb=>?_) fun hb=>?_
 ·rename_i hi' hk
  refine aw_stop ⟨(i+1,og,n,out,line+1,i+1),by dsimp only;omega,eB,List.Sublist.refl _,by dsimp only;omega,hog,by dsimp only;omega,hn,by dsimp only;omega,by dsimp only;omega,by dsimp only;omega,by dsimp only;omega,split_skip hsp hi' (stepT_blk hk)⟩
 ·rename_i hi' hk
  refine aw_stop ⟨(i+1,og,n,out,line,start),by dsimp only;omega,eB,List.Sublist.refl _,by dsimp only;omega,hog,by dsimp only;omega,hn,by dsimp only;omega,by dsimp only;omega,by dsimp only;omega,by dsimp only;omega,split_skip hsp hi' (stepT_blk hk)⟩
 ·rename_i hi' hk
  have h35:=hb
  have hq:=split_skip hsp hi' (stepT_cmt hk h35)
  have g1:=(stepT_skip hi' (stepT_cmt hk h35))
  generalize hE:spanE (fun b=>b !=10) l i=e at hq g1
  refine aw_lp (fun x:Nat=>[(0,.c (.str (sB l))),(4,.c (gs og 5 n)),(5,.c (.int .i64 line)),(6,.c (.int .i64 start)),(7,.c (.int .i64 x))]) (fun _=>gh og 92 (n*5) (txsF out)) (fun x=>i≤x∧x≤l.length∧spanE (fun b=>b !=10) l x=e) (fun x=>l.length-x) i eB zZ ⟨Nat.le_refl _,hi,hE⟩ ?_
  rintro x ⟨hx0,hx,hxe⟩
  repeat' first|refine yA1 o0 ?_|refine zW o0 ?_|refine yP o0 ?_|refine yN o0 ?_|refine zC o0 (fun hb=>?_) fun hb=>?_|refine zG o0 (fun hb=>?_) fun hb=>?_|refine zD o0 (fun hb=>?_) fun hb=>?_
  ·rename_i hx1
   have hx2:=hb
   refine aw_stop ⟨x+1,by omega,eB,List.Sublist.refl _,by omega,by omega,?_⟩
   rw [←spanE_yes hx1 (by simpa using hx2)];exact hxe
  ·rename_i hx1
   have hx2:=hb
   have:x=e:=by rw [←hxe,spanE_no hx1 (by simpa using hx2)]
   subst this
   exact aw_stop ⟨(x,og,n,out,line,start),by dsimp only;omega,eB,List.Sublist.refl _,by dsimp only;omega,hog,by dsimp only;omega,hn,by dsimp only;omega,by dsimp only;omega,by dsimp only;omega,by dsimp only;omega,hq⟩
  ·have hx1:=hb
   have:x=e:=by rw [←hxe,spanE_out om]
   subst this
   exact aw_stop ⟨(x,og,n,out,line,start),by dsimp only;omega,eB,List.Sublist.refl _,by dsimp only;omega,hog,by dsimp only;omega,hn,by dsimp only;omega,by dsimp only;omega,by dsimp only;omega,by dsimp only;omega,hq⟩
 ·rename_i hi' hk h35 hlt
  have hc:=split_err hsp hi' (by rw [stepT_let hk h35 hlt,if_pos om])
  refine aw_weak (h':=[]) (fun t=>.inr rfl) (List.nil_sublist _) ?_
  refine aw_conv (t:=2) (v:=.c (txs true [])) (fun S w u hr=>repC_nil hr) rfl ?_
  refine xSU ?_
  rw [hc]
  exact⟨rfl,[],rfl,rfl⟩
 ·rename_i hi' hk h35 hlt
  have hp:=split_tok hsp hi' (k:=0) (e:=spanE isIns l i) (by rw [stepT_let hk h35 hlt,if_neg om]) (i:Int) line ((i:Int)-start+1)
  have hp2:=stepT_tok (k:=0) (e:=spanE isIns l i) hi' (by rw [stepT_let hk h35 hlt,if_neg om])
  refine aw_push (pre:=[]) rfl rfl rfl rfl rfl rfl rfl eE eE (by rfl) om om eE om (by exact hog) eE (by rfl) (by rfl) (by first|rfl|simp only [Nat.mul_one,List.nil_append,List.cons_append]<;>rfl) (by unfold maxLen;omega) om (by exact lf_push hn (⟨⟨0,cutS l i (spanE isIns l i)⟩,i,line,(i:Int)-start+1⟩:TX) om) fun g hn_g=> ?_
  replace hn_g:=Heap.ne_of hn_g
  first|dsimp only [Heap.ne,gh] at hn_g|dsimp only [Heap.ne] at hn_g|skip
  refine yS hn_g ?_
  repeat' first|refine yA1 hn_g ?_|refine zW hn_g ?_|refine yP hn_g ?_|refine yN hn_g ?_|refine zC hn_g (fun hb=>?_) fun hb=>?_|refine zG hn_g (fun hb=>?_) fun hb=>?_|refine zD hn_g (fun hb=>?_) fun hb=>?_
  exact aw_stop ⟨(spanE isIns l i,some g,n+1,out++[⟨⟨0,cutS l i (spanE isIns l i)⟩,i,line,(i:Int)-start+1⟩],line,start),by dsimp only;omega,(zB hn_g),List.Sublist.refl _,by dsimp only;omega,some_ne,by dsimp only;omega,by dsimp only;rw [List.length_append,hn];rfl,by dsimp only;omega,by dsimp only;omega,by dsimp only;omega,by dsimp only;omega,hp⟩
 ·rename_i hi' hk h35 hlt hdg hnl
  have hc:=split_err hsp hi' (by rw [stepT_dig hk h35 hlt hdg,if_pos ⟨hnl,.inl (isLet_ins hb)⟩])
  refine aw_weak (h':=[]) (fun t=>.inr rfl) (List.nil_sublist _) ?_
  refine aw_conv (t:=2) (v:=.c (txs true [])) (fun S w u hr=>repC_nil hr) rfl ?_
  refine xSU ?_
  rw [hc]
  exact⟨rfl,[],rfl,rfl⟩
 ·rename_i hi' hk h35 hlt hdg hnl h1
  have hc:=split_err hsp hi' (by rw [stepT_dig hk h35 hlt hdg,if_pos ⟨hnl,.inl (by unfold isIns;rw [hb];simp)⟩])
  refine aw_weak (h':=[]) (fun t=>.inr rfl) (List.nil_sublist _) ?_
  refine aw_conv (t:=2) (v:=.c (txs true [])) (fun S w u hr=>repC_nil hr) rfl ?_
  refine xSU ?_
  rw [hc]
  exact⟨rfl,[],rfl,rfl⟩
 ·rename_i hi' hk h35 hlt hdg hnl h1 h2
  have hc:=split_err hsp hi' (by rw [stepT_dig hk h35 hlt hdg,if_pos ⟨hnl,.inl (by unfold isIns;rw [hb];simp)⟩])
  refine aw_weak (h':=[]) (fun t=>.inr rfl) (List.nil_sublist _) ?_
  refine aw_conv (t:=2) (v:=.c (txs true [])) (fun S w u hr=>repC_nil hr) rfl ?_
  refine xSU ?_
  rw [hc]
  exact⟨rfl,[],rfl,rfl⟩
 ·rename_i hi' hk h35 hlt hdg hnl h1 h2 h3
  have hc:=split_err hsp hi' (by rw [stepT_dig hk h35 hlt hdg,if_pos ⟨hnl,.inr hb⟩])
  refine aw_weak (h':=[]) (fun t=>.inr rfl) (List.nil_sublist _) ?_
  refine aw_conv (t:=2) (v:=.c (txs true [])) (fun S w u hr=>repC_nil hr) rfl ?_
  refine xSU ?_
  rw [hc]
  exact⟨rfl,[],rfl,rfl⟩
 ·rename_i hi' hk h35 hlt hdg hnl h1 h2 h3
  have hp:=split_tok hsp hi' (k:=1) (e:=numE l i) (by rw [stepT_dig hk h35 hlt hdg,if_neg (fun z=>z.2.elim (ins_no h1 (numE_at hnl) h2 h3) hb)]) (i:Int) line ((i:Int)-start+1)
  have hp2:=stepT_tok (k:=1) (e:=numE l i) hi' (by rw [stepT_dig hk h35 hlt hdg,if_neg (fun z=>z.2.elim (ins_no h1 (numE_at hnl) h2 h3) hb)])
  refine aw_push (pre:=[]) rfl rfl rfl rfl rfl rfl rfl eE eE (by rfl) om om eE om (by exact hog) eE (by rfl) (by rfl) (by first|rfl|simp only [Nat.mul_one,List.nil_append,List.cons_append]<;>rfl) (by unfold maxLen;omega) om (by exact lf_push hn (⟨⟨1,cutS l i (numE l i)⟩,i,line,(i:Int)-start+1⟩:TX) om) fun g hn_g=> ?_
  replace hn_g:=Heap.ne_of hn_g
  first|dsimp only [Heap.ne,gh] at hn_g|dsimp only [Heap.ne] at hn_g|skip
  refine yS hn_g ?_
  repeat' first|refine yA1 hn_g ?_|refine zW hn_g ?_|refine yP hn_g ?_|refine yN hn_g ?_|refine zC hn_g (fun hb=>?_) fun hb=>?_|refine zG hn_g (fun hb=>?_) fun hb=>?_|refine zD hn_g (fun hb=>?_) fun hb=>?_
  exact aw_stop ⟨(numE l i,some g,n+1,out++[⟨⟨1,cutS l i (numE l i)⟩,i,line,(i:Int)-start+1⟩],line,start),by dsimp only;omega,(zB hn_g),List.Sublist.refl _,by dsimp only;omega,some_ne,by dsimp only;omega,by dsimp only;rw [List.length_append,hn];rfl,by dsimp only;omega,by dsimp only;omega,by dsimp only;omega,by dsimp only;omega,hp⟩
 ·rename_i hi' hk h35 hlt hdg
  have hp:=split_tok hsp hi' (k:=1) (e:=numE l i) (by rw [stepT_dig hk h35 hlt hdg,if_neg (fun z=>hb z.1)]) (i:Int) line ((i:Int)-start+1)
  have hp2:=stepT_tok (k:=1) (e:=numE l i) hi' (by rw [stepT_dig hk h35 hlt hdg,if_neg (fun z=>hb z.1)])
  refine aw_push (pre:=[]) rfl rfl rfl rfl rfl rfl rfl eE eE (by rfl) om om eE om (by exact hog) eE (by rfl) (by rfl) (by first|rfl|simp only [Nat.mul_one,List.nil_append,List.cons_append]<;>rfl) (by unfold maxLen;omega) om (by exact lf_push hn (⟨⟨1,cutS l i (numE l i)⟩,i,line,(i:Int)-start+1⟩:TX) om) fun g hn_g=> ?_
  replace hn_g:=Heap.ne_of hn_g
  first|dsimp only [Heap.ne,gh] at hn_g|dsimp only [Heap.ne] at hn_g|skip
  refine yS hn_g ?_
  repeat' first|refine yA1 hn_g ?_|refine zW hn_g ?_|refine yP hn_g ?_|refine yN hn_g ?_|refine zC hn_g (fun hb=>?_) fun hb=>?_|refine zG hn_g (fun hb=>?_) fun hb=>?_|refine zD hn_g (fun hb=>?_) fun hb=>?_
  exact aw_stop ⟨(numE l i,some g,n+1,out++[⟨⟨1,cutS l i (numE l i)⟩,i,line,(i:Int)-start+1⟩],line,start),by dsimp only;omega,(zB hn_g),List.Sublist.refl _,by dsimp only;omega,some_ne,by dsimp only;omega,by dsimp only;rw [List.length_append,hn];rfl,by dsimp only;omega,by dsimp only;omega,by dsimp only;omega,by dsimp only;omega,hp⟩
 ·rename_i hi' hk h35 hlt hdg
  have hp:=split_tok hsp hi' (k:=2) (e:=i+1) (by rw [stepT_els hk h35 hlt hdg,hb];rfl) (i:Int) line ((i:Int)-start+1)
  have hp2:=stepT_tok (k:=2) (e:=i+1) hi' (by rw [stepT_els hk h35 hlt hdg,hb];rfl)
  refine aw_push (pre:=[]) rfl rfl rfl rfl rfl rfl rfl eE eE (by rfl) om om eE om (by exact hog) eE (by rfl) (by rfl) (by first|rfl|simp only [Nat.mul_one,List.nil_append,List.cons_append]<;>rfl) (by unfold maxLen;omega) om (by exact lf_push hn (⟨⟨2,cutS l i (i+1)⟩,i,line,(i:Int)-start+1⟩:TX) om) fun g hn_g=> ?_
  replace hn_g:=Heap.ne_of hn_g
  first|dsimp only [Heap.ne,gh] at hn_g|dsimp only [Heap.ne] at hn_g|skip
  refine yS hn_g ?_
  repeat' first|refine yA1 hn_g ?_|refine zW hn_g ?_|refine yP hn_g ?_|refine yN hn_g ?_|refine zC hn_g (fun hb=>?_) fun hb=>?_|refine zG hn_g (fun hb=>?_) fun hb=>?_|refine zD hn_g (fun hb=>?_) fun hb=>?_
  exact aw_stop ⟨(i+1,some g,n+1,out++[⟨⟨2,cutS l i (i+1)⟩,i,line,(i:Int)-start+1⟩],line,start),by dsimp only;omega,(zB hn_g),List.Sublist.refl _,by dsimp only;omega,some_ne,by dsimp only;omega,by dsimp only;rw [List.length_append,hn];rfl,by dsimp only;omega,by dsimp only;omega,by dsimp only;omega,by dsimp only;omega,hp⟩
 ·rename_i hi' hk h35 hlt hdg
  have hc:=split_err hsp hi' (by rw [stepT_els hk h35 hlt hdg,hb];rfl)
  refine aw_weak (h':=[]) (fun t=>.inr rfl) (List.nil_sublist _) ?_
  refine aw_conv (t:=2) (v:=.c (txs true [])) (fun S w u hr=>repC_nil hr) rfl ?_
  refine xSU ?_
  rw [hc]
  exact⟨rfl,[],rfl,rfl⟩
 ·have hc:=split_end hsp hb
  rw [show gh og 92 (n*5) (txsF out)=gh og 92 (n*5) (txsF out)++[] from(List.append_nil _).symm]
  refine aw_frzGT (t:=2) (n':=out.length) (f':=txsF out) hog hn.symm eE (fun g _ h=>by simpa [Heap.keys] using (hC g).1 h) (fun _ _=>rfl) rfl ?_
  refine xSU ?_
  rw [hc]
  exact⟨rfl,out,rfl,rfl⟩
end Go.Proofs.YteehccacfedolaaGreat
namespace Go.Proofs.YteehccacfedolaaGreat
open Go.AI Go.PN
attribute [local irreducible] aw Fa Fh DrK
theorem place_fh (l:BS) (i:Nat) (hl:l.length≤1099511627776) (hi:i≤l.length):Fh Tryz.prog 99 [] [.c (.str (sB l)),.c (.int .i64 i)] (fun x h=>h=[]∧∃a b:Int,x=.tup [.c (.int .i64 a),.c (.int .i64 b)]):=by
 refine fh_of_body Tryz.func99 rfl rfl (by simp [Tryz.ntmps99]) fun C hC=> ?_
 simp only [initS,Nat.reduceAdd]
 have m1:(if(l.length:Int)<(i:Int) then(l.length:Int) else(i:Int))=i:=if_neg om
 have m2:(if((i:Nat):Int)>0 then(i:Int) else 0)=i:=by split<;>omega
 all_goals try(have Z:=(oj m1 m2);(repeat' first|refine yA1 Z ?_|refine zW Z ?_|refine yP Z ?_|refine yN Z ?_|refine zC Z (fun hb=>?_) fun hb=>?_|refine zG Z (fun hb=>?_) fun hb=>?_|refine zD Z (fun hb=>?_) fun hb=>?_);all_goals clear Z)
 refine aw_lp (fun x:Nat×Int×Int=>[(0,.c (.str (sB l))),(12,.c (.int .i64 i)),(13,.c (.int .i64 x.1)),(4,.c (.int .i64 x.2.1)),(5,.c (.int .i64 x.2.2))]) (fun _=>[]) (fun x=>x.1≤i∧0≤x.2.1∧x.2.1≤x.1+1∧0≤x.2.2∧x.2.2≤x.1+1) (fun x=>i-x.1) (0,1,1) (zB (oj m1 m2)) zZ ⟨Nat.zero_le _,by decide,by decide,by decide,by decide⟩ ?_
 rintro ⟨x,a,b⟩ ⟨hx,ha0,ha1,hb0,hb1⟩
 dsimp only at hx ha0 ha1 hb0 hb1⊢
 all_goals try(have Z:=(oj m1 m2);(repeat' first|refine yA1 Z ?_|refine zW Z ?_|refine yP Z ?_|refine yN Z ?_|refine zC Z (fun hb=>?_) fun hb=>?_|refine zG Z (fun hb=>?_) fun hb=>?_|refine zD Z (fun hb=>?_) fun hb=>?_);all_goals clear Z)
 ·exact aw_stop ⟨(x+1,a+1,1),by dsimp only;omega,(zB (oj m1 m2)),List.Sublist.refl _,by dsimp only;omega,by dsimp only;omega,by dsimp only;omega,by dsimp only;omega,by dsimp only;omega⟩
 ·exact aw_stop ⟨(x+1,a,b+1),by dsimp only;omega,(zB (oj m1 m2)),List.Sublist.refl _,by dsimp only;omega,by dsimp only;omega,by dsimp only;omega,by dsimp only;omega,by dsimp only;omega⟩
 ·refine yU (oj m1 m2) ?_
  exact⟨rfl,a,b,rfl⟩
theorem rtoken_fh (l:BS) (k i e:Nat) (og:Option Nat) (n:Nat) (out:List TX) (hl:l.length≤1099511627776) (hie:i≤e) (he:e≤l.length) (hog:og=none→n=0) (hn:out.length=n) (hnl:n≤1099511627776):
  Fh Tryz.prog 52 (gh og 92 (n*5) (txsF out)) [.c (gs og 5 n),.c (.str (sB l)),.c (.int .i64 k),.c (.int .i64 i),.c (.int .i64 e)]
   (fun x h=>∃g a b,x=.c (gs (some g) 5 (n+1))∧h=gh (some g) 92 ((n+1)*5) (txsF (out++[⟨⟨k,cutS l i e⟩,i,a,b⟩]))):=by
 refine fh_of_body Tryz.func52 rfl rfl (by simp [Tryz.ntmps52]) fun C hC=> ?_
 simp only [initS,Nat.reduceAdd]
 repeat' first|refine yA1 o0 ?_|refine zW o0 ?_|refine yP o0 ?_|refine yN o0 ?_|refine zC o0 (fun hb=>?_) fun hb=>?_|refine zG o0 (fun hb=>?_) fun hb=>?_|refine zD o0 (fun hb=>?_) fun hb=>?_
 refine aw_callh (hc:=[]) (place_fh l i hl om) rfl rfl rfl (.refl _) eL ?_
 rintro _ _ ⟨rfl,a,b,rfl⟩ _
 refine xS ?_
 repeat' first|refine yA1 o0 ?_|refine zW o0 ?_|refine yP o0 ?_|refine yN o0 ?_|refine zC o0 (fun hb=>?_) fun hb=>?_|refine zG o0 (fun hb=>?_) fun hb=>?_|refine zD o0 (fun hb=>?_) fun hb=>?_
 refine aw_push (pre:=[]) rfl rfl rfl rfl rfl rfl rfl eE eE (by rfl) om om eE om (by exact hog) eE (by rfl) (by rfl) (by first|rfl|simp only [Nat.mul_one,List.nil_append,List.cons_append]<;>rfl) (by unfold maxLen;omega) om (by exact lf_push hn (⟨⟨k,cutS l i e⟩,i,a,b⟩:TX) om) fun g hn_g=> ?_
 replace hn_g:=Heap.ne_of hn_g
 first|dsimp only [Heap.ne,gh] at hn_g|dsimp only [Heap.ne] at hn_g|skip
 refine yS hn_g ?_
 repeat' first|refine yA1 hn_g ?_|refine zW hn_g ?_|refine yP hn_g ?_|refine yN hn_g ?_|refine zC hn_g (fun hb=>?_) fun hb=>?_|refine zG hn_g (fun hb=>?_) fun hb=>?_|refine zD hn_g (fun hb=>?_) fun hb=>?_
 refine yU hn_g ?_
 exact⟨g,a,b,rfl,rfl⟩
theorem rsplit_fh (l:BS) (hl:l.length≤1099511627776):Fh Tryz.prog 19 [] [.c (.str (sB l))] (fun x h=>h=[]∧∃out:List TX,out.map TX.t=(splitS l).2∧x=.tup [.c (txs true out),.c (.int .i64 (splitS l).1)]):=by
 refine fh_of_body Tryz.func19 rfl rfl (by simp [Tryz.ntmps19]) fun C hC=> ?_
 simp only [initS,Nat.reduceAdd]
 repeat' first|refine yA1 o0 ?_|refine zW o0 ?_|refine yP o0 ?_|refine yN o0 ?_|refine zC o0 (fun hb=>?_) fun hb=>?_|refine zG o0 (fun hb=>?_) fun hb=>?_|refine zD o0 (fun hb=>?_) fun hb=>?_
 ·refine aw_conv (t:=2) (v:=.c (txs true [])) (fun S w u hr=>repC_nil hr) rfl ?_
  refine xSU ?_
  unfold splitS
  rw [if_pos om]
  exact⟨rfl,[],rfl,rfl⟩
 generalize hS:splitT l l.length 0 []=S
 have hS':splitS l=S:=by unfold splitS;rw [if_neg om];exact hS
 rw [hS']
 refine aw_lp (fun x:Nat×Option Nat×Nat×List TX=>[(0,.c (.str (sB l))),(4,.c (gs x.2.1 5 x.2.2.1)),(5,.c (.int .i64 x.1))]) (fun x=>gh x.2.1 92 (x.2.2.1*5) (txsF x.2.2.2))
  (fun x=>x.1≤l.length∧(x.2.1=none→x.2.2.1=0)∧x.2.2.1≤x.1∧x.2.2.2.length=x.2.2.1∧splitT l (l.length-x.1) x.1 (x.2.2.2.map TX.t)=S) (fun x=>l.length-x.1) (0,none,0,[]) eB (by simp only [gh];exact List.Sublist.refl _) ⟨Nat.zero_le _,fun _=>rfl,Nat.zero_le _,rfl,hS⟩ ?_
 rintro ⟨i,og,n,out⟩ ⟨hi,hog,hol,hn,hsp⟩
 dsimp only at hi hog hol hn hsp⊢
 have e3:=numE_ge l i
 have e4:=numE_le hi
 repeat' first|refine yA1 o0 ?_|(refine yC2 o0 (rblk_fa _) ?_)|(refine yD2 o0 (rblk_fa _) ?_)|(refine yC2 o0 (rlet_fa _) ?_)|(refine yD2 o0 (rlet_fa _) ?_)|(refine yC2 o0 (rdig_fa _) ?_)|(refine yD2 o0 (rdig_fa _) ?_)|(refine yC2 o0 (rins_fa _) ?_)|(refine yD2 o0 (rins_fa _) ?_)|(refine yC2 o0 (rnum_fa l i hl ?_) ?_;· omega)|(refine yD2 o0 (rnum_fa l i hl ?_) ?_;· omega)|refine zW o0 ?_|refine yP o0 ?_|refine yN o0 ?_|refine zC o0 (fun hb=>?_) fun hb=>?_|refine zG o0 (fun hb=>?_) fun hb=>?_|refine zD o0 (fun hb=>?_) fun hb=>?_
 ·rename_i hi'
  exact aw_stop ⟨(i+1,og,n,out),by dsimp only;omega,eB,List.Sublist.refl _,by dsimp only;omega,hog,by dsimp only;omega,hn,split_skip hsp hi' (stepT_blk hb)⟩
 ·rename_i hi' hk
  have h35:=hb
  have hst:=stepT_cmt hk h35
  have hq:=split_skip hsp hi' hst
  have g1:=stepT_skip hi' hst
  rw [spanE_yes hi' (by rw [h35];rfl)] at hq g1
  generalize hE:spanE (fun b=>b !=10) l (i+1)=e at hq g1
  refine aw_lp (fun x:Nat=>[(0,.c (.str (sB l))),(4,.c (gs og 5 n)),(5,.c (.int .i64 i)),(7,.c (.int .i64 x))]) (fun _=>gh og 92 (n*5) (txsF out)) (fun x=>i+1≤x∧x≤l.length∧spanE (fun b=>b !=10) l x=e) (fun x=>l.length-x) (i+1) eB zZ ⟨Nat.le_refl _,by omega,hE⟩ ?_
  rintro x ⟨hx0,hx,hxe⟩
  repeat' first|refine yA1 o0 ?_|refine zW o0 ?_|refine yP o0 ?_|refine yN o0 ?_|refine zC o0 (fun hb=>?_) fun hb=>?_|refine zG o0 (fun hb=>?_) fun hb=>?_|refine zD o0 (fun hb=>?_) fun hb=>?_
  ·rename_i hx1
   refine aw_stop ⟨x+1,by omega,eB,List.Sublist.refl _,by omega,by omega,?_⟩
   rw [←spanE_yes hx1 (by simpa using hb)];exact hxe
  ·rename_i hx1
   have:x=e:=by rw [←hxe,spanE_no hx1 (by simpa using hb)]
   subst this
   exact aw_stop ⟨(x,og,n,out),by dsimp only;omega,eB,List.Sublist.refl _,by dsimp only;omega,hog,by dsimp only;omega,hn,hq⟩
  ·have:x=e:=by rw [←hxe,spanE_out om]
   subst this
   exact aw_stop ⟨(x,og,n,out),by dsimp only;omega,eB,List.Sublist.refl _,by dsimp only;omega,hog,by dsimp only;omega,hn,hq⟩
 ·rename_i hi' hk h35
  have hlt:=hb
  have hst0:=stepT_let hk h35 hlt
  have hE0:=spanE_yes (p:=isIns) hi' (isLet_ins hlt)
  rw [hE0] at hst0
  generalize hE:spanE isIns l (i+1)=e at hst0
  have g1:i+1≤e:=by rw [←hE];exact spanE_ge ..
  have g2:e≤l.length:=by rw [←hE];exact spanE_le om
  refine aw_lp (fun x:Nat=>[(0,.c (.str (sB l))),(4,.c (gs og 5 n)),(5,.c (.int .i64 i)),(7,.c (.int .i64 x))]) (fun _=>gh og 92 (n*5) (txsF out)) (fun x=>i+1≤x∧x≤l.length∧spanE (isIns) l x=e) (fun x=>l.length-x) (i+1) eB zZ ⟨Nat.le_refl _,by omega,hE⟩ ?_
  rintro x ⟨hx0,hx,hxe⟩
  repeat' first|refine yA1 o0 ?_|(refine yC2 o0 (rins_fa _) ?_)|(refine yD2 o0 (rins_fa _) ?_)|refine zW o0 ?_|refine yP o0 ?_|refine yN o0 ?_|refine zC o0 (fun hb=>?_) fun hb=>?_|refine zG o0 (fun hb=>?_) fun hb=>?_|refine zD o0 (fun hb=>?_) fun hb=>?_
  ·rename_i hx1
   refine aw_stop ⟨x+1,by omega,eB,List.Sublist.refl _,by omega,by omega,?_⟩
   rw [←spanE_yes hx1 hb];exact hxe
  ·obtain rfl:x=e:=by rw [←hxe,spanE_no om (by assumption)]
   have hc:=split_err hsp hi' (hst0.trans (if_pos om))
   refine aw_weak (h':=[]) (fun t=>.inr rfl) (List.nil_sublist _) ?_
   refine aw_conv (t:=2) (v:=.c (txs true [])) (fun S w u hr=>repC_nil hr) rfl ?_
   refine xSU ?_
   rw [hc]
   exact⟨rfl,[],rfl,rfl⟩
  ·obtain rfl:x=e:=by rw [←hxe,spanE_no om (by assumption)]
   have hst:=(show PN.stepT l i=.tok 0 x from hst0.trans (if_neg om))
   have hp:=split_tok hsp hi' (k:=0) (e:=x) hst
   have hp2:=stepT_tok hi' hst
   refine aw_callh (hc:=gh og 92 (n*5) (txsF out)) (hr:=[]) (rtoken_fh l 0 i (x) og n out hl om om hog hn om) rfl rfl rfl (by rw [List.append_nil]) eL ?_
   rintro _ _ ⟨g,a,b,rfl,rfl⟩ _
   rw [List.append_nil]
   refine xS ?_
   repeat' first|refine yA1 o0 ?_|refine zW o0 ?_|refine yP o0 ?_|refine yN o0 ?_|refine zC o0 (fun hb=>?_) fun hb=>?_|refine zG o0 (fun hb=>?_) fun hb=>?_|refine zD o0 (fun hb=>?_) fun hb=>?_
   exact aw_stop ⟨(x,some g,n+1,out++[⟨⟨0,cutS l i (x)⟩,i,a,b⟩]),by dsimp only;omega,eB,List.Sublist.refl _,by dsimp only;omega,some_ne,by dsimp only;omega,by dsimp only;rw [List.length_append,hn];rfl,hp _ _ _⟩
  ·obtain rfl:x=e:=by rw [←hxe,spanE_out om]
   have hc:=split_err hsp hi' (hst0.trans (if_pos om))
   refine aw_weak (h':=[]) (fun t=>.inr rfl) (List.nil_sublist _) ?_
   refine aw_conv (t:=2) (v:=.c (txs true [])) (fun S w u hr=>repC_nil hr) rfl ?_
   refine xSU ?_
   rw [hc]
   exact⟨rfl,[],rfl,rfl⟩
  ·obtain rfl:x=e:=by rw [←hxe,spanE_out om]
   have hst:=(show PN.stepT l i=.tok 0 x from hst0.trans (if_neg om))
   have hp:=split_tok hsp hi' (k:=0) (e:=x) hst
   have hp2:=stepT_tok hi' hst
   refine aw_callh (hc:=gh og 92 (n*5) (txsF out)) (hr:=[]) (rtoken_fh l 0 i (x) og n out hl om om hog hn om) rfl rfl rfl (by rw [List.append_nil]) eL ?_
   rintro _ _ ⟨g,a,b,rfl,rfl⟩ _
   rw [List.append_nil]
   refine xS ?_
   repeat' first|refine yA1 o0 ?_|refine zW o0 ?_|refine yP o0 ?_|refine yN o0 ?_|refine zC o0 (fun hb=>?_) fun hb=>?_|refine zG o0 (fun hb=>?_) fun hb=>?_|refine zD o0 (fun hb=>?_) fun hb=>?_
   exact aw_stop ⟨(x,some g,n+1,out++[⟨⟨0,cutS l i (x)⟩,i,a,b⟩]),by dsimp only;omega,eB,List.Sublist.refl _,by dsimp only;omega,some_ne,by dsimp only;omega,by dsimp only;rw [List.length_append,hn];rfl,hp _ _ _⟩
 ·rename_i hi' hk h35 hlt hdg hnl
  have hc:=split_err hsp hi' (by rw [stepT_dig hk h35 hlt hdg,if_pos ⟨hnl,.inl hb⟩])
  refine aw_weak (h':=[]) (fun t=>.inr rfl) (List.nil_sublist _) ?_
  refine aw_conv (t:=2) (v:=.c (txs true [])) (fun S w u hr=>repC_nil hr) rfl ?_
  refine xSU ?_
  rw [hc]
  exact⟨rfl,[],rfl,rfl⟩
 ·rename_i hi' hk h35 hlt hdg hnl h1
  have hc:=split_err hsp hi' (by rw [stepT_dig hk h35 hlt hdg,if_pos ⟨hnl,.inr hb⟩])
  refine aw_weak (h':=[]) (fun t=>.inr rfl) (List.nil_sublist _) ?_
  refine aw_conv (t:=2) (v:=.c (txs true [])) (fun S w u hr=>repC_nil hr) rfl ?_
  refine xSU ?_
  rw [hc]
  exact⟨rfl,[],rfl,rfl⟩
 ·rename_i hi' hk h35 hlt hdg hnl h1
  have hst:=(show PN.stepT l i=.tok 1 (numE l i) from by rw [stepT_dig hk h35 hlt hdg,if_neg (fun z=>z.2.elim (fun z=>by rw [h1] at z;cases z) hb)])
  have hp:=split_tok hsp hi' (k:=1) (e:=numE l i) hst
  have hp2:=stepT_tok hi' hst
  refine aw_callh (hc:=gh og 92 (n*5) (txsF out)) (hr:=[]) (rtoken_fh l 1 i (numE l i) og n out hl om om hog hn om) rfl rfl rfl (by rw [List.append_nil]) eL ?_
  rintro _ _ ⟨g,a,b,rfl,rfl⟩ _
  rw [List.append_nil]
  refine xS ?_
  repeat' first|refine yA1 o0 ?_|refine zW o0 ?_|refine yP o0 ?_|refine yN o0 ?_|refine zC o0 (fun hb=>?_) fun hb=>?_|refine zG o0 (fun hb=>?_) fun hb=>?_|refine zD o0 (fun hb=>?_) fun hb=>?_
  exact aw_stop ⟨(numE l i,some g,n+1,out++[⟨⟨1,cutS l i (numE l i)⟩,i,a,b⟩]),by dsimp only;omega,eB,List.Sublist.refl _,by dsimp only;omega,some_ne,by dsimp only;omega,by dsimp only;rw [List.length_append,hn];rfl,hp _ _ _⟩
 ·rename_i hi' hk h35 hlt hdg
  have hst:=(show PN.stepT l i=.tok 1 (numE l i) from by rw [stepT_dig hk h35 hlt hdg,if_neg (fun z=>hb z.1)])
  have hp:=split_tok hsp hi' (k:=1) (e:=numE l i) hst
  have hp2:=stepT_tok hi' hst
  refine aw_callh (hc:=gh og 92 (n*5) (txsF out)) (hr:=[]) (rtoken_fh l 1 i (numE l i) og n out hl om om hog hn om) rfl rfl rfl (by rw [List.append_nil]) eL ?_
  rintro _ _ ⟨g,a,b,rfl,rfl⟩ _
  rw [List.append_nil]
  refine xS ?_
  repeat' first|refine yA1 o0 ?_|refine zW o0 ?_|refine yP o0 ?_|refine yN o0 ?_|refine zC o0 (fun hb=>?_) fun hb=>?_|refine zG o0 (fun hb=>?_) fun hb=>?_|refine zD o0 (fun hb=>?_) fun hb=>?_
  exact aw_stop ⟨(numE l i,some g,n+1,out++[⟨⟨1,cutS l i (numE l i)⟩,i,a,b⟩]),by dsimp only;omega,eB,List.Sublist.refl _,by dsimp only;omega,some_ne,by dsimp only;omega,by dsimp only;rw [List.length_append,hn];rfl,hp _ _ _⟩
 ·rename_i hi' hk h35 hlt hdg
  have hst:=(show PN.stepT l i=.tok 2 (i+1) from by rw [stepT_els hk h35 hlt hdg,show isSgn (bAt l i)=true from by rw [hb];rfl];rfl)
  have hp:=split_tok hsp hi' (k:=2) (e:=i+1) hst
  have hp2:=stepT_tok hi' hst
  refine aw_callh (hc:=gh og 92 (n*5) (txsF out)) (hr:=[]) (rtoken_fh l 2 i (i+1) og n out hl om om hog hn om) rfl rfl rfl (by rw [List.append_nil]) eL ?_
  rintro _ _ ⟨g,a,b,rfl,rfl⟩ _
  rw [List.append_nil]
  refine xS ?_
  repeat' first|refine yA1 o0 ?_|refine zW o0 ?_|refine yP o0 ?_|refine yN o0 ?_|refine zC o0 (fun hb=>?_) fun hb=>?_|refine zG o0 (fun hb=>?_) fun hb=>?_|refine zD o0 (fun hb=>?_) fun hb=>?_
  exact aw_stop ⟨(i+1,some g,n+1,out++[⟨⟨2,cutS l i (i+1)⟩,i,a,b⟩]),by dsimp only;omega,eB,List.Sublist.refl _,by dsimp only;omega,some_ne,by dsimp only;omega,by dsimp only;rw [List.length_append,hn];rfl,hp _ _ _⟩
 ·rename_i hi' hk h35 hlt hdg s0
  have hst:=(show PN.stepT l i=.tok 2 (i+1) from by rw [stepT_els hk h35 hlt hdg,show isSgn (bAt l i)=true from by rw [hb];rfl];rfl)
  have hp:=split_tok hsp hi' (k:=2) (e:=i+1) hst
  have hp2:=stepT_tok hi' hst
  refine aw_callh (hc:=gh og 92 (n*5) (txsF out)) (hr:=[]) (rtoken_fh l 2 i (i+1) og n out hl om om hog hn om) rfl rfl rfl (by rw [List.append_nil]) eL ?_
  rintro _ _ ⟨g,a,b,rfl,rfl⟩ _
  rw [List.append_nil]
  refine xS ?_
  repeat' first|refine yA1 o0 ?_|refine zW o0 ?_|refine yP o0 ?_|refine yN o0 ?_|refine zC o0 (fun hb=>?_) fun hb=>?_|refine zG o0 (fun hb=>?_) fun hb=>?_|refine zD o0 (fun hb=>?_) fun hb=>?_
  exact aw_stop ⟨(i+1,some g,n+1,out++[⟨⟨2,cutS l i (i+1)⟩,i,a,b⟩]),by dsimp only;omega,eB,List.Sublist.refl _,by dsimp only;omega,some_ne,by dsimp only;omega,by dsimp only;rw [List.length_append,hn];rfl,hp _ _ _⟩
 ·rename_i hi' hk h35 hlt hdg s0 s1
  have hst:=(show PN.stepT l i=.tok 2 (i+1) from by rw [stepT_els hk h35 hlt hdg,show isSgn (bAt l i)=true from by rw [hb];rfl];rfl)
  have hp:=split_tok hsp hi' (k:=2) (e:=i+1) hst
  have hp2:=stepT_tok hi' hst
  refine aw_callh (hc:=gh og 92 (n*5) (txsF out)) (hr:=[]) (rtoken_fh l 2 i (i+1) og n out hl om om hog hn om) rfl rfl rfl (by rw [List.append_nil]) eL ?_
  rintro _ _ ⟨g,a,b,rfl,rfl⟩ _
  rw [List.append_nil]
  refine xS ?_
  repeat' first|refine yA1 o0 ?_|refine zW o0 ?_|refine yP o0 ?_|refine yN o0 ?_|refine zC o0 (fun hb=>?_) fun hb=>?_|refine zG o0 (fun hb=>?_) fun hb=>?_|refine zD o0 (fun hb=>?_) fun hb=>?_
  exact aw_stop ⟨(i+1,some g,n+1,out++[⟨⟨2,cutS l i (i+1)⟩,i,a,b⟩]),by dsimp only;omega,eB,List.Sublist.refl _,by dsimp only;omega,some_ne,by dsimp only;omega,by dsimp only;rw [List.length_append,hn];rfl,hp _ _ _⟩
 ·rename_i hi' hk h35 hlt hdg s0 s1 s2
  have hst:=(show PN.stepT l i=.tok 2 (i+1) from by rw [stepT_els hk h35 hlt hdg,show isSgn (bAt l i)=true from by rw [hb];rfl];rfl)
  have hp:=split_tok hsp hi' (k:=2) (e:=i+1) hst
  have hp2:=stepT_tok hi' hst
  refine aw_callh (hc:=gh og 92 (n*5) (txsF out)) (hr:=[]) (rtoken_fh l 2 i (i+1) og n out hl om om hog hn om) rfl rfl rfl (by rw [List.append_nil]) eL ?_
  rintro _ _ ⟨g,a,b,rfl,rfl⟩ _
  rw [List.append_nil]
  refine xS ?_
  repeat' first|refine yA1 o0 ?_|refine zW o0 ?_|refine yP o0 ?_|refine yN o0 ?_|refine zC o0 (fun hb=>?_) fun hb=>?_|refine zG o0 (fun hb=>?_) fun hb=>?_|refine zD o0 (fun hb=>?_) fun hb=>?_
  exact aw_stop ⟨(i+1,some g,n+1,out++[⟨⟨2,cutS l i (i+1)⟩,i,a,b⟩]),by dsimp only;omega,eB,List.Sublist.refl _,by dsimp only;omega,some_ne,by dsimp only;omega,by dsimp only;rw [List.length_append,hn];rfl,hp _ _ _⟩
 ·rename_i hi' hk h35 hlt hdg s0 s1 s2 s3
  have hst:=(show PN.stepT l i=.tok 2 (i+1) from by rw [stepT_els hk h35 hlt hdg,show isSgn (bAt l i)=true from by rw [hb];rfl];rfl)
  have hp:=split_tok hsp hi' (k:=2) (e:=i+1) hst
  have hp2:=stepT_tok hi' hst
  refine aw_callh (hc:=gh og 92 (n*5) (txsF out)) (hr:=[]) (rtoken_fh l 2 i (i+1) og n out hl om om hog hn om) rfl rfl rfl (by rw [List.append_nil]) eL ?_
  rintro _ _ ⟨g,a,b,rfl,rfl⟩ _
  rw [List.append_nil]
  refine xS ?_
  repeat' first|refine yA1 o0 ?_|refine zW o0 ?_|refine yP o0 ?_|refine yN o0 ?_|refine zC o0 (fun hb=>?_) fun hb=>?_|refine zG o0 (fun hb=>?_) fun hb=>?_|refine zD o0 (fun hb=>?_) fun hb=>?_
  exact aw_stop ⟨(i+1,some g,n+1,out++[⟨⟨2,cutS l i (i+1)⟩,i,a,b⟩]),by dsimp only;omega,eB,List.Sublist.refl _,by dsimp only;omega,some_ne,by dsimp only;omega,by dsimp only;rw [List.length_append,hn];rfl,hp _ _ _⟩
 ·rename_i hi' hk h35 hlt hdg s0 s1 s2 s3
  have hc:=split_err hsp hi' (by rw [stepT_els hk h35 hlt hdg,show isSgn (bAt l i)=false from by unfold isSgn;simp [s0,s1,s2,s3,hb]];rfl)
  refine aw_weak (h':=[]) (fun t=>.inr rfl) (List.nil_sublist _) ?_
  refine aw_conv (t:=2) (v:=.c (txs true [])) (fun S w u hr=>repC_nil hr) rfl ?_
  refine xSU ?_
  rw [hc]
  exact⟨rfl,[],rfl,rfl⟩
 ·have hc:=split_end hsp hb
  rw [show gh og 92 (n*5) (txsF out)=gh og 92 (n*5) (txsF out)++[] from(List.append_nil _).symm]
  refine aw_frzGT (t:=2) (n':=out.length) (f':=txsF out) hog hn.symm eE (fun g _ h=>by simpa [Heap.keys] using (hC g).1 h) (fun _ _=>rfl) rfl ?_
  refine xSU ?_
  rw [hc]
  exact⟨rfl,out,rfl,rfl⟩
end Go.Proofs.YteehccacfedolaaGreat
namespace Go.PN
structure Perm0 (o:List Int):Prop where
 range:∀x∈o,0≤x∧x<o.length
 nodup:o.Nodup
theorem nodup_le:∀{l m:List Int},l.Nodup→(∀x∈l,x∈m)→l.length≤m.length
 |[],m,_,_=>by simp
 |a::l,m,hn,hs=>by
  simp only [List.nodup_cons] at hn
  have ha:=hs a (by simp)
  have:=nodup_le (l:=l) (m:=m.erase a) hn.2 fun x hx=>(List.mem_erase_of_ne (fun e=>hn.1 (by rw [←e];exact hx))).2 (hs x (by simp [hx]))
  rw [List.length_erase_of_mem ha] at this
  have:0<m.length:=List.length_pos_of_mem ha
  simp only [List.length_cons]
  omega
theorem Perm0.all {o:List Int} (h:Perm0 o) {j:Nat} (hj:j<o.length):(j:Int)∈o:=by
 by_cases hm:(j:Int)∈o
 ·exact hm
 ·exfalso
  have:=nodup_le (l:=(j:Int)::o) (m:=(List.range o.length).map (fun k:Nat=>(k:Int))) (by simp only [List.nodup_cons];exact⟨hm,h.nodup⟩) (fun x hx=>by
   rw [List.mem_map]
   rcases List.mem_cons.1 hx with rfl|hx
   ·exact⟨j,by simpa using hj,rfl⟩
   ·obtain⟨h1,h2⟩:=h.range x hx
    exact⟨x.toNat,by simp;omega,by omega⟩)
  simp at this
  omega
end Go.PN
namespace Go.AI
open Go.PN
theorem updF_bs {zs:List Bool} {i:Nat} {v:Bool} (hi:i<zs.length):updF (bsF zs) i [.bool v]=bsF (zs.set i v):=by
 funext j
 simp only [updF]
 by_cases e:j=i
 ·subst e;simp [hi,bsF]
 ·rw [if_neg e]
  show CV.bool (zs.getD j false)=CV.bool ((zs.set i v).getD j false)
  rw [List.getD_eq_getElem?_getD,List.getD_eq_getElem?_getD,List.getElem?_set_ne (fun h=>e h.symm)]
theorem make_bs (n:Nat):(fun j=>ofL [CV.bool false] (j%1))=bsF (List.replicate n false):=by
 funext j
 show ofL [CV.bool false] (j%1)=CV.bool ((List.replicate n false).getD j false)
 rw [Nat.mod_one,List.getD_eq_getElem?_getD,List.getElem?_replicate]
 split<;>rfl
end Go.AI

namespace Go.AI
theorem updF_ofL {xs bs:List CV} (h:xs.length=bs.length):updF (ofL xs) 0 bs=ofL bs:=by
 funext j
 by_cases hj:j<bs.length
 ·have:=updF_in bs (ofL xs) 0 j hj
  rw [Nat.zero_add] at this
  exact this
 ·rw [updF_out _ _ _ _ om,ofL_at,ofL_at,List.getElem?_eq_none om,List.getElem?_eq_none om]
@[go_sem ↓] theorem updF_1 (a b:CV):updF (ofL [a]) 0 [b]=ofL [b]:=updF_ofL rfl
@[go_sem ↓] theorem updF_2 (a b c d:CV):updF (ofL [a,b]) 0 [c,d]=ofL [c,d]:=updF_ofL rfl
@[go_sem ↓] theorem updF_3 (a b c x y z:CV):updF (ofL [a,b,c]) 0 [x,y,z]=ofL [x,y,z]:=updF_ofL rfl
end Go.AI
namespace Go.PN
open Go.AI
structure NodeOk (m k:Nat) (n:DN):Prop where
 v0:0≤n.v
 v1:n.v<m
 l0:0≤n.lo
 l1:n.lo<k+2
 h0:0≤n.hi
 h1:n.hi<k+2
end Go.PN

namespace Go.PN
open Go.AI
theorem sq_one {k:Nat} (h:k≠0):sq false k k=1:=by
 unfold sq sgn
 have:=Rat.mkRat_mul_left (n:=1) (d:=1) h
 rw [Int.mul_one,Nat.mul_one] at this
 simp only [Bool.false_eq_true,if_false]
 rw [this]
 rfl
theorem sq_div (x y:Bool) {n m d e:Nat} (hm:m≠0) (he:e≠0):sq (x !=y) (n*e) (d*m)=sq x n d/sq y m e:=by
 have h1:sq y m e*sq y e m=1:=by
  rw [←sq_mul,Nat.mul_comm e m,bne_self_eq_false]
  exact sq_one (Nat.mul_ne_zero hm he)
 have hb:sq y m e≠0:=fun h=>by rw [h,Rat.zero_mul] at h1;exact absurd h1 (by decide)
 have h2:(sq y m e)⁻¹=sq y e m:=by
  have h3:=Rat.inv_mul_cancel (sq y m e) hb
  have h4:(sq y m e)⁻¹*(sq y m e*sq y e m)=sq y e m:=by rw [←Rat.mul_assoc,h3,Rat.one_mul]
  rw [h1,Rat.mul_one] at h4
  exact h4
 rw [sq_mul,Rat.div_def,h2]
theorem RD.pn_ne {r:RD} (h:r.q≠0):r.pn≠0:=fun e=>h (by unfold RD.q;rw [e,sq_zero])
theorem q_div {a b:RD} {L:Nat} (hb:b.wf L) (hz:b.q≠0):sq (a.ps !=b.ps) (a.pn*b.pd) (a.pd*b.pn)=a.q/b.q:=sq_div _ _ (RD.pn_ne hz) (RD.pd_ne hb)
theorem fits_inv {q:Rat} {L:Nat} (h:fits q L) (hz:q≠0):fits q⁻¹ L:=by
 obtain⟨h1,h2⟩:=h
 have hn:q.num≠0:=fun e=>hz (Rat.num_eq_zero.1 e)
 have h3:(rd q).q=q:=rd_q q
 obtain⟨p1,p2,p3⟩:(rd q).ps=decide (q.num<0)∧(rd q).pn=q.num.natAbs∧(rd q).pd=q.den:=by
  have hs:=(rd_some hz).1
  unfold RD.ps RD.pn RD.pd
  rw [if_pos hs,if_pos hs,if_pos hs]
  unfold rd
  rw [if_neg hn]
  exact⟨rfl,val_words _,val_words _⟩
 have h4:q=sq (decide (q.num<0)) q.num.natAbs q.den:=by
  have:(rd q).q=sq (rd q).ps (rd q).pn (rd q).pd:=rfl
  rw [h3,p1,p2,p3] at this
  exact this
 have h5:sq false 1 1=1:=sq_one om
 have h6:=sq_div false (decide (q.num<0)) (n:=1) (d:=1) (m:=q.num.natAbs) (e:=q.den) om q.den_nz
 rw [h5,←h4,Rat.div_def,Rat.one_mul,Nat.one_mul,Nat.one_mul] at h6
 rw [←h6]
 exact fits_sq om h2 h1
theorem fits_div {a b:Rat} {L M:Nat} (ha:fits a L) (hb:fits b M) (hz:b≠0):fits (a/b) (L+M):=by
 rw [Rat.div_def]
 exact fits_mul ha (fits_inv hb hz)
end Go.PN
namespace Go.Proofs.YteehccacfedolaaGreat
open Go.AI Go.PN
attribute [local irreducible] aw Fa Fh DrK
theorem rdiv_fa (a b:RD) (ha:a.wf 1073741824) (hb:b.wf 1073741824) (hz:b.q≠0):Fa Tryz.prog 148 [.agg (rdc a),.agg (rdc b)] (.tup [.agg (rdc (rd (a.q/b.q))),.c .nilI]):=by
 obtain⟨l1,l2⟩:=RD.p_len ha om
 obtain⟨l3,l4⟩:=RD.p_len hb om
 have dd:a.pd*b.pn≠0:=Nat.mul_ne_zero (RD.pd_ne ha) (RD.pn_ne hz)
 have m1:=words_mul_len a.pn b.pd
 have m3:=words_mul_len a.pd b.pn
 have hl:(((words b.pn).length:Int)==0)=false:=by
  rw [beq_eq_false_iff_ne]
  intro e
  exact RD.pn_ne hz (words_eq_nil.1 (List.length_eq_zero_iff.1 om))
 refine fa_of_body Tryz.func148 rfl rfl (by simp [Tryz.ntmps148]) fun C hC=> ?_
 simp only [initS,Nat.reduceAdd]
 refine yG hl ?_
 refine yB hl fun g2 hn_g2=>?_
 refine yB (oj hl hn_g2) fun g3 hn_g3=>?_
 refine yA (oj hl (oj hn_g2 hn_g3)) fun g4 hn_g4=>?_
 have J1:=oj hl (oj hn_g2 (oj hn_g3 hn_g4))
 refine yG J1 ?_
 refine yC J1 (rparts_fa a ha) ?_
 refine yG J1 ?_
 refine yC J1 (rparts_fa b hb) ?_
 refine yG J1 ?_
 refine yN J1 ?_
 refine yG J1 ?_
 refine yC J1 (mulW _ _ ?_ ?_) ?_
 ·omega
 ·omega
 refine yG J1 ?_
 refine yC J1 (mulW _ _ ?_ ?_) ?_
 ·omega
 ·omega
 refine yG J1 ?_
 refine yC J1 (rform_fa _ _ _ ?_ ?_ dd) ?_
 ·omega
 ·omega
 rw [q_div hb hz]
 refine yGWSGT hC J1 ?_
 exact .tup ⟨.agg lerl_rd,.c .nilI,trivial⟩
theorem rdiv_zero (a b:RD) (ha:a.wf 1073741824) (hb:b.wf 1073741824) (hz:b.q=0):Fa Tryz.prog 148 [.agg (rdc a),.agg (rdc b)] (.tup [.agg (rdc rd0),.c (errA 8)]):=by
 have hp:b.pn=0:=Classical.byContradiction fun h=>sq_ne h (RD.pd_ne hb) hz
 have hl:(((words b.pn).length:Int)==0)=true:=by rw [hp,words_zero];rfl
 refine fa_of_body Tryz.func148 rfl rfl (by simp [Tryz.ntmps148]) fun C hC=> ?_
 simp only [initS,Nat.reduceAdd]
 refine yG hl ?_
 refine yB hl fun g2 hn_g2=>?_
 refine yB (oj hl hn_g2) fun g3 hn_g3=>?_
 refine yA (oj hl (oj hn_g2 hn_g3)) fun g4 hn_g4=>?_
 have J1:=oj hl (oj hn_g2 (oj hn_g3 hn_g4))
 refine yG J1 ?_
 refine yC J1 (rparts_fa a ha) ?_
 refine yG J1 ?_
 refine yC J1 (rparts_fa b hb) ?_
 refine yG J1 ?_
 refine yP J1 ?_
 refine yGWSGT hC J1 ?_
 exact .tup ⟨.agg ⟨.bool _,.nils,.nils,trivial⟩,.c (ler_errN rfl (by decide)),trivial⟩
theorem sdiv_fa (a b:RD) (ha:a.wf 1073741824) (hb:b.wf 1073741824) (hz:b.q≠0):Fa Tryz.prog 157 [.agg (rdc a),.agg (rdc b)] (.tup [.agg (rdc (rd (a.q/b.q))),.c (.int .i64 0)]):=by
 obtain⟨l1,l2⟩:=RD.p_len ha om
 obtain⟨l3,l4⟩:=RD.p_len hb om
 have dd:a.pd*b.pn≠0:=Nat.mul_ne_zero (RD.pd_ne ha) (RD.pn_ne hz)
 have m1:=words_mul_len a.pn b.pd
 have m3:=words_mul_len a.pd b.pn
 refine fa_of_body Tryz.func157 rfl rfl (by simp [Tryz.ntmps157]) fun C hC=> ?_
 simp only [initS,Nat.reduceAdd]
 refine xG ?_
 refine xB fun g2 hn_g2=>?_
 refine yB hn_g2 fun g3 hn_g3=>?_
 refine yA (oj hn_g2 hn_g3) fun g4 hn_g4=>?_
 have J1:=oj hn_g2 (oj hn_g3 hn_g4)
 refine yG J1 ?_
 refine yC J1 (sparts_fa a ha) ?_
 refine yG J1 ?_
 refine yC J1 (sparts_fa b hb) ?_
 refine yG J1 ?_
 refine yC J1 (qmulW _ _ ?_ ?_) ?_
 ·omega
 ·omega
 refine yG J1 ?_
 refine yC J1 (qmulW _ _ ?_ ?_) ?_
 ·omega
 ·omega
 refine yG J1 ?_
 refine yC J1 (sfromW _ _ _ ?_ ?_ dd) ?_
 ·omega
 ·omega
 rw [q_div hb hz]
 refine yGWSGT hC J1 ?_
 exact .tup ⟨.agg lerl_rd,.c (.int _ _),trivial⟩
end Go.Proofs.YteehccacfedolaaGreat
namespace Go.PN
open Go.AI
theorem natB_take {s:BS} {i:Nat} (h:i<s.length):natB (s.take (i+1))=natB (s.take i)*10+(bAt s i-48):=by
 unfold natB
 rw [List.take_succ_eq_append_getElem h,List.foldl_append,bAt_get h];rfl
theorem dig_le {n:Nat} (h:isDig n=true):48≤n∧n≤57:=by
 unfold isDig at h
 simp only [Bool.and_eq_true,decide_eq_true_eq] at h
 exact h
theorem natB_lt {s:BS} (hd:∀i,i<s.length→isDig (bAt s i)=true):∀i,i≤s.length→natB (s.take i)<10^i
 |0,_=>by simp [natB]
 |i+1,h=>by
  have h1:=natB_lt hd i om
  have h2:=dig_le (hd i om)
  rw [natB_take om,Nat.pow_succ]
  omega
theorem nat_fits {n L:Nat} (h:n<4294967296^L) (hL:1≤L):fits (n:Rat) L:=by
 have h1:(1:Nat)<4294967296^L:=Nat.one_lt_pow om (by decide)
 exact⟨by simpa using h,by simpa using h1⟩
theorem pow10_lt (k:Nat):10^k<4294967296^(k+1):=Nat.lt_of_le_of_lt (Nat.pow_le_pow_left (by decide) k) (Nat.pow_lt_pow_right (by decide) om)
theorem natB_fits {s:BS} (hd:∀i,i<s.length→isDig (bAt s i)=true) {i:Nat} (hi:i≤s.length):fits (natB (s.take i):Rat) (i+1):=
 nat_fits (Nat.lt_trans (natB_lt hd i hi) (pow10_lt i)) om
theorem step10 {s:BS} {i:Nat} (h:i<s.length) (hd:isDig (bAt s i)=true):(natB (s.take i):Rat)*((10:Int):Rat)+(((bAt s i:Nat):Int)-48:Int)=(natB (s.take (i+1)):Rat):=by
 have h2:=dig_le hd
 rw [natB_take h]
 have:(((bAt s i:Nat):Int)-48:Int)=((bAt s i-48:Nat):Int):=by omega
 rw [this]
 push_cast
 rfl
theorem fitsZ {n:Int} (h:n.natAbs<4294967296):fits (n:Rat) 1:=⟨by simpa using h,by simp⟩
end Go.PN
namespace Go.Proofs.YteehccacfedolaaGreat
open Go.AI Go.PN
theorem zero_cells:∀j,j<3→∀(S:Bool→Nat→Prop) w u,RepC S w (ofL [.bool false,.nils,.nils] j) u→RepC S w (ofL (rdc rd0) j) u:=fun j hj S w u hr=>by
 match j,hj with
 |0,_=>exact hr
 |1,_=>exact repC_nil hr
 |2,_=>exact repC_nil hr
attribute [local irreducible] aw Fa Fh DrK
theorem twhole_fa (s:BS) (hd:∀i,i<s.length→isDig (bAt s i)=true) (hl:s.length≤1000):Fa Tryz.prog 149 [.c (.str (sB s))] (.agg (rdc (rd (natB s:Rat)))):=by
 refine fa_of_body Tryz.func149 rfl rfl (by simp [Tryz.ntmps149]) fun C hC=> ?_
 simp only [initS,Nat.reduceAdd]
 repeat' first|refine yA1 o0 ?_|refine zW o0 ?_|refine yP o0 ?_|refine yN o0 ?_|refine zC o0 (fun hb=>?_) fun hb=>?_|refine zG o0 (fun hb=>?_) fun hb=>?_|refine zD o0 (fun hb=>?_) fun hb=>?_
 refine xA fun g2 hn_g2=>?_
 repeat' first|refine yA1 hn_g2 ?_|refine zW hn_g2 ?_|refine yP hn_g2 ?_|refine yN hn_g2 ?_|refine zC hn_g2 (fun hb=>?_) fun hb=>?_|refine zG hn_g2 (fun hb=>?_) fun hb=>?_|refine zD hn_g2 (fun hb=>?_) fun hb=>?_
 refine yA hn_g2 fun g3 hn_g3=>?_
 all_goals try(have Z:=(oj hn_g2 hn_g3);(repeat' first|refine yA1 Z ?_|refine zW Z ?_|refine yP Z ?_|refine yN Z ?_|refine zC Z (fun hb=>?_) fun hb=>?_|refine zG Z (fun hb=>?_) fun hb=>?_|refine zD Z (fun hb=>?_) fun hb=>?_);all_goals clear Z)
 refine aw_convR (f':=ofL (rdc rd0)) zero_cells ?_
 refine aw_lp (fun x:Nat=>[(0,.c (.str (sB s))),(2,.c (.optr g2 0)),(3,.c (.optr g3 0)),(7,.c (.int .i64 s.length)),(8,.c (.int .i64 x))]) (fun x=>[(g3,.cells 43 3 (ofL (rdc (rd (natB (s.take x):Rat))))),(g2,.cells 43 3 (ofL [.bool false,.nils,.nils]))]) (fun x=>x≤s.length) (fun x=>s.length-x) 0 (zB (oj hn_g2 hn_g3)) (by rw [show rd (natB (s.take 0):Rat)=rd0 from rd_zero];exact List.Sublist.refl _) (Nat.zero_le _) ?_
 rintro x hx
 all_goals try(have Z:=(oj hn_g2 hn_g3);(repeat' first|refine yA1 Z ?_|refine zW Z ?_|refine yP Z ?_|refine yN Z ?_|refine zC Z (fun hb=>?_) fun hb=>?_|refine zG Z (fun hb=>?_) fun hb=>?_|refine zD Z (fun hb=>?_) fun hb=>?_);all_goals clear Z)
 ·have hdx:=hd x hb
  have hx':=dig_le hdx
  have w0:(rd (natB (s.take x):Rat)).wf 1073741824:=rd_wf (fits_mono (natB_fits hd hx) om)
  have h10:=rof_fa 10 om om
  have w1:(rd ((10:Int):Rat)).wf 1073741824:=rd_wf (fits_mono (L:=1) ⟨by decide,by decide⟩ om)
  have hm:=rmul_fa _ _ w0 w1
  have w2:(rd ((natB (s.take x):Rat)*((10:Int):Rat))).wf 1073741824:=rd_wf (fits_mono (fits_mul (natB_fits hd hx) (L:=x+1) (M:=1) ⟨by decide,by decide⟩) om)
  rw [rd_q,rd_q] at hm
  have hs:=rof_fa (((bAt s x:Nat):Int)-48) om om
  have w3:(rd ((((bAt s x:Nat):Int)-48:Int):Rat)).wf 1073741824:=rd_wf (fits_mono (fitsZ om) om)
  have ha:=radd_fa _ _ w2 w3
  rw [rd_q,rd_q,step10 hb hdx] at ha
  refine aw_dr 10 ty_mixed (by kernel_rfl) ?_
  all_goals try(have Z:=(oj hn_g2 hn_g3);(repeat' first|refine yA1 Z ?_|(refine yC2 Z (h10) ?_)|(refine yD2 Z (h10) ?_)|(refine yC2 Z (hm) ?_)|(refine yD2 Z (hm) ?_)|(refine yC2 Z (hs) ?_)|(refine yD2 Z (hs) ?_)|(refine yC2 Z (ha) ?_)|(refine yD2 Z (ha) ?_)|refine zW Z ?_|refine yP Z ?_|refine yN Z ?_|refine zC Z (fun hb=>?_) fun hb=>?_|refine zG Z (fun hb=>?_) fun hb=>?_|refine zD Z (fun hb=>?_) fun hb=>?_);all_goals clear Z)
  exact aw_stop ⟨x+1,by omega,(zB (oj hn_g2 hn_g3)),List.Sublist.refl _,by omega⟩
 ·refine yT hC (oj hn_g2 hn_g3) ?_
  obtain rfl:x=s.length:=by omega
  rw [List.take_length]
  exact .one (.agg lerl_rd)
theorem rnat_fa (s:BS) (hd:∀i,i<s.length→isDig (bAt s i)=true) (hl:s.length≤1000):Fa Tryz.prog 156 [.c (.str (sB s))] (.agg (rdc (rd (natB s:Rat)))):=by
 refine fa_of_body Tryz.func156 rfl rfl (by simp [Tryz.ntmps156]) fun C hC=> ?_
 simp only [initS,Nat.reduceAdd]
 repeat' first|refine yA1 o0 ?_|refine zW o0 ?_|refine yP o0 ?_|refine yN o0 ?_|refine zC o0 (fun hb=>?_) fun hb=>?_|refine zG o0 (fun hb=>?_) fun hb=>?_|refine zD o0 (fun hb=>?_) fun hb=>?_
 refine xA fun g2 hn_g2=>?_
 repeat' first|refine yA1 hn_g2 ?_|refine zW hn_g2 ?_|refine yP hn_g2 ?_|refine yN hn_g2 ?_|refine zC hn_g2 (fun hb=>?_) fun hb=>?_|refine zG hn_g2 (fun hb=>?_) fun hb=>?_|refine zD hn_g2 (fun hb=>?_) fun hb=>?_
 refine yA hn_g2 fun g3 hn_g3=>?_
 all_goals try(have Z:=(oj hn_g2 hn_g3);(repeat' first|refine yA1 Z ?_|refine zW Z ?_|refine yP Z ?_|refine yN Z ?_|refine zC Z (fun hb=>?_) fun hb=>?_|refine zG Z (fun hb=>?_) fun hb=>?_|refine zD Z (fun hb=>?_) fun hb=>?_);all_goals clear Z)
 refine aw_convR (f':=ofL (rdc rd0)) zero_cells ?_
 refine aw_lp (fun x:Nat=>[(0,.c (.str (sB s))),(2,.c (.optr g2 0)),(3,.c (.optr g3 0)),(7,.c (.int .i64 s.length)),(8,.c (.int .i64 x))]) (fun x=>[(g3,.cells 43 3 (ofL (rdc (rd (natB (s.take x):Rat))))),(g2,.cells 43 3 (ofL [.bool false,.nils,.nils]))]) (fun x=>x≤s.length) (fun x=>s.length-x) 0 (zB (oj hn_g2 hn_g3)) (by rw [show rd (natB (s.take 0):Rat)=rd0 from rd_zero];exact List.Sublist.refl _) (Nat.zero_le _) ?_
 rintro x hx
 all_goals try(have Z:=(oj hn_g2 hn_g3);(repeat' first|refine yA1 Z ?_|refine zW Z ?_|refine yP Z ?_|refine yN Z ?_|refine zC Z (fun hb=>?_) fun hb=>?_|refine zG Z (fun hb=>?_) fun hb=>?_|refine zD Z (fun hb=>?_) fun hb=>?_);all_goals clear Z)
 ·have hdx:=hd x hb
  have hx':=dig_le hdx
  have w0:(rd (natB (s.take x):Rat)).wf 1073741824:=rd_wf (fits_mono (natB_fits hd hx) om)
  have h10:=sof_fa 10 om om
  have w1:(rd ((10:Int):Rat)).wf 1073741824:=rd_wf (fits_mono (L:=1) ⟨by decide,by decide⟩ om)
  have hm:=smul_fa _ _ w0 w1
  have w2:(rd ((natB (s.take x):Rat)*((10:Int):Rat))).wf 1073741824:=rd_wf (fits_mono (fits_mul (natB_fits hd hx) (L:=x+1) (M:=1) ⟨by decide,by decide⟩) om)
  rw [rd_q,rd_q] at hm
  have hs:=sof_fa (((bAt s x:Nat):Int)-48) om om
  have w3:(rd ((((bAt s x:Nat):Int)-48:Int):Rat)).wf 1073741824:=rd_wf (fits_mono (fitsZ om) om)
  have ha:=sadd_fa _ _ w2 w3
  rw [rd_q,rd_q,step10 hb hdx] at ha
  refine aw_dr 10 ty_mixed (by kernel_rfl) ?_
  all_goals try(have Z:=(oj hn_g2 hn_g3);(repeat' first|refine yA1 Z ?_|(refine yC2 Z (h10) ?_)|(refine yD2 Z (h10) ?_)|(refine yC2 Z (hm) ?_)|(refine yD2 Z (hm) ?_)|(refine yC2 Z (hs) ?_)|(refine yD2 Z (hs) ?_)|(refine yC2 Z (ha) ?_)|(refine yD2 Z (ha) ?_)|refine zW Z ?_|refine yP Z ?_|refine yN Z ?_|refine zC Z (fun hb=>?_) fun hb=>?_|refine zG Z (fun hb=>?_) fun hb=>?_|refine zD Z (fun hb=>?_) fun hb=>?_);all_goals clear Z)
  exact aw_stop ⟨x+1,by omega,(zB (oj hn_g2 hn_g3)),List.Sublist.refl _,by omega⟩
 ·refine yT hC (oj hn_g2 hn_g3) ?_
  obtain rfl:x=s.length:=by omega
  rw [List.take_length]
  exact .one (.agg lerl_rd)
end Go.Proofs.YteehccacfedolaaGreat
namespace Go.PN
open Go.AI
theorem idxB_le (b:UInt8) (s:BS):idxB b s≤s.length:=(List.takeWhile_sublist _).length_le
theorem ixB_val (b:UInt8):∀s:BS,Lib.indexByte s b=if idxB b s<s.length then(idxB b s:Int) else-1
 |[]=>rfl
 |x::s=>by
  have ih:=ixB_val b s
  have hle:=idxB_le b s
  unfold Lib.indexByte
  by_cases h:x=b
  ·subst h
   have:idxB x (x::s)=0:=by unfold idxB;rw [List.takeWhile_cons_of_neg (by simp)];rfl
   rw [this];simp
  ·have h1:(x==b)=false:=by simpa using h
   have h2:idxB b (x::s)=idxB b s+1:=by unfold idxB;rw [List.takeWhile_cons_of_pos (by simpa using h)];rfl
   rw [h1,h2,List.length_cons]
   simp only [Bool.false_eq_true,if_false]
   rw [ih]
   by_cases h3:idxB b s<s.length
   ·have:((idxB b s:Int)== -1)=false:=by simp
    rw [if_pos h3,if_pos (show idxB b s+1<s.length+1 from by omega),this];simp
   ·rw [if_neg h3,if_neg (show¬idxB b s+1<s.length+1 from by omega)];rfl
theorem idxB_at {b:UInt8}:∀{s:BS} {e:Nat},e<s.length→s.getD e 0=b→(∀j,j<e→s.getD j 0≠b)→idxB b s=e
 |x::s,0,_,h,_=>by
  have:x=b:=by simpa using h
  unfold idxB;rw [List.takeWhile_cons_of_neg (by simp [this])];rfl
 |x::s,e+1,hl,h,hn=>by
  have h0:x≠b:=by simpa using hn 0 om
  have h2:idxB b (x::s)=idxB b s+1:=by unfold idxB;rw [List.takeWhile_cons_of_pos (by simpa using h0)];rfl
  rw [h2,idxB_at (s:=s) (e:=e) (by simpa using hl) (by simpa using h) fun j hj=>by simpa using hn (j+1) om]
theorem idxB_no {b:UInt8}:∀{s:BS},(∀j,j<s.length→s.getD j 0≠b)→idxB b s=s.length
 |[],_=>rfl
 |x::s,hn=>by
  have h0:x≠b:=by simpa using hn 0 (by simp)
  have h2:idxB b (x::s)=idxB b s+1:=by unfold idxB;rw [List.takeWhile_cons_of_pos (by simpa using h0)];rfl
  rw [h2,idxB_no (s:=s) fun j hj=>by simpa using hn (j+1) (by simpa using hj)];rfl
theorem byte_ne {s:BS} {j:Nat} {b:UInt8} (h:bAt s j≠b.toNat):s.getD j 0≠b:=fun e=>h (by unfold bAt;rw [e])
theorem byte_eq {s:BS} {j:Nat} {b:UInt8} (h:bAt s j=b.toNat):s.getD j 0=b:=UInt8.toNat_inj.1 h
inductive NumF (s:BS):Prop where
 |all (h:∀i,i<s.length→isDig (bAt s i)=true)
 |two (e:Nat) (he:e+1<s.length) (hm:bAt s e=46∨bAt s e=47) (h1:∀i,i<e→isDig (bAt s i)=true) (h2:∀i,e<i→i<s.length→isDig (bAt s i)=true)
theorem spanE_dig {s:BS} {i:Nat}:∀j,i≤j→j<spanE isDig s i→isDig (bAt s j)=true:=fun j h1 h2=>spanE_in (p:=isDig) (spanE isDig s i-i) i (by have:=spanE_ge isDig s i;omega) j h1 (by have:=spanE_ge isDig s i;omega)
theorem num_form {s:BS} (h:isNum s=true):NumF s∧0<s.length:=by
 unfold isNum at h
 simp only [Bool.and_eq_true,decide_eq_true_eq,beq_iff_eq] at h
 obtain⟨⟨h0,_⟩,h2⟩:=h
 refine⟨?_,h0⟩
 unfold numE at h2
 split at h2
 ·rename_i h3
  refine .two (spanE isDig s 0) h3.1 h3.2.1 (fun i hi=>spanE_dig i (Nat.zero_le _) hi) fun i hi hl=>spanE_dig (i:=spanE isDig s 0+1) i (Nat.succ_le_of_lt hi) (by rw [h2];exact hl)
 ·exact .all fun i hi=>spanE_dig i (Nat.zero_le _) (by rw [h2];exact hi)
theorem span_two {s:BS} {e:Nat} (he:e+1<s.length) (hm:bAt s e=46∨bAt s e=47) (h1:∀i,i<e→isDig (bAt s i)=true):spanE isDig s 0=e:=by
 have hn:isDig (bAt s e)=false:=by unfold isDig;rcases hm with h|h<;>rw [h]<;>rfl
 have:∀k i,i+k=e→spanE isDig s i=e:=by
  intro k
  induction k with
  |zero=>intro i hi;rw [show i=e from by omega];exact spanE_no om hn
  |succ k ih=>intro i hi;rw [spanE_yes om (h1 i om)];exact ih (i+1) om
 exact this e 0 om
theorem cutS_take (s:BS) (e:Nat):cutS s 0 e=s.take e:=by unfold cutS;simp
theorem cutS_drop (s:BS) (e:Nat):cutS s e s.length=s.drop e:=by unfold cutS;exact List.take_of_length_le (by simp)
theorem bAt_take {s:BS} {e i:Nat} (h:i<e):bAt (s.take e) i=bAt s i:=by
 unfold bAt
 rw [List.getD_eq_getElem?_getD,List.getD_eq_getElem?_getD,List.getElem?_take,if_pos h]
theorem bAt_drop (s:BS) (e i:Nat):bAt (s.drop e) i=bAt s (e+i):=by
 unfold bAt
 rw [List.getD_eq_getElem?_getD,List.getD_eq_getElem?_getD,List.getElem?_drop]
theorem dig_take {s:BS} {e:Nat} (h1:∀i,i<e→isDig (bAt s i)=true):∀i,i<(s.take e).length→isDig (bAt (s.take e) i)=true:=fun i hi=>by
 have:i<e:=by rw [List.length_take] at hi;omega
 rw [bAt_take this];exact h1 i this
theorem dig_drop {s:BS} {e:Nat} (h2:∀i,e<i→i<s.length→isDig (bAt s i)=true):∀i,i<(s.drop (e+1)).length→isDig (bAt (s.drop (e+1)) i)=true:=fun i hi=>by
 rw [List.length_drop] at hi
 rw [bAt_drop];exact h2 _ om om
theorem natB_app (a b:BS):natB (a++b)=natB a*10^b.length+natB b:=by
 have key:∀(b:BS) (n:Nat),b.foldl (fun n x=>n*10+(x.toNat-48)) n=n*10^b.length+b.foldl (fun n x=>n*10+(x.toNat-48)) 0:=by
  intro b
  induction b with
  |nil=>intro n;simp
  |cons x b ih=>
   intro n
   rw [List.foldl_cons,List.foldl_cons,ih,ih (0*10+(x.toNat-48)),List.length_cons,Nat.pow_succ]
   rw [Nat.add_mul,Nat.zero_mul,Nat.zero_add,Nat.mul_assoc,Nat.mul_comm 10,Nat.add_assoc]
 unfold natB
 rw [List.foldl_append,key]
theorem ix_all {s:BS} (h:∀i,i<s.length→isDig (bAt s i)=true):idxB 47 s=s.length∧idxB 46 s=s.length:=by
 have hd:∀i,i<s.length→48≤bAt s i:=fun i hi=>by have:=h i hi;unfold isDig at this;simp at this;omega
 exact⟨idxB_no fun j hj=>byte_ne (by have:=hd j hj;show bAt s j≠47;omega),idxB_no fun j hj=>byte_ne (by have:=hd j hj;show bAt s j≠46;omega)⟩
theorem ix_slash {s:BS} {e:Nat} (he:e+1<s.length) (hm:bAt s e=47) (h1:∀i,i<e→isDig (bAt s i)=true):idxB 47 s=e:=by
 have hd:∀i,i<e→48≤bAt s i:=fun i hi=>by have:=h1 i hi;unfold isDig at this;simp at this;omega
 exact idxB_at om (byte_eq hm) fun j hj=>byte_ne (by have:=hd j hj;show bAt s j≠47;omega)
theorem ix_point {s:BS} {e:Nat} (he:e+1<s.length) (hm:bAt s e=46) (h1:∀i,i<e→isDig (bAt s i)=true) (h2:∀i,e<i→i<s.length→isDig (bAt s i)=true):idxB 47 s=s.length∧idxB 46 s=e:=by
 have hd:∀i,i<s.length→i≠e→48≤bAt s i:=fun i hi hn=>by
  have:isDig (bAt s i)=true:=by
   by_cases h:i<e
   ·exact h1 i h
   ·exact h2 i om hi
  unfold isDig at this;simp at this;omega
 refine⟨idxB_no fun j hj=>byte_ne ?_,idxB_at om (byte_eq hm) fun j hj=>byte_ne (by have:=hd j om om;show bAt s j≠46;omega)⟩
 show bAt s j≠47
 by_cases h:j=e
 ·rw [h,hm];decide
 ·have:=hd j hj h;omega
end Go.PN
namespace Go.AI
open Go.PN
section
variable {E : Env} {K : List It} {σ σ' : Sl} {h : Heap} {all rest : List Oper} {o : Oper}
def ItS (l:BS) (i:Nat) (ob:Obj):Prop:=ob=.stringIter (sB l) i
theorem aw_rangeS {t:TypeId} {x:Operand} {l:BS} (hop:o.op=.range t x) (hw:wantA all σ o=some true) (hd:dstOk E.N o.dst=true) (ht:tStr E.P t=true) (hx:ev σ x=.c (.str (sB l)))
  (k:∀g,g∉h.keys→aw E (.ops all rest::K) (σ.setO o.dst (.c (.optr g 0))) ((g,.gen (ItS l 0))::h)):aw E (.ops all (o::rest)::K) σ h:=by
 refine aw_new (r:=fun g=>.c (.optr g 0)) (ob:=.gen (ItS l 0)) hw hd (fun a w s=> ?_) k
 have h1:=ev_rep s x
 rw [hx] at h1
 have h1':a.eval x=.string (sB l):=h1
 refine⟨.pointer (some ⟨w.heap.size,0,none⟩),w.iter (sB l) 0,?_,Fr.alloc _ _ _,by simp [World.iter],⟨_,World.iter_heap _ _ _,rfl⟩,rfl⟩
 simp only [execOp,hop,h1',Sem.run_bind,run_range_string w t _ (tStr_spec ht),Result.andThen_ok]
 rfl
theorem aw_nextS {x:Operand} {l:BS} {g i:Nat} (hop:o.op=.next x true) (hw:wantA all σ o=some true) (hd:dstOk E.N o.dst=true) (hx:ev σ x=.c (.optr g 0)) (hg:h.get g=some (.gen (ItS l i))) (hi:i<l.length) (ha:bAt l i<128)
  (k:aw E (.ops all rest::K) (σ.setO o.dst (.tup [.c (.bool true),.c (.int .i64 i),.c (.int .i32 (bAt l i:Nat))])) (h.set g (.gen (ItS l (i+1))))):aw E (.ops all (o::rest)::K) σ h:=by
 refine aw_step hw (fun a w s=> ?_) k
 have h1:=ev_rep s x
 rw [hx] at h1
 have h1':a.eval x=.pointer (some ⟨g,0,none⟩):=h1
 obtain⟨ob,hb,he⟩:=s.heap g _ (Heap.get_mem hg)
 have he':ob=.stringIter (sB l) i:=he
 subst he'
 have hgl:g<w.heap.size:=(Array.getElem?_eq_some_iff.1 hb).1
 have hs:i<(sB l).size:=hi
 have hbt:((sB l)[i]'hs).toNat=bAt l i:=by rw [bAt_get hi];rfl
 have hdec:=decode_ascii (sB l) i hs (by rw [hbt];exact ha)
 rw [hbt] at hdec
 let w':World:={w with heap:=w.heap.setIfInBounds g (.stringIter (sB l) (i+1))}
 have hrun:(Instr.next (a.eval x) true o.type).run E.P w=.ok (.tuple #[.bool true,.int .i64 i,.int .i32 (bAt l i:Nat)]) w':=by
  rw [h1']
  simp [Instr.next,getObj,setObj,Sem.run,hb,hs,hdec,goInt,w']
 refine⟨.tuple #[.bool true,.int .i64 i,.int .i32 (bAt l i:Nat)],w',.inl ?_,?_⟩
 ·simp only [execOp,hop,Sem.run_bind,hrun,Result.andThen_ok]
  rfl
 ·have hfr:Fr (fun b=>b=g) w w':=by
   refine⟨rfl,rfl,rfl,by simp [w'],Nat.le_refl _,fun b _ hne=> ?_,fun g' m hh=> ?_⟩
   ·simp only [w'];rw [Array.getElem?_setIfInBounds_ne (fun e=>hne e.symm)]
   ·obtain⟨cs,ty,⟨fr,hc⟩,hs⟩:=hh
    refine⟨cs,ty,⟨fr,?_⟩,hs⟩
    have hne:g'≠g:=fun e=>by rw [e,hb] at hc;cases hc
    simp only [w']
    rw [Array.getElem?_setIfInBounds_ne (fun e=>hne e.symm)];exact hc
  exact(s.setObj (ob':=.gen (ItS l (i+1))) hg hfr ⟨_,by simp only [w'];rw [Array.getElem?_setIfInBounds_self_of_lt hgl],rfl⟩).put hd ⟨[_,_,_],rfl,rfl,rfl,rfl,trivial⟩
theorem aw_nextE {x:Operand} {l:BS} {g i:Nat} (hop:o.op=.next x true) (hw:wantA all σ o=some true) (hd:dstOk E.N o.dst=true) (hx:ev σ x=.c (.optr g 0)) (hg:h.get g=some (.gen (ItS l i))) (hi:¬i<l.length)
  (k:aw E (.ops all rest::K) (σ.setO o.dst (.tup [.c (.bool false)])) h):aw E (.ops all (o::rest)::K) σ h:=by
 refine aw_step hw (fun a w s=> ?_) k
 have h1:=ev_rep s x
 rw [hx] at h1
 have h1':a.eval x=.pointer (some ⟨g,0,none⟩):=h1
 obtain⟨ob,hb,he⟩:=s.heap g _ (Heap.get_mem hg)
 have he':ob=.stringIter (sB l) i:=he
 subst he'
 have hs:¬i<(sB l).size:=hi
 refine⟨.tuple #[.bool false],w,.inl ?_,s.put hd ⟨[_],rfl,rfl,trivial⟩⟩
 have hrun:(Instr.next (a.eval x) true o.type).run E.P w=.ok (.tuple #[.bool false]) w:=by
  rw [h1']
  simp [Instr.next,getObj,Sem.run,hb,hs]
 simp only [execOp,hop,Sem.run_bind,hrun,Result.andThen_ok]
 rfl
end
end Go.AI
namespace Go.PN
theorem pow10_ne (k:Nat):((10^k:Nat):Rat)≠0:=by
 have h:(10^k:Nat)≠0:=Nat.pos_iff_ne_zero.1 (Nat.pow_pos (by decide))
 intro e
 exact h (by exact_mod_cast e)
end Go.PN
namespace Go.Proofs.YteehccacfedolaaGreat
open Go.AI Go.PN
attribute [local irreducible] aw Fa Fh DrK
theorem index1_fa (s:BS) (b:UInt8):Fa Tryz.prog 186 [.c (.str (sB s)),.c (.str (sB [b]))] (.c (.int .i64 (Lib.indexByte s b))):=by
 have h:=ixs_fa s b.toNat
 rw [show b.toNat.toUInt8=b from UInt8.ofNat_toNat] at h
 refine fa_of_body Tryz.func186 rfl rfl (by simp [Tryz.ntmps186]) fun C hC=> ?_
 simp only [initS,Nat.reduceAdd]
 repeat' first|refine yA1 o0 ?_|(refine yC2 o0 (h) ?_)|(refine yD2 o0 (h) ?_)|refine zW o0 ?_|refine yP o0 ?_|refine yN o0 ?_|refine zC o0 (fun hb=>?_) fun hb=>?_|refine zG o0 (fun hb=>?_) fun hb=>?_|refine zD o0 (fun hb=>?_) fun hb=>?_
 ·refine xT hC ?_
  have hs:=hb
  subst hs
  refine .one (.c (ler_int ?_))
  unfold Lib.indexByte;simp
 ·refine xT hC ?_
  exact .one (.c (.int _ _))
theorem cutY_fa (s:BS) (b:UInt8) (hl:s.length≤1099511627776) (h:idxB b s<s.length):Fa Tryz.prog 147 [.c (.str (sB s)),.c (.str (sB [b]))] (.tup [.c (.str (sB (s.take (idxB b s)))),.c (.str (sB (s.drop (idxB b s+1)))),.c (.bool true)]):=by
 have h1:=index1_fa s b
 rw [ixB_val,if_pos h] at h1
 have h2:Fa Tryz.prog 169 [.c (.str (sB s)),.c (.str (sB [b]))] (.tup [.c (.str (sB (s.take (idxB b s)))),.c (.str (sB (s.drop (idxB b s+1)))),.c (.bool true)]):=by
  generalize idxB b s=e at*
  refine fa_of_body Tryz.func169 rfl rfl (by simp [Tryz.ntmps169]) fun C hC=> ?_
  simp only [initS,Nat.reduceAdd]
  repeat' first|refine yA1 o0 ?_|(refine yC2 o0 (h1) ?_)|(refine yD2 o0 (h1) ?_)|refine zW o0 ?_|refine yP o0 ?_|refine yN o0 ?_|refine zC o0 (fun hb=>?_) fun hb=>?_|refine zG o0 (fun hb=>?_) fun hb=>?_|refine zD o0 (fun hb=>?_) fun hb=>?_
  refine aw_dr 12 ty_mixed (by kernel_rfl) ?_
  repeat' first|refine yA1 o0 ?_|refine zW o0 ?_|refine yP o0 ?_|refine yN o0 ?_|refine zC o0 (fun hb=>?_) fun hb=>?_|refine zG o0 (fun hb=>?_) fun hb=>?_|refine zD o0 (fun hb=>?_) fun hb=>?_
  refine xT hC ?_
  refine .tup ⟨.c ?_,.c ?_,.c (.bool _),trivial⟩
  ·rw [cutS_take];exact .str _
  ·rw [cutS_drop];exact .str _
 refine fa_of_body Tryz.func147 rfl rfl (by simp [Tryz.ntmps147]) fun C hC=> ?_
 simp only [initS,Nat.reduceAdd]
 repeat' first|refine yA1 o0 ?_|(refine yC2 o0 (h2) ?_)|(refine yD2 o0 (h2) ?_)|refine zW o0 ?_|refine yP o0 ?_|refine yN o0 ?_|refine zC o0 (fun hb=>?_) fun hb=>?_|refine zG o0 (fun hb=>?_) fun hb=>?_|refine zD o0 (fun hb=>?_) fun hb=>?_
 refine xT hC ?_
 exact .tup ⟨.c (.str _),.c (.str _),.c (.bool _),trivial⟩
theorem cutN_fa (s:BS) (b:UInt8) (hl:s.length≤1099511627776) (h:idxB b s=s.length):Fa Tryz.prog 147 [.c (.str (sB s)),.c (.str (sB [b]))] (.tup [.c (.str (sB s)),.c (.str (sB [])),.c (.bool false)]):=by
 have h1:=index1_fa s b
 rw [ixB_val,if_neg om] at h1
 have h2:Fa Tryz.prog 169 [.c (.str (sB s)),.c (.str (sB [b]))] (.tup [.c (.str (sB s)),.c (.str (sB [])),.c (.bool false)]):=by
  refine fa_of_body Tryz.func169 rfl rfl (by simp [Tryz.ntmps169]) fun C hC=> ?_
  simp only [initS,Nat.reduceAdd]
  repeat' first|refine yA1 o0 ?_|(refine yC2 o0 (h1) ?_)|(refine yD2 o0 (h1) ?_)|refine zW o0 ?_|refine yP o0 ?_|refine yN o0 ?_|refine zC o0 (fun hb=>?_) fun hb=>?_|refine zG o0 (fun hb=>?_) fun hb=>?_|refine zD o0 (fun hb=>?_) fun hb=>?_
  refine xT hC ?_
  exact .tup ⟨.c (.str _),.c (.str _),.c (.bool _),trivial⟩
 refine fa_of_body Tryz.func147 rfl rfl (by simp [Tryz.ntmps147]) fun C hC=> ?_
 simp only [initS,Nat.reduceAdd]
 repeat' first|refine yA1 o0 ?_|(refine yC2 o0 (h2) ?_)|(refine yD2 o0 (h2) ?_)|refine zW o0 ?_|refine yP o0 ?_|refine yN o0 ?_|refine zC o0 (fun hb=>?_) fun hb=>?_|refine zG o0 (fun hb=>?_) fun hb=>?_|refine zD o0 (fun hb=>?_) fun hb=>?_
 refine xT hC ?_
 exact .tup ⟨.c (.str _),.c (.str _),.c (.bool _),trivial⟩
theorem tvalue_fa (s:BS) (hl:s.length≤1099511627776):Fa Tryz.prog 116 [.c (.str (sB s))] (.tup [.agg (rdc (valR s)),.c (errA (valC s))]):=by
 by_cases h100:s.length>100
 ·have d1:decide (s.length>100)=true:=decide_eq_true h100
  have hc:valC s=4:=by unfold valC;rw [if_pos h100]
  have hr:valR s=rd0:=by unfold valR;rw [hc];rfl
  rw [hc,hr]
  refine fa_of_body Tryz.func116 rfl rfl (by simp [Tryz.ntmps116]) fun C hC=> ?_
  simp only [initS,Nat.reduceAdd]
  repeat' first|refine yA1 o0 ?_|refine zW o0 ?_|refine yP o0 ?_|refine yN o0 ?_|refine zC o0 (fun hb=>?_) fun hb=>?_|refine zG o0 (fun hb=>?_) fun hb=>?_|refine zD o0 (fun hb=>?_) fun hb=>?_
  refine xA fun g2 hn_g2=>?_
  all_goals try(have Z:=(oj hn_g2 d1);(repeat' first|refine yA1 Z ?_|refine zW Z ?_|refine yP Z ?_|refine yN Z ?_|refine zC Z (fun hb=>?_) fun hb=>?_|refine zG Z (fun hb=>?_) fun hb=>?_|refine zD Z (fun hb=>?_) fun hb=>?_);all_goals clear Z)
  refine yT hC (oj hn_g2 d1) ?_
  exact .tup ⟨.agg ⟨.bool _,.nils,.nils,trivial⟩,.c (ler_errN rfl (by decide)),trivial⟩
 have d1:decide (s.length>100)=false:=decide_eq_false h100
 have hw:=tnum_fa s 0 hl (Nat.zero_le _)
 cases hn:isNum s with
 |false=>
  have hc:valC s=2:=by unfold valC;rw [if_neg h100,if_pos hn]
  have hr:valR s=rd0:=by unfold valR;rw [hc];rfl
  rw [hc,hr]
  refine fa_of_body Tryz.func116 rfl rfl (by simp [Tryz.ntmps116]) fun C hC=> ?_
  simp only [initS,Nat.reduceAdd]
  repeat' first|refine yA1 o0 ?_|refine zW o0 ?_|refine yP o0 ?_|refine yN o0 ?_|refine zC o0 (fun hb=>?_) fun hb=>?_|refine zG o0 (fun hb=>?_) fun hb=>?_|refine zD o0 (fun hb=>?_) fun hb=>?_
  refine xA fun g2 hn_g2=>?_
  all_goals try(have Z:=(oj hn_g2 d1);(repeat' first|refine yA1 Z ?_|(refine yC2 Z (tdig_fa _) ?_)|(refine yD2 Z (tdig_fa _) ?_)|(refine yC2 Z (hw) ?_)|(refine yD2 Z (hw) ?_)|refine zW Z ?_|refine yP Z ?_|refine yN Z ?_|refine zC Z (fun hb=>?_) fun hb=>?_|refine zG Z (fun hb=>?_) fun hb=>?_|refine zD Z (fun hb=>?_) fun hb=>?_);all_goals clear Z)
  all_goals first
   |(exfalso
     unfold isNum at hn
     simp_all
     done)
   |(refine yT hC (oj hn_g2 d1) ?_
     exact .tup ⟨.agg ⟨.bool _,.nils,.nils,trivial⟩,.c (ler_errN rfl (by decide)),trivial⟩)
 |true=>
  obtain⟨hf,h0⟩:=num_form hn
  have hn':=hn
  unfold isNum at hn'
  simp only [Bool.and_eq_true,decide_eq_true_eq,beq_iff_eq] at hn'
  have f0:(s.length==0)=false:=by simpa using (show s.length≠0 from by omega)
  have f1:isDig (bAt s 0)=true:=hn'.1.2
  have f2:(numE s 0 !=s.length)=false:=by simpa using hn'.2
  have hc0:valC s=if idxB 47 s<s.length∧natB (s.drop (idxB 47 s+1))=0 then 8 else 0:=by unfold valC;rw [if_neg h100,if_neg (by rw [hn];decide)]
  have hA:∀t:BS,t.length≤s.length→(rd (natB t:Rat)).wf 1073741824∨True:=fun _ _=>.inr trivial
  by_cases hsl:idxB 47 s<s.length
  ·obtain⟨e,he,he1,hd1,hd2⟩:∃e,idxB 47 s=e∧e+1<s.length∧(∀i,i<e→isDig (bAt s i)=true)∧(∀i,e<i→i<s.length→isDig (bAt s i)=true):=by
    cases hf with
    |all h=>have:=(ix_all h).1;omega
    |two e he hm h1 h2=>
     rcases hm with hm|hm
     ·have:=(ix_point he hm h1 h2).1;omega
     ·exact⟨e,ix_slash he hm h1,he,h1,h2⟩
   have hcut:=cutY_fa s 47 hl hsl
   rw [he] at hcut hc0 hsl
   have ha:=twhole_fa (s.take e) (dig_take hd1) (by rw [List.length_take];omega)
   have hb:=twhole_fa (s.drop (e+1)) (dig_drop hd2) (by rw [List.length_drop];omega)
   have wa:(rd (natB (s.take e):Rat)).wf 1073741824:=rd_wf (fits_mono (by have:=natB_fits (s:=s.take e) (dig_take hd1) (Nat.le_refl _);rwa [List.take_length] at this) (by rw [List.length_take];omega))
   have wb:(rd (natB (s.drop (e+1)):Rat)).wf 1073741824:=rd_wf (fits_mono (by have:=natB_fits (s:=s.drop (e+1)) (dig_drop hd2) (Nat.le_refl _);rwa [List.take_length] at this) (by rw [List.length_drop];omega))
   by_cases hz:natB (s.drop (e+1))=0
   ·rw [if_pos ⟨hsl,hz⟩] at hc0
    have hr:valR s=rd0:=by unfold valR;rw [hc0];rfl
    have hd:=rdiv_zero _ _ wa wb (by rw [rd_q,hz];rfl)
    rw [hc0,hr]
    refine fa_of_body Tryz.func116 rfl rfl (by simp [Tryz.ntmps116]) fun C hC=> ?_
    simp only [initS,Nat.reduceAdd]
    repeat' first|refine yA1 o0 ?_|refine zW o0 ?_|refine yP o0 ?_|refine yN o0 ?_|refine zC o0 (fun hb=>?_) fun hb=>?_|refine zG o0 (fun hb=>?_) fun hb=>?_|refine zD o0 (fun hb=>?_) fun hb=>?_
    refine xA fun g2 hn_g2=>?_
    all_goals try(have Z:=(oj hn_g2 (oj d1 (oj f0 (oj f1 f2))));(repeat' first|refine yA1 Z ?_|(refine yC2 Z (tdig_fa _) ?_)|(refine yD2 Z (tdig_fa _) ?_)|(refine yC2 Z (hw) ?_)|(refine yD2 Z (hw) ?_)|(refine yC2 Z (hcut) ?_)|(refine yD2 Z (hcut) ?_)|(refine yC2 Z (ha) ?_)|(refine yD2 Z (ha) ?_)|(refine yC2 Z (hb) ?_)|(refine yD2 Z (hb) ?_)|(refine yC2 Z (hd) ?_)|(refine yD2 Z (hd) ?_)|refine zW Z ?_|refine yP Z ?_|refine yN Z ?_|refine zC Z (fun hb=>?_) fun hb=>?_|refine zG Z (fun hb=>?_) fun hb=>?_|refine zD Z (fun hb=>?_) fun hb=>?_);all_goals clear Z)
    refine yT hC (oj hn_g2 (oj d1 (oj f0 (oj f1 f2)))) ?_
    exact .tup ⟨.agg lerl_rd,.c ler_err,trivial⟩
   ·rw [if_neg (fun h=>hz h.2)] at hc0
    have hr:valR s=rd (valQ s):=by unfold valR;rw [if_pos hc0]
    have hq:valQ s=(natB (s.take e):Rat)/(natB (s.drop (e+1)):Rat):=by unfold valQ;rw [he,if_pos hsl]
    have hd:=rdiv_fa _ _ wa wb (by rw [rd_q];simpa using hz)
    rw [rd_q,rd_q,←hq,←hr] at hd
    rw [hc0]
    refine fa_of_body Tryz.func116 rfl rfl (by simp [Tryz.ntmps116]) fun C hC=> ?_
    simp only [initS,Nat.reduceAdd]
    repeat' first|refine yA1 o0 ?_|refine zW o0 ?_|refine yP o0 ?_|refine yN o0 ?_|refine zC o0 (fun hb=>?_) fun hb=>?_|refine zG o0 (fun hb=>?_) fun hb=>?_|refine zD o0 (fun hb=>?_) fun hb=>?_
    refine xA fun g2 hn_g2=>?_
    all_goals try(have Z:=(oj hn_g2 (oj d1 (oj f0 (oj f1 f2))));(repeat' first|refine yA1 Z ?_|(refine yC2 Z (tdig_fa _) ?_)|(refine yD2 Z (tdig_fa _) ?_)|(refine yC2 Z (hw) ?_)|(refine yD2 Z (hw) ?_)|(refine yC2 Z (hcut) ?_)|(refine yD2 Z (hcut) ?_)|(refine yC2 Z (ha) ?_)|(refine yD2 Z (ha) ?_)|(refine yC2 Z (hb) ?_)|(refine yD2 Z (hb) ?_)|(refine yC2 Z (hd) ?_)|(refine yD2 Z (hd) ?_)|refine zW Z ?_|refine yP Z ?_|refine yN Z ?_|refine zC Z (fun hb=>?_) fun hb=>?_|refine zG Z (fun hb=>?_) fun hb=>?_|refine zD Z (fun hb=>?_) fun hb=>?_);all_goals clear Z)
    refine yT hC (oj hn_g2 (oj d1 (oj f0 (oj f1 f2)))) ?_
    exact .tup ⟨.agg lerl_rd,.c (ler_err0 rfl),trivial⟩
  ·have hcutN:=cutN_fa s 47 hl (by have:=idxB_le 47 s;omega)
   obtain⟨hda,hdb,hcut⟩:(∀i,i<(s.take (idxB 46 s)).length→isDig (bAt (s.take (idxB 46 s)) i)=true)∧(∀i,i<(s.drop (idxB 46 s+1)).length→isDig (bAt (s.drop (idxB 46 s+1)) i)=true)∧∃b,Fa Tryz.prog 147 [.c (.str (sB s)),.c (.str (sB [46]))] (.tup [.c (.str (sB (s.take (idxB 46 s)))),.c (.str (sB (s.drop (idxB 46 s+1)))),.c (.bool b)]):=by
    cases hf with
    |all h=>
     have h2:=(ix_all h).2
     have:=cutN_fa s 46 hl h2
     rw [h2,List.take_length,List.drop_of_length_le om]
     exact⟨h,fun i hi=>absurd hi (by simp),_,this⟩
    |two e he hm h1 h2=>
     rcases hm with hm|hm
     ·have h3:=(ix_point he hm h1 h2).2
      have:=cutY_fa s 46 hl om
      rw [h3] at this⊢
      exact⟨dig_take h1,dig_drop h2,_,this⟩
     ·have:=ix_slash he hm h1;omega
   obtain⟨bx,hcut⟩:=hcut
   rw [if_neg (fun h=>hsl h.1)] at hc0
   have hr:valR s=rd (valQ s):=by unfold valR;rw [if_pos hc0]
   have hq:valQ s=(natB (s.take (idxB 46 s)++s.drop (idxB 46 s+1)):Rat)/((10^(s.drop (idxB 46 s+1)).length:Nat):Rat):=by unfold valQ;rw [if_neg hsl]
   have hla:(s.take (idxB 46 s)).length≤100:=by rw [List.length_take];omega
   have hlb:(s.drop (idxB 46 s+1)).length≤100:=by rw [List.length_drop];omega
   generalize s.take (idxB 46 s)=a at*
   generalize s.drop (idxB 46 s+1)=b at*
   have hab:∀i,i<(a++b).length→isDig (bAt (a++b) i)=true:=fun i hi=>by
    by_cases h:i<a.length
    ·have:=hda i h
     unfold bAt at this⊢
     rw [List.getD_eq_getElem?_getD] at this⊢
     rwa [List.getElem?_append_left h]
    ·have:=hdb (i-a.length) (by rw [List.length_append] at hi;omega)
     unfold bAt at this⊢
     rw [List.getD_eq_getElem?_getD] at this⊢
     rwa [List.getElem?_append_right om]
   have hw2:=twhole_fa (a++b) hab (by rw [List.length_append];omega)
   have fab:fits (natB (a++b):Rat) ((a++b).length+1):=by have:=natB_fits (s:=a++b) hab (Nat.le_refl _);rwa [List.take_length] at this
   have wab:(rd (natB (a++b):Rat)).wf 1073741824:=rd_wf (fits_mono fab (by rw [List.length_append];omega))
   have f10:∀k,k≤100→fits ((10^k:Nat):Rat) (k+1):=fun k _=>nat_fits (pow10_lt k) om
   have w10:∀k,k≤100→(rd ((10^k:Nat):Rat)).wf 1073741824:=fun k hk=>rd_wf (fits_mono (f10 k hk) om)
   have h1:=rof_fa 1 om om
   have h10:=rof_fa 10 om om
   have hd:=rdiv_fa _ _ wab (w10 b.length hlb) (by rw [rd_q];exact pow10_ne _)
   rw [rd_q,rd_q,←hq,←hr] at hd
   rw [hc0]
   refine fa_of_body Tryz.func116 rfl rfl (by simp [Tryz.ntmps116]) fun C hC=> ?_
   simp only [initS,Nat.reduceAdd]
   repeat' first|refine yA1 o0 ?_|refine zW o0 ?_|refine yP o0 ?_|refine yN o0 ?_|refine zC o0 (fun hb=>?_) fun hb=>?_|refine zG o0 (fun hb=>?_) fun hb=>?_|refine zD o0 (fun hb=>?_) fun hb=>?_
   refine xA fun g2 hn_g2=>?_
   all_goals try(have Z:=(oj hn_g2 (oj d1 (oj f0 (oj f1 f2))));(repeat' first|refine yA1 Z ?_|(refine yC2 Z (tdig_fa _) ?_)|(refine yD2 Z (tdig_fa _) ?_)|(refine yC2 Z (hw) ?_)|(refine yD2 Z (hw) ?_)|(refine yC2 Z (hcutN) ?_)|(refine yD2 Z (hcutN) ?_)|(refine yC2 Z (hcut) ?_)|(refine yD2 Z (hcut) ?_)|(refine yC2 Z (h1) ?_)|(refine yD2 Z (h1) ?_)|refine zW Z ?_|refine yP Z ?_|refine yN Z ?_|refine zC Z (fun hb=>?_) fun hb=>?_|refine zG Z (fun hb=>?_) fun hb=>?_|refine zD Z (fun hb=>?_) fun hb=>?_);all_goals clear Z)
   refine yA (oj hn_g2 (oj d1 (oj f0 (oj f1 f2)))) fun g10 hn_g10=>?_
   all_goals try(have Z:=(oj hn_g2 (oj d1 (oj f0 (oj f1 (oj f2 hn_g10)))));(repeat' first|refine yA1 Z ?_|refine zW Z ?_|refine yP Z ?_|refine yN Z ?_|refine zC Z (fun hb=>?_) fun hb=>?_|refine zG Z (fun hb=>?_) fun hb=>?_|refine zD Z (fun hb=>?_) fun hb=>?_);all_goals clear Z)
   refine aw_lp (fun x:Nat=>[(0,.c (.str (sB s))),(2,.c (.optr g2 0)),(3,.c .nilI),(7,.c (.str (sB a))),(8,.c (.str (sB b))),(10,.c (.optr g10 0)),(56,.c (.int .i64 b.length)),(57,.c (.int .i64 x))]) (fun x=>[(g10,.cells 43 3 (ofL (rdc (rd ((10^x:Nat):Rat))))),(g2,.cells 43 3 (ofL [.bool false,.nils,.nils]))]) (fun x=>x≤b.length) (fun x=>b.length-x) 0 (zB (oj hn_g2 (oj d1 (oj f0 (oj f1 (oj f2 hn_g10)))))) (by rw [show((10^0:Nat):Rat)=((1:Int):Rat) from by simp];exact List.Sublist.refl _) (Nat.zero_le _) ?_
   rintro x hx
   all_goals try(have Z:=(oj hn_g2 (oj d1 (oj f0 (oj f1 (oj f2 hn_g10)))));(repeat' first|refine yA1 Z ?_|refine zW Z ?_|refine yP Z ?_|refine yN Z ?_|refine zC Z (fun hb=>?_) fun hb=>?_|refine zG Z (fun hb=>?_) fun hb=>?_|refine zD Z (fun hb=>?_) fun hb=>?_);all_goals clear Z)
   ·have hm:=rmul_fa _ _ (w10 x om) (show(rd ((10:Int):Rat)).wf 1073741824 from rd_wf (fits_mono (fitsZ (by decide)) om))
    rw [rd_q,rd_q,show((10^x:Nat):Rat)*((10:Int):Rat)=((10^(x+1):Nat):Rat) from by rw [Nat.pow_succ];push_cast;rfl] at hm
    refine aw_dr 3 ty_mixed (by kernel_rfl) ?_
    all_goals try(have Z:=(oj hn_g2 (oj d1 (oj f0 (oj f1 (oj f2 hn_g10)))));(repeat' first|refine yA1 Z ?_|(refine yC2 Z (h10) ?_)|(refine yD2 Z (h10) ?_)|(refine yC2 Z (hm) ?_)|(refine yD2 Z (hm) ?_)|refine zW Z ?_|refine yP Z ?_|refine yN Z ?_|refine zC Z (fun hb=>?_) fun hb=>?_|refine zG Z (fun hb=>?_) fun hb=>?_|refine zD Z (fun hb=>?_) fun hb=>?_);all_goals clear Z)
    exact aw_stop ⟨x+1,by omega,(zB (oj hn_g2 (oj d1 (oj f0 (oj f1 (oj f2 hn_g10)))))),List.Sublist.refl _,by omega⟩
   ·obtain rfl:x=b.length:=by omega
    refine aw_dr 8 ty_mixed (by kernel_rfl) ?_
    all_goals try(have Z:=(oj hn_g2 (oj d1 (oj f0 (oj f1 (oj f2 hn_g10)))));(repeat' first|refine yA1 Z ?_|(refine yC2 Z (hw2) ?_)|(refine yD2 Z (hw2) ?_)|(refine yC2 Z (hd) ?_)|(refine yD2 Z (hd) ?_)|refine zW Z ?_|refine yP Z ?_|refine yN Z ?_|refine zC Z (fun hb=>?_) fun hb=>?_|refine zG Z (fun hb=>?_) fun hb=>?_|refine zD Z (fun hb=>?_) fun hb=>?_);all_goals clear Z)
    refine yT hC (oj hn_g2 (oj d1 (oj f0 (oj f1 (oj f2 hn_g10))))) ?_
    exact .tup ⟨.agg lerl_rd,.c (ler_err0 rfl),trivial⟩
end Go.Proofs.YteehccacfedolaaGreat
namespace Go.PN
open Go.AI
variable {α β γ δ : Type}
def bnd (f:PS→α×PS) (k:α→PS→β×PS) (s:PS):β×PS:=k (f s).1 (f s).2
structure Rdr (f:PS→α×PS):Prop where
 suf:∀s,(f s).2.l<:+s.l
 stk:∀s,s.e≠0→(f s).2=s
theorem Rdr.bnd {f:PS→α×PS} {k:α→PS→β×PS} (hf:Rdr f) (hk:∀a,Rdr (k a)):Rdr (bnd f k):=
 ⟨fun s=>((hk _).suf _).trans (hf.suf s),fun s h=>by
  have h1:=hf.stk s h
  show(k (f s).1 (f s).2).2=s
  rw [h1]
  exact(hk _).stk s h⟩
theorem rdr_pure (a:α):Rdr fun s=>(a,s):=⟨fun _=>List.suffix_refl _,fun _ _=>rfl⟩
theorem rdr_take (m:PS→Bool):Rdr fun s=>takeS (m s) s:=by
 refine⟨fun s=> ?_,fun s h=> ?_⟩
 ·unfold takeS
  split
  ·split
   ·rename_i h;rw [h];exact List.suffix_refl _
   ·rename_i t l h
    rw [h]
    split
    ·exact List.suffix_cons t l
    ·exact List.suffix_refl _
  ·exact List.suffix_refl _
 ·unfold takeS
  rw [if_neg h]
theorem rdr_fail (c:PS→Int) (a:α):Rdr fun s=>(a,failS (c s) s):=by
 refine⟨fun s=> ?_,fun s h=> ?_⟩
 ·show(failS (c s) s).l<:+s.l
  unfold failS
  split<;>exact List.suffix_refl _
 ·show failS (c s) s=s
  unfold failS
  rw [if_neg h]
theorem rdr_ite {c:PS→Prop} [DecidablePred c] {f g:PS→α×PS} (hf:Rdr f) (hg:Rdr g):Rdr fun s=>if c s then f s else g s:=by
 refine⟨fun s=> ?_,fun s h=> ?_⟩
 ·show(if c s then f s else g s).2.l<:+s.l
  split
  ·exact hf.suf s
  ·exact hg.suf s
 ·show(if c s then f s else g s).2=s
  split
  ·exact hf.stk s h
  ·exact hg.stk s h
theorem rdr_loop {c:PS→Bool} {b:α→PS→α×PS} (hb:∀a,Rdr (b a)):∀(n:Nat) (a:α),Rdr (loopS c b n a):=by
 intro n
 induction n with
 |zero=>exact fun a=>rdr_pure a
 |succ n ih=>
  intro a
  refine⟨fun s=> ?_,fun s h=> ?_⟩
  ·unfold loopS
   split
   ·exact((ih _).suf _).trans ((hb a).suf s)
   ·exact List.suffix_refl _
  ·unfold loopS
   rw [if_neg (fun x=>h x.1)]
theorem rdr_lp {c:PS→Bool} {b:α→PS→α×PS} (hb:∀a,Rdr (b a)) (a:α):Rdr (lpS c b a):=
 ⟨fun s=>(rdr_loop hb _ a).suf s,fun s h=>(rdr_loop hb _ a).stk s h⟩
theorem rdr_word:Rdr wordS:=rdr_take _
theorem rdr_takeR (k:Nat) (w:BS):Rdr fun s=>takeR s k w:=rdr_take fun s=>nextR s k w
theorem rdr_exp (w:BS):Rdr fun s=>((),expS w s):=⟨fun s=>(rdr_take fun s=>isS s w).suf s,fun s h=>(rdr_take fun s=>isS s w).stk s h⟩
theorem rdr_tk (k:Nat) (w:BS):Rdr fun s=>((),(takeR s k w).2):=⟨fun s=>(rdr_takeR k w).suf s,fun s h=>(rdr_takeR k w).stk s h⟩
theorem rdr_num:Rdr numS:=by
 have h:=rdr_take fun s=>kindS s 1
 refine⟨fun s=> ?_,fun s h0=> ?_⟩
 ·have h1:=h.suf s
  unfold numS
  dsimp only
  split
  ·split
   ·exact h1
   ·exact h1
  ·exact h1
 ·have h1:=h.stk s h0
  unfold numS
  dsimp only at h1⊢
  rw [h1,if_neg h0]
theorem wholeS_val {s:PS} (h:(numS s).2.e≠0):(numS s).1=rd0:=by
 unfold numS at h⊢
 dsimp only at h⊢
 split
 ·rename_i h1
  rw [if_pos h1] at h
  dsimp only at h⊢
  split at h
  ·exact absurd h1 h
  ·rename_i h2
   unfold valR
   rw [if_neg h2]
 ·rfl
theorem rdr_whole:Rdr wholeS:=by
 refine⟨fun s=> ?_,fun s h0=> ?_⟩
 ·have h1:=rdr_num.suf s
  unfold wholeS
  dsimp only
  split
  ·split
   ·split
    ·exact h1
    ·exact h1
   ·exact h1
  ·exact h1
 ·have h1:=rdr_num.stk s h0
  unfold wholeS
  dsimp only
  rw [h1,if_neg h0]
theorem rdr_input:Rdr inputS:=rdr_ite (c:=fun s=>isS s kAt=true) (Rdr.bnd (rdr_exp kAt) fun _=>Rdr.bnd rdr_word fun t=>rdr_pure (64::t)) rdr_word
def TksOk (l:List TK):Prop:=∀t∈l,TkOk t
theorem TksOk.suf {l r:List TK} (h:TksOk l) (hs:r<:+l):TksOk r:=fun t ht=>h t (hs.subset ht)
theorem wordR_eq:wordR=wordS:=by
 funext s
 unfold wordR wordS takeR
 rw [show nextR s 0 []=kindS s 0 from by unfold nextR kindS;simp]
theorem numR_eq:numR=numS:=by
 funext s
 have:takeR s 1 []=takeS (kindS s 1) s:=by unfold takeR;congr 1;unfold nextR kindS;simp
 unfold numR numS
 rw [this]
theorem intQ_zero:intQ rd0.q=some 0:=by
 rw [show rd0.q=0 from by have:=rd_q 0;rwa [rd_zero] at this]
 rfl
theorem wholeR_eq:wholeR=wholeS:=by
 funext s
 unfold wholeR wholeS
 rw [numR_eq]
 dsimp only
 by_cases h:(numS s).2.e=0
 ·rw [if_pos h]
  cases intQ (numS s).1.q with
  |none=>dsimp only;rw [if_pos h]
  |some n=>
   dsimp only
   by_cases h1:0≤n∧n≤1073741824
   ·rw [if_pos h1,if_neg (fun x=>x.2 h1),if_pos h]
   ·rw [if_neg h1,if_pos ⟨h,h1⟩,if_pos h]
 ·rw [if_neg h,wholeS_val h,intQ_zero]
  dsimp only
  rw [if_neg (fun x=>h x.1),if_neg h]
def isWd (w:BS):Bool:=w !=[]&&isLet (bAt w 0)
def isSg (w:BS):Bool:=w.length==1&&isSgn (bAt w 0)
theorem let_no {n:Nat} (h1:isLet n=true) (h2:isSgn n=true):False:=by
 unfold isLet at h1
 unfold isSgn at h2
 simp only [Bool.or_eq_true,Bool.and_eq_true,decide_eq_true_eq,beq_iff_eq] at h1 h2
 omega
theorem isS_sg {s:PS} (hk:TksOk s.l) {w:BS} (hw:isSg w=true):isS s w=nextR s 2 w:=by
 simp only [isSg,Bool.and_eq_true,beq_iff_eq] at hw
 unfold isS nextR
 congr 1
 cases hl:s.l with
 |nil=>rfl
 |cons t l=>
  have ok:=hk t (by rw [hl];exact List.mem_cons_self)
  dsimp only
  by_cases e:t.text=w
  ·have hk2:t.kind=2:=by
    have:=ok.kind
    by_cases h0:t.kind=0
    ·exact(let_no (by have:=ok.word h0;rwa [e] at this) hw.2).elim
    ·by_cases h1:t.kind=1
     ·have h3:=ok.num h1
      rw [e] at h3
      have h4:=hw.2
      unfold isDig at h3
      unfold isSgn at h4
      simp only [Bool.or_eq_true,Bool.and_eq_true,decide_eq_true_eq,beq_iff_eq] at h3 h4
      omega
     ·omega
   rw [e,hk2];simp
  ·have e1:(t.text==w)=false:=by simp [e]
   have e2:(w==[])=false:=by
    cases w with
    |nil=>simp at hw
    |cons a b=>rfl
   rw [e1,e2];simp
theorem isS_wd {s:PS} (hk:TksOk s.l) {w:BS} (hw:isWd w=true):isS s w=nextR s 0 w:=by
 simp only [isWd,Bool.and_eq_true,bne_iff_ne,ne_eq] at hw
 unfold isS nextR
 congr 1
 cases hl:s.l with
 |nil=>rfl
 |cons t l=>
  have ok:=hk t (by rw [hl];exact List.mem_cons_self)
  dsimp only
  by_cases e:t.text=w
  ·have hk2:t.kind=0:=by
    have:=ok.kind
    by_cases h2:t.kind=2
    ·exact(let_no hw.2 (by have:=(ok.sgn h2).2;rwa [e] at this)).elim
    ·by_cases h1:t.kind=1
     ·have h3:=ok.num h1
      rw [e] at h3
      have h4:=hw.2
      unfold isDig at h3
      unfold isLet at h4
      simp only [Bool.or_eq_true,Bool.and_eq_true,decide_eq_true_eq,beq_iff_eq] at h3 h4
      omega
     ·omega
   rw [e,hk2];simp
  ·have e1:(t.text==w)=false:=by simp [e]
   have e2:(w==[])=false:=by
    cases w with
    |nil=>exact absurd rfl hw.1
    |cons a b=>rfl
   rw [e1,e2];simp
theorem exp_sg {s:PS} (hk:TksOk s.l) {w:BS} (hw:isSg w=true):expS w s=(takeR s 2 w).2:=by unfold expS takeR;rw [isS_sg hk hw]
theorem exp_wd {s:PS} (hk:TksOk s.l) {w:BS} (hw:isWd w=true):expS w s=(takeR s 0 w).2:=by unfold expS takeR;rw [isS_wd hk hw]
theorem input_eq {s:PS} (hk:TksOk s.l):inputS s=inputR s:=by
 unfold inputS inputR
 rw [isS_sg hk (by rfl),exp_sg hk (by rfl),wordR_eq]
def Agr (R:α→β→Prop) (f:PS→α×PS) (g:PS→β×PS):Prop:=
 ∀s,TksOk s.l→s.e=0→(f s).2.e=(g s).2.e∧((f s).2.e=0→(f s).2=(g s).2∧R (f s).1 (g s).1)
theorem Agr.bnd {R:α→β→Prop} {T:γ→δ→Prop} {f:PS→α×PS} {g:PS→β×PS} {k:α→PS→γ×PS} {k':β→PS→δ×PS} (h:Agr R f g) (hf:Rdr f) (hk:∀a b,R a b→Agr T (k a) (k' b)) (r:∀a,Rdr (k a)) (r':∀b,Rdr (k' b)):Agr T (PN.bnd f k) (PN.bnd g k'):=by
 intro s ok e0
 obtain⟨h1,h2⟩:=h s ok e0
 show((k (f s).1 (f s).2).2.e=(k' (g s).1 (g s).2).2.e)∧_
 by_cases e1:(f s).2.e=0
 ·obtain⟨h3,h4⟩:=h2 e1
  have:=hk _ _ h4 (f s).2 (ok.suf (hf.suf s)) e1
  unfold PN.bnd
  rw [←h3]
  exact this
 ·have e3:=(r (f s).1).stk _ e1
  have e4:=(r' (g s).1).stk _ (by rw [←h1];exact e1)
  rw [e3,e4]
  exact⟨h1,fun x=>absurd (show(k (f s).1 (f s).2).2.e=0 from x) (by rw [e3];exact e1)⟩
theorem Agr.of_eq {f:PS→α×PS} {g:PS→α×PS} (h:∀s,TksOk s.l→f s=g s):Agr Eq f g:=fun s ok _=>by rw [h s ok];exact⟨rfl,fun _=>⟨rfl,rfl⟩⟩
theorem Agr.pure {R:α→β→Prop} {a:α} {b:β} (h:R a b):Agr R (fun s=>(a,s)) (fun s=>(b,s)):=fun _ _ _=>⟨rfl,fun _=>⟨rfl,h⟩⟩
theorem Agr.loop {R:α→β→Prop} {T:γ→δ→Prop} {c c':PS→Bool} {b:α→PS→α×PS} {b':β→PS→β×PS} {k:α→PS→γ×PS} {k':β→PS→δ×PS}
  (rb:∀a,Rdr (b a)) (rk:∀a,Rdr (k a)) (rk':∀a,Rdr (k' a)) (hd:∀a s,s.e=0→c s=true→mS (b a s).2<mS s) (hd':∀a s,s.e=0→c' s=true→mS (b' a s).2<mS s)
  (h11:∀a a' s,R a a'→TksOk s.l→s.e=0→c s=true→c' s=true→(b a s).2.e=(b' a' s).2.e∧((b a s).2.e=0→(b a s).2=(b' a' s).2∧R (b a s).1 (b' a' s).1))
  (h10:∀(a:α) (a':β) s,TksOk s.l→s.e=0→c s=true→c' s=false→False)
  (h01:∀(a:α) (a':β) s,TksOk s.l→s.e=0→c s=false→c' s=true→(k a s).2.e≠0∧(b' a' s).2.e=(k a s).2.e)
  (h00:∀a a' s,R a a'→TksOk s.l→s.e=0→c s=false→c' s=false→(k a s).2.e=(k' a' s).2.e∧((k a s).2.e=0→(k a s).2=(k' a' s).2∧T (k a s).1 (k' a' s).1)):
  ∀a a',R a a'→Agr T (PN.bnd (lpS c b a) k) (PN.bnd (lpS c' b' a') k'):=by
 intro a a' hR s
 generalize hn:mS s=n
 induction n using Nat.strongRecOn generalizing a a' s with
 |_ n ih=>
  intro ok e0
  cases hc:c s with
  |true=>
   cases hc':c' s with
   |false=>exact(h10 a a' s ok e0 hc hc').elim
   |true=>
    obtain⟨h1,h2⟩:=h11 a a' s hR ok e0 hc hc'
    have l1:=hd a s e0 hc
    have l2:=hd' a' s e0 hc'
    have s1:PN.bnd (lpS c b a) k s=PN.bnd (lpS c b (b a s).1) k (b a s).2:=by unfold PN.bnd;rw [lpS_step hd e0 hc]
    have s2:PN.bnd (lpS c' b' a') k' s=PN.bnd (lpS c' b' (b' a' s).1) k' (b' a' s).2:=by unfold PN.bnd;rw [lpS_step hd' e0 hc']
    rw [s1,s2]
    by_cases e1:(b a s).2.e=0
    ·obtain⟨h3,h4⟩:=h2 e1
     rw [←h3]
     exact ih _ om _ _ h4 _ rfl (ok.suf ((rb a).suf s)) e1
    ·have q1:PN.bnd (lpS c b (b a s).1) k (b a s).2=k (b a s).1 (b a s).2:=by unfold PN.bnd;rw [lpS_end (fun x=>e1 x.1)]
     have q2:PN.bnd (lpS c' b' (b' a' s).1) k' (b' a' s).2=k' (b' a' s).1 (b' a' s).2:=by unfold PN.bnd;rw [lpS_end (fun x=>e1 (h1.trans x.1))]
     rw [q1,q2,(rk _).stk _ e1,(rk' _).stk _ (by rw [←h1];exact e1)]
     exact⟨h1,fun x=>absurd x e1⟩
  |false=>
   have q1:PN.bnd (lpS c b a) k s=k a s:=by unfold PN.bnd;rw [lpS_end (fun x=>by rw [hc] at x;exact absurd x.2 (by decide))]
   rw [q1]
   cases hc':c' s with
   |false=>
    have q2:PN.bnd (lpS c' b' a') k' s=k' a' s:=by unfold PN.bnd;rw [lpS_end (fun x=>by rw [hc'] at x;exact absurd x.2 (by decide))]
    rw [q2]
    exact h00 a a' s hR ok e0 hc hc'
   |true=>
    obtain⟨h1,h2⟩:=h01 a a' s ok e0 hc hc'
    have s2:PN.bnd (lpS c' b' a') k' s=k' (b' a' s).1 (b' a' s).2:=by
     unfold PN.bnd
     rw [lpS_step hd' e0 hc',lpS_end (fun x=>h1 (h2.symm.trans x.1))]
    rw [s2,(rk' _).stk _ (by rw [h2];exact h1)]
    exact⟨h2.symm,fun x=>absurd x h1⟩
def Con (f:PS→α×PS):Prop:=∀s,s.e=0→mS (f s).2<mS s
theorem con_take (m:PS→Bool):Con fun s=>takeS (m s) s:=by
 intro s h
 dsimp only
 unfold takeS mS
 rw [if_pos h,if_pos h]
 split
 ·simp
 ·rename_i t l hl
  rw [hl]
  split
  ·simp
  ·simp
theorem mS_suf {s r:PS} (h:s.e=0) (hs:r.l<:+s.l):mS r≤mS s:=by
 unfold mS
 rw [if_pos h]
 split
 ·have:=hs.length_le;omega
 ·omega
theorem rdr_mS {f:PS→α×PS} (hf:Rdr f) (s:PS):mS (f s).2≤mS s:=by
 by_cases h:s.e=0
 ·exact mS_suf h (hf.suf s)
 ·rw [hf.stk s h];exact Nat.le_refl _
theorem Con.bnd {f:PS→α×PS} {k:α→PS→β×PS} (hf:Con f) (hk:∀a,Rdr (k a)):Con (bnd f k):=fun s h=>Nat.lt_of_le_of_lt (rdr_mS (hk _) _) (hf s h)
theorem Con.ite {c:PS→Prop} [DecidablePred c] {f g:PS→α×PS} (hf:Con f) (hg:Con g):Con fun s=>if c s then f s else g s:=fun s h=>by
 show mS (if c s then f s else g s).2<mS s
 split
 ·exact hf s h
 ·exact hg s h
theorem con_word:Con wordS:=con_take _
theorem con_exp (w:BS):Con fun s=>((),expS w s):=fun s h=>con_take (fun s=>isS s w) s h
theorem con_tk (k:Nat) (w:BS):Con fun s=>((),(takeR s k w).2):=fun s h=>con_take (fun s=>nextR s k w) s h
theorem con_num:Con numS:=by
 intro s h
 have h1:=con_take (fun s=>kindS s 1) s h
 dsimp only at h1
 unfold numS
 dsimp only
 split
 ·split
  ·exact h1
  ·rename_i h2
   unfold mS at h1⊢
   rw [if_neg h2]
   rw [if_pos h]
   omega
 ·exact h1
theorem con_input:Con inputS:=Con.ite (c:=fun s=>isS s kAt=true) (Con.bnd (con_exp kAt) fun _=>Rdr.bnd rdr_word fun t=>rdr_pure (64::t)) con_word
end Go.PN
