/- Parts of one proof, laid by a program. -/
import Derived.Test.YtngjgahldnnapaaGreatDoorM00
import Derived.Test.YtngjgahldnnapaaGreatDoorM04
import Derived.Test.YtngjgahldnnapaaGreatDoorCards
import Derived.Test.YtngjgahldnnapaaGreatDoorTie
import Derived.Deep.DeepHandedRow
import Derived.Lib.LaidTab
import Derived.Test.YtngjgahldnnapaaGreatDoorProg
import Derived.Shelf.LaysM
import Derived.Shelf.Strconv.Itoa3
import Derived.LaidSub
import Derived.MakeChecks
import Derived.Deep.AppendSrc
import Derived.Lib.UnsafeStr
import Derived.Lib.Builder
import Derived.Laws.IdiomStrings
import Derived.Laws.Externs
import Derived.Lib.MakeNoZero
set_option linter.unusedSimpArgs false
set_option linter.unusedVariables false
set_option maxRecDepth 100000
set_option maxHeartbeats 12800000
namespace Go.Proofs.YtngjgahldnnapaaGreatDoor
open Go.AI Go.PN Proofs.Tryz
attribute [local irreducible] aw Fa ZN ZZ Fh YE
theorem QwE (g:Nat) (y x:YB):Fg prog 189 g (.cells 94 4 (ofL (Wx y))) [.agg (Wx x),.c (.optr g 0)] (.c (.bool (x.name==y.name))) (.cells 94 4 (ofL (Wx y))):=by
 unfold Fg
 refine fH func189 fun C hC=>?_
 refine zA o0 ?_
 refine xB fun g1 n_1=>?_
 refine zA n_1 ?_
 refine QW (h':=[(g,(.cells 94 4 (ofL (Wx y))))]) rfl sL fun R r=>?_;simp only[go_sem,n_1];refine r _ rfl ?_;clear r R
 exact⟨rfl,rfl⟩
theorem QwF (g:Nat) (y:YB) (l:List YB) (hl:l.length≤1099511627776):Fg prog 188 g (.cells 94 4 (ofL (Wx y))) [.c (grs true l),.c (fnC 189 [g])] (.c (.int .i64 (Xu (fun x=>x.name==y.name) l))) (.cells 94 4 (ofL (Wx y))):=by
 unfold Fg
 refine fH func188 fun C hC=>?_
 refine zA o0 ?_
 refine Qh (fun i:Nat=>[(0,.c (grs true l)),(1,.c (fnC 189 [g])),(4,.c (.int .i64 0)),(7,.c (.int .i64 l.length)),(8,.c (.int .i64 i))]) (fun _=>[(g,(.cells 94 4 (ofL (Wx y))))]) (fun i=>i≤l.length∧∀j,j<i→((fun x:YB=>x.name==y.name) (l.getD j gr0))=false) (fun i=>l.length-i) 0 eB zZ ⟨Lz _,fun j hj=>absurd hj om⟩ ?_
 rintro i ⟨hi,hn⟩
 repeat' first|refine zV o0 ?_|refine zH o0 ?_ ?_<;>intro hb|fail
 ·have hi':=hb
  have hf:=QwE g y (l.getD i gr0)
  refine Qa3 (args:=[.agg (Wx (l.getD i gr0))]) hf rfl rfl rfl eE eE eL ?_
  refine xS ?_
  repeat' first|refine zV o0 ?_|refine zH o0 ?_ ?_<;>intro hb|fail
  ·rw [Zc (p:=fun x:YB=>x.name==y.name) gr0 hi' (by simpa using hb) hn]
   refine xU ?_
   exact⟨rfl,rfl⟩
  ·refine Qb ⟨i+1,?_⟩
   have hn':∀j,j<i+1→((fun x:YB=>x.name==y.name) (l.getD j gr0))=false:=fun j hj=>by
    by_cases e:j=i
    ·subst e;simpa using hb
    ·exact hn j om
   and_intros
   all_goals first|rfl|exact Lr _|exact True.intro|exact hn'|omega
 ·have hf:Xu (fun x=>x.name==y.name) l= -1:=ZY gr0 (fun j hj=>hn j om)
  rw [hf]
  refine xU ?_
  exact⟨rfl,rfl⟩
theorem QwG (g:Nat) (y x:V0):Fg prog 193 g (.cells 97 3 (ofL (WR y))) [.agg (WR x),.c (.optr g 0)] (.c (.bool (x.name==y.name))) (.cells 97 3 (ofL (WR y))):=by
 unfold Fg
 refine fH func193 fun C hC=>?_
 refine zA o0 ?_
 refine xB fun g1 n_1=>?_
 refine zA n_1 ?_
 refine QW (h':=[(g,(.cells 97 3 (ofL (WR y))))]) rfl sL fun R r=>?_;simp only[go_sem,n_1];refine r _ rfl ?_;clear r R
 exact⟨rfl,rfl⟩
theorem QwH (g:Nat) (y:V0) (l:List V0) (hl:l.length≤1099511627776):Fg prog 192 g (.cells 97 3 (ofL (WR y))) [.c (phs true l),.c (fnC 193 [g])] (.c (.int .i64 (Xu (fun x=>x.name==y.name) l))) (.cells 97 3 (ofL (WR y))):=by
 unfold Fg
 refine fH func192 fun C hC=>?_
 refine zA o0 ?_
 refine Qh (fun i:Nat=>[(0,.c (phs true l)),(1,.c (fnC 193 [g])),(4,.c (.int .i64 0)),(7,.c (.int .i64 l.length)),(8,.c (.int .i64 i))]) (fun _=>[(g,(.cells 97 3 (ofL (WR y))))]) (fun i=>i≤l.length∧∀j,j<i→((fun x:V0=>x.name==y.name) (l.getD j ph0))=false) (fun i=>l.length-i) 0 eB zZ ⟨Lz _,fun j hj=>absurd hj om⟩ ?_
 rintro i ⟨hi,hn⟩
 repeat' first|refine zV o0 ?_|refine zH o0 ?_ ?_<;>intro hb|fail
 ·have hi':=hb
  have hf:=QwG g y (l.getD i ph0)
  refine Qa3 (args:=[.agg (WR (l.getD i ph0))]) hf rfl rfl rfl eE eE eL ?_
  refine xS ?_
  repeat' first|refine zV o0 ?_|refine zH o0 ?_ ?_<;>intro hb|fail
  ·rw [Zc (p:=fun x:V0=>x.name==y.name) ph0 hi' (by simpa using hb) hn]
   refine xU ?_
   exact⟨rfl,rfl⟩
  ·refine Qb ⟨i+1,?_⟩
   have hn':∀j,j<i+1→((fun x:V0=>x.name==y.name) (l.getD j ph0))=false:=fun j hj=>by
    by_cases e:j=i
    ·subst e;simpa using hb
    ·exact hn j om
   and_intros
   all_goals first|rfl|exact Lr _|exact True.intro|exact hn'|omega
 ·have hf:Xu (fun x=>x.name==y.name) l= -1:=ZY ph0 (fun j hj=>hn j om)
  rw [hf]
  refine xU ?_
  exact⟨rfl,rfl⟩
theorem QwI (g:Nat) (y x:Zp):Fg prog 195 g (.cells 99 4 (ofL (vlc y))) [.agg (vlc x),.c (.optr g 0)] (.c (.bool (x.event==y.event))) (.cells 99 4 (ofL (vlc y))):=by
 unfold Fg
 refine fH func195 fun C hC=>?_
 refine zA o0 ?_
 refine xB fun g1 n_1=>?_
 refine zA n_1 ?_
 refine QW (h':=[(g,(.cells 99 4 (ofL (vlc y))))]) rfl sL fun R r=>?_;simp only[go_sem,n_1];refine r _ rfl ?_;clear r R
 exact⟨rfl,rfl⟩
theorem QwJ (g:Nat) (y:Zp) (l:List Zp) (hl:l.length≤1099511627776):Fg prog 194 g (.cells 99 4 (ofL (vlc y))) [.c (vls true l),.c (fnC 195 [g])] (.c (.int .i64 (Xu (fun x=>x.event==y.event) l))) (.cells 99 4 (ofL (vlc y))):=by
 unfold Fg
 refine fH func194 fun C hC=>?_
 refine zA o0 ?_
 refine Qh (fun i:Nat=>[(0,.c (vls true l)),(1,.c (fnC 195 [g])),(4,.c (.int .i64 0)),(7,.c (.int .i64 l.length)),(8,.c (.int .i64 i))]) (fun _=>[(g,(.cells 99 4 (ofL (vlc y))))]) (fun i=>i≤l.length∧∀j,j<i→((fun x:Zp=>x.event==y.event) (l.getD j vl0))=false) (fun i=>l.length-i) 0 eB zZ ⟨Lz _,fun j hj=>absurd hj om⟩ ?_
 rintro i ⟨hi,hn⟩
 repeat' first|refine zV o0 ?_|refine zH o0 ?_ ?_<;>intro hb|fail
 ·have hi':=hb
  have hf:=QwI g y (l.getD i vl0)
  refine Qa3 (args:=[.agg (vlc (l.getD i vl0))]) hf rfl rfl rfl eE eE eL ?_
  refine xS ?_
  repeat' first|refine zV o0 ?_|refine zH o0 ?_ ?_<;>intro hb|fail
  ·rw [Zc (p:=fun x:Zp=>x.event==y.event) vl0 hi' (by simpa using hb) hn]
   refine xU ?_
   exact⟨rfl,rfl⟩
  ·refine Qb ⟨i+1,?_⟩
   have hn':∀j,j<i+1→((fun x:Zp=>x.event==y.event) (l.getD j vl0))=false:=fun j hj=>by
    by_cases e:j=i
    ·subst e;simpa using hb
    ·exact hn j om
   and_intros
   all_goals first|rfl|exact Lr _|exact True.intro|exact hn'|omega
 ·have hf:Xu (fun x=>x.event==y.event) l= -1:=ZY vl0 (fun j hj=>hn j om)
  rw [hf]
  refine xU ?_
  exact⟨rfl,rfl⟩
theorem Qt8 (r:RD) (hw:r.wf 1073741824):Fa prog 191 [.agg (Y1 r)] (.c (.bool (!r.prob))):=by
 have f1:=QbG r hw
 refine fA func191 fun C hC=>?_
 refine zA o0 ?_
 refine xB fun g1 n_1=>?_
 refine Zo n_1 f1 ?_
 refine yT hC n_1 ?_
 exact .one (.c (.bool _))
theorem Qt9 (l:List RD) (hl:l.length≤1099511627776) (hw:∀i,(l.getD i rd0).wf 1073741824):Fa prog 292 [.c (VQ true l),.c (.raw (.func (.func 191) #[] #[]))] (.c (.int .i64 (Xu (fun x=> !x.prob) l))):=by
 refine fA func292 fun C hC=>?_
 refine zA o0 ?_
 refine Qh (fun i:Nat=>[(0,.c (VQ true l)),(1,.c (.raw (.func (.func 191) #[] #[]))),(4,.c (.int .i64 0)),(7,.c (.int .i64 l.length)),(8,.c (.int .i64 i))]) (fun _=>[]) (fun i=>i≤l.length∧∀j,j<i→((fun x:RD=> !x.prob) (l.getD j rd0))=false) (fun i=>l.length-i) 0 eB zZ ⟨Lz _,fun j hj=>absurd hj om⟩ ?_
 rintro i ⟨hi,hn⟩
 repeat' first|refine zV o0 ?_|refine zH o0 ?_ ?_<;>intro hb|fail
 ·have hi':=hb
  have hf:=Qt8 (l.getD i rd0) (hw i)
  refine QcH hf rfl rfl rfl eE eL ?_
  refine xS ?_
  repeat' first|refine zV o0 ?_|refine zH o0 ?_ ?_<;>intro hb|fail
  ·rw [Zc (p:=fun x:RD=> !x.prob) rd0 hi' (by simpa using hb) hn]
   refine xT hC ?_
   exact .one (.c (.int _ _))
  ·refine Qb ⟨i+1,?_⟩
   have hn':∀j,j<i+1→((fun x:RD=> !x.prob) (l.getD j rd0))=false:=fun j hj=>by
    by_cases e:j=i
    ·subst e;simpa using hb
    ·exact hn j om
   and_intros
   all_goals first|rfl|exact Lr _|exact True.intro|exact hn'|omega
 ·have hf:Xu (fun x:RD=> !x.prob) l= -1:=ZY rd0 (fun j hj=>hn j om)
  rw [hf]
  refine xT hC ?_
  exact .one (.c (.int _ _))
theorem Qjm {α:Type} (p:α→Bool):∀l:List α,decide (Xu (fun x=> !p x) l≥0)= !l.all p
 |[]=>rfl
 |x::l=>by
  have ih:=Qjm p l
  show decide ((if(!p x)=true then(0:Int) else if Xu (fun x=> !p x) l<0 then-1 else Xu (fun x=> !p x) l+1)≥0)= !(p x&&l.all p)
  cases h:p x with
  |false=>rfl
  |true=>
   rw [iN (by simp),Bool.true_and,←ih]
   by_cases h2:Xu (fun x=> !p x) l<0
   ·have a:¬Xu (fun x=> !p x) l≥0:=by omega
    rw [iP h2,De a];rfl
   ·have a:Xu (fun x=> !p x) l≥0:=by omega
    have b:Xu (fun x=> !p x) l+1≥0:=by omega
    rw [iN h2,Dt a,Dt b]
theorem Qua (l:List RD) (hl:l.length≤1099511627776) (hw:∀i,(l.getD i rd0).wf 1073741824):Fa prog 190 [.c (VQ true l),.c (.raw (.func (.func 191) #[] #[]))] (.c (.bool (!l.all RD.prob))):=by
 have f1:=Qt9 l hl hw
 have f2:=Qjm RD.prob l
 refine fA func190 fun C hC=>?_
 refine Zo o0 f1 ?_
 refine xT hC ?_
 exact .one (.c (Qp f2))
end Go.Proofs.YtngjgahldnnapaaGreatDoor
namespace Go.PN
open Go.AI
structure QvW (m:Qv):Prop where
 l:m.phases.length≤1099511627776
 ph:∀i,(m.phases.getD i ph0).name.length≤1099511627776∧(m.phases.getD i ph0).top.length≤1099511627776∧(m.phases.getD i ph0).values.length≤1099511627776
 vl:∀i k,(((m.phases.getD i ph0).values.getD k vl0)).p.wf 1073741824
theorem Kd {α σ:Type} {f:Nat→α→σ→Int×σ} {l:List α} {d:α} {i:Nat} {s:σ} {F:Int×σ} (h:X1 f (l.drop i) i s=F) (hi:i<l.length) {r:Int×σ} (hc:f i (l.getD i d) s=r) (h0:r.1≠0):F=r:=by
 rw [Qgr d hi,hc,iN h0] at h
 exact h.symm
theorem Jw {α σ:Type} {f:Nat→α→σ→Int×σ} {l:List α} {d:α} {i:Nat} {s:σ} {F:Int×σ} (h:X1 f (l.drop i) i s=F) (hi:i<l.length) {r:Int×σ} (hc:f i (l.getD i d) s=r) (h0:r.1=0):X1 f (l.drop (i+1)) (i+1) r.2=F:=by
 rw [Qgr d hi,hc,iP h0] at h
 exact h
theorem YV {α σ:Type} {f:Nat→α→σ→Int×σ} {l:List α} {i:Nat} {s:σ} {F:Int×σ} (h:X1 f (l.drop i) i s=F) (hi:¬i<l.length):F=(0,s):=by
 rw [Qq5 hi] at h
 exact h.symm
structure QvX (m:Qv):Prop where
 l:m.groups.length≤1099511627776
 gr:∀i,(m.groups.getD i gr0).name.length≤1099511627776∧(m.groups.getD i gr0).members.length≤1048576∧(m.groups.getD i gr0).factors.length≤1099511627776
 fa:∀i k,((m.groups.getD i gr0).factors.getD k rd0).wf 1073741824
section
variable {α β γ : Type}
abbrev BG:Nat:=1048576
def TB (s:PS):Prop:=∀t∈s.l,t.text.length≤BG
theorem TB.suf {s r:PS} (h:TB s) (hs:r.l<:+s.l):TB r:=fun t ht=>h t (hs.subset ht)
def SzO (P:α→Prop) (f:PS→α×PS):Prop:=∀s,TB s→P (f s).1
theorem SzO.bnd {P:α→Prop} {Q:β→Prop} {f:PS→α×PS} {k:α→PS→β×PS} (h:SzO P f) (hf:Rdr f) (hk:∀a,P a→SzO Q (k a)):SzO Q (bnd f k):=fun s hs=>hk _ (h s hs) _ (hs.suf (hf.suf s))
theorem SzO.pure {P:α→Prop} {a:α} (h:P a):SzO P fun s=>(a,s):=fun _ _=>h
theorem SzO.unit {f:PS→Unit×PS}:SzO (fun _=>True) f:=fun _ _=>trivial
abbrev Ks (r:RD):Prop:=r.wf 1000
theorem ZU:Ks rd0:=⟨fun x hx=>(by cases hx),fun x hx=>(by cases hx),Lz _,Lz _⟩
def GrO (P:α→Prop) (N:Nat) (a:List α) (s:PS):Prop:=TB s∧a.length+mS s≤N∧∀x∈a,P x
abbrev NG:Nat:=1048576
def EvO (x:X3):Prop:=x.name.length≤BG∧Ks x.p∧Ks x.fail∧Ks x.rep
def HsO (x:Vx):Prop:=x.name.length≤BG
def GtO (x:Xe):Prop:=x.name.length≤BG∧Ks x.dorm∧x.inputs.length≤NG∧∀i∈x.inputs,i.length≤BG+1
def PgO (x:Yz):Prop:=x.name.length≤BG∧x.top.length≤BG+1∧x.gates.length≤NG∧∀g∈x.gates,GtO g
def Qub (x:YB):Prop:=x.name.length≤BG∧x.members.length≤NG∧(∀n∈x.members,n.length≤BG)∧x.factors.length≤NG∧∀r∈x.factors,Ks r
def VlO (x:Zp):Prop:=x.event.length≤BG∧Ks x.p
def PhO (x:V0):Prop:=x.name.length≤BG∧x.top.length≤BG+1∧x.values.length≤NG∧∀v∈x.values,VlO v
def ZH (P:α→Prop) (f:PS→α×PS):Prop:=∀s,TB s→mS s≤NG→P (f s).1
theorem SzO.n {P:α→Prop} {f:PS→α×PS} (h:SzO P f):ZH P f:=fun s hs _=>h s hs
theorem ZH.bnd {P:α→Prop} {Q:β→Prop} {f:PS→α×PS} {k:α→PS→β×PS} (h:ZH P f) (hf:Rdr f) (hk:∀a,P a→ZH Q (k a)):ZH Q (bnd f k):=fun s hs hm=>hk _ (h s hs hm) _ (hs.suf (hf.suf s)) (Lt (QcJ hf s) hm)
theorem ZH.pure {P:α→Prop} {a:α} (h:P a):ZH P fun s=>(a,s):=fun _ _ _=>h
theorem ZH.unit {f:PS→Unit×PS}:ZH (fun _=>True) f:=fun _ _ _=>trivial
structure Jb (m:Qv):Prop where
 nm:m.name.length≤BG
 tp:m.top.length≤BG+1
 ev:m.events.length≤NG∧∀x∈m.events,EvO x
 hs:m.houses.length≤NG∧∀x∈m.houses,HsO x
 gt:m.gates.length≤NG∧∀x∈m.gates,GtO x
 pg:m.pages.length≤NG∧∀x∈m.pages,PgO x
 gr:m.groups.length≤NG∧∀x∈m.groups,Qub x
 ph:m.phases.length≤NG∧∀x∈m.phases,PhO x
structure MdR (m:Qv) (s:PS):Prop where
 nm:m.name.length≤BG
 tp:m.top.length≤BG+1
 ev:GrO EvO NG m.events s
 hs:GrO HsO NG m.houses s
 gt:GrO GtO NG m.gates s
 pg:GrO PgO NG m.pages s
 gr:GrO Qub NG m.groups s
 ph:GrO PhO NG m.phases s
theorem Qao {P:α→Prop} {N:Nat} {a:List α} {s s':PS} (h:GrO P N a s) (hs:s'.l<:+s.l) (hm:mS s'≤mS s):GrO P N a s':=⟨h.1.suf hs,by have:=h.2.1;omega,h.2.2⟩
theorem MdR.keep {m:Qv} {s s':PS} (h:MdR m s) (hs:s'.l<:+s.l) (hm:mS s'≤mS s):MdR m s':=
 ⟨h.nm,h.tp,Qao h.ev hs hm,Qao h.hs hs hm,Qao h.gt hs hm,Qao h.pg hs hm,Qao h.gr hs hm,Qao h.ph hs hm⟩
theorem Xw {P:α→Prop} {l:List α} {d:α} (h:∀x∈l,P x) (hd:P d) (i:Nat):P (l.getD i d):=by
 rw [Lg]
 by_cases hi:i<l.length
 ·rw [Li hi];exact h _ (Le hi)
 ·rw [List.getElem?_eq_none om];exact hd
theorem Qyc:GtO gt0:=⟨Lz _,ZU,Lz _,fun _ h=>by cases h⟩
theorem Qyd:PgO pg0:=⟨Lz _,Lz _,Lz _,fun _ h=>by cases h⟩
theorem Jb.pgi {m:Qv} (h:Jb m) (i:Nat):PgO (m.pages.getD i pg0):=Xw h.pg.2 Qyd i
theorem Jb.gts {m:Qv} (h:Jb m):∀k,(Qt m k).length≤NG∧∀g∈Qt m k,GtO g
 |0=>h.gt
 |k+1=>(h.pgi k).2.2
theorem Jb.gti {m:Qv} (h:Jb m) (k i:Nat):GtO ((Qt m k).getD i gt0):=Xw (h.gts k).2 Qyc i
theorem Ks.w {r:RD} (h:Ks r):r.wf 1073741824:=h.mono Af
theorem Ks.m {r:RD} (h:Ks r):r.wf 500000000:=h.mono Af
theorem Jb.ok {m:Qv} (h:Jb m):Go.Proofs.YtngjgahldnnapaaGreatDoor.MdOk m:=⟨Lt h.ev.1 Af,Lt h.hs.1 Af,Lt h.gt.1 Af,Lt h.pg.1 Af,fun p hp=>Lt (h.pg.2 p hp).2.2.1 Af⟩
theorem QvY:EvO ev0:=⟨Lz _,ZU,ZU,ZU⟩
theorem Qye:HsO hs0:=Lz _
theorem Qrc:Qub gr0:=⟨Lz _,Lz _,fun _ h=>(by cases h),Lz _,fun _ h=>(by cases h)⟩
theorem Qrd:PhO ph0:=⟨Lz _,Lz _,Lz _,fun _ h=>by cases h⟩
theorem QvZ:VlO vl0:=⟨Lz _,ZU⟩
theorem Jb.wf {m:Qv} (h:Jb m):Qyb m:=⟨Lt h.nm Af,fun i=>by
 obtain⟨a,b⟩:=Xw h.ev.2 QvY i
 exact⟨Lt a Af,Ks.w b.1,Ks.w b.2.1,Ks.w b.2.2⟩,fun i=>Lt (Xw h.hs.2 Qye i) Af⟩
theorem Jb.wf2 {m:Qv} (h:Jb m):Qdq m:=⟨fun i=>⟨Lt (h.pgi i).1 Af,(h.pgi i).2.2.1⟩,h.gt.1,h.pg.1,fun k i=>by
 obtain⟨a,b,c,_⟩:=h.gti k i
 exact⟨Lt a Af,Ks.w b,Lt c Af⟩⟩
theorem Jb.wf3 {m:Qv} (h:Jb m):QvW m:=⟨Lt h.ph.1 Af,fun i=>by
 obtain⟨a,b,c,_⟩:=Xw h.ph.2 Qrd i
 exact⟨Lt a Af,Lt b Af,Lt c Af⟩,fun i k=>Ks.w (Xw (Xw h.ph.2 Qrd i).2.2.2 QvZ k).2⟩
theorem Jb.wf4 {m:Qv} (h:Jb m):QvX m:=⟨Lt h.gr.1 Af,fun i=>by
 obtain⟨a,b,_,d,_⟩:=Xw h.gr.2 Qrc i
 exact⟨Lt a Af,b,Lt d Af⟩,fun i k=>Ks.w (Xw (Xw h.gr.2 Qrc i).2.2.2.2 ZU k)⟩
theorem Jb.inl {m:Qv} (h:Jb m) (k i j:Nat):(((Qt m k).getD i gt0).inputs.getD j []).length≤1099511627776:=
 Lt (Xw (P:=fun x:BS=>x.length≤BG+1) (h.gti k i).2.2.2 (Lz _) j) Af
end
section
def RdU (n:Nat) (r:RD):Prop:=r.wf n
def EvU (n:Nat) (x:X3):Prop:=x.name.length≤n∧RdU n x.p∧RdU n x.fail∧RdU n x.rep∧ -9223372036854775808≤x.cost∧x.cost<9223372036854775808
def HsU (n:Nat) (x:Vx):Prop:=x.name.length≤n
def InU (n:Nat) (l:List BS):Prop:=l.length≤n∧∀i∈l,i.length≤n
def GtU (n:Nat) (x:Xe):Prop:=x.name.length≤n∧(-9223372036854775808≤x.kind∧x.kind<9223372036854775808)∧(-9223372036854775808≤x.k∧x.k<9223372036854775808)∧InU n x.inputs∧RdU n x.dorm
def GsU (n:Nat) (l:List Xe):Prop:=l.length≤n∧∀g∈l,GtU n g
def PgU (n:Nat) (x:Yz):Prop:=x.name.length≤n∧x.top.length≤n∧GsU n x.gates
def RsU (n:Nat) (l:List RD):Prop:=l.length≤n∧∀r∈l,RdU n r
def GrU (n:Nat) (x:YB):Prop:=x.name.length≤n∧(-9223372036854775808≤x.kind∧x.kind<9223372036854775808)∧InU n x.members∧RsU n x.factors
def VlU (n:Nat) (x:Zp):Prop:=x.event.length≤n∧RdU n x.p
def PhU (n:Nat) (x:V0):Prop:=x.name.length≤n∧x.top.length≤n∧x.values.length≤n∧∀v∈x.values,VlU n v
structure MdU (n:Nat) (m:Qv):Prop where
 nm:m.name.length≤n
 tp:m.top.length≤n
 ev:m.events.length≤n∧∀x∈m.events,EvU n x
 hs:m.houses.length≤n∧∀x∈m.houses,HsU n x
 gt:GsU n m.gates
 pg:m.pages.length≤n∧∀x∈m.pages,PgU n x
 gr:m.groups.length≤n∧∀x∈m.groups,GrU n x
 ph:m.phases.length≤n∧∀x∈m.phases,PhU n x
section
variable {m n : Nat}
theorem RdU.mono {r:RD} (h:RdU m r) (hm:m≤n):RdU n r:=RD.wf.mono h hm
theorem EvU.mono {x:X3} (h:EvU m x) (hm:m≤n):EvU n x:=⟨Lt h.1 hm,h.2.1.mono hm,h.2.2.1.mono hm,h.2.2.2.1.mono hm,h.2.2.2.2⟩
theorem HsU.mono {x:Vx} (h:HsU m x) (hm:m≤n):HsU n x:=Lt h hm
theorem InU.mono {l:List BS} (h:InU m l) (hm:m≤n):InU n l:=⟨Lt h.1 hm,fun i hi=>Lt (h.2 i hi) hm⟩
theorem GtU.mono {x:Xe} (h:GtU m x) (hm:m≤n):GtU n x:=⟨Lt h.1 hm,h.2.1,h.2.2.1,h.2.2.2.1.mono hm,h.2.2.2.2.mono hm⟩
theorem GsU.mono {l:List Xe} (h:GsU m l) (hm:m≤n):GsU n l:=⟨Lt h.1 hm,fun i hi=>(h.2 i hi).mono hm⟩
theorem PgU.mono {x:Yz} (h:PgU m x) (hm:m≤n):PgU n x:=⟨Lt h.1 hm,Lt h.2.1 hm,h.2.2.mono hm⟩
theorem RsU.mono {l:List RD} (h:RsU m l) (hm:m≤n):RsU n l:=⟨Lt h.1 hm,fun i hi=>(h.2 i hi).mono hm⟩
theorem GrU.mono {x:YB} (h:GrU m x) (hm:m≤n):GrU n x:=⟨Lt h.1 hm,h.2.1,h.2.2.1.mono hm,h.2.2.2.mono hm⟩
theorem VlU.mono {x:Zp} (h:VlU m x) (hm:m≤n):VlU n x:=⟨Lt h.1 hm,h.2.mono hm⟩
theorem PhU.mono {x:V0} (h:PhU m x) (hm:m≤n):PhU n x:=⟨Lt h.1 hm,Lt h.2.1 hm,Lt h.2.2.1 hm,fun i hi=>(h.2.2.2 i hi).mono hm⟩
theorem MdU.mono {x:Qv} (h:MdU m x) (hm:m≤n):MdU n x:=⟨Lt h.nm hm,Lt h.tp hm,⟨Lt h.ev.1 hm,fun i hi=>(h.ev.2 i hi).mono hm⟩,⟨Lt h.hs.1 hm,fun i hi=>(h.hs.2 i hi).mono hm⟩,h.gt.mono hm,⟨Lt h.pg.1 hm,fun i hi=>(h.pg.2 i hi).mono hm⟩,⟨Lt h.gr.1 hm,fun i hi=>(h.gr.2 i hi).mono hm⟩,⟨Lt h.ph.1 hm,fun i hi=>(h.ph.2 i hi).mono hm⟩⟩
end
def Yr (r:RD):Bool:=decide (r.num.length≤40)&&decide (r.den.length≤40)
def Qjn (x:Xe):Bool:=decide (x.inputs.length≤40)&&Yr x.dorm
def O0 (l:List Xe):Bool:=l.all Qjn&&decide (l.length≤100)
def W6 (x:X3):Bool:=Yr x.p&&Yr x.fail&&Yr x.rep
def Qlf (x:Yz):Bool:=O0 x.gates
def Ke (x:YB):Bool:=decide (x.members.length≤60)&&decide (x.factors.length≤60)&&x.factors.all Yr
def Kg (x:V0):Bool:=decide (x.values.length≤60)&&x.values.all fun v=>Yr v.p
def Kh (m:Qv):Bool:=(decide (m.events.length≤60)&&decide (m.houses.length≤60)&&decide (m.pages.length≤30)&&decide (m.groups.length≤30)&&decide (m.phases.length≤30)&&O0 m.gates)&&(m.events.all W6&&(m.pages.all Qlf&&(m.groups.all Ke&&m.phases.all Kg)))
theorem Qap {n:Nat} {r:RD} (h:Yr r=true) (hu:RdU n r):Ks r:=by
 unfold Yr at h
 simp only [Ba,Dq] at h
 exact⟨hu.1,hu.2.1,by omega,by omega⟩
theorem Qv0 {n:Nat} {l:List Xe} (h:O0 l=true) (hu:GsU n l) (hn:n≤1048576):l.length≤NG∧∀g∈l,GtO g:=by
 refine⟨Lt hu.1 hn,fun g hg=> ?_⟩
 unfold O0 at h
 rw [Ba,List.all_eq_true] at h
 have h1:=h.1 g hg
 unfold Qjn at h1
 rw [Ba] at h1
 have u:=hu.2 g hg
 exact⟨Lt u.1 hn,Qap h1.2 u.2.2.2.2,Lt u.2.2.2.1.1 hn,fun i hi=>Nat.le_succ_of_le (Lt (u.2.2.2.1.2 i hi) hn)⟩
theorem QmY {n:Nat} {m:Qv} (h:Kh m=true) (hu:MdU n m) (hn:n≤1048576):Jb m:=by
 unfold Kh at h
 simp only [Ba] at h
 obtain⟨⟨_,h1⟩,h2,h3,h4,h5⟩:=h
 refine⟨Lt hu.nm hn,Nat.le_succ_of_le (Lt hu.tp hn),⟨Lt hu.ev.1 hn,fun x hx=> ?_⟩,⟨Lt hu.hs.1 hn,fun x hx=>Lt (hu.hs.2 x hx) hn⟩,Qv0 h1 hu.gt hn,⟨Lt hu.pg.1 hn,fun x hx=> ?_⟩,⟨Lt hu.gr.1 hn,fun x hx=> ?_⟩,⟨Lt hu.ph.1 hn,fun x hx=> ?_⟩⟩
 ·have a:=List.all_eq_true.1 h2 x hx
  unfold W6 at a
  simp only [Ba] at a
  obtain⟨u1,u2,u3,u4,_⟩:=hu.ev.2 x hx
  exact⟨Lt u1 hn,Qap a.1.1 u2,Qap a.1.2 u3,Qap a.2 u4⟩
 ·have a:=List.all_eq_true.1 h3 x hx
  obtain⟨u1,u2,u3⟩:=hu.pg.2 x hx
  exact⟨Lt u1 hn,Nat.le_succ_of_le (Lt u2 hn),Qv0 a u3 hn⟩
 ·have a:=List.all_eq_true.1 h4 x hx
  unfold Ke at a
  rw [Ba,List.all_eq_true] at a
  obtain⟨u1,_,u2,u3⟩:=hu.gr.2 x hx
  exact⟨Lt u1 hn,Lt u2.1 hn,fun i hi=>Lt (u2.2 i hi) hn,Lt u3.1 hn,fun r hr=>Qap (a.2 r hr) (u3.2 r hr)⟩
 ·have a:=List.all_eq_true.1 h5 x hx
  unfold Kg at a
  rw [Ba,List.all_eq_true] at a
  obtain⟨u1,u2,u3,u4⟩:=hu.ph.2 x hx
  exact⟨Lt u1 hn,Nat.le_succ_of_le (Lt u2 hn),Lt u3 hn,fun v hv=>⟨Lt (u4 v hv).1 hn,Qap (a.2 v hv) (u4 v hv).2⟩⟩
end
def VA (n:Nat):BS:=if h:n<10 then [UInt8.ofNat (48+n)] else VA (n/10)++[UInt8.ofNat (48+n%10)]
termination_by n
decreasing_by omega
theorem Jx {n:Nat} (h:n<10):VA n=[UInt8.ofNat (48+n)]:=by rw [VA,dif_pos h]
theorem QbK {n:Nat} (h:10≤n):VA n=VA (n/10)++[UInt8.ofNat (48+n%10)]:=by rw [VA,dif_neg om]
theorem d48 {n:Nat} (h:n<10):(UInt8.ofNat (48+n)).toNat=48+n:=by
 rw [UInt8.toNat_ofNat'];exact Nat.mod_eq_of_lt (Ae (show 48+n<58 by omega) Af)
abbrev dgB (b:UInt8):Bool:=QE b.toNat
theorem Quc {n:Nat} (h:n<10):dgB (UInt8.ofNat (48+n))=true:=by
 show QE _=true
 rw [d48 h]
 unfold QE
 simp;omega
theorem Qgs (a:BS) (x:UInt8):Yu (a++[x])=Yu a*10+(x.toNat-48):=by unfold Yu;rw [List.foldl_append];rfl
theorem Qjo:∀(k:Nat) (l:BS),l.length≤k→l≠[]→l.all dgB=true→l.headD 0≠48→0<Yu l
 |0,l,hl,h0,_,_=>absurd (Lh.1 om) h0
 |k+1,l,hl,h0,hd,hh=>by
  obtain⟨a,x,rfl⟩:∃a x,l=a++[x]:=⟨_,_,(List.dropLast_concat_getLast h0).symm⟩
  rw [Qgs]
  cases a with
  |nil=>
   have hx:dgB x=true:=by simpa using hd
   have hx2:x≠48:=hh
   have hx3:QE x.toNat=true:=hx
   unfold QE at hx3
   have h4:x.toNat≠48:=fun e=>hx2 (UInt8.toNat_inj.1 e)
   simp at hx3
   omega
  |cons c a=>
   have hd2:(c::a).all dgB=true:=by rw [List.all_append] at hd;simp only [Ba] at hd;exact hd.1
   have:=Qjo k (c::a) (by rw [La] at hl;simpa using hl) (by simp) hd2 hh
   omega
theorem Qgt:∀(k:Nat) (l:BS),l.length≤k→l≠[]→l.all dgB=true→l.headD 0≠48→l=VA (Yu l)
 |0,l,hl,h0,_,_=>absurd (Lh.1 om) h0
 |k+1,l,hl,h0,hd,hh=>by
  obtain⟨a,x,rfl⟩:∃a x,l=a++[x]:=⟨_,_,(List.dropLast_concat_getLast h0).symm⟩
  have hx:QE x.toNat=true:=by
   rw [List.all_append,Ba] at hd
   have h2:=hd.2
   rw [List.all_cons,Ba] at h2
   exact h2.1
  unfold QE at hx
  simp at hx
  have hxe:∀m,m=x.toNat-48→UInt8.ofNat (48+m)=x:=fun m hm=>by
   apply UInt8.toNat_inj.1
   rw [d48 om];omega
  rw [Qgs]
  cases a with
  |nil=>
   rw [Jx (by show 0*10+_<10;omega)]
   show [x]=_
   rw [hxe (Yu []*10+(x.toNat-48)) (by show 0*10+_=_;omega)]
  |cons c a=>
   have hd2:(c::a).all dgB=true:=by rw [List.all_append] at hd;simp only [Ba] at hd;exact hd.1
   have h1:=Qjo (a.length+1) (c::a) (by simp) (by simp) hd2 hh
   have ih:=Qgt k (c::a) (by rw [La] at hl;simpa using hl) (by simp) hd2 hh
   generalize hN:Yu (c::a)=N at*
   rw [QbK om,show(N*10+(x.toNat-48))/10=N from by omega,hxe _ om,←ih]
theorem Qre {l:BS} (h0:l≠[]) (hd:l.all dgB=true) (hh:l.headD 0≠48):l=VA (Yu l):=Qgt l.length l (Ac _) h0 hd hh
theorem QoK {n:Nat} (h:n<10):XE .i32 ((48:Int)+(n:Nat))=((48+n:Nat):Int):=by
 match n,h with
 |0,_|1,_|2,_|3,_|4,_|5,_|6,_|7,_|8,_|9,_=>rw [QN];rfl
theorem Qjp {m:Nat} (h:m<10):(Qc m).getD 0 0=m:=by
 by_cases h0:m=0
 ·subst h0;rw [QC];rfl
 ·rw [X5 h0];show m%4294967296=m;omega
theorem QoL (n:Nat) (s:BS):VA n++s=if n/10=0 then UInt8.ofNat (48+n%10)::s else VA (n/10)++UInt8.ofNat (48+n%10)::s:=by
 by_cases h:n<10
 ·rw [Jx h,iP om,Nat.mod_eq_of_lt h];rfl
 ·rw [QbK om,iN om,Lo];rfl
end Go.PN
namespace Go.Proofs.YtngjgahldnnapaaGreatDoor
open Go.AI Go.PN Proofs.Tryz
attribute [local irreducible] aw Fa ZN ZZ Fh YE
theorem QeT (m:Qv) (hm:MdOk m) (hw2:Qdq m) (hw:QvW m):Fa prog 120 [.agg (Xa true m)] (.c (Y2 (Vz m))):=by
 have hl:=hw.l
 refine fA func120 fun C hC=>?_
 refine zA o0 ?_
 refine xB fun g1 n_1=>?_
 repeat' first|refine zV n_1 ?_|refine zH n_1 ?_ ?_<;>intro hb|fail
 ·refine yT hC n_1 ?_
  exact .one (.c (QG (by unfold Vz;rw [iP om]) Af))
 have he2:Vz m=X2 (phC m) m.phases 0:=by
  unfold Vz
  rw [iN om]
 generalize hF:X2 (phC m) m.phases 0=F at he2
 refine Qh (fun i:Nat=>[(1,.c (.optr g1 0)),(2,.c .nilI),(13,.c (phs true m.phases)),(14,.c (.int .i64 m.phases.length)),(15,.c (.int .i64 i))]) (fun _=>[(g1,.cells 29 8 (ofL (Xa true m)))]) (fun i=>i≤m.phases.length∧X2 (phC m) (m.phases.drop i) i=F) (fun i=>m.phases.length-i) 0 (zB n_1) zZ ⟨Lz _,hF⟩ ?_
 rintro i ⟨hi,hlp⟩
 repeat' first|refine zV n_1 ?_|refine zH n_1 ?_ ?_<;>intro hb|fail
 ·obtain⟨w0,w1,w2⟩:=hw.ph i
  have w3:=hw.vl i
  have hi':=hb
  have hR:∀c,phC m i (m.phases.getD i ph0)=c→c≠0→Vz m=c:=fun c hc h0=>by
   rw [he2];exact ZG hlp hi' hc h0
  have hG:=VI (d:=ph0) hlp hi'
  clear hlp
  generalize hx:m.phases.getD i ph0=x at*
  have f1:Fa prog 113 [.c (.str (sB x.name))] (.c (.bool (QB x.name))):=J0 x.name w0
  have f3:Fa prog 118 [.agg (Xa true m),.c (.int .i64 (-1)),.c (.str (sB x.top))] (.c (.bool (Yq m 0 x.top))):=Qa4 m 0 x.top (Lz _) hm (by have:=K2 hw2 0;omega) w1
  refine yA n_1 fun g4 n_4=>?_
  all_goals try(have Z:=(oj n_1 n_4);(repeat' first|refine zV Z ?_|refine yQ Z f1 ?_|refine zH Z ?_ ?_<;>intro hb|fail);all_goals clear Z)
  ·refine yT hC (oj n_1 n_4) ?_
   refine .one (.c (QG (c:=Vz m) (hR _ ?_ Af) Af))
   unfold phC
   rw [iP (by simpa using hb)]
  rename_i hn1
  replace hn1:=hb
  refine Z7 (gs:=[g4]) rfl rfl rfl (zE (oj n_1 n_4)) ?_
  have J1:=oj n_1 n_4
  refine yS J1 ?_
  have f2:=QwH g4 x m.phases hl
  all_goals repeat' first|refine zV J1 ?_|refine yQ J1 f2 ?_|refine yQ J1 f3 ?_|refine zH J1 ?_ ?_<;>intro hb|fail
  ·refine yT hC J1 ?_
   refine .one (.c (QG (c:=Vz m) (hR _ ?_ Af) Af))
   unfold phC
   rw [iN (by simpa using hn1),iP hb]
  ·rename_i hn2
   refine yT hC J1 ?_
   refine .one (.c (QG (c:=Vz m) (hR _ ?_ Af) Af))
   unfold phC
   rw [iN (by simpa using hn1),iN hn2,iP (by simpa using hb)]
  rename_i hn2
  have hn3:=hb
  have hp:phC m i x=X2 (vlC m x) x.values 0:=by
   unfold phC
   rw [iN (by simpa using hn1),iN hn2,iN (by simpa using hn3)]
  clear f1 f2 f3 J1
  generalize hF2:X2 (vlC m x) x.values 0=F2 at hp
  refine Qh (fun k:Nat=>[(1,.c (.optr g1 0)),(2,.c .nilI),(4,.c (.optr g4 0)),(13,.c (phs true m.phases)),(14,.c (.int .i64 m.phases.length)),(15,.c (.int .i64 i)),(39,.c (vls true x.values)),(40,.c (.int .i64 x.values.length)),(41,.c (.int .i64 k))]) (fun _=>[(g4,.cells 97 3 (ofL (WR x))),(g1,.cells 29 8 (ofL (Xa true m)))]) (fun k=>k≤x.values.length∧X2 (vlC m x) (x.values.drop k) k=F2) (fun k=>x.values.length-k) 0 (zB (oj n_1 n_4)) zZ ⟨Lz _,hF2⟩ ?_
  rintro k ⟨hk,hlq⟩
  all_goals try(have Z:=(oj n_1 n_4);(repeat' first|refine zV Z ?_|refine zH Z ?_ ?_<;>intro hb|fail);all_goals clear Z)
  ·have hk':=hb
   have hR2:∀c,vlC m x k (x.values.getD k vl0)=c→c≠0→Vz m=c:=fun c hc h0=>hR c (hp.trans (ZG hlq hk' hc h0)) h0
   have hG2:=VI (d:=vl0) hlq hk'
   clear hlq
   have w4:=w3 k
   generalize hv:x.values.getD k vl0=v at*
   have f1:=Z8 m v.event hm.ev
   have f3:=QbG v.p w4
   refine yA (oj n_1 n_4) fun g5 n_5=>?_
   all_goals try(have Z:=(oj n_1 (oj n_4 n_5));(repeat' first|refine zV Z ?_|refine yQ Z f1 ?_|refine zH Z ?_ ?_<;>intro hb|fail);all_goals clear Z)
   ·refine yT hC (oj n_1 (oj n_4 n_5)) ?_
    refine .one (.c (QG (c:=Vz m) (hR2 _ ?_ Af) Af))
    unfold vlC VH
    rw [iP hb]
   have m1:=hb
   refine Z7 (gs:=[g5]) rfl rfl rfl (zE (oj n_1 (oj n_4 n_5))) ?_
   have J2:=oj n_1 (oj n_4 n_5)
   refine yS J2 ?_
   have f2:=QwJ g5 v x.values w2
   all_goals repeat' first|refine zV J2 ?_|refine yQ J2 f2 ?_|refine yQ J2 f3 ?_|refine zH J2 ?_ ?_<;>intro hb|fail
   ·refine yT hC J2 ?_
    refine .one (.c (QG (c:=Vz m) (hR2 _ ?_ Af) Af))
    unfold vlC VH
    rw [iN m1,iP hb]
   ·rename_i m2
    refine yT hC J2 ?_
    refine .one (.c (QG (c:=Vz m) (hR2 _ ?_ Af) Af))
    unfold vlC VH
    rw [iN m1,iN m2,iP (by simpa using hb)]
   ·rename_i m2
    refine Qb ⟨k+1,?_⟩
    have hz:vlC m x k v=0:=by
     unfold vlC VH
     rw [iN m1,iN m2,iN (by simpa using hb)]
    and_intros
    all_goals first|rfl|exact Lr _|exact Ls _ _|exact True.intro|exact hG2 hz|omega
  ·have hF0:=YU hlq hb
   refine Qb ⟨i+1,?_⟩
   and_intros
   all_goals first|rfl|exact Lr _|exact Ls _ _|exact True.intro|exact hG (hp.trans hF0)|omega
 ·have hF0:=YU hlp hb
  subst hF0
  refine yT hC n_1 ?_
  exact .one (.c (Z6 he2))
theorem Qlg (l:List BS) (n:BS) (hl:l.length≤1099511627776):Fa prog 291 [.c (X0 false l),.c (.str (sB n))] (.c (.int .i64 (Xu (fun x=>n==x) l))):=by
 refine fA func291 fun C hC=>?_
 refine zA o0 ?_
 refine Qh (fun i:Nat=>[(0,.c (X0 false l)),(1,.c (.str (sB n))),(4,.c (.int .i64 0)),(7,.c (.int .i64 l.length)),(8,.c (.int .i64 i))]) (fun _=>[]) (fun i=>i≤l.length∧∀j,j<i→((fun x:BS=>n==x) (l.getD j []))=false) (fun i=>l.length-i) 0 eB zZ ⟨Lz _,fun j hj=>absurd hj om⟩ ?_
 rintro i ⟨hi,hn⟩
 repeat' first|refine zV o0 ?_|refine zH o0 ?_ ?_<;>intro hb|fail
 ·rename_i hi'
  rw [Zc (p:=fun x:BS=>n==x) [] hi' (by simpa using hb) hn]
  refine xT hC ?_
  exact .one (.c (.int _ _))
 ·rename_i hi'
  refine Qb ⟨i+1,?_⟩
  have hn':∀j,j<i+1→((fun x:BS=>n==x) (l.getD j []))=false:=fun j hj=>by
   by_cases e:j=i
   ·subst e;simpa using hb
   ·exact hn j om
  and_intros
  all_goals first|rfl|exact Lr _|exact True.intro|exact hn'|omega
 ·have hf:Xu (fun x=>n==x) l= -1:=ZY [] (fun j hj=>hn j om)
  rw [hf]
  refine xT hC ?_
  exact .one (.c (.int _ _))
theorem QcK (l:List BS) (n:BS) (hl:l.length≤1099511627776):Fa prog 187 [.c (X0 false l),.c (.str (sB n))] (.c (.bool (l.contains n))):=by
 have f1:=Qlg l n hl
 have f2:=Qjk n l
 refine fA func187 fun C hC=>?_
 refine Zo o0 f1 ?_
 refine xT hC ?_
 exact .one (.c (Qp f2))
end Go.Proofs.YtngjgahldnnapaaGreatDoor
namespace Go.Proofs.YtngjgahldnnapaaGreatDoor
open Go.AI Go.PN Proofs.Tryz
theorem Qa5 {pre:Qa} {og:Option Nat} {ty:TypeId} {sp:List BS} (hog:og=none→sp.length=0) (hnd:(pre++gh og ty sp.length (Qe sp)).keys.Nodup):LeC (pre++gh og ty sp.length (Qe sp)) (gs og 1 sp.length) (X0 false sp):=by
 cases og with
 |none=>
  have h0:=hog rfl
  show LeC _ .nils (.row false 1 sp.length (Qe sp))
  rw [h0]
  exact .nils
 |some g=>
  have hg:g∉pre.keys:=fun hm=>by
   have hk:(pre++gh (some g) ty sp.length (Qe sp)).keys=pre.keys++[g]:=by simp [Qa.keys,gh]
   rw [hk] at hnd
   exact(List.nodup_append.1 hnd).2.2 g hm g (by simp) rfl
  exact .osl (Qa.get_app hg) om (fun j _=>by rw [Nz];exact .refl _)
attribute [local irreducible] aw Fa ZN ZZ Fh YE
theorem QeU (m:Qv) (k:Nat) (sp0:List BS) (og0:Option Nat) (hk:k≤m.pages.length) (hm:MdOk m) (hw2:Qdq m) (hI:∀i,((Qt m k).getD i gt0).inputs.length≤16) (hin:∀i j,(((Qt m k).getD i gt0).inputs.getD j []).length≤1099511627776) (hog0:og0=none→sp0.length=0) (hb0:sp0.length≤1073741824):Fh prog 117 (gh og0 9 sp0.length (Qe sp0)) [.agg (Xa true m),.c (.int .i64 ((k:Int)-1)),.c (gs og0 1 sp0.length)] (fun x h=>((U6 m k sp0).1≠0∧h=[]∧x=.tup [.c .nils,.c (Y2 (U6 m k sp0).1)])∨((U6 m k sp0).1=0∧∃og,(og=none→(U6 m k sp0).2.length=0)∧h=gh og 9 (U6 m k sp0).2.length (Qe (U6 m k sp0).2)∧x=.tup [.c (gs og 1 (U6 m k sp0).2.length),.c .nilI])):=by
 have hkl:=K2 hw2 k
 have f0:=VS m k hk hm.pg
 refine fH func117 fun C hC=>?_
 refine zA o0 ?_
 refine xB fun g1 n_1=>?_
 refine Zo n_1 f0 ?_
 generalize hF:X1 (inG m k) (Qt m k) 0 sp0=F
 have hPn:F.1≠0→U6 m k sp0=F:=fun h=>by unfold U6;rw [hF,iN h]
 have hP0:F.1=0→U6 m k sp0=(tpC m k,F.2):=fun h=>by unfold U6;rw [hF,iP h]
 generalize hL:Qt m k=L at*
 refine Qh (fun x:Nat×List BS×Option Nat=>[(1,.c (.int .i64 ((k:Int)-1))),(2,.c (gs x.2.2 1 x.2.1.length)),(3,.c (.optr g1 0)),(6,.c .nils),(7,.c .nilI),(15,.c (gts true L)),(16,.c (.int .i64 L.length)),(17,.c (.int .i64 x.1))]) (fun x=>[(g1,.cells 29 8 (ofL (Xa true m)))]++gh x.2.2 9 x.2.1.length (Qe x.2.1)) (fun x=>x.1≤L.length∧(x.2.2=none→x.2.1.length=0)∧x.2.1.length≤sp0.length+16*x.1∧X1 (inG m k) (L.drop x.1) x.1 x.2.1=F) (fun x=>L.length-x.1) (0,sp0,og0) (zB n_1) zZ ⟨Lz _,hog0,by dsimp only;omega,hF⟩ ?_
 rintro ⟨i,sp,og⟩ ⟨hi,hog,hsz,hlp⟩
 dsimp only at hi hog hsz hlp⊢
 simp only [Lq,Ln]
 have fT1:=QbJ (m.pages.getD (k-1) pg0).gates (m.pages.getD (k-1) pg0).top (by have:=(hw2.pg (k-1)).2;omega)
 have fT2:=Z8 m (m.pages.getD (k-1) pg0).top hm.ev
 repeat' first|refine zV n_1 ?_|refine yQ n_1 fT1 ?_|refine yQ n_1 fT2 ?_|refine zH n_1 ?_ ?_<;>intro hb|fail
 ·have hi':=hb
  have w1:=hI i
  have w2:=hin i
  have hlp2:=fun r=>Kd (d:=gt0) (r:=r) hlp hi'
  have hgo:=fun r=>Jw (d:=gt0) (r:=r) hlp hi'
  clear hlp fT1 fT2
  generalize hx:L.getD i gt0=x at*
  refine yA n_1 fun g4 n_4=>?_
  refine zA (oj n_1 n_4) ?_
  generalize hF2:X1 (inI m k x) x.inputs 0 sp=F2
  have e2:inG m k i x sp=F2:=hF2
  rw [e2] at hlp2 hgo
  refine Qh (fun y:Nat×List BS×Option Nat=>[(1,.c (.int .i64 ((k:Int)-1))),(2,.c (gs y.2.2 1 y.2.1.length)),(3,.c (.optr g1 0)),(6,.c .nils),(7,.c .nilI),(9,.c (.optr g4 0)),(15,.c (gts true L)),(16,.c (.int .i64 L.length)),(17,.c (.int .i64 i)),(22,.c (X0 true x.inputs)),(23,.c (.int .i64 x.inputs.length)),(24,.c (.int .i64 y.1))]) (fun y=>[(g4,.cells 79 7 (ofL (Zy x))),(g1,.cells 29 8 (ofL (Xa true m)))]++gh y.2.2 9 y.2.1.length (Qe y.2.1)) (fun y=>y.1≤x.inputs.length∧(y.2.2=none→y.2.1.length=0)∧y.2.1.length≤sp.length+y.1∧X1 (inI m k x) (x.inputs.drop y.1) y.1 y.2.1=F2) (fun y=>x.inputs.length-y.1) (0,sp,og) (zB (oj n_1 n_4)) zZ ⟨Lz _,hog,by dsimp only;omega,hF2⟩ ?_
  rintro ⟨j,sq,oq⟩ ⟨hj,hoq,hsq,hlq⟩
  dsimp only at hj hoq hsq hlq⊢
  simp only [Lq,Ln]
  all_goals try(have Z:=(oj n_1 n_4);(repeat' first|refine zV Z ?_|refine zH Z ?_ ?_<;>intro hb|fail);all_goals clear Z)
  ·have hj':=hb
   have w3:=w2 j
   have hq2:=fun r=>Kd (d:=([]:BS)) (r:=r) hlq hj'
   have hqg:=fun r=>Jw (d:=([]:BS)) (r:=r) hlq hj'
   clear hlq
   generalize hy:x.inputs.getD j []=y at*
   have hR:∀c s,inI m k x j y sq=(c,s)→c≠0→(U6 m k sp0).1=c:=fun c s h1 h2=>by
    have a1:=hq2 _ h1 h2
    rw [a1] at hlp2
    have a2:=hlp2 _ rfl h2
    rw [hPn (by rw [a2];exact h2),a2]
   have f1:=Qa4 m k y hk hm (by rw [hL];omega) w3
   have f2:=Qt6 x j om
   have f3:=Z8 m y hm.ev
   have f4:=QcK sq y om
   all_goals try(have Z:=(oj n_1 n_4);(repeat' first|refine zV Z ?_|refine yQ Z f1 ?_|refine yQ Z f2 ?_|refine yQ Z f3 ?_|refine zH Z ?_ ?_<;>intro hb|fail);all_goals clear Z)
   all_goals first
    |(refine Yl [(6,.c .nils),(7,.c (.ifc 49 (.int .i64 5)))] [] (zB (oj n_1 n_4)) (List.nil_sublist _) ?_
      have h5:=hR 5 sq (by
       unfold inI VH
       repeat' split
       all_goals exact Ah) Af
      refine yU (oj n_1 n_4) ?_
      rw [h5]
      exact .inl ⟨by decide,rfl,rfl⟩)
    |(refine Yl [(6,.c .nils),(7,.c (.ifc 49 (.int .i64 7)))] [] (zB (oj n_1 n_4)) (List.nil_sublist _) ?_
      have h5:=hR 7 sq (by
       unfold inI VH
       repeat' split
       all_goals exact Ah) Af
      refine yU (oj n_1 n_4) ?_
      rw [h5]
      exact .inl ⟨by decide,rfl,rfl⟩)
    |(refine Qb ⟨(j+1,sq,oq),?_⟩
      have hz:inI m k x j y sq=(0,sq):=by
       unfold inI VH
       repeat' split
       all_goals exact Ah
      have hq:=hqg _ hz rfl
      and_intros
      all_goals first|rfl|exact Lr _|exact Ls _ _|exact True.intro|exact hoq|exact hq|(dsimp only;omega))
    |skip
   all_goals
    have hk7:=hb
    refine Y9 fun hnd=> ?_
    refine Qu f4 rfl rfl rfl (by refine yS (oj n_1 n_4) ?_;exact⟨.c (Qa5 (pre:=[(g4,.cells 79 7 (ofL (Zy x))),(g1,.cells 29 8 (ofL (Xa true m)))]) hoq hnd),.c (.refl _)⟩) ?_
    have J1:=oj n_1 n_4
    refine yS J1 ?_
    all_goals repeat' first|refine zV J1 ?_|refine zH J1 ?_ ?_<;>intro hb|fail
    ·refine Yl [(6,.c .nils),(7,.c (.ifc 49 (.int .i64 6)))] [] (zB J1) (List.nil_sublist _) ?_
     have h5:=hR 6 sq (by
      unfold inI VH
      repeat' split
      all_goals exact Ah) Af
     refine yU J1 ?_
     rw [h5]
     exact .inl ⟨by decide,rfl,rfl⟩
    ·have hz:inI m k x j y sq=(0,sq++[y]):=by
      unfold inI VH
      repeat' split
      all_goals exact Ah
     have hq:=hqg _ hz rfl
     have hln:(sq++[y]).length=sq.length+1:=by rw [La];rfl
     refine QX (pre:=[(g4,.cells 79 7 (ofL (Zy x))),(g1,.cells 29 8 (ofL (Xa true m)))]) rfl rfl rfl rfl rfl rfl rfl (zE J1) (zE J1) (by rfl) om om (zE J1) om (by exact hoq) (zE J1) (by rfl) (by rfl) qb qc om (by exact YG rfl y) fun gb n_b=> ?_
     replace n_b:=Qa.ne_of n_b
     first|dsimp only [Qa.ne,gh] at n_b|dsimp only [Qa.ne] at n_b|skip
     refine yS (oj n_1 (oj n_4 n_b)) ?_
     refine zA (oj n_1 (oj n_4 n_b)) ?_
     refine Qb ⟨(j+1,sq++[y],some gb),?_⟩
     dsimp only
     simp only [hln]
     and_intros
     all_goals first|rfl|exact Lr _|exact Ls _ _|exact True.intro|exact XJ|exact hq|omega|trace_state
  ·have hF0:=YV hlq hb
   subst hF0
   refine Qb ⟨(i+1,sq,oq),?_⟩
   and_intros
   all_goals first|rfl|exact Lr _|exact Ls _ _|exact True.intro|exact hoq|exact hgo _ rfl rfl|(dsimp only;omega)
 ·rename_i hi0 hk1 ha
  have hF0:=YV hlp hi0
  subst hF0
  have hT:U6 m k sp0=(tpC m k,sp):=hP0 rfl
  have h5:tpC m k=5:=by
   obtain⟨q,rfl⟩:∃q,k=q+1:=⟨k-1,by omega⟩
   exact iP ⟨ha,hb⟩
  refine Yl [(6,.c .nils),(7,.c (.ifc 49 (.int .i64 5)))] [] (zB n_1) (List.nil_sublist _) ?_
  refine yU n_1 ?_
  rw [hT,h5]
  exact .inl ⟨show(5:Int)≠0 by decide,rfl,rfl⟩
 ·rename_i hi0 hk1 ha
  have hF0:=YV hlp hi0
  subst hF0
  have hT:U6 m k sp0=(tpC m k,sp):=hP0 rfl
  have h0:tpC m k=0:=by
   obtain⟨q,rfl⟩:∃q,k=q+1:=⟨k-1,by omega⟩
   exact iN fun z=>hb z.2
  refine Yl [(6,.c (gs og 1 sp.length)),(7,.c .nilI)] (gh og 9 sp.length (Qe sp)) (zB n_1) (Ls _ _) ?_
  refine yU n_1 ?_
  rw [hT,h0]
  exact .inr ⟨rfl,og,hog,rfl,rfl⟩
 ·rename_i hi0 hk1
  have hF0:=YV hlp hi0
  subst hF0
  have hT:U6 m k sp0=(tpC m k,sp):=hP0 rfl
  have h0:tpC m k=0:=by
   obtain⟨q,rfl⟩:∃q,k=q+1:=⟨k-1,by omega⟩
   exact iN fun z=>hb z.1
  refine Yl [(6,.c (gs og 1 sp.length)),(7,.c .nilI)] (gh og 9 sp.length (Qe sp)) (zB n_1) (Ls _ _) ?_
  refine yU n_1 ?_
  rw [hT,h0]
  exact .inr ⟨rfl,og,hog,rfl,rfl⟩
 ·rename_i hi0
  have hF0:=YV hlp hi0
  subst hF0
  have hT:U6 m k sp0=(tpC m k,sp):=hP0 rfl
  have h0:tpC m k=0:=by
   have:k=0:=by omega
   subst this
   rfl
  refine Yl [(6,.c (gs og 1 sp.length)),(7,.c .nilI)] (gh og 9 sp.length (Qe sp)) (zB n_1) (Ls _ _) ?_
  refine yU n_1 ?_
  rw [hT,h0]
  exact .inr ⟨rfl,og,hog,rfl,rfl⟩
end Go.Proofs.YtngjgahldnnapaaGreatDoor
namespace Go.Proofs.YtngjgahldnnapaaGreatDoor
open Go.AI Go.PN Proofs.Tryz
attribute [local irreducible] aw Fa ZN ZZ Fh YE
theorem QeV (m:Qv) (hm:MdOk m) (hw:QvX m):Fa prog 119 [.agg (Xa true m)] (.c (Y2 (Y3 m))):=by
 have hl:=hw.l
 refine fA func119 fun C hC=>?_
 refine zA o0 ?_
 refine xB fun g1 n_1=>?_
 repeat' first|refine zV n_1 ?_|refine zH n_1 ?_ ?_<;>intro hb|fail
 ·refine yT hC n_1 ?_
  exact .one (.c (QG (by unfold Y3;rw [iP om]) Af))
 have h8:m.groups.length≤8:=by omega
 have he2:Y3 m=(X1 (OG m) m.groups 0 []).1:=by
  unfold Y3
  rw [iN om]
 generalize hF:X1 (OG m) m.groups 0 []=F at he2
 refine Qh (fun x:Nat×List BS×Option Nat=>[(1,.c (.optr g1 0)),(2,.c .nilI),(3,.c (gs x.2.2 1 x.2.1.length)),(16,.c (grs true m.groups)),(17,.c (.int .i64 m.groups.length)),(18,.c (.int .i64 x.1))]) (fun x=>[(g1,.cells 29 8 (ofL (Xa true m)))]++gh x.2.2 9 x.2.1.length (Qe x.2.1)) (fun x=>x.1≤m.groups.length∧(x.2.2=none→x.2.1.length=0)∧x.2.1.length≤1048576*x.1∧X1 (OG m) (m.groups.drop x.1) x.1 x.2.1=F) (fun x=>m.groups.length-x.1) (0,[],none) (zB n_1) zZ ⟨Lz _,fun _=>rfl,Lz _,hF⟩ ?_
 rintro ⟨i,ms,og⟩ ⟨hi,hog,hsz,hlp⟩
 dsimp only at hi hog hsz hlp⊢
 simp only [Lq,Ln]
 repeat' first|refine zV n_1 ?_|refine zH n_1 ?_ ?_<;>intro hb|fail
 ·obtain⟨w0,w1,w2⟩:=hw.gr i
  have w3:=hw.fa i
  have hi':=hb
  have hR:∀c s,OG m i (m.groups.getD i gr0) ms=(c,s)→c≠0→Y3 m=c:=fun c s hc h0=>by
   rw [he2,Kd hlp hi' hc h0]
  have hgo:=fun r=>Jw (d:=gr0) (r:=r) hlp hi'
  clear hlp
  generalize hx:m.groups.getD i gr0=x at*
  have f1:Fa prog 113 [.c (.str (sB x.name))] (.c (.bool (QB x.name))):=J0 x.name w0
  refine yA n_1 fun g4 n_4=>?_
  all_goals try(have Z:=(oj n_1 n_4);(repeat' first|refine zV Z ?_|refine yQ Z f1 ?_|refine zH Z ?_ ?_<;>intro hb|fail);all_goals clear Z)
  ·refine yT hC (oj n_1 n_4) ?_
   refine .one (.c (QG (c:=Y3 m) (hR _ ms ?_ Af) Af))
   unfold OG
   rw [iP (by simpa using hb)]
  have hn1:=hb
  refine Z7 (gs:=[g4]) rfl rfl rfl (zE (oj n_1 n_4)) ?_
  have J1:=oj n_1 n_4
  refine yS J1 ?_
  have f2:=QwF g4 x m.groups hl
  have f3:=Qua x.factors w2 w3
  obtain⟨nm,kd,mb,fc⟩:=x
  dsimp only at*
  by_cases k0:kd=0
  ·subst k0
   all_goals repeat' first|refine zV J1 ?_|refine yQ J1 f2 ?_|refine zH J1 ?_ ?_<;>intro hb|fail
   all_goals clear f1 f2
   ·refine yT hC J1 ?_
    refine .one (.c (QG (c:=Y3 m) (hR _ ms ?_ Af) Af))
    unfold OG
    repeat' split
    all_goals exact Ah
   ·refine yT hC J1 ?_
    refine .one (.c (QG (c:=Y3 m) (hR _ ms ?_ Af) Af))
    unfold OG
    repeat' split
    all_goals exact Ah
   ·refine yT hC J1 ?_
    refine .one (.c (QG (c:=Y3 m) (hR _ ms ?_ Af) Af))
    unfold OG
    repeat' split
    all_goals exact Ah
   ·refine yT hC J1 ?_
    refine .one (.c (QG (c:=Y3 m) (hR _ ms ?_ Af) Af))
    unfold OG
    repeat' split
    all_goals exact Ah
   have hff:=hb
   generalize hF2:X1 (OA m) mb 0 ms=F2
   have hQ:OG m i ⟨nm,0,mb,fc⟩ ms=(if F2.1≠0 then F2 else if fc.all RD.prob=false then(3,ms) else(0,F2.2)):=by
    unfold OG
    dsimp only
    rw [hF2]
    rw [iN (by simpa using hn1),iN (by assumption),iN Af,iN (by simp;omega)]
   refine Qh (fun y:Nat×List BS×Option Nat=>[(1,.c (.optr g1 0)),(2,.c .nilI),(3,.c (gs y.2.2 1 y.2.1.length)),(5,.c (.optr g4 0)),(16,.c (grs true m.groups)),(17,.c (.int .i64 m.groups.length)),(18,.c (.int .i64 i)),(71,.c (X0 true mb)),(72,.c (.int .i64 mb.length)),(73,.c (.int .i64 y.1))]) (fun y=>[(g4,.cells 94 4 (ofL (Wx ⟨nm,0,mb,fc⟩))),(g1,.cells 29 8 (ofL (Xa true m)))]++gh y.2.2 9 y.2.1.length (Qe y.2.1)) (fun y=>y.1≤mb.length∧(y.2.2=none→y.2.1.length=0)∧y.2.1.length≤ms.length+y.1∧X1 (OA m) (mb.drop y.1) y.1 y.2.1=F2) (fun y=>mb.length-y.1) (0,ms,og) (zB J1) zZ ⟨Lz _,hog,by dsimp only;omega,hF2⟩ ?_
   rintro ⟨j,sq,oq⟩ ⟨hj,hoq,hsq,hlq⟩
   dsimp only at hj hoq hsq hlq⊢
   simp only [Lq,Ln]
   all_goals repeat' first|refine zV J1 ?_|refine yQ J1 f3 ?_|refine zH J1 ?_ ?_<;>intro hb|fail
   ·have hj':=hb
    have hq2:=fun r=>Kd (d:=([]:BS)) (r:=r) hlq hj'
    have hqg:=fun r=>Jw (d:=([]:BS)) (r:=r) hlq hj'
    clear hlq J1
    generalize hy:mb.getD j []=y at*
    have hR2:∀c s,OA m j y sq=(c,s)→c≠0→Y3 m=c:=fun c s h1 h2=>by
     have a1:=hq2 _ h1 h2
     refine hR c s ?_ h2
     rw [hQ,a1]
     exact iP h2
    have f5:=Z8 m y hm.ev
    have f4:=QcK sq y om
    all_goals try(have Z:=(oj n_1 n_4);(repeat' first|refine zV Z ?_|refine yQ Z f5 ?_|refine zH Z ?_ ?_<;>intro hb|fail);all_goals clear Z)
    ·refine yT hC (oj n_1 n_4) ?_
     refine .one (.c (QG (c:=Y3 m) (hR2 _ sq ?_ Af) Af))
     unfold OA VH
     rw [iP hb]
    have h5:=hb
    refine Y9 fun hnd=> ?_
    refine Qu f4 rfl rfl rfl (by refine yS (oj n_1 n_4) ?_;exact⟨.c (Qa5 (pre:=[(g4,.cells 94 4 (ofL (Wx ⟨nm,0,mb,fc⟩))),(g1,.cells 29 8 (ofL (Xa true m)))]) hoq hnd),.c (.refl _)⟩) ?_
    have J2:=oj n_1 n_4
    refine yS J2 ?_
    all_goals repeat' first|refine zV J2 ?_|refine zH J2 ?_ ?_<;>intro hb|fail
    ·refine yT hC J2 ?_
     refine .one (.c (QG (c:=Y3 m) (hR2 _ sq ?_ Af) Af))
     unfold OA VH
     rw [iN h5,iP hb]
    ·have hz:OA m j y sq=(0,sq++[y]):=by
      unfold OA VH
      rw [iN h5,iN (by simpa using hb)]
     have hq:=hqg _ hz rfl
     have hln:(sq++[y]).length=sq.length+1:=by rw [La];rfl
     refine QX (pre:=[(g4,.cells 94 4 (ofL (Wx ⟨nm,0,mb,fc⟩))),(g1,.cells 29 8 (ofL (Xa true m)))]) rfl rfl rfl rfl rfl rfl rfl (zE J2) (zE J2) (by rfl) om om (zE J2) om (by exact hoq) (zE J2) (by rfl) (by rfl) qb qc om (by exact YG rfl y) fun gb n_b=> ?_
     replace n_b:=Qa.ne_of n_b
     first|dsimp only [Qa.ne,gh] at n_b|dsimp only [Qa.ne] at n_b|skip
     refine yS (oj n_1 (oj n_4 n_b)) ?_
     refine zA (oj n_1 (oj n_4 n_b)) ?_
     refine Qb ⟨(j+1,sq++[y],some gb),?_⟩
     dsimp only
     simp only [hln]
     and_intros
     all_goals first|rfl|exact Lr _|exact Ls _ _|exact True.intro|exact XJ|exact hq|omega
   ·rename_i hj0
    have hF0:=YV hlq hj0
    refine yT hC (oj n_1 n_4) ?_
    refine .one (.c (QG (c:=Y3 m) (hR _ ms ?_ Af) Af))
    rw [hQ,hF0,iN (by simp),iP (by simpa using hb)]
   ·rename_i hj0
    have hF0:=YV hlq hj0
    have hz:OG m i ⟨nm,0,mb,fc⟩ ms=(0,sq):=by
     rw [hQ,hF0,iN (by simp),iN (by simpa using hb)]
    have hq:=hgo _ hz rfl
    refine Qb ⟨(i+1,sq,oq),?_⟩
    and_intros
    all_goals first|rfl|exact Lr _|exact Ls _ _|exact True.intro|exact hoq|exact hq|(dsimp only;omega)
  by_cases k1:kd=1
  ·subst k1
   all_goals try(have Z:=(oj n_1 n_4);(repeat' first|refine zV Z ?_|refine yQ Z f2 ?_|refine zH Z ?_ ?_<;>intro hb|fail);all_goals clear Z)
   ·refine yT hC (oj n_1 n_4) ?_
    refine .one (.c (QG (c:=Y3 m) (hR _ ms ?_ Af) Af))
    unfold OG
    repeat' split
    all_goals exact Ah
   refine Xv 6 Qg kR ?_
   all_goals try(have Z:=(oj n_1 n_4);(repeat' first|refine zV Z ?_|refine zH Z ?_ ?_<;>intro hb|fail);all_goals clear Z)
   all_goals clear f1 f2
   ·refine yT hC (oj n_1 n_4) ?_
    refine .one (.c (QG (c:=Y3 m) (hR _ ms ?_ Af) Af))
    unfold OG
    repeat' split
    all_goals exact Ah
   ·refine yT hC (oj n_1 n_4) ?_
    refine .one (.c (QG (c:=Y3 m) (hR _ ms ?_ Af) Af))
    unfold OG
    repeat' split
    all_goals exact Ah
   ·refine yT hC (oj n_1 n_4) ?_
    refine .one (.c (QG (c:=Y3 m) (hR _ ms ?_ Af) Af))
    unfold OG
    repeat' split
    all_goals exact Ah
   have hff:=hb
   generalize hF2:X1 (OA m) mb 0 ms=F2
   have hQ:OG m i ⟨nm,1,mb,fc⟩ ms=(if F2.1≠0 then F2 else if fc.all RD.prob=false then(3,ms) else(0,F2.2)):=by
    unfold OG
    dsimp only
    rw [hF2]
    rw [iN (by simpa using hn1),iN (by assumption),iN Af,iN (by simp;omega)]
   refine Qh (fun y:Nat×List BS×Option Nat=>[(1,.c (.optr g1 0)),(2,.c .nilI),(3,.c (gs y.2.2 1 y.2.1.length)),(5,.c (.optr g4 0)),(16,.c (grs true m.groups)),(17,.c (.int .i64 m.groups.length)),(18,.c (.int .i64 i)),(71,.c (X0 true mb)),(72,.c (.int .i64 mb.length)),(73,.c (.int .i64 y.1))]) (fun y=>[(g4,.cells 94 4 (ofL (Wx ⟨nm,1,mb,fc⟩))),(g1,.cells 29 8 (ofL (Xa true m)))]++gh y.2.2 9 y.2.1.length (Qe y.2.1)) (fun y=>y.1≤mb.length∧(y.2.2=none→y.2.1.length=0)∧y.2.1.length≤ms.length+y.1∧X1 (OA m) (mb.drop y.1) y.1 y.2.1=F2) (fun y=>mb.length-y.1) (0,ms,og) (zB (oj n_1 n_4)) zZ ⟨Lz _,hog,by dsimp only;omega,hF2⟩ ?_
   rintro ⟨j,sq,oq⟩ ⟨hj,hoq,hsq,hlq⟩
   dsimp only at hj hoq hsq hlq⊢
   simp only [Lq,Ln]
   all_goals try(have Z:=(oj n_1 n_4);(repeat' first|refine zV Z ?_|refine yQ Z f3 ?_|refine zH Z ?_ ?_<;>intro hb|fail);all_goals clear Z)
   ·have hj':=hb
    have hq2:=fun r=>Kd (d:=([]:BS)) (r:=r) hlq hj'
    have hqg:=fun r=>Jw (d:=([]:BS)) (r:=r) hlq hj'
    clear hlq
    generalize hy:mb.getD j []=y at*
    have hR2:∀c s,OA m j y sq=(c,s)→c≠0→Y3 m=c:=fun c s h1 h2=>by
     have a1:=hq2 _ h1 h2
     refine hR c s ?_ h2
     rw [hQ,a1]
     exact iP h2
    have f5:=Z8 m y hm.ev
    have f4:=QcK sq y om
    all_goals try(have Z:=(oj n_1 n_4);(repeat' first|refine zV Z ?_|refine yQ Z f5 ?_|refine zH Z ?_ ?_<;>intro hb|fail);all_goals clear Z)
    ·refine yT hC (oj n_1 n_4) ?_
     refine .one (.c (QG (c:=Y3 m) (hR2 _ sq ?_ Af) Af))
     unfold OA VH
     rw [iP hb]
    have h5:=hb
    refine Y9 fun hnd=> ?_
    refine Qu f4 rfl rfl rfl (by refine yS (oj n_1 n_4) ?_;exact⟨.c (Qa5 (pre:=[(g4,.cells 94 4 (ofL (Wx ⟨nm,1,mb,fc⟩))),(g1,.cells 29 8 (ofL (Xa true m)))]) hoq hnd),.c (.refl _)⟩) ?_
    have J3:=oj n_1 n_4
    refine yS J3 ?_
    all_goals repeat' first|refine zV J3 ?_|refine zH J3 ?_ ?_<;>intro hb|fail
    ·refine yT hC J3 ?_
     refine .one (.c (QG (c:=Y3 m) (hR2 _ sq ?_ Af) Af))
     unfold OA VH
     rw [iN h5,iP hb]
    ·have hz:OA m j y sq=(0,sq++[y]):=by
      unfold OA VH
      rw [iN h5,iN (by simpa using hb)]
     have hq:=hqg _ hz rfl
     have hln:(sq++[y]).length=sq.length+1:=by rw [La];rfl
     refine QX (pre:=[(g4,.cells 94 4 (ofL (Wx ⟨nm,1,mb,fc⟩))),(g1,.cells 29 8 (ofL (Xa true m)))]) rfl rfl rfl rfl rfl rfl rfl (zE J3) (zE J3) (by rfl) om om (zE J3) om (by exact hoq) (zE J3) (by rfl) (by rfl) qb qc om (by exact YG rfl y) fun gb n_b=> ?_
     replace n_b:=Qa.ne_of n_b
     first|dsimp only [Qa.ne,gh] at n_b|dsimp only [Qa.ne] at n_b|skip
     refine yS (oj n_1 (oj n_4 n_b)) ?_
     refine zA (oj n_1 (oj n_4 n_b)) ?_
     refine Qb ⟨(j+1,sq++[y],some gb),?_⟩
     dsimp only
     simp only [hln]
     and_intros
     all_goals first|rfl|exact Lr _|exact Ls _ _|exact True.intro|exact XJ|exact hq|omega
   ·rename_i hj0
    have hF0:=YV hlq hj0
    refine yT hC (oj n_1 n_4) ?_
    refine .one (.c (QG (c:=Y3 m) (hR _ ms ?_ Af) Af))
    rw [hQ,hF0,iN (by simp),iP (by simpa using hb)]
   ·rename_i hj0
    have hF0:=YV hlq hj0
    have hz:OG m i ⟨nm,1,mb,fc⟩ ms=(0,sq):=by
     rw [hQ,hF0,iN (by simp),iN (by simpa using hb)]
    have hq:=hgo _ hz rfl
    refine Qb ⟨(i+1,sq,oq),?_⟩
    and_intros
    all_goals first|rfl|exact Lr _|exact Ls _ _|exact True.intro|exact hoq|exact hq|(dsimp only;omega)
  ·all_goals try(have Z:=(oj n_1 n_4);(repeat' first|refine zV Z ?_|refine yQ Z f2 ?_|refine zH Z ?_ ?_<;>intro hb|fail);all_goals clear Z)
   all_goals clear f1 f2
   all_goals first
    |(exfalso;omega)
    |(refine yT hC (oj n_1 n_4) ?_
      refine .one (.c (QG (c:=Y3 m) (hR _ ms ?_ Af) Af))
      unfold OG
      repeat' split
      all_goals exact Ah)
 ·have hF0:=YV hlp hb
  subst hF0
  refine yT hC n_1 ?_
  exact .one (.c (Z6 he2))
end Go.Proofs.YtngjgahldnnapaaGreatDoor
namespace Go.Proofs.YtngjgahldnnapaaGreatDoor
open Go.AI Go.PN Go.ChangeShapes Go.WideShapes Go.RowKit Proofs.Tryz
def Qud (P:Program) (fs:List Field) (off T:Nat) {α:Type} (c:α→List CV) (B:α→Nat→Prop):Prop:=
 ∀(H:Type) (enc:TypeId×Value→H) (w:World) (n:Nat) (cs:List Value) (xs:List (DataW H×List MemPlace)),cs.length=T→xs.length=fs.length→(∀(i:Nat) (f:Field),fs[i]?=some f→DataW.trod enc P w 0 (fun _=>true) true n f.type ((cs.drop f.offset).take (P.cellsOf f.type))=xs[i]?)→∃y,X4 (QcG w) w (c y) (cs.drop off)∧∀m,Rows.uptoBulkAll (xs.map (·.1))≤m→B y m
theorem Ki {P:Program} {T:Nat}:Qud P [] T T (fun _:Unit=>[]) (fun _ _=>True):=fun H enc w n cs xs hl _ _=>⟨(),by rw [List.drop_of_length_le om];trivial,fun _ _=>trivial⟩
theorem QD {P:Program} {f:Field} {fs:List Field} {off T:Nat} {α β:Type} {c0:α→List CV} {c1:β→List CV} {B0:α→Nat→Prop} {B1:β→Nat→Prop} (s:Nat) (hz:P.cellsOf f.type=s) (ho:f.offset=off) (h0:Rdr P f.type c0 B0) (hB0:∀y m n,B0 y m→m≤n→B0 y n) (hr:Qud P fs (off+s) T c1 B1):
  Qud P (f::fs) off T (fun y:α×β=>c0 y.1++c1 y.2) (fun y n=>B0 y.1 n∧B1 y.2 n):=fun H enc w n cs xs hl hx hf=>by
 match xs,hx with
 |x0::xs,hx=>
  have g0:=hf 0 f rfl
  rw [ho,hz] at g0
  obtain⟨y0,r0,b0⟩:=h0 H enc w n _ x0 g0
  obtain⟨y1,r1,b1⟩:=hr H enc w n cs xs hl (by simpa using hx) fun i f' hi=>by have:=hf (i+1) f' (by simpa using hi);simpa using this
  refine⟨(y0,y1),?_,fun m hm=> ?_⟩
  ·have e:cs.drop off=(cs.drop off).take s++cs.drop (off+s):=by
    conv=>lhs;rw [←List.take_append_drop s (cs.drop off)]
    rw [List.drop_drop]
   rw [e]
   exact r0.append r1
  ·simp only [Ld,Rows.uptoBulkAll] at hm
   exact⟨hB0 _ _ _ b0 om,b1 m om⟩
theorem YW {P:Program} {t:TypeId} {fs:List Field} {T:Nat} {α:Type} {c:α→List CV} {B:α→Nat→Prop} (ht:P.underlying t=some (.struct fs.toArray)) (hz:P.cellsOf t=T) (h:Qud P fs 0 T c B):Rdr P t c B:=fun H enc w fuel cs x hx=>by
 obtain⟨xs,n,_,rfl,hl,hlen,hf⟩:=DataW.trod_struct ht hx
 obtain⟨y,r,b⟩:=h H enc w n cs xs (hl.trans hz) (by simpa using hlen) (fun i f hi=>hf i f (by simpa using hi))
 exact⟨y,by simpa using r,b _ (by simp only [Rows.uptoBulk];omega)⟩
theorem Qyf {x:Int} (h:(Lit.int .i64 x).wf=true): -9223372036854775808≤x∧x<9223372036854775808:=by
 have hb: -9223372036854775808≤x∧x≤9223372036854775807:=by simpa [Lit.wf,IntKind.min,IntKind.max,IntKind.signed,IntKind.bits] using h
 omega
theorem QbL:Rdr prog 3 (fun n:Int=>[.int .i64 n]) (fun x _=> -9223372036854775808≤x∧x<9223372036854775808):=(QtP underlying3).to id (fun _=>rfl) fun _ _ h=>Qyf h
theorem ZI:Rdr prog 9 (fun l:BS=>[.str (sB l)]) (fun l n=>l.length≤n):=(QmT underlying9).to id (fun _=>rfl) fun _ _ h=>Nat.le_of_succ_le h
theorem Qgu:Rdr prog 4 (fun b:Bool=>[.bool b]) (fun _ _=>True):=QqX underlying4
theorem Qdr {xs:List Nat}:∀(m n:Nat),xs.length≤m∧(∀x∈xs,x<4294967296)→m≤n→xs.length≤n∧∀x∈xs,x<4294967296:=fun _ _ h hm=>⟨Lt h.1 hm,h.2⟩
theorem QeW:Rdr prog 75 (fun xs:List Nat=>[ws true xs]) (fun xs n=>xs.length≤n∧∀x∈xs,x<4294967296):=
 (ZO (0:Nat) true underlying75 (s:=1) kR om (fun _ _ _ h _=>h) (QqW underlying193)).to id (fun ys=>by
  show [CV.row true 1 ys.length _]=[CV.row true 1 ys.length _]
  congr 2
  funext j
  show _=ofL [CV.int .u32 ((ys.getD (j/1) 0:Nat):Int)] (j%1)
  rw [Nat.div_one,Nat.mod_one]
  rfl) (fun _ _ h=>h)
theorem QmZ {α:Type}:∀(y:α) (m n:Nat),True→m≤n→True:=fun _ _ _ h _=>h
theorem QbM:∀(y:Int) (m n:Nat),(-9223372036854775808≤y∧y<9223372036854775808)→m≤n→(-9223372036854775808≤y∧y<9223372036854775808):=fun _ _ _ h _=>h
theorem ZJ {α:Type}:∀(y:List α) (m n:Nat),y.length≤m→m≤n→y.length≤n:=fun _ _ _ h hm=>Lt h hm
theorem Wz:Rdr prog 77 (fun r:RD=>Y1 r) (fun r n=>RdU n r):=
 (YW underlying77 (T:=3) kR (QD 1 kR rfl Qgu QmZ (QD 1 kR rfl QeW (fun _=>Qdr) (QD 1 kR rfl QeW (fun _=>Qdr) Ki)))).to (fun y=>⟨y.1,y.2.1,y.2.2.1⟩) (fun _=>rfl) (fun _ _ h=>⟨h.2.1.2,h.2.2.1.2,h.2.1.1,h.2.2.1.1⟩)
theorem Qgv:Rdr prog 74 (fun xs:List BS=>[X0 true xs]) (fun xs n=>InU n xs):=
 (ZO (B:=fun(y:BS) n=>y.length≤n) ([]:BS) true underlying74 (s:=1) kR om ZJ ZI).to id (fun _=>rfl) (fun _ _ h=>h)
theorem QoM:Rdr prog 92 (fun xs:List RD=>[VQ true xs]) (fun xs n=>RsU n xs):=
 (ZO (B:=fun(y:RD) n=>RdU n y) rd0 true underlying92 (s:=3) kR om (fun _ _ _ h hm=>RdU.mono h hm) Wz).to id (fun _=>rfl) (fun _ _ h=>h)
theorem Qlh:Rdr prog 89 (fun x:X3=>evc x) (fun x n=>EvU n x):=
 (YW underlying89 (T:=11) kR (QD 1 kR rfl ZI ZJ (QD 3 kR rfl Wz (fun _ _ _ h hm=>RdU.mono h hm) (QD 3 kR rfl Wz (fun _ _ _ h hm=>RdU.mono h hm) (QD 3 kR rfl Wz (fun _ _ _ h hm=>RdU.mono h hm) (QD 1 kR rfl QbL QbM Ki)))))).to (fun y=>⟨y.1,y.2.1,y.2.2.1,y.2.2.2.1,y.2.2.2.2.1⟩) (fun _=>rfl) (fun _ _ h=>⟨h.1,h.2.1,h.2.2.1,h.2.2.2.1,h.2.2.2.2.1⟩)
theorem Qli:Rdr prog 115 (fun x:Vx=>hsc x) (fun x n=>HsU n x):=
 (YW underlying115 (T:=2) kR (QD 1 kR rfl ZI ZJ (QD 1 kR rfl Qgu QmZ Ki))).to (fun y=>⟨y.1,y.2.1⟩) (fun _=>rfl) (fun _ _ h=>h.1)
theorem QoN:Rdr prog 79 (fun x:Xe=>Zy x) (fun x n=>GtU n x):=
 (YW underlying79 (T:=7) kR (QD 1 kR rfl ZI ZJ (QD 1 kR rfl QbL QbM (QD 1 kR rfl QbL QbM (QD 1 kR rfl Qgv (fun _ _ _ h hm=>InU.mono h hm) (QD 3 kR rfl Wz (fun _ _ _ h hm=>RdU.mono h hm) Ki)))))).to (fun y=>⟨y.1,y.2.1,y.2.2.1,y.2.2.2.1,y.2.2.2.2.1⟩) (fun _=>rfl) (fun _ _ h=>⟨h.1,h.2.1,h.2.2.1,h.2.2.2.1,h.2.2.2.2.1⟩)
theorem QeX:Rdr prog 24 (fun xs:List Xe=>[gts true xs]) (fun xs n=>GsU n xs):=
 (ZO (B:=fun(y:Xe) n=>GtU n y) gt0 true underlying24 (s:=7) kR om (fun _ _ _ h hm=>GtU.mono h hm) QoN).to id (fun _=>rfl) (fun _ _ h=>h)
theorem QoO:Rdr prog 91 (fun x:Yz=>pgc x) (fun x n=>PgU n x):=
 (YW underlying91 (T:=3) kR (QD 1 kR rfl ZI ZJ (QD 1 kR rfl ZI ZJ (QD 1 kR rfl QeX (fun _ _ _ h hm=>GsU.mono h hm) Ki)))).to (fun y=>⟨y.1,y.2.1,y.2.2.1⟩) (fun _=>rfl) (fun _ _ h=>⟨h.1,h.2.1,h.2.2.1⟩)
theorem Qlj:Rdr prog 94 (fun x:YB=>Wx x) (fun x n=>GrU n x):=
 (YW underlying94 (T:=4) kR (QD 1 kR rfl ZI ZJ (QD 1 kR rfl QbL QbM (QD 1 kR rfl Qgv (fun _ _ _ h hm=>InU.mono h hm) (QD 1 kR rfl QoM (fun _ _ _ h hm=>RsU.mono h hm) Ki))))).to (fun y=>⟨y.1,y.2.1,y.2.2.1,y.2.2.2.1⟩) (fun _=>rfl) (fun _ _ h=>⟨h.1,h.2.1,h.2.2.1,h.2.2.2.1⟩)
theorem Qlk:Rdr prog 99 (fun x:Zp=>vlc x) (fun x n=>VlU n x):=
 (YW underlying99 (T:=4) kR (QD 1 kR rfl ZI ZJ (QD 3 kR rfl Wz (fun _ _ _ h hm=>RdU.mono h hm) Ki))).to (fun y=>⟨y.1,y.2.1⟩) (fun _=>rfl) (fun _ _ h=>⟨h.1,h.2.1⟩)
theorem Qjq:Rdr prog 95 (fun xs:List Zp=>[vls true xs]) (fun xs n=>xs.length≤n∧∀x∈xs,VlU n x):=
 (ZO (B:=fun(y:Zp) n=>VlU n y) vl0 true underlying95 (s:=4) kR om (fun _ _ _ h hm=>VlU.mono h hm) Qlk).to id (fun _=>rfl) (fun _ _ h=>h)
theorem Qll:Rdr prog 97 (fun x:V0=>WR x) (fun x n=>PhU n x):=
 (YW underlying97 (T:=3) kR (QD 1 kR rfl ZI ZJ (QD 1 kR rfl ZI ZJ (QD 1 kR rfl Qjq (fun _ _ _ h hm=>⟨Lt h.1 hm,fun x hx=>(h.2 x hx).mono hm⟩) Ki)))).to (fun y=>⟨y.1,y.2.1,y.2.2.1⟩) (fun _=>rfl) (fun _ _ h=>⟨h.1,h.2.1,h.2.2.1.1,h.2.2.1.2⟩)
theorem O1 {α:Type} {U:Nat→α→Prop} (hU:∀{m n x},U m x→m≤n→U n x):∀(y:List α) (m n:Nat),(y.length≤m∧∀x∈y,U m x)→m≤n→(y.length≤n∧∀x∈y,U n x):=fun _ _ _ h hm=>⟨Lt h.1 hm,fun x hx=>hU (h.2 x hx) hm⟩
theorem Qjr:Rdr prog 22 (fun xs:List X3=>[evs true xs]) (fun xs n=>xs.length≤n∧∀x∈xs,EvU n x):=
 (ZO (B:=fun(y:X3) n=>EvU n y) ev0 true underlying22 (s:=11) kR om (fun _ _ _ h hm=>EvU.mono h hm) Qlh).to id (fun _=>rfl) (fun _ _ h=>h)
theorem Qjs:Rdr prog 23 (fun xs:List Vx=>[hss true xs]) (fun xs n=>xs.length≤n∧∀x∈xs,HsU n x):=
 (ZO (B:=fun(y:Vx) n=>HsU n y) hs0 true underlying23 (s:=2) kR om (fun _ _ _ h hm=>HsU.mono h hm) Qli).to id (fun _=>rfl) (fun _ _ h=>h)
theorem Qlm:Rdr prog 25 (fun xs:List Yz=>[pgs true xs]) (fun xs n=>xs.length≤n∧∀x∈xs,PgU n x):=
 (ZO (B:=fun(y:Yz) n=>PgU n y) pg0 true underlying25 (s:=3) kR om (fun _ _ _ h hm=>PgU.mono h hm) QoO).to id (fun _=>rfl) (fun _ _ h=>h)
theorem Qjt:Rdr prog 26 (fun xs:List YB=>[grs true xs]) (fun xs n=>xs.length≤n∧∀x∈xs,GrU n x):=
 (ZO (B:=fun(y:YB) n=>GrU n y) gr0 true underlying26 (s:=4) kR om (fun _ _ _ h hm=>GrU.mono h hm) Qlj).to id (fun _=>rfl) (fun _ _ h=>h)
theorem Qju:Rdr prog 27 (fun xs:List V0=>[phs true xs]) (fun xs n=>xs.length≤n∧∀x∈xs,PhU n x):=
 (ZO (B:=fun(y:V0) n=>PhU n y) ph0 true underlying27 (s:=3) kR om (fun _ _ _ h hm=>PhU.mono h hm) Qll).to id (fun _=>rfl) (fun _ _ h=>h)
theorem QeY:Rdr prog 29 (fun x:Qv=>Xa true x) (fun x n=>MdU n x):=
 (YW underlying29 (T:=8) kR (QD 1 kR rfl ZI ZJ (QD 1 kR rfl ZI ZJ (QD 1 kR rfl Qjr (O1 EvU.mono) (QD 1 kR rfl Qjs (O1 HsU.mono) (QD 1 kR rfl QeX (fun _ _ _ h hm=>GsU.mono h hm) (QD 1 kR rfl Qlm (O1 PgU.mono) (QD 1 kR rfl Qjt (O1 GrU.mono) (QD 1 kR rfl Qju (O1 PhU.mono) Ki))))))))).to (fun y=>⟨y.1,y.2.1,y.2.2.1,y.2.2.2.1,y.2.2.2.2.1,y.2.2.2.2.2.1,y.2.2.2.2.2.2.1,y.2.2.2.2.2.2.2.1⟩) (fun _=>rfl) (fun _ _ h=>⟨h.1,h.2.1,h.2.2.1,h.2.2.2.1,h.2.2.2.2.1,h.2.2.2.2.2.1,h.2.2.2.2.2.2.1,h.2.2.2.2.2.2.2.1⟩)
def WA (h:Array Obj) (g:Nat) (cs:Array Value):Array Obj:=h.modify g fun
 |.cells _ t frozen=>.cells cs t frozen
 |o=>o
def VT:Array Value:=(([1,10,100,1000,10000,100000,1000000,10000000,100000000,1000000000,10000000000,100000000000,1000000000000,10000000000000,100000000000000,1000000000000000,10000000000000000,100000000000000000,1000000000000000000,10000000000000000000]:List Int).map fun n=>Value.int .u64 n).toArray
def K3:Array Value:=(([0,1,28,2,29,14,24,3,30,22,20,15,25,17,4,8,31,27,13,23,21,19,16,7,26,12,18,6,11,5,10,9]:List Int).map fun n=>Value.int .u8 n).toArray
def K4:Array Value:=(([0,1,56,2,57,49,28,3,61,58,42,50,38,29,17,4,62,47,59,36,45,43,51,22,53,39,33,30,24,18,12,5,63,55,48,27,60,41,37,16,46,35,44,21,52,32,23,11,54,26,40,15,34,20,31,10,25,14,19,9,13,8,7,6]:List Int).map fun n=>Value.int .u8 n).toArray
def UY:Array Value:=(Go.Pinned.utf8FirstZ.map fun(n:Nat)=>Value.int .u8 (n:Int)).toArray
def Kt:Array Value:=(([128,191,160,191,128,159,144,191,128,143,0,0,0,0,0,0,0,0,0,0,0,0,0,0,0,0,0,0,0,0,0,0]:List Int).map fun n=>Value.int .u8 n).toArray
noncomputable def JJ (os:Os):World:=
 {World.holding prog os ⟨#[], #[],[]⟩ with heap:=WA (WA (WA (WA (WA (World.holding prog os ⟨#[], #[],[]⟩).heap 1 VT) 2 K3) 3 K4) 4 UY) 5 Kt}
end Go.Proofs.YtngjgahldnnapaaGreatDoor
namespace Go.PN
def Ub (n:Nat):List UInt8:=(List.range 9).map fun q=>UInt8.ofNat (48+n/10^(8-q)%10)
theorem Qaq (n:Nat):(Ub n).length=9:=by simp [Ub]
def Kj (n:Nat):List (List UInt8):=if h:n=0 then [] else Ub (n%1000000000)::Kj (n/1000000000)
termination_by n
decreasing_by omega
theorem JK:Kj 0=[]:=by rw [Kj];simp
theorem Qar {n:Nat} (h:n≠0):Kj n=Ub (n%1000000000)::Kj (n/1000000000):=by rw [Kj];simp [h]
theorem Qjv:∀(M n:Nat),n<536870912^M→(Kj n).length≤M
 |0,n,h=>by
  have:n=0:=by simpa using h
  subst this
  rw [JK];simp
 |M+1,n,h=>by
  by_cases h0:n=0
  ·subst h0;rw [JK];simp
  ·rw [Qar h0,Lc]
   have:=Qjv M (n/1000000000) (by
    rw [Nat.pow_succ] at h
    generalize 536870912^M=K at*
    omega)
   omega
theorem QcL:∀(M n:Nat),n≤M→∀g∈Kj n,g.length=9
 |0,n,h,g,hg=>by
  have:n=0:=by omega
  subst this
  rw [JK] at hg;cases hg
 |M+1,n,h,g,hg=>by
  by_cases h0:n=0
  ·subst h0;rw [JK] at hg;cases hg
  ·rw [Qar h0,Lb] at hg
   rcases hg with rfl|hg
   ·exact Qaq _
   ·exact QcL M _ om g hg
theorem QeZ {xs:List Nat} (hx:∀x∈xs,x<4294967296):(Kj (val xs)).length≤2*xs.length:=by
 refine Qjv _ _ (Ae (Vp xs hx) ?_)
 rw [Nat.pow_mul]
 exact Nat.pow_le_pow_left Af _
def catTo (G:List (List UInt8)):Nat→List UInt8
 |0=>[]
 |i+1=>catTo G i++G.getD (G.length-1-i) []
theorem QcM {G:List (List UInt8)} (h:∀g∈G,g.length=9):∀i,i≤G.length→(catTo G i).length=9*i
 |0,_=>rfl
 |i+1,hi=>by
  have h1:=QcM h i om
  have h2:(G.getD (G.length-1-i) []).length=9:=by
   rw [Lg,Li om]
   exact h _ (Le _)
  rw [catTo,La,h1,h2];omega
def WB (n:Nat):List UInt8:=if((catTo (Kj n) (Kj n).length).dropWhile (·==48))==[] then [48] else(catTo (Kj n) (Kj n).length).dropWhile (·==48)
theorem Qrf {xs:List Nat} (hx:∀x∈xs,x<4294967296):(WB (val xs)).length≤18*xs.length+1:=by
 have h1:=QcM (QcL _ (val xs) (Ac _)) (Kj (val xs)).length (Ac _)
 have h2:=QeZ hx
 have h3:=(List.dropWhile_sublist (·==(48:UInt8)) (l:=catTo (Kj (val xs)) (Kj (val xs)).length)).length_le
 unfold WB
 split
 ·simp
 ·omega
def Xr (r:RD):List UInt8:=(if r.ps then [45]++WB r.pn else WB r.pn)++(if r.pd=1 then [] else [47]++WB r.pd)
theorem W7 {n L:Nat} (h:(Qc n).length≤L):(WB n).length≤18*L+1:=by
 have:=Qrf (Qr n)
 rw [Qd] at this
 omega
theorem QbN {r:RD} {L:Nat} (hL:1≤L) (h:r.wf L):(Xr r).length≤36*L+4:=by
 obtain⟨h1,h2⟩:=RD.p_len h hL
 have h3:=W7 h1
 have h4:=W7 h2
 unfold Xr
 split<;>split<;>simp<;>omega
end Go.PN
namespace Go.PN
open Go.AI
theorem QcN:∀(b:BS) (n:Nat),b.foldl (fun n b=>n*10+(b.toNat-48)) n=n*10^b.length+Yu b
 |[],n=>by simp [Yu]
 |x::b,n=>by
  have h1:=QcN b (n*10+(x.toNat-48))
  have h2:=QcN b (0*10+(x.toNat-48))
  have h3:Yu (x::b)=b.foldl (fun n b=>n*10+(b.toNat-48)) (0*10+(x.toNat-48)):=rfl
  rw [List.foldl_cons,h1,h3,h2,Lc,Nat.pow_succ,Nat.add_mul,Na,Nc 10,Nat.zero_mul,Nz]
  omega
theorem QoP (a b:BS):Yu (a++b)=Yu a*10^b.length+Yu b:=by
 have:Yu (a++b)=b.foldl (fun n b=>n*10+(b.toNat-48)) (Yu a):=by unfold Yu;rw [List.foldl_append]
 rw [this,QcN]
theorem Qrg (n:Nat):(Ub n).all dgB=true:=by
 unfold Ub
 rw [List.all_map,List.all_eq_true]
 intro q _
 exact Quc (Nat.mod_lt _ Af)
theorem Qrh {n:Nat} (h:n<1000000000):Yu (Ub n)=n:=by
 have e:Ub n=[UInt8.ofNat (48+n/100000000%10),UInt8.ofNat (48+n/10000000%10),UInt8.ofNat (48+n/1000000%10),UInt8.ofNat (48+n/100000%10),UInt8.ofNat (48+n/10000%10),UInt8.ofNat (48+n/1000%10),UInt8.ofNat (48+n/100%10),UInt8.ofNat (48+n/10%10),UInt8.ofNat (48+n/1%10)]:=rfl
 have t:∀k,(UInt8.ofNat (48+k%10)).toNat-48=k%10:=fun k=>by rw [d48 (Nat.mod_lt _ Af)];omega
 rw [e]
 unfold Yu
 simp only [List.foldl_cons,List.foldl_nil,t]
 omega
theorem Qjw (g:BS) (G:List BS):∀i,i≤G.length→catTo (g::G) i=catTo G i
 |0,_=>rfl
 |i+1,hi=>by
  rw [catTo,catTo,Qjw g G i om]
  congr 1
  rw [Lc,show G.length+1-1-i=(G.length-1-i)+1 from by omega]
  rfl
theorem Que (g:BS) (G:List BS):catTo (g::G) (g::G).length=catTo G G.length++g:=by
 rw [Lc,catTo,Qjw g G _ (Ac _)]
 congr 1
 rw [Lc,show G.length+1-1-G.length=0 from by omega]
 rfl
theorem Qm0:∀(k n:Nat),n≤k→Yu (catTo (Kj n) (Kj n).length)=n∧(catTo (Kj n) (Kj n).length).all dgB=true
 |k,n,hk=>by
  by_cases h0:n=0
  ·subst h0;rw [JK];exact⟨rfl,rfl⟩
  ·match k,hk with
   |0,hk=>omega
   |k+1,hk=>
    obtain⟨i1,i2⟩:=Qm0 k (n/1000000000) om
    rw [Qar h0,Que]
    refine⟨?_,by rw [List.all_append,i2,Qrg];rfl⟩
    rw [QoP,i1,Qrh (Nat.mod_lt _ Af),Qaq]
    show n/1000000000*1000000000+_=n
    omega
theorem Qe0:∀(l:BS),Yu (l.dropWhile (·==48))=Yu l
 |[]=>rfl
 |x::l=>by
  rw [List.dropWhile_cons]
  split
  ·rename_i h
   have hx:x=48:=by simpa using h
   subst hx
   exact Qe0 l
  ·rfl
theorem Qe1:∀{l:BS},l.all dgB=true→(l.dropWhile (·==48)).all dgB=true
 |[],_=>rfl
 |x::l,h=>by
  rw [List.dropWhile_cons]
  split
  ·exact Qe1 (by rw [List.all_cons] at h;simp only [Ba] at h;exact h.2)
  ·exact h
theorem Qds:∀{l:BS},l.dropWhile (·==48)≠[]→(l.dropWhile (·==48)).headD 0≠48
 |[],h=>absurd rfl h
 |x::l,h=>by
  rw [List.dropWhile_cons] at h⊢
  split
  ·rename_i e;rw [iP e] at h;exact Qds h
  ·rename_i e;simpa using e
theorem QbO (n:Nat):WB n=VA n:=by
 obtain⟨h1,h2⟩:=Qm0 n n (Ac _)
 unfold WB
 generalize catTo (Kj n) (Kj n).length=D at*
 have h3:=Qe0 D
 have h4:=Qe1 h2
 have h5:=Qds (l:=D)
 generalize D.dropWhile (·==48)=E at*
 split
 ·rename_i e
  have:E=[]:=by simpa using e
  subst this
  have:n=0:=by rw [←h1,←h3];rfl
  subst this
  rw [Jx Af];rfl
 ·rename_i e
  have e:E≠[]:=by simpa using e
  have:=Qre e h4 (h5 e)
  rw [h3,h1] at this
  exact this
def Uc:List BS→BS
 |[]=>[]
 |x::l=>x++l.flatMap fun y=>32::y
def Xj (l:List BS):BS:=Uc l++[59]
abbrev Qri:BS:=[110,111,110,101]
def XG (k:Int):BS:=if k<0∨k≥9 then Qri else [QtU,kOr,kVote,kNot,kXor,kInhibit,kPand,kSpare,QdU].getD k.toNat []
def YX (k:Int):BS:=if k<0 then 45::VA k.natAbs else VA k.natAbs
def YY (g:Xe):List BS:=Qz::g.name::XG g.kind::((if g.kind=2 then [YX g.k] else if g.kind=7 then [Xr g.dorm] else [])++g.inputs)
def Zj (g:Xe):BS:=Xj (YY g)
def Yj (w:BS) (r:RD):List BS:=if YJ r.q=0 then [] else [w,Xr r]
def evW (x:X3):List BS:=Xn::x.name::(Yj kP x.p++Yj kFail x.fail++Yj kRepair x.rep++Yj kCost (rd (x.cost:Rat)))
def evX (x:X3):BS:=Xj (evW x)++[10]
def hsX (x:Vx):BS:=Xj [QP,x.name,if x.on then kOn else Ox]++[10]
def gtX (ind:BS) (g:Xe):BS:=ind++Zj g++[10]
def UN (k name top:BS):BS:=k++32::(name++32::(Yx++32::(top++[32,123,10])))
def pgX (x:Yz):BS:=UN XT x.name x.top++x.gates.flatMap (gtX [32,32])++[125,10]
def grW (x:YB):List BS:=Xf::x.name::(if x.kind=1 then Yh else ZF)::(x.factors.map Xr++Zi::x.members)
def grX (x:YB):BS:=Xj (grW x)++[10]
def vlX (v:Zp):BS:=[32,32]++Xj [v.event,Xr v.p]++[10]
def phX (x:V0):BS:=UN Q9 x.name x.top++x.values.flatMap vlX++[125,10]
def XZ (m:Qv):BS:=Xj [ZR,m.name]++10::(m.events.flatMap evX++(m.houses.flatMap hsX++(m.gates.flatMap (gtX [])++(m.pages.flatMap pgX++(m.groups.flatMap grX++(m.phases.flatMap phX++(Xj [Yx,m.top]++[10])))))))
def QF (r:RD):Bool:=decide ((Xr r).length>100)
def QbP (x:X3):Bool:=QF x.p||QF x.fail||QF x.rep
def Jo (l:List Xe):Bool:=l.any fun g=>QF g.dorm
def Jp (m:Qv):Bool:=m.events.any QbP||Jo m.gates||m.pages.any (fun p=>Jo p.gates)||m.groups.any (fun x=>x.factors.any QF)||m.phases.any fun x=>x.values.any fun v=>QF v.p
def Vo (m:Qv):BS×Int:=if Jp m=true∨(XZ m).length>65536 then([],4) else(XZ m,0)
theorem Qm1 {r:RD} {L:Nat} (hw:r.wf L) (hv:r.valid=true):rd r.q=r:=by
 by_cases hn:r.num.length=0
 ·have hs:r.some=false:=by simp [RD.some,hn]
  obtain⟨neg,num,den⟩:=r
  have h1:num=[]:=Lh.1 hn
  subst h1
  unfold RD.valid at hv
  by_cases hd:den.length=0
  ·have h2:den=[]:=Lh.1 hd
   subst h2
   have h3:neg=false:=by simpa using hv
   subst h3
   have hq:RD.q ⟨false,[],[]⟩=0:=by unfold RD.q RD.ps RD.pn RD.pd;rw [hs];rfl
   rw [hq]
   unfold rd
   rw [iP (by rfl)]
   simp [QC]
  ·rw [iN (fun h=>hd h.2)] at hv
   simp [VP] at hv
 ·have hs:r.some=true:=by simp [RD.some,hn,hv]
  obtain⟨s1,s2,s3,s4,s5⟩:=RD.some_spec hw hs
  obtain⟨a1,a2⟩:=OV (n:=U5 r.neg (val r.num)) s4
  rw [Ju,s5] at a1 a2
  have hq:r.q=mkRat (U5 r.neg (val r.num)) (val r.den):=by unfold RD.q RD.ps RD.pn RD.pd sq;rw [hs];rfl
  have b1:r.q.num=U5 r.neg (val r.num):=by rw [hq,a1];simp
  have b2:r.q.den=val r.den:=by rw [hq,a2];simp
  have b3:decide (r.q.num<0)=r.neg:=by
   rw [b1];unfold U5
   cases r.neg<;>simp<;>omega
  have b4:r.q.num≠0:=by
   rw [b1];unfold U5
   cases r.neg<;>simp<;>omega
  unfold rd
  rw [iN b4,b3,b2,b1,Ju,s1,s2]
theorem Qm2 (n:Nat):Lib.decDigits n=VA n:=by
 induction n using Nat.strongRecOn with
 |_ n ih=>
  by_cases h:n<10
  ·rw [Lib.decDigits,dif_pos h,Jx h]
  ·rw [Lib.decDigits,dif_neg h,QbK om,ih _ om]
theorem Quf (k:Int):Lib.itoa k=YX k:=by
 unfold Lib.itoa YX
 split
 ·rw [Qm2]
 ·rw [Qm2,show k.toNat=k.natAbs by omega]
end Go.PN
namespace Go.Proofs.YtngjgahldnnapaaGreatDoor
open Go.Shelf Go.Proofs Proofs.Tryz
def Qug:Go.Shelf.Ren:=⟨fun|171=>66|243=>131|246=>206|283=>304|284=>305|285=>306|286=>307|129=>165|317=>355|318=>356|319=>357|320=>358|337=>379|338=>380|n=>n,fun|3=>3|9=>9|2=>2|4=>4|171=>326|0=>0|53=>39|37=>123|5=>5|173=>328|212=>368|51=>193|20=>20|213=>369|46=>167|232=>388|233=>389|n=>n,fun|17=>1|18=>2|19=>3|n=>n⟩
theorem Qrj:LaysM.n171 prog Qug where
 mixed:=by kernel_rfl
 f129:=func165.trans eK
 f171:=func66.trans eK
 f243:=func131.trans eK
 f246:=func206.trans eK
 f283:=func304.trans eK
 f284:=func305.trans eK
 f285:=func306.trans eK
 f286:=func307.trans eK
 f317:=func355.trans eK
 f318:=func356.trans eK
 f319:=func357.trans eK
 f320:=func358.trans eK
 f337:=func379.trans eK
 f338:=func380.trans eK
 t0:=underlying0
 a0:=isAgg0
 z0:=sizeOf0
 v0:=zeroValue0
 t2:=underlying2
 a2:=isAgg2
 z2:=sizeOf2
 v2:=zeroValue2
 t3:=underlying3
 a3:=isAgg3
 z3:=sizeOf3
 v3:=zeroValue3
 t4:=underlying4
 a4:=isAgg4
 z4:=sizeOf4
 v4:=zeroValue4
 t5:=underlying5
 a5:=isAgg5
 z5:=sizeOf5
 v5:=zeroValue5
 t9:=underlying9
 a9:=isAgg9
 z9:=sizeOf9
 v9:=zeroValue9
 t20:=underlying20
 a20:=isAgg20
 z20:=sizeOf20
 v20:=zeroValue20
 t37:=underlying123
 a37:=isAgg123
 z37:=sizeOf123
 v37:=zeroValue123
 t46:=underlying167
 a46:=isAgg167
 z46:=sizeOf167
 v46:=zeroValue167
 t51:=underlying193
 a51:=isAgg193
 z51:=sizeOf193
 v51:=zeroValue193
 t53:=underlying39
 a53:=isAgg39
 z53:=sizeOf39
 v53:=zeroValue39
 t171:=underlying326
 a171:=isAgg326
 z171:=sizeOf326
 v171:=zeroValue326
 t173:=underlying328
 a173:=isAgg328
 z173:=sizeOf328
 v173:=zeroValue328
 t212:=underlying368
 a212:=isAgg368
 z212:=sizeOf368
 v212:=zeroValue368
 t213:=underlying369
 a213:=isAgg369
 z213:=sizeOf369
 t232:=underlying388
 a232:=isAgg388
 z232:=sizeOf388
 v232:=zeroValue388
 t233:=underlying389
 a233:=isAgg389
 z233:=sizeOf389
 v233:=zeroValue389
 g17:=by kernel_rfl
 g18:=by kernel_rfl
 g19:=by kernel_rfl
 i0:=by kernel_rfl
 i2:=by kernel_rfl
 i3:=by kernel_rfl
 i4:=by kernel_rfl
 i5:=by kernel_rfl
 i9:=by kernel_rfl
 i20:=by kernel_rfl
 i37:=by kernel_rfl
 i46:=by kernel_rfl
 i51:=by kernel_rfl
 i53:=by kernel_rfl
 i171:=by kernel_rfl
 i173:=by kernel_rfl
 i212:=by kernel_rfl
 i232:=by kernel_rfl
 i233:=by kernel_rfl
 m17:=by kernel_rfl
 m18:=by kernel_rfl
 m19:=by kernel_rfl
end Go.Proofs.YtngjgahldnnapaaGreatDoor
namespace Go.AI
theorem Qln (own:Nat→Prop) (w:World) (q:Nat) (os:Array Obj):Fr own w (Go.Sort.grow (w.drewN q) os):=by
 have hb:∀b,b<w.heap.size→(Go.Sort.grow (w.drewN q) os).heap[b]?=w.heap[b]?:=fun b hb=>Go.Sort.heap_grow_old (w.drewN q) os hb
 refine⟨rfl,rfl,rfl,?_,Nat.le_add_right _ _,fun b hl _=>hb b hl,fun g m hh=> ?_⟩
 ·rw [Go.Sort.size_grow];exact Nat.le_add_right _ _
 ·have hl:=hh.lt
  obtain⟨cs,ty,⟨fr,hc⟩,hs⟩:=hh
  exact⟨cs,ty,⟨fr,(hb g hl).trans hc⟩,hs⟩
theorem OI.is {P:Program} {S:Bool→Nat→Prop} {w:World} {nm:String} {g:Nat} (h:OI S w) (hg:P.globalNamed nm=some g) (hp:g∈pwB):Lib.TabIs P w nm .u64 Lib.pow10Tab:=by
 obtain⟨_,ty,fr,hc⟩:=h g hp
 unfold Lib.TabIs World.var?
 rw [hg]
 show(match w.heap[g]? with|some (.cells cs _ _)=>some cs|_=>none)=_
 rw [hc]
 rfl
theorem OI.of {P:Program} {w:World} {nm:String} {g:Nat} (hg:P.globalNamed nm=some g) (hp:pwB=[g]) (ht:Lib.TabIs P w nm .u64 Lib.pow10Tab):OI (fun _ b=>b<w.heap.size) w:=fun b hb=>by
 rw [hp,Lv] at hb
 subst hb
 unfold Lib.TabIs World.var? at ht
 rw [hg] at ht
 replace ht:(match w.heap[b]? with|some (.cells cs _ _)=>some cs|_=>none)=some (Lib.pow10Tab.map fun z=>Value.int .u64 z).toArray:=ht
 split at ht
 ·rename_i cs ty fr hc
  injection ht with ht
  subst ht
  exact⟨(Array.getElem?_eq_some_iff.1 hc).1,ty,fr,hc⟩
 ·cases ht
section
section
variable {P : Program} {h : Qa} {ρ : Operand → AV}
theorem Qz9 {n:Nat} (h:n<128):Utf8.encode (n:Int)=⟨#[UInt8.ofNat n]⟩:=by
 unfold Utf8.encode
 have hv:Utf8.valid (n:Int)=true:=by unfold Utf8.valid;simp;omega
 simp only [hv,if_true,Int.toNat_natCast]
 rw [iP om]
theorem QA.runeStr {s d:TypeId} {x:Operand} {k k0:IntKind} {n:Nat} (hs:P.underlying s=some (.int k0)) (hd:P.underlying d=some .string) (hx:ρ x=.c (.int k (n:Int))) (hn:n<128):QA P h ρ (.convert s d x) (.c (.str (sB [UInt8.ofNat n]))):=fun S w e _ ho _=>by
 have h1:e x=.int k n:=by have:=ho x Ag;rw [hx] at this;exact this
 refine⟨.string (sB [UInt8.ofNat n]),fun o hop=> ?_,rfl⟩
 simp [execOp,hop,h1,Go.convert,run_underlying hs,run_underlying hd,Conv.intToString,Qz9 hn,sB]
end
end
section
def UZ (l:List UInt8) (j:Nat):CV:=.int .u8 ((l.getD j 0).toNat:Int)
theorem Qm3 {S:Bool→Nat→Prop} {w:World} {l:List UInt8} {j:Nat} (h:j<l.length) {u:Value} (hr:XX S w (UZ l j) u):u=.int .u8 ((l[j]).toNat:Int):=by
 have:u=.int .u8 ((l.getD j 0).toNat:Int):=hr
 rw [this,Lg,Li h];rfl
section
variable {P : Program} {h : Qa} {ρ : Operand → AV}
theorem QA.bytesStr {s d el ty:TypeId} {x:Operand} {g m:Nat} {f:Nat→CV} {l:List UInt8} (hs:P.underlying s=some (.slice el)) (he:P.underlying el=some (.int .u8)) (hd:P.underlying d=some .string) (hx:ρ x=.c (.osl g 1 0 l.length))
  (hg:h.get g=some (.cells ty m f)) (hm:l.length≤m) (hf:∀j,j<l.length→f j=UZ l j):QA P h ρ (.convert s d x) (.c (.str ⟨l.toArray⟩)):=fun S w e _ ho hh=>by
 have h2:=ho x Ag
 rw [hx] at h2
 obtain⟨c,hv,_,_,_⟩:=h2
 obtain⟨cs,hb,hn,hj⟩:=hh _ _ (Qa.get_mem hg)
 refine⟨.string ⟨l.toArray⟩,fun o hop=> ?_,rfl⟩
 have:=run_convert_bytes_back (P:=P) w s d el ⟨g,0,none⟩ c l hs he hd (fun j hjl=>by
  obtain⟨u,hu,hr⟩:=hj j om
  rw [hf j hjl] at hr
  rw [ZP,Zf hb,Nz,hu,Qm3 hjl hr])
 simp [execOp,hop,hv,this]
theorem QA.sliceArr {t el ty:TypeId} {x:Operand} {g n m:Nat} {f:Nat→CV} (ht:P.underlying t=some (.array n el)) (hz:P.cellsOf el=1) (hi:(P.info? el).isSome=true) (hx:ρ x=.c (.optr g 0)) (hg:h.get g=some (.cells ty m f)) (hm:n≤m) (h63:n≤maxLen):
  QA P h ρ (.slice t x none none none) (.c (.osl g 1 0 n)):=fun S w e _ ho hh=>by
 have h2:e x=.pointer (some ⟨g,0,none⟩):=by have:=ho x Ag;rw [hx] at this;exact this
 obtain⟨cs,hb,hn,hj⟩:=hh _ _ (Qa.get_mem hg)
 obtain⟨i,hi'⟩:=Option.isSome_iff_exists.1 hi
 refine⟨.slice (some ⟨g,0,none⟩) n n,fun o hop=> ?_,n,rfl,Ac _,h63,cs,ty,⟨_,hb⟩,by omega⟩
 by_cases h0:n=0
 ·simp [execOp,hop,h2,Instr.sliceAt,run_underlying ht,Instr.sureAddr,Instr.sliceBounds,sizeOf,typeInfo,hi',h0]
 ·have h0':¬0=n:=fun e=>h0 e.symm
  simp [execOp,hop,h2,Instr.sliceAt,run_underlying ht,Instr.sureAddr,Instr.sliceBounds,sizeOf,typeInfo,hi',h0]
  exact ZP g 0 0
theorem Qe2 (d:Nat) {t el:TypeId} (ht:P.underlying t=some (.pointer el)) (w:World):(Op.equalIn (d+1) t (.pointer none) (.pointer none)).run P w=.ok true w:=by
 simp [Op.equalIn,run_underlying ht]
theorem Qe3 (d:Nat) {t el:TypeId} (ht:P.underlying t=some (.pointer el)) (a:Addr) (w:World):(Op.equalIn (d+1) t (.pointer (some a)) (.pointer none)).run P w=.ok false w:=by
 simp [Op.equalIn,run_underlying ht]
theorem Jf (op:BinOp) (t:TypeId) (x y:Operand) (a b:Option Addr) (w:World):(eqGuard op t x y (.pointer a) (.pointer b)).run P w=.ok () w:=by
 unfold eqGuard
 cases op<;>simp
theorem QA.eqPtr {t t':TypeId} {x y:Operand} {a:CV} {b:Bool} {el:TypeId} (ht:P.underlying t=some (.pointer el)) (hx:ρ x=.c a) (hy:ρ y=.c (.raw (.pointer none))) (ha:(a=.raw (.pointer none)∧b=true)∨∃g,a=.optr g 0∧b=false):QA P h ρ (.binOp .eql t x y t') (.c (.bool b)):=fun S w e _ ho _=>by
 have h1:=ho x Ag
 have h2:=ho y Ag
 rw [hx] at h1
 rw [hy] at h2
 have h2':e y=.pointer none:=h2
 rcases ha with ⟨rfl,rfl⟩|⟨g,rfl,rfl⟩
 ·have h1':e x=.pointer none:=h1
  refine⟨.bool true,fun o hop=>Ze hop (by rw [h1',h2'];exact Jf ..) ?_,rfl⟩
  rw [h1',h2']
  simp only [Go.binOp]
  simp [Op.equal,Op.maxDepth,Qe2 9999 ht]
 ·have h1':e x=.pointer (some ⟨g,0,none⟩):=h1
  refine⟨.bool false,fun o hop=>Ze hop (by rw [h1',h2'];exact Jf ..) ?_,rfl⟩
  rw [h1',h2']
  simp only [Go.binOp]
  simp [Op.equal,Op.maxDepth,Qe3 9999 ht]
theorem QA.neqPtr {t t':TypeId} {x y:Operand} {g:Nat} {el:TypeId} {j:TypeInfo} (ht:P.underlying t=some (.pointer el)) (hj:P.info? el=some j) (hx:ρ x=.c (.optr g 0)) (hy:ρ y=.c (.optr g 0)):QA P h ρ (.binOp .neq t x y t') (.c (.bool false)):=fun S w e _ ho _=>by
 have h1:e x=.pointer (some ⟨g,0,none⟩):=by have:=ho x Ag;rw [hx] at this;exact this
 have h2:e y=.pointer (some ⟨g,0,none⟩):=by have:=ho y Ag;rw [hy] at this;exact this
 exact⟨.bool false,fun o hop=>Ze hop (by rw [h1,h2];exact Jf ..) (by rw [h1,h2];exact Lib.run_neq_ptr_same w _ ht hj),rfl⟩
theorem QA.toUnsafe {s d t ty:TypeId} {x:Operand} {g m:Nat} {f:Nat→CV} {j:TypeInfo} (hs:P.underlying s=some (.pointer t)) (hd:P.underlying d=some .unsafePointer) (hj:P.info? t=some j) (hj0:j.size≠0) (hx:ρ x=.c (.optr g 0)) (hg:h.get g=some (.cells ty m f)) (hm:0<m):
  QA P h ρ (.convert s d x) (.c (.optr g 0)):=fun S w e _ ho hh=>by
 have h2:e x=.pointer (some ⟨g,0,none⟩):=by have:=ho x Ag;rw [hx] at this;exact this
 obtain⟨cs,hb,hn,_⟩:=hh _ _ (Qa.get_mem hg)
 have hsh:w.shape? g=some (ty,cs.size):=by simp [World.shape?,hb]
 refine⟨_,fun o hop=> ?_,rfl⟩
 have:=Lib.run_to_unsafe (P:=P) w ⟨g,0,none⟩ hs hd hj hj0 hsh (by show 0<cs.size;omega)
 simp [execOp,hop,h2,this]
theorem Qdt {e:TypeId} {n count:Nat} (hc:P.cellsOf e=n) (hn:0<n) (h1:1≤count):liesAt P P.depth e count 0 e 1=true:=by
 have hd:P.depth=(2*(P.types.size+Made.depth)+1)+1:=rfl
 rw [hd]
 simp only [liesAt,Bool.or_eq_true]
 left
 rw [hd]
 simp [rowAt,hc,sameLayout]
 omega
theorem QA.fromUnsafe {s d u:TypeId} {x:Operand} {g m n:Nat} {f:Nat→CV} {j:TypeInfo} (hs:P.underlying s=some .unsafePointer) (hd:P.underlying d=some (.pointer u)) (hj:P.info? u=some j) (hc:P.cellsOf u=n) (hn0:0<n) (hx:ρ x=.c (.optr g 0)) (hg:h.get g=some (.cells u m f)) (hm:n≤m):
  QA P h ρ (.convert s d x) (.c (.optr g 0)):=fun S w e _ ho hh=>by
 have h2:e x=.pointer (some ⟨g,0,none⟩):=by have:=ho x Ag;rw [hx] at this;exact this
 obtain⟨cs,hb,hn,_⟩:=hh _ _ (Qa.get_mem hg)
 have hsh:w.shape? g=some (u,cs.size):=by simp [World.shape?,hb]
 refine⟨_,fun o hop=> ?_,rfl⟩
 have:=Lib.run_from_unsafe (P:=P) w ⟨g,0,none⟩ hs hd hj hsh (Qdt hc hn0 (by rw [hc];exact(Nat.le_div_iff_mul_le hn0).2 om))
 simp [execOp,hop,h2,this]
theorem QA.noEscape {f:FuncId} {fn:Func} {x:Operand} {ts:Array TypeId} {a:CV} (hf:P.funcs[f]?=some fn) (hname:(fn.name== "runtime.NumGoroutine")=false) (hb:fn.body.isNone=true) (hn:Extern.findNext fn=none) (he:Extern.find fn=some Extern.AbiNoEscape.same) (hk:ρ (.func f)=.c (.raw (.func (.func f) #[] #[]))) (hx:ρ x=.c a):
  QA P h ρ (.call {callee:=.value (.func f),args:= #[x],argTypes:=ts}) (.c a):=fun S w e _ ho _=>by
 have h1:=ho x (by simp [Op.operands,Call.operands])
 rw [hx] at h1
 refine⟨e x,fun o hop=> ?_,h1⟩
 have:=run_callFunc_extern (P:=P) hf hname hb hn he #[e x] w
 rw [Lib.run_noEscape] at this
 have h3:=ho (.func f) (by simp [Op.operands,Call.operands])
 rw [hk] at h3
 have h3':e (.func f)=.func (.func f) #[] #[]:=h3
 simp [execOp,hop,resolve,invoke,h3',Deferred.ofValue,this,Result.andThen]
theorem QA.sliceData {t:TypeId} {x:Operand} {g n:Nat} (hx:ρ x=.c (.osl g 1 0 n)) (hn:0<n):QA P h ρ (.call {callee:=.builtin .unsafeSliceData,args:= #[x],argTypes:= #[t]}) (.c (.optr g 0)):=fun S w e _ ho _=>by
 have h2:=ho x (by simp [Op.operands,Call.operands])
 rw [hx] at h2
 obtain⟨c,hv,hnc,_⟩:=h2
 refine⟨_,fun o hop=> ?_,rfl⟩
 have:=Lib.run_unsafeSliceData_row (P:=P) (w:=w) #[t] o.type ⟨g,0,none⟩ n c om
 simp [execOp,hop,resolve,invoke,Go.builtin,hv,this]
theorem QA.sliceDataN {t:TypeId} {x:Operand} (hx:ρ x=.c (.raw (.slice none 0 0))):QA P h ρ (.call {callee:=.builtin .unsafeSliceData,args:= #[x],argTypes:= #[t]}) (.c (.raw (.pointer none))):=fun S w e _ ho _=>by
 have h2:=ho x (by simp [Op.operands,Call.operands])
 rw [hx] at h2
 have hv:e x=.slice none 0 0:=h2
 refine⟨_,fun o hop=> ?_,rfl⟩
 have:=Lib.run_unsafeSliceData_nil (P:=P) (w:=w) #[t] o.type 0 0
 simp [execOp,hop,resolve,invoke,Go.builtin,hv,this]
end
end
section
def Jq (og:Option Nat) (n:Nat):CV:=match og with
 |none=>.raw (.slice none 0 0)
 |some g=>.osl g 1 0 n
theorem QaO (s:ByteArray) (j:Nat) (h:j<s.size):(byteCells s)[j]?=some (.int .u8 ((s.data.toList.getD j 0).toNat:Int)):=by
 have h':j<s.data.toList.length:=by rw [Array.length_toList];exact h
 unfold byteCells
 rw [List.getElem?_map,Li h',Lg,Li h']
 rfl
theorem Qe4 {P:Program} {w:World} {t tx ty e bytes n c g:Nat} {z:List CV} {cs:Array Value} {s:ByteArray} (ht:QR P t=some (e,1,bytes)) (htx:P.underlying tx=some .string) (hz:Qj P e=some z) (hzl:z.length=1)
  (hb:w.heap[g]?=some (.cells cs e (0,0))) (hcs:c≤cs.size) (hnc:n≤c) (hcm:c≤maxLen) (h63:n+s.size≤maxLen) (hby:(n+s.size)*bytes≤140737488355328):
  ∃g' c' w' cs',(Builtin.append_ #[t,tx] ty #[.slice (some ⟨g,0,none⟩) n c,.string s]).run P w=.ok (.slice (some ⟨g',0,none⟩) (n+s.size) c') w'∧w'.heap[g']?=some (.cells cs' e (0,0))∧c'≤cs'.size∧n+s.size≤c'∧c'≤maxLen∧
   (∀j,j<n→cs'[j]?=cs[j]?)∧(∀j,j<s.size→cs'[n+j]?=(byteCells s)[j]?)∧(g'=g∨g'=w.heap.size)∧Fr (fun b=>b=g) w w':=by
 obtain⟨hu,inf,hi,hsz,hbb⟩:=Xg ht
 obtain⟨i',zv,hi',hzv,rfl⟩:=YI hz
 rw [hi] at hi'
 injection hi' with hi'
 subst hi'
 subst hbb
 have hzs:zv.cells.size=1:=by simpa using hzl
 have h63':n+s.size≤9223372036854775807:=by simp only [maxLen] at h63;omega
 have hnl:=byteCells_length s
 have h1:∀u∈byteCells s,u.oneCell'=true:=(Go.Src.ofString (P:=P) w htx s).one
 by_cases hroom:n+s.size≤c
 ·have hfit:n+(byteCells s).length≤cs.size:=by rw [hnl];omega
  have hst:=run_storeCells_at P g n e (byteCells s) 0 cs w hb (by simpa using hfit) h1
  simp only [Nat.add_zero] at hst
  have hf:=firstCells_string (P:=P) s w
  have hr:(Builtin.append_ #[t,tx] ty #[.slice (some ⟨g,0,none⟩) n c,.string s]).run P w=.ok (.slice (some ⟨g,0,none⟩) (n+s.size) c) (w.setRow g (cs.toList.take n++byteCells s++cs.toList.drop (n+(byteCells s).length)).toArray):=by
   simp [Builtin.append_,run_underlying hu,run_underlying htx,sizeOf,typeInfo,hi,hsz,Builtin.lenOf,hroom,hf,Addr.add_lit,hst]
  refine⟨g,c,_,_,hr,setRow_heap w g cs _ e _ hb,?_,hroom,hcm,fun j hj=> ?_,fun j hj=> ?_,.inl rfl,Fr.setRow hb ?_⟩
  ·refine Lt hcs ?_;simp only [List.size_toArray,La,List.length_take,List.length_drop,Array.length_toList];omega
  ·simp only [List.getElem?_toArray,Lo]
   rw [List.getElem?_append_left (by simp;omega),List.getElem?_take]
   simp [hj]
  ·simp only [List.getElem?_toArray,Lo]
   rw [List.getElem?_append_right (by simp;omega),List.getElem?_append_left (by simp;omega)]
   simp [Nat.min_eq_left (show n≤cs.size by omega)]
  ·simp only [List.size_toArray,La,List.length_take,List.length_drop,Array.length_toList];omega
 ·have hold:∀j v,(cs.toList.take n)[j]?=some v→w.drew.cell? ((⟨g,0,none⟩:Addr).add j)=some v:=by
   intro j v hv
   rw [show w.drew.cell? ((⟨g,0,none⟩:Addr).add j)=w.cell? ((⟨g,0,none⟩:Addr).add j) from rfl,ZP,Zf hb,Nz]
   rw [List.getElem?_take] at hv
   split at hv
   ·simpa using hv
   ·cases hv
  have hol:(cs.toList.take n).length=n:=by simp;omega
  have hfc:=run_firstCells_some (P:=P) w.drew 1 n ⟨g,0,none⟩ n c (cs.toList.take n) (by rw [hol,Ad]) hold
  have hS:Go.Src P inf.size tx (.string s) s.size (byteCells s) w:=by rw [hsz];exact Go.Src.ofString w htx s
  have hr:=run_append_grow_src (P:=P) w t tx ty e inf zv hu hi hzv (some ⟨g,0,none⟩) n c _ (by rw [hsz];exact hfc) (.string s) s.size _ hS om om (growslice_fits om hby)
  have hge:=grownCap_ge w (n+s.size) c e
  refine⟨w.heap.size,_,_,_,hr,heap_alloc_new w.drew _,?_,hge,grownCap_le_maxLen w (n+s.size) c e h63,fun j hj=> ?_,fun j hj=> ?_,.inr rfl,?_⟩
  ·refine Nat.le_of_eq ?_
   simp only [Array.size_append,List.size_toArray,La,size_zeroCells,hzs,hol,hnl,Ad]
   omega
  ·rw [Array.getElem?_append_left (by simp;omega)]
   simp only [List.getElem?_toArray]
   rw [List.getElem?_append_left (by rw [hol];exact hj),List.getElem?_take]
   simp [hj]
  ·rw [Array.getElem?_append_left (by simp [hnl];omega)]
   simp only [List.getElem?_toArray]
   rw [List.getElem?_append_right (by rw [hol];omega),hol]
   simp
  ·exact(Fr.drew (fun b=>b=g) w (w.drawn+1)).trans (Fr.alloc (fun _=>False) w.drew _) (fun x hx _=>hx.elim)
theorem Qe5 {P:Program} {w:World} {t tx ty e bytes:Nat} {z:List CV} {s:ByteArray} (ht:QR P t=some (e,1,bytes)) (htx:P.underlying tx=some .string) (hz:Qj P e=some z) (hzl:z.length=1) (hk:0<s.size) (h63:s.size≤maxLen) (hby:s.size*bytes≤140737488355328):
  ∃c' w' cs',(Builtin.append_ #[t,tx] ty #[.slice none 0 0,.string s]).run P w=.ok (.slice (some ⟨w.heap.size,0,none⟩) s.size c') w'∧w'.heap[w.heap.size]?=some (.cells cs' e (0,0))∧c'≤cs'.size∧s.size≤c'∧c'≤maxLen∧
   (∀j,j<s.size→cs'[j]?=(byteCells s)[j]?)∧Fr (fun _=>False) w w':=by
 obtain⟨hu,inf,hi,hsz,hbb⟩:=Xg ht
 obtain⟨i',zv,hi',hzv,rfl⟩:=YI hz
 rw [hi] at hi'
 injection hi' with hi'
 subst hi'
 subst hbb
 have hzs:zv.cells.size=1:=by simpa using hzl
 have hnl:=byteCells_length s
 have h63':s.size≤9223372036854775807:=by simp only [maxLen] at h63;omega
 have hS:Go.Src P inf.size tx (.string s) s.size (byteCells s) w:=by rw [hsz];exact Go.Src.ofString w htx s
 have hr:=run_append_grow_src (P:=P) w t tx ty e inf zv hu hi hzv none 0 0 [] (by rw [hsz];exact run_firstCells_none w.drew 1 0 0 0) (.string s) s.size _ hS om om (growslice_fits om (by simpa using hby))
 rw [Nz] at hr
 have hge:=grownCap_ge w s.size 0 e
 refine⟨_,_,_,hr,heap_alloc_new w.drew _,?_,hge,grownCap_le_maxLen w s.size 0 e h63,fun j hj=> ?_,?_⟩
 ·refine Nat.le_of_eq ?_
  simp only [Array.size_append,List.size_toArray,La,Lu,size_zeroCells,hzs,hnl,Ad]
  omega
 ·rw [Array.getElem?_append_left (by simp [hnl];omega)]
  simp
 ·exact(Fr.drew (fun _=>False) w (w.drawn+1)).trans (Fr.alloc (fun _=>False) w.drew _) (fun x hx _=>hx.elim)
theorem Qdz {P:Program} {w:World} {t tx ty e bytes:Nat} {s:ByteArray} (ht:QR P t=some (e,1,bytes)) (htx:P.underlying tx=some .string) (hk:s.size=0):
  (Builtin.append_ #[t,tx] ty #[.slice none 0 0,.string s]).run P w=.ok (.slice none 0 0) w:=by
 obtain⟨hu,inf,hi,hsz,hbb⟩:=Xg ht
 have hf:=firstCells_string (P:=P) s w
 rw [hk] at hf
 simp [Builtin.append_,run_underlying hu,run_underlying htx,sizeOf,typeInfo,hi,hsz,Builtin.lenOf,hk,hf]
section
variable {E : Vl} {K : List It} {σ σ' : Sl} {h : Qa} {all rest : List Oper} {o : Oper}
theorem W8 {P:Program} {o:Oper} {s x:Operand} {t tx:TypeId} {e:Operand→Value} {w w':World} {v:Value} (hop:o.op=.call {callee:=.builtin .append,args:= #[s,x],argTypes:= #[t,tx]})
  (hr:(Builtin.append_ #[t,tx] o.type #[e s,e x]).run P w=.ok v w'):(execOp e o).run P w=.ok (.value v) w':=by
 simp only [execOp,hop,resolve,invoke,Go.builtin,Sem.run_bind,Sem.run_pure,Result.andThen_ok,List.map_toArray,Ld,List.map_nil,hr]
theorem QbQ {t tx e bytes n:Nat} {z:List CV} {og:Option Nat} {f:Nat→CV} {pre:Qa} {s x:Operand} {bs:ByteArray} (hop:o.op=.call {callee:=.builtin .append,args:= #[s,x],argTypes:= #[t,tx]}) (hw:Qx all σ o=some true) (hd:Qw E.N o.dst=true)
  (ht:QR E.P t=some (e,1,bytes)) (htx:E.P.underlying tx=some .string) (hz:Qj E.P e=some z) (hzl:z.length=1) (hs:ev σ s=.c (Jq og n)) (hx:ev σ x=.c (.str bs)) (hog:og=none→n=0) (hh:h=pre++gh og e n f)
  (h63:n+bs.size≤maxLen) (hby:(n+bs.size)*bytes≤140737488355328)
  (kk:∀og',(og'=none→n+bs.size=0)→(∀g',og'=some g'→og=some g'∨g'∉h.keys)→aw E (.ops all rest::K) (σ.setO o.dst (.c (Jq og' (n+bs.size)))) (pre++gh og' e (n+bs.size) (Xq f n (UZ bs.data.toList)))):aw E (.ops all (o::rest)::K) σ h:=by
 have hsz':bs.data.toList.length=bs.size:=by rw [Array.length_toList];rfl
 cases og with
 |none=>
  have hn:=hog rfl
  subst hn
  by_cases hk:bs.size=0
  ·refine V9 (σ':=σ.setO o.dst (.c (Jq none (0+bs.size)))) (h':=pre++gh none e (0+bs.size) (Xq f 0 (UZ bs.data.toList))) hw (fun a w st=> ?_) (kk none (fun _=>by omega) (fun g' e=>by cases e))
   have r1:=QK st s
   have r2:=QK st x
   rw [hs] at r1
   rw [hx] at r2
   have v1:a.eval s=.slice none 0 0:=r1
   have v2:a.eval x=.string bs:=r2
   refine⟨.slice none 0 0,w,.inl (W8 hop (by rw [v1,v2];exact Qdz ht htx hk)),?_⟩
   subst hh
   exact st.put hd (r:=.c (Jq none (0+bs.size))) (v:=.slice none 0 0) rfl
  ·have hp:h=pre:=by rw [hh];simp [gh]
   subst hp
   refine UU (r:=fun g=>.c (Jq (some g) (0+bs.size))) (ob:=.cells e (0+bs.size) (Xq f 0 (UZ bs.data.toList))) hw hd (fun a w st=> ?_) fun g' hg'=> ?_
   ·have r1:=QK st s
    have r2:=QK st x
    rw [hs] at r1
    rw [hx] at r2
    have v1:a.eval s=.slice none 0 0:=r1
    have v2:a.eval x=.string bs:=r2
    obtain⟨c',w',cs',hrun,hb',hcs',hle',hcm',hnew,hfr⟩:=Qe5 (P:=E.P) (w:=w) (ty:=o.type) (s:=bs) ht htx hz hzl om om (by simpa using hby)
    have hlt:w.heap.size<w'.heap.size:=(Array.getElem?_eq_some_iff.1 hb').1
    refine⟨_,w',W8 hop (by rw [v1,v2];exact hrun),hfr,hlt,⟨cs',hb',by omega,fun j hjl=> ?_⟩,c',by rw [Nz],by omega,hcm',cs',e,⟨_,hb'⟩,by omega⟩
    have hjl':j<bs.size:=by omega
    rw [hnew j hjl',QaO bs j hjl']
    refine⟨_,rfl,?_⟩
    unfold Xq
    rw [iN om,Nat.sub_zero]
    rfl
   ·refine Qi (h':=h++[(g',.cells e (0+bs.size) (Xq f 0 (UZ bs.data.toList)))]) (List.perm_append_singleton _ _).symm ?_
    exact kk (some g') (fun e=>by cases e) (fun g2 e=>by cases e;exact .inr hg')
 |some g=>
  refine Y9 fun hnd=> ?_
  have hnp:g∉pre.keys:=fun hm=>by
   rw [hh] at hnd
   simp only [Qa.keys,gh,List.map_append,Ld,List.map_nil] at hnd
   exact(List.nodup_append.1 hnd).2.2 g hm g (by simp) rfl
  have hget:h.get g=some (.cells e n f):=by rw [hh];exact Qa.get_app hnp
  have hdel:h.del g=pre:=by rw [hh];exact Qa.del_app hnp
  intro a w st
  have r1:=QK st s
  have r2:=QK st x
  rw [hs] at r1
  rw [hx] at r2
  have v2:a.eval x=.string bs:=r2
  obtain⟨c,hv1,hnc,hcm,cs0,ty0,⟨_,hb0⟩,hcs0⟩:=r1
  obtain⟨cs,hb,hn,hj⟩:=st.heap g _ (Qa.get_mem hget)
  rw [hb] at hb0
  injection hb0 with hb0
  injection hb0 with hb0 _
  subst hb0
  obtain⟨g',c',w',cs',hrun,hb',hcs',hle',hcm',hold,hnew,hat,hfr⟩:=Qe4 (P:=E.P) (w:=w) (ty:=o.type) (s:=bs) ht htx hz hzl hb (by simpa using hcs0) hnc hcm h63 hby
  obtain⟨st',hnot⟩:=st.replace (ob':=.cells e (n+bs.size) (Xq f n (UZ bs.data.toList))) hget hfr hat (fun kp=>⟨cs',hb',by omega,fun j hjl=>by
   unfold Xq
   by_cases hjn:j<n
   ·rw [iP hjn,hold j hjn]
    obtain⟨u,hu,hr⟩:=hj j om
    exact⟨u,hu,hr.keep kp⟩
   ·rw [iN hjn]
    have hjk:j-n<bs.size:=by omega
    have:=hnew (j-n) hjk
    rw [show n+(j-n)=j from by omega] at this
    rw [this,QaO bs _ hjk]
    exact⟨_,rfl,rfl⟩⟩)
  rw [hdel] at st' hnot
  have st2:=st'.put hd (r:=.c (Jq (some g') (n+bs.size))) (v:=.slice (some ⟨g',0,none⟩) (n+bs.size) c') ⟨c',rfl,hle',hcm',cs',e,⟨_,hb'⟩,by omega⟩
  have hk':=Qi (E:=E) (List.perm_append_singleton _ _).symm (kk (some g') (fun e=>by cases e) (fun g2 e=>by
   cases e
   rcases hat with rfl|rfl
   ·exact .inl rfl
   ·exact .inr fun hm=>Nat.lt_irrefl _ (st.klt hm))) _ _ st2
  show wpList _ _ _ _ _ _
  unfold wpList
  rw [iP (st.wanted hw)]
  refine .inl ?_
  unfold Oper.wp
  rw [W8 hop (by rw [hv1,v2];exact hrun)]
  exact hk'
end
end
section
def Qm4 (P:Program) (t:TypeId):Option (List Value):=((P.info? t).bind (·.zero)).map fun z=>z.cells.toList
theorem Qe6 {P:Program} {t:TypeId} {vs:List Value} (hz:Qm4 P t=some vs):∃i v,P.info? t=some i∧i.zero=some v∧vs=v.cells.toList:=by
 unfold Qm4 at hz
 cases hi:P.info? t with
 |none=>simp [hi] at hz
 |some i=>
  cases hv:i.zero with
  |none=>simp [hi,hv] at hz
  |some v=>simp [hi,hv] at hz;exact⟨i,v,rfl,hv,hz.symm⟩
theorem Qe7 (S:Bool→Nat→Prop) (w:World):∀l:List Value,X4 S w (l.map CV.raw) l
 |[]=>trivial
 |v::l=>⟨rfl,Qe7 S w l⟩
section
variable {E : Vl} {K : List It} {σ σ' : Sl} {h : Qa} {all rest l : List Oper} {o : Oper}
theorem Qgw {t:TypeId} {vs:List Value} (hop:o.op=.alloc t) (hw:Qx all σ o=some true) (hd:Qw E.N o.dst=true) (hz:Qm4 E.P t=some vs)
  (k:∀g,g∉h.keys→aw E (.ops all rest::K) (σ.setO o.dst (.c (.optr g 0))) ((g,.cells t (vs.map CV.raw).length (ofL (vs.map CV.raw)))::h)):aw E (.ops all (o::rest)::K) σ h:=by
 refine UU (r:=fun g=>.c (.optr g 0)) (ob:=.cells t (vs.map CV.raw).length (ofL (vs.map CV.raw))) hw hd (fun a w s=> ?_) k
 obtain⟨i,v,hi,hv,rfl⟩:=Qe6 hz
 refine⟨.pointer (some ⟨w.heap.size,0,none⟩),w.alloc (.cells v.cells.toList.toArray t),?_,Fr.alloc _ _ _,by simp,Wc (Qe7 _ _ _),rfl⟩
 simp only [execOp,hop,Instr.alloc,zeroValue,typeInfo,newVar,newRow,Sem.run_bind]
 simp [hi,hv]
theorem QA.unsafeStr0 {P:Program} {ρ:Operand→AV} {pt it:TypeId} {p x:Operand} (hp:ρ p=.c (.raw (.pointer none))) (hx:ρ x=.c (.int .i64 0)):QA P h ρ (.call {callee:=.builtin .unsafeString,args:= #[p,x],argTypes:= #[pt,it]}) (.c (.str ⟨#[]⟩)):=fun S w e _ ho _=>by
 have h1:e p=.pointer none:=by have:=ho p (by simp [Op.operands,Call.operands]);rw [hp] at this;exact this
 have h2:e x=.int .i64 0:=by have:=ho x (by simp [Op.operands,Call.operands]);rw [hx] at this;exact this
 refine⟨.string .empty,fun o hop=> ?_,rfl⟩
 have:=Lib.run_unsafeString_none (P:=P) (w:=w) pt it o.type none
 simp [execOp,hop,resolve,invoke,Go.builtin,h1,h2,this]
theorem Fr.freeze (w:World) (g n:Nat):Fr (fun b=>b=g) w (w.freeze ⟨g,0,none⟩ n):=by
 unfold World.freeze
 split
 ·exact Fr.refl _ _
 ·refine⟨rfl,rfl,rfl,by simp,Ac _,fun b _ hn=> ?_,fun g1 m hh=> ?_⟩
  ·simp only [Array.getElem?_modify]
   rw [iN (fun e=>hn e.symm)]
  ·obtain⟨cs,ty,⟨fr,hc⟩,hs⟩:=hh
   by_cases e:g=g1
   ·subst e
    refine⟨cs,ty,?_,hs⟩
    simp only [Array.getElem?_modify,hc]
    simp
   ·refine⟨cs,ty,⟨fr,?_⟩,hs⟩
    simp only [Array.getElem?_modify]
    rw [iN e];exact hc
theorem St.drop {N:Nat} {C:Vk} {a:Act} {w w':World} {g:Nat} (s:St N C σ h a w) (hg:g∈h.keys) (hfr:Fr (fun b=>b=g) w w'):St N C σ (h.del g) a w':=by
 have hsub:∀b,b∈(h.del g).keys→b∈h.keys:=fun b hb=>by
  obtain⟨p,hp,e⟩:=List.mem_map.1 hb
  exact List.mem_map.2 ⟨p,(Qa.del_sub h g).subset hp,e⟩
 have kp:YA (QH C h w) (QH C (h.del g) w') w w':=
  ⟨fun t b hb=>⟨hb.1,Ae hb.2.1 hfr.size,fun hm=>hb.2.2 (hsub b hm)⟩,fun t b hb=>hfr.block b hb.2.1 (fun e=>hb.2.2 (e▸hg)),hfr.has⟩
 refine⟨s.size,s.defers,fun t=>VK.keep kp (s.slots t),fun g1 o1 hm=> ?_,((Qa.del_sub h g).map _).nodup s.nodup,fun g1 hg1=>s.keys g1 (hsub _ hg1),?_⟩
 ·have h1:=s.heap g1 o1 ((Qa.del_sub h g).subset hm)
  have hmk:g1∈(h.del g).keys:=List.mem_map.2 ⟨(g1,o1),hm,rfl⟩
  have hne:g1≠g:=fun e=>Qa.del_not h g s.nodup (e▸hmk)
  exact Y0.keep kp (hfr.block g1 h1.lt hne) h1
 ·refine s.frame.trans hfr (fun x hx hlt=> ?_)
  subst hx
  exact(s.keys _ hg).resolve_right om
theorem QhI {pt it e:TypeId} {p x:Operand} {g m:Nat} {f:Nat→CV} {bs:List UInt8} {h':Qa} (hop:o.op=.call {callee:=.builtin .unsafeString,args:= #[p,x],argTypes:= #[pt,it]}) (hw:Qx all σ o=some true) (hd:Qw E.N o.dst=true)
  (hpt:E.P.underlying pt=some (.pointer e)) (hc:E.P.cellsOf e=1) (hp:ev σ p=.c (.optr g 0)) (hx:ev σ x=.c (.int .i64 bs.length)) (hg:h.get g=some (.cells e m f)) (hm:bs.length≤m) (h0:bs≠[]) (h63:bs.length≤9223372036854775807) (hf:∀j,j<bs.length→f j=UZ bs j)
  (hh:h.del g=h') (k:aw E (.ops all rest::K) (σ.setO o.dst (.c (.str ⟨bs.toArray⟩))) h'):aw E (.ops all (o::rest)::K) σ h:=by
 subst hh
 refine V9 hw (fun a w s=> ?_) k
 have r1:=QK s p
 have r2:=QK s x
 rw [hp] at r1
 rw [hx] at r2
 have v1:a.eval p=.pointer (some ⟨g,0,none⟩):=r1
 have v2:a.eval x=.int .i64 bs.length:=r2
 obtain⟨cs,hb,hn,hj⟩:=s.heap g _ (Qa.get_mem hg)
 have hsh:w.shape? g=some (e,cs.size):=by simp [World.shape?,hb]
 have hr:=Lib.run_unsafeString_row (P:=E.P) (w:=w) pt it o.type e hpt hc g cs.size hsh bs h0 om h63 (fun j u hu=>by
  obtain⟨hjl,rfl⟩:=List.getElem?_eq_some_iff.1 hu
  obtain⟨u,hu,hr⟩:=hj j om
  rw [hf j hjl] at hr
  rw [ZP,Zf hb,Nz,hu,Qm3 hjl hr])
 refine⟨.string ⟨bs.toArray⟩,w.freeze ⟨g,0,none⟩ bs.length,.inl ?_,?_⟩
 ·simp [execOp,hop,resolve,invoke,Go.builtin,v1,v2,hr]
 ·exact(s.drop (List.mem_map.2 ⟨_,Qa.get_mem hg,rfl⟩) (Fr.freeze w g _)).put hd (r:=.c (.str ⟨bs.toArray⟩)) rfl
theorem QbR {FP FP':Qa} {i mk:Nat} {cs:List (Nat×Nat)} {pt it e:TypeId} {p x:Operand} {g m:Nat} {f:Nat→CV} {bs:List UInt8} {h':Qa} (ho:l[i]?=some o) (hop:o.op=.call {callee:=.builtin .unsafeString,args:= #[p,x],argTypes:= #[pt,it]}) (hw:Qx l σ o=some true) (hd:Qw E.N o.dst=true)
  (hpt:E.P.underlying pt=some (.pointer e)) (hc:E.P.cellsOf e=1) (hp:ev σ p=.c (.optr g 0)) (hx:ev σ x=.c (.int .i64 bs.length)) (hg:h.get g=some (.cells e m f)) (hm:bs.length≤m) (h0:bs≠[]) (h63:bs.length≤9223372036854775807) (hf:∀j,j<bs.length→f j=UZ bs j)
  (hh:h.del g=h') (hFP:Kp FP' h') (k:CW E l K FP' cs (σ.setO o.dst (.c (.str ⟨bs.toArray⟩))) h') (hmk:mk=2∨mk=1∧FP'=FP:=by first|exact .inl rfl|exact .inr ⟨rfl,rfl⟩):CW E l K FP ((i,mk)::cs) σ h:=by
 refine .pin ho hmk (R:=fun r h2=>r=.c (.str ⟨bs.toArray⟩)∧h2=h') (fun σ' K hs=> ?_) ?_ ?_
 ·exact QhI hop ((Xh hs).trans hw) hd hpt hc ((XI (by rw [hop];simp [Op.operands,Call.operands]) hs).trans hp) ((XI (by rw [hop];simp [Op.operands,Call.operands]) hs).trans hx) hg hm h0 h63 hf hh (XA (Qb ⟨_,⟨rfl,rfl⟩,rfl⟩))
 ·rintro _ _ ⟨_,rfl⟩;exact hFP
 ·rintro _ _ ⟨rfl,rfl⟩;exact k
end
end
section
theorem QhJ (a b:List UInt8):sB a++sB b=sB (a++b):=by apply ByteArray.ext;simp
theorem Qyg (a b:List UInt8):Jm (sB a) (sB b)=(a==b):=by unfold Jm;rw [JF,JF]
theorem Quh (a b:Nat) (ha:a<4294967296):QkN .u32 (a:Int) (b:Int)=((a/b:Nat):Int):=by
 rw [QdJ]
 show IntKind.u32.wrap ((a:Int).tdiv b)=_
 have h:=Nat.div_le_self a b
 have e:(a:Int).tdiv (b:Int)=((a/b:Nat):Int):=rfl
 rw [e,IntKind.wrap_u32]
 generalize a/b=q at*
 omega
section
variable {P : Program} {h : Qa} {ρ : Operand → AV}
theorem QA.indexArr {t el:TypeId} {x ix:Operand} {g n:Nat} {k:IntKind} {i:Int} (ht:P.underlying t=some (.array n el)) (hz:(P.info? el).map (·.size)=some 1) (hx:ρ x=.c (.optr g 0)) (hix:ρ ix=.c (.int k i)) (h0:0≤i) (hl:i<n):QA P h ρ (.indexAddr t x ix) (.c (.optr g i.toNat)):=fun S w e _ ho _=>by
 have h1:e x=.pointer (some ⟨g,0,none⟩):=by have:=ho x Ag;rw [hx] at this;exact this
 have h2:e ix=.int k i:=by have:=ho ix Ag;rw [hix] at this;exact this
 obtain⟨j,hj,hjs⟩:=Option.map_eq_some_iff.1 hz
 refine⟨_,fun o hop=> ?_,rfl⟩
 simp [execOp,hop,h1,h2,Instr.indexAt,Instr.sureAddr,asIntOf,run_underlying ht,h0,hl,sizeOf,typeInfo,hj,hjs,ZP]
end
end
end Go.AI
namespace Go.Proofs.YtngjgahldnnapaaGreatDoor
open Go.AI Go.PN Proofs.Tryz
theorem Qv1 (k:Int) (h1: -9223372036854775808≤k) (h2:k≤9223372036854775807):ZN prog 66 [.c (.int .i64 k)] (.c (.str (sB (YX k)))):=by
 refine⟨⟨_,func66,rfl,rfl⟩,fun S w vs _ _ hT hr=> ?_⟩
 match vs,hr with
 |[v],⟨h,_⟩=>
  have h:v=.int .i64 k:=h
  subst h
  refine(Go.Proofs.Any.strconv_Itoa Qrj k h1 h2 w (hT.is Qrj.m17 Af)).mono ?_
  rintro e w' ⟨rfl,q,os,rfl⟩
  exact⟨_,rfl,by rw [Quf];exact rfl,Qln _ _ _ _⟩
theorem Qgx {laid:List (String×DataW Unit)} {W:World} (hp:(laid.all fun x=>x.2.handleName?.isNone)=true) (e:laid.filter (fun x=>x.1== "internal/strconv.uint64pow10")=[("internal/strconv.uint64pow10",Lib.tabData .u64 Lib.pow10Tab)]) (h:laidMetH prog laid W):OI (QcG W) W:=by
 rw [Go.MakeChecks.laidMetH_plain _ _ _ hp] at h
 have h2:=h.filter (fun x=>x.1== "internal/strconv.uint64pow10")
 rw [e] at h2
 exact OI.of Qrj.m17 (by rfl) (Lib.tabIs_of_head (g:=1) (t:=368) (e:=39) (n:=20) kR kR kR kR kR kR h2)
end Go.Proofs.YtngjgahldnnapaaGreatDoor
namespace Go.Proofs.YtngjgahldnnapaaGreatDoor
open Go.AI Go.PN Proofs.Tryz
attribute [local irreducible] aw Fa ZN ZZ Fh YE
theorem Qjx:Fa prog 204 [.c (.int .i64 10)] (.c (ws true (Qc 10))):=by
 have e1:XE .u32 10=((10:Nat):Int):=by rw [QN];rfl
 have e2:XE .u32 ((10:Int)/4294967296)=((0:Nat):Int):=by rw [QN];rfl
 have ew:Qc (val [10,0])=Qc 10:=rfl
 have f1:=Zh [10,0] Af Af
 rw [ew] at f1
 refine fA func204 fun C hC=>?_
 refine zA (oj e1 e2) ?_
 refine Qn (xs:=[.tmp 6,.tmp 9]) (cells:=[.int .u32 (10:Nat),.int .u32 (0:Nat)]) rfl rfl rfl Xy (by rw [Qdw,Xt];rfl) rfl om om (by intro x hx;simp only [Lb,Lj,or_false] at hx;rcases hx with rfl|rfl<;>exact⟨rfl,rfl,rfl⟩) rfl fun g hg=> ?_
 have J1:=oj e1 e2
 refine yS J1 ?_
 refine Qu f1 rfl rfl rfl (by refine yS J1 ?_;exact .c (Yt (zE J1) om rfl (fun j hj=>by match j,hj with|0,_=>rfl|1,_=>rfl))) ?_
 refine yS J1 ?_
 refine zA J1 ?_
 refine yT hC J1 ?_
 exact .one (.c Xc)
theorem Qjy (xs:List Nat) (hx:∀x∈xs,x<4294967296) (hl:xs.length≤1073741824):Fa prog 129 [.c (ws false xs)] (.c (.str (sB (VA (val xs))))):=by
 have hw:=QV xs hx
 have hD:=W7 (n:=val xs) (L:=1073741824) om
 rw [QbO] at hD
 refine fA func129 fun C hC=>?_
 refine zA o0 ?_
 refine xC (Zh xs hx ?_) ?_
 ·omega
 generalize val xs=N at hw hD⊢
 refine zA o0 ?_
 refine Qh (fun y:Nat×BS=>[(0,.c (ws true (Qc y.1))),(3,.c (.str (sB y.2)))]) (fun _=>[]) (fun y=>y.1≤N∧((y.2=[]∧y.1=N)∨(y.2≠[]∧VA N=if y.1=0 then y.2 else VA y.1++y.2))) (fun y=>y.1+if y.2=[] then 1 else 0) (N,[]) eB zZ ⟨Ac _,.inl ⟨rfl,rfl⟩⟩ ?_
 rintro ⟨n,s⟩ ⟨hn,hs⟩
 replace hn:n≤N:=hn
 replace hs:(s=[]∧n=N)∨(s≠[]∧VA N=if n=0 then s else VA n++s):=hs
 have hsl:s.length≤20000000000:=by
  rcases hs with ⟨e1,_⟩|⟨_,e2⟩
  ·rw [e1];simp
  ·have e3:=congrArg List.length e2
   split at e3
   ·omega
   ·rw [La] at e3;omega
 have hnl:(Qc n).length≤xs.length:=Lt (QL hn) hw
 have hw10:(Qc 10).length≤2:=UK om
 have f1:=QdT (Qc n) (Qc 10) (Qr n) (Qr 10) om om (by rw [Qd];decide)
 rw [Qd,Qd] at f1
 have hm:=Nat.mod_lt n (show 0<10 from by decide)
 have f2:=YK (Qc (n%10)) 0 (Qr _)
 rw [Qjp hm] at f2
 have hI:((Qc n).length>0∨s=[])→VA N=VA n++s:=fun h=>by
  rcases hs with ⟨e1,e2⟩|⟨e1,e2⟩
  ·rw [e1,e2,Lp]
  ·rw [e2,iN (fun e=>by subst e;rw [QC] at h;exact h.elim (fun h=>absurd h (by simp)) e1)]
 have hE:¬(Qc n).length>0→s≠[]→VA N=s:=fun h1 h2=>by
  rcases hs with ⟨e1,e2⟩|⟨e1,e2⟩
  ·exact absurd e1 h2
  ·rw [e2,iP (Xl.1 (Lh.1 om))]
 have hmeas:((Qc n).length>0∨s=[])→n/10+0<n+if s=[] then 1 else 0:=fun h=>by
  by_cases h0:n=0
  ·rw [iP (h.resolve_left (fun h=>by rw [h0,QC] at h;simp at h))];omega
  ·split<;>omega
 have hst:=QoL n s
 have hw8:XE .i32 ((48:Int)+(n%10:Nat))=((48+n%10:Nat):Int):=QoK om
 generalize n%10=r at*
 repeat' first|refine zV hw8 ?_|refine zH hw8 ?_ ?_<;>intro hb|fail
 ·refine yC hw8 (Qjx) ?_
  refine zA hw8 ?_
  refine yC hw8 (f1) ?_
  refine zA hw8 ?_
  refine yC hw8 (f2) ?_
  refine zA hw8 ?_
  refine QT (QA.runeStr (by exact underlying21) (by exact underlying9) (zE hw8) om) rfl rfl ?_
  refine yS hw8 ?_
  refine zA hw8 ?_
  refine Qb ⟨(n/10,UInt8.ofNat (48+r)::s),by rw [iN (by simp)];exact hmeas (.inl hb),(zB hw8),zZ,by show n/10≤N;omega,.inr ⟨by simp,by show VA N=if n/10=0 then _ else _;rw [hI (.inl hb),hst]⟩⟩
 ·refine yC hw8 (Qjx) ?_
  refine zA hw8 ?_
  refine yC hw8 (f1) ?_
  refine zA hw8 ?_
  refine yC hw8 (f2) ?_
  refine zA hw8 ?_
  refine QT (QA.runeStr (by exact underlying21) (by exact underlying9) (zE hw8) om) rfl rfl ?_
  refine yS hw8 ?_
  refine zA hw8 ?_
  refine Qb ⟨(n/10,UInt8.ofNat (48+r)::s),by rw [iN (by simp)];exact hmeas (.inr hb),(zB hw8),zZ,by show n/10≤N;omega,.inr ⟨by simp,by show VA N=if n/10=0 then _ else _;rw [hI (.inr hb),hst]⟩⟩
 ·rw [←hE (by assumption) hb]
  refine yT hC hw8 ?_
  exact .one (.c (.str _))
end Go.Proofs.YtngjgahldnnapaaGreatDoor
namespace Go.PN
open Go.AI
theorem UO (l:List UInt8):(sB l).size=l.length:=rfl
theorem Qm5 (l:List UInt8):(sB l).data.toList=l:=rfl
theorem QhK (a b:List UInt8):∀j,Xq (UZ a) a.length (UZ b) j=UZ (a++b) j:=fun j=>by
 unfold Xq UZ
 split
 ·rename_i h
  rw [Lg,Lg,List.getElem?_append_left h]
 ·rename_i h
  rw [Lg,Lg,List.getElem?_append_right om]
def QbS (n j:Nat) (q:Nat):CV:=if 9≤q+j then .int .u8 ((48+n/10^(8-q)%10:Nat):Int) else .int .u8 0
theorem QoQ (n:Nat):∀q,q<9→QbS n 9 q=UZ (Ub n) q:=fun q hq=>by
 unfold QbS UZ Ub
 rw [iP om,Lg,List.getElem?_map,List.getElem?_range hq]
 show _=CV.int .u8 ((UInt8.ofNat (48+n/10^(8-q)%10)).toNat:Int)
 have h:48+n/10^(8-q)%10<2^8:=by have:=Nat.mod_lt (n/10^(8-q)) (show 0<10 by omega);omega
 rw [UInt8.toNat_ofNat',Nat.mod_eq_of_lt h]
theorem Qlo (n j:Nat) (hj:j<9):∀q,q<9→VL (QbS n j) (8-j) [.int .u8 ((48+n/10^j%10:Nat):Int)] q=QbS n (j+1) q:=fun q hq=>by
 show(if q=8-j then CV.int .u8 ((48+n/10^j%10:Nat):Int) else QbS n j q)=_
 unfold QbS
 by_cases e:q=8-j
 ·subst e
  rw [iP rfl,iP om,show 8-(8-j)=j from by omega]
 ·rw [iN e]
  by_cases h:9≤q+j
  ·rw [iP h,iP om]
  ·rw [iN h,iN om]
end Go.PN
namespace Go.Proofs.YtngjgahldnnapaaGreatDoor
open Go.AI Go.PN Proofs.Tryz
attribute [local irreducible] aw Fa ZN ZZ Fh YE
section
theorem U0:prog.underlying 122=some (.pointer 125):=underlying122
theorem QhL:prog.underlying 319=some .unsafePointer:=underlying319
theorem QhM:prog.underlying 9=some .string:=underlying9
theorem Qm6:prog.underlying 187=some (.pointer 5):=underlying187
abbrev OB (gB:Nat) (a b:CV):Nat×XD:=(gB,.cells 125 2 (ofL [a,b]))
theorem QA.lenNil {h:Qa} {ρ:Operand→AV} {t el size bytes:Nat} {x:Operand} (ht:QR prog t=some (el,size,bytes)) (hx:ρ x=.c (.raw (.slice none 0 0))):QA prog h ρ (.call {callee:=.builtin .len,args:= #[x],argTypes:= #[t]}) (.c (.int .i64 0)):=fun S w e _ ho _=>by
 have h2:e x=.slice none 0 0:=by have:=ho x (by simp [Op.operands,Call.operands]);rw [hx] at this;exact this
 obtain⟨hu,_⟩:=Xg ht
 exact⟨.int .i64 0,fun o hop=>by simp [execOp,hop,resolve,invoke,Go.builtin,Builtin.len_,h2,run_underlying hu,goInt],rfl⟩
section
variable {E : Vl} {K : List It} {σ : Sl}
theorem Qjz {x:Nat×XD} {og:Option Nat} {ty:TypeId} {n n':Nat} {f f':Nat→CV} (hn:n=n') (hf:∀j,j<n→f j=f' j) (k:aw E K σ (x::gh og ty n' f')):aw E K σ (x::gh og ty n f):=by
 subst hn
 cases og with
 |none=>exact k
 |some g=>exact Qi (List.Perm.swap _ _ _) (QU hf (Qi (List.Perm.swap _ _ _) k))
end
theorem Qf4 (gB:Nat) (b:CV):Fh prog 198 [OB gB (.raw (.pointer none)) b] [.c (.optr gB 0)] (fun x h=>x=.tup []∧h=[OB gB (.optr gB 0) b]):=by
 obtain⟨j,hj,hjs⟩:=Option.map_eq_some_iff.1 (show(prog.info? 125).map (·.size)=some 2 from by kernel_rfl)
 refine fH func198 fun C hC=>?_
 refine xG ?_
 refine QT (QA.eqPtr (b:=true) U0 eE eE (.inl ⟨rfl,rfl⟩)) rfl rfl ?_
 refine Z1 ?_
 refine xP ?_
 refine xG ?_
 refine QT (QA.toUnsafe U0 QhL hj (by rw [hjs];decide) eE eE om) rfl rfl ?_
 refine Z1 ?_
 refine QT (QA.noEscape func294 rfl rfl rfl rfl rfl eE) rfl rfl ?_
 refine Z1 ?_
 refine QT (QA.fromUnsafe QhL U0 hj (n:=2) kR om eE eE om) rfl rfl ?_
 refine Z1 ?_
 refine xW ?_
 refine xS ?_
 refine QU (f':=ofL [.optr gB 0,b]) (fun j hj=>by match j,hj with|0,_=>rfl|1,_=>rfl) ?_
 refine xG ?_
 refine xV ?_
 exact⟨rfl,rfl⟩
theorem Qf5 (gB:Nat) (b:CV):Fh prog 198 [OB gB (.optr gB 0) b] [.c (.optr gB 0)] (fun x h=>x=.tup []∧h=[OB gB (.optr gB 0) b]):=by
 obtain⟨j,hj,hjs⟩:=Option.map_eq_some_iff.1 (show(prog.info? 125).map (·.size)=some 2 from by kernel_rfl)
 refine fH func198 fun C hC=>?_
 refine xG ?_
 refine QT (QA.eqPtr (b:=false) U0 eE eE (.inr ⟨gB,rfl,rfl⟩)) rfl rfl ?_
 refine Z1 ?_
 refine xN ?_
 refine xG ?_
 refine QT (QA.neqPtr U0 hj eE eE) rfl rfl ?_
 refine Z1 ?_
 refine xN ?_
 refine xG ?_
 refine xV ?_
 exact⟨rfl,rfl⟩
theorem Qui (gB:Nat) (a:CV) (ha:a=.raw (.pointer none)∨a=.optr gB 0) (og:Option Nat) (B l:List UInt8) (hog:og=none→B.length=0) (hlen:B.length+l.length≤100000000000):
  Fh prog 122 (OB gB a (Jq og B.length)::gh og 5 B.length (UZ B)) [.c (.optr gB 0),.c (.str (sB l))]
   (fun x h=>∃og',(og'=none→(B++l).length=0)∧x=.tup [.c (.int .i64 l.length),.c .nilI]∧h=OB gB (.optr gB 0) (Jq og' (B++l).length)::gh og' 5 (B++l).length (UZ (B++l))):=by
 have hcc:Fh prog 198 [OB gB a (Jq og B.length)] [.c (.optr gB 0)] (fun x h=>x=.tup []∧h=[OB gB (.optr gB 0) (Jq og B.length)]):=by
  rcases ha with rfl|rfl
  ·exact Qf4 ..
  ·exact Qf5 ..
 refine fH func122 fun C hC=>?_
 refine xG ?_
 refine Ql (hc:=[OB gB a (Jq og B.length)]) (hr:=gh og 5 B.length (UZ B)) hcc rfl rfl rfl (.refl _) eL ?_
 rintro _ _ ⟨rfl,rfl⟩ _
 refine Z1 ?_
 refine QbQ (pre:=[OB gB (.optr gB 0) (Jq og B.length)]) (f:=UZ B) (bs:=sB l) rfl rfl rfl eE QhM eE (by rfl) eE eE hog rfl (by rw [UO];unfold maxLen;omega) (by rw [UO];omega) fun og' h1 h2=> ?_
 rw [UO,Qm5,List.singleton_append]
 refine Qjz (n':=(B++l).length) (f':=UZ (B++l)) (by simp) (fun j _=>QhK B l j) ?_
 rw [show B.length+l.length=(B++l).length from by simp]
 rw [UO,show B.length+l.length=(B++l).length from by simp] at h1
 refine Z1 ?_
 have hsol:(Jq og' (B++l).length).solid=true:=by cases og'<;>rfl
 refine KV rfl rfl rfl rfl eE eE eE eE (fun _ e=>by cases e) (by simp only [AV.cells,List.all_cons,List.all_nil,hsol];rfl) (by rfl) om rfl ?_
 refine xS ?_
 refine QU (f':=ofL [.optr gB 0,Jq og' (B++l).length]) (fun j hj=>by match j,hj with|0,_=>rfl|1,_=>rfl) ?_
 refine xG ?_
 refine xU ?_
 exact⟨og',h1,rfl,rfl⟩
theorem Quj (gB:Nat) (a:CV) (og:Option Nat) (B:List UInt8) (h0:og=none→B=[]) (h1:B=[]→og=none) (hlen:B.length≤100000000000):
  Fh prog 60 (OB gB a (Jq og B.length)::gh og 5 B.length (UZ B)) [.c (.optr gB 0)] (fun x h=>x=.c (.str (sB B))∧h=[]):=by
 cases og with
 |none=>
  have hB:=h0 rfl
  subst hB
  refine fH func60 fun C hC=>?_
  refine xG ?_
  refine Xv 11 Qg kR ?_
  refine xG ?_
  refine KR (QA.sliceDataN eE) rfl rfl ?_
  refine Z1 ?_
  refine KR (QA.lenNil (by exact VY) eE) rfl rfl ?_
  refine Z1 ?_
  refine KR (QA.unsafeStr0 eE eE) rfl rfl ?_
  refine Z1 ?_
  refine QM (Sl.le_refl _) (List.nil_sublist _) ?_
  refine xU ?_
  exact⟨rfl,rfl⟩
 |some g=>
  have hB:B≠[]:=fun e=>by have:=h1 e;cases this
  have hB':0<B.length:=List.length_pos_iff.2 hB
  refine(?_:Fh _ _ (OB gB a (.osl g 1 0 B.length)::[(g,.cells 5 B.length (UZ B))]) _ _)
  refine fH func60 fun C hC=>?_
  refine Y9 fun hnd=> ?_
  have hne:gB≠g:=fun e=>by subst e;simp [Qa.keys] at hnd
  have hne':(gB=g)=False:=eq_false hne
  refine yG hne' ?_
  refine Yf [OB gB a (.osl g 1 0 B.length)] [(0,0),(1,0),(2,0),(3,0),(4,0),(5,0),(6,0),(7,0),(8,0),(9,0),(10,2),(11,0)] Qg kR (Qm (Lf ..) Qf) ?_
  refine yG hne' ?_
  refine Vq rfl (fun _ _=>QA.sliceData (zE hne') hB') rfl rfl ?_
  refine Xp hne' ?_
  refine QbR (FP':=[]) (bs:=B) (h':=[OB gB a (.osl g 1 0 B.length)]) rfl rfl rfl rfl Qm6 kR (zE hne') (zE hne') (zE hne') (Ac _) hB om (fun _ _=>rfl) (zE hne') Qf ?_
  refine Xp hne' ?_
  refine QM (Sl.le_refl _) (List.nil_sublist _) ?_
  refine yU hne' ?_
  exact⟨rfl,rfl⟩
end
theorem QjA (l:List UInt8) (c:UInt8) (hl:l.length≤100000000000):Fa prog 309 [.c (.str (sB l)),.c (.int .u8 (c.toNat:Int))] (.c (.str (sB (l.dropWhile (·==c))))):=by
 refine fA func309 fun C hC=>?_
 refine xG ?_
 refine Qh (fun m:List UInt8=>[(0,.c (.str (sB m))),(1,.c (.int .u8 (c.toNat:Int)))]) (fun _=>[]) (fun m=>m.length≤l.length∧l.dropWhile (·==c)=m.dropWhile (·==c)) (fun m=>m.length) l eB zZ ⟨Ac _,rfl⟩ ?_
 rintro m ⟨hm,he⟩
 cases m with
 |nil=>
  repeat' first|refine zV o0 ?_|refine zH o0 ?_ ?_<;>intro hb|fail
  rw [he]
  refine xT hC ?_
  exact .one (.c (.str _))
 |cons a r=>
  repeat' first|refine zV o0 ?_|refine zH o0 ?_ ?_<;>intro hb|fail
  ·have hac:(a==c)=true:=by
    have:a.toNat=c.toNat:=hb
    exact beq_iff_eq.2 (UInt8.toNat_inj.1 this)
   have hcut:VN (a::r) 1 (r.length+1)=r:=by
    unfold VN
    exact Ly (by simp)
   exact Qb ⟨r,by simp,(zB hcut),zZ,by simp at hm;omega,by rw [he,List.dropWhile_cons,iP hac]⟩
  ·have hac:(a==c)=false:=by
    refine Bool.eq_false_iff.2 fun e=> ?_
    exact hb (by rw [eq_of_beq e];rfl)
   rw [he,List.dropWhile_cons,iN (by rw [hac];simp)]
   refine xT hC ?_
   exact .one (.c (.str _))
  ·exact absurd hb om
theorem QjB (l:List UInt8) (hl:l.length≤100000000000):Fa prog 211 [.c (.str (sB l)),.c (.str (sB [48]))] (.c (.str (sB (l.dropWhile (·==48))))):=by
 have h48:Jm (sB [48]) ⟨#[]⟩=false:=by rw [show(⟨#[]⟩:ByteArray)=sB [] from rfl,Qyg];rfl
 have f0:Fa prog 309 [.c (.str (sB l)),.c (.int .u8 48)] (.c (.str (sB (l.dropWhile (·==48))))):=QjA l 48 hl
 have h11:((1:Int)==1)=true:=rfl
 have h128:decide ((48:Int)<128)=true:=rfl
 have h480:XF [48] 0=48:=rfl
 refine fA func211 fun C hC=>?_
 all_goals try(have Z:=(oj h48 (oj h11 (oj h128 h480)));(repeat' first|refine zV Z ?_|refine yQ Z f0 ?_|refine zH Z ?_ ?_<;>intro hb|fail);all_goals clear Z)
 ·rw [hb]
  refine yT hC (oj h48 (oj h11 (oj h128 h480))) ?_
  exact .one (.c (.str _))
 ·refine yT hC (oj h48 (oj h11 (oj h128 h480))) ?_
  exact .one (.c (.str _))
theorem Qrk:prog.underlying 331=some (.array 9 5):=underlying331
theorem Quk:prog.underlying 123=some (.slice 5):=underlying123
theorem QwK:prog.underlying 5=some (.int .u8):=underlying5
theorem QoR {P:Program} {h:Qa} {ρ:Operand→AV} {s d el ty:TypeId} {x:Operand} {g m n:Nat} {f:Nat→CV} {l:List UInt8} (hs:P.underlying s=some (.slice el)) (he:P.underlying el=some (.int .u8)) (hd:P.underlying d=some .string) (hn:n=l.length) (hx:ρ x=.c (.osl g 1 0 n))
  (hg:h.get g=some (.cells ty m f)) (hm:n≤m) (hf:∀j,j<n→f j=UZ l j):QA P h ρ (.convert s d x) (.c (.str ⟨l.toArray⟩)):=by
 subst hn
 exact QA.bytesStr hs he hd hx hg hm hf
theorem Qyh {a:Nat} (h:a<256):XE .u8 (a:Int)=(a:Int):=by rw [QN];exact XV (by simp only [XH];omega)
theorem Qyi (a:Nat):Qth (a:Int) 10=((a%10:Nat):Int):=Qho a 10
theorem Qyj (a:Nat) (ha:a<4294967296):QkN .u32 (a:Int) 10=((a/10:Nat):Int):=Quh a 10 ha
theorem Qul (n:Nat) (hn:n<4294967296):Fa prog 210 [.c (.int .u32 (n:Int))] (.c (.str (sB (Ub n)))):=by
 refine fA func210 fun C hC=>?_
 refine xG ?_
 refine xA fun g3 n_3=>?_
 refine QU (f':=QbS n 0) (fun q hq=>by match q,hq with|0,_=>rfl|1,_=>rfl|2,_=>rfl|3,_=>rfl|4,_=>rfl|5,_=>rfl|6,_=>rfl|7,_=>rfl|8,_=>rfl) ?_
 refine yG n_3 ?_
 refine Qh (fun j:Nat=>[(0,.c (.int .u32 ((n/10^j:Nat):Int))),(3,.c (.optr g3 0)),(4,.c (.int .i64 (8-(j:Int))))]) (fun j=>[(g3,.cells 331 9 (QbS n j))]) (fun j=>j≤9) (fun j=>9-j) 0 (by refine yS n_3 ?_;simp) zZ (Lz _) ?_
 rintro j hj
 refine yG n_3 ?_
 refine yF n_3 (fun h1=>?_) fun h1=>?_
 ·have h1':j<9:=dT h1
  have hlt:n/10^j<4294967296:=Nat.lt_of_le_of_lt (Nat.div_le_self _ _) hn
  have hst:=Qlo n j h1'
  have hq10:n/10^j/10=n/10^(j+1):=by rw [Nat.div_div_eq_div_mul,←Nat.pow_succ]
  generalize n/10^j=a at*
  refine yG n_3 ?_
  rw [Qyi]
  refine yG n_3 ?_
  rw [show(48:Int)+((a%10:Nat):Int)=((48+a%10:Nat):Int) from by omega]
  refine yG n_3 ?_
  rw [Qyh (show 48+a%10<256 by omega)]
  refine QT (QA.indexArr Qrk kR (zE n_3) (zE n_3) om om) rfl rfl ?_
  rw [show(8-(j:Int)).toNat=8-j from by omega]
  refine Xp n_3 ?_
  refine yW n_3 ?_
  refine yS n_3 ?_
  refine QU (f':=QbS n (j+1)) hst ?_
  refine yG n_3 ?_
  rw [Qyj a hlt,hq10]
  refine yG n_3 ?_
  rw [show(8:Int)-(j:Int)-1=8-((j+1:Nat):Int) from by omega]
  exact Qb ⟨j+1,by omega,(zB n_3),zZ,by omega⟩
 ·have h1':j=9:=dF h1
  subst h1'
  refine yG n_3 ?_
  refine QT (QA.sliceArr Qrk kR kR (zE n_3) (zE n_3) (Ac _) qc) rfl rfl ?_
  refine Xp n_3 ?_
  refine QT (QoR (l:=Ub n) Quk QwK QhM (Qaq n).symm (zE n_3) (zE n_3) om (fun q hq=>QoQ n q hq)) rfl rfl ?_
  refine Qdy hC n_3 ?_
  exact .one (.c (.str _))
end Go.Proofs.YtngjgahldnnapaaGreatDoor
namespace Go.PN
open Go.AI
def Qlp (G:List (List UInt8)) (j:Nat):CV:=.str (sB (G.getD j []))
@[go_sem] theorem Qzc (G:List (List UInt8)) (j:Nat):Qlp G j=.str (sB (G.getD j [])):=rfl
theorem Qrl {zs:List (List UInt8)} {n:Nat} (hn:zs.length=n) (x:List UInt8):∀j,j<(n+1)*1→Xq (Qlp zs) (n*1) (ofL [.str (sB x)]) j=Qlp (zs++[x]) j:=fun j hj=>by
 subst hn
 unfold Xq
 by_cases h:j<zs.length*1
 ·rw [iP h]
  show CV.str (sB (zs.getD j []))=CV.str (sB ((zs++[x]).getD j []))
  rw [Lg,Lg,List.getElem?_append_left om]
 ·have e:j=zs.length:=by omega
  subst e
  rw [iN h]
  show ofL [.str (sB x)] (zs.length-zs.length*1)=CV.str (sB ((zs++[x]).getD zs.length []))
  rw [Ad,Nat.sub_self,Lg,List.getElem?_append_right (Ac _),Nat.sub_self]
  rfl
def bA (gB:Nat):Nat→CV
 |0=>.raw (.pointer none)
 |_+1=>.optr gB 0
theorem Qyk (gB i:Nat):bA gB i=.raw (.pointer none)∨bA gB i=.optr gB 0:=by cases i;exact .inl rfl;exact .inr rfl
theorem Qrm:(∀a b:BS,(a++b).length=a.length+b.length)∧(∀(x:UInt8) (a:BS),(x::a).length=a.length+1)∧([]:BS).length=0∧(∀a b c:BS,a++b++c=a++(b++c))∧(∀(x:UInt8) (a b:BS),x::a++b=x::(a++b))∧∀a:BS,[]++a=a:=
 ⟨fun _ _=>La,fun _ _=>rfl,rfl,fun _ _ _=>Lo _ _ _,fun _ _ _=>rfl,fun _=>rfl⟩
def Ot (w:BS) (r:RD):BS:=if YJ r.q=0 then [] else 32::(w++32::Xr r)
theorem Xaa {n:Nat}:ZQ n 1=0↔n=1:=by
 unfold ZQ
 constructor
 ·intro h
  repeat' split at h
  all_goals first|assumption|cases h
 ·intro h
  rw [h];rfl
inductive Qyl (t:TK):Prop where
 |word (k:t.kind=0) (h0:0<t.text.length) (h1:t.text.length≤24) (h2:Jn (XF t.text 0)=true) (h3:∀j,j<t.text.length→Yp (XF t.text j)=true)
 |num (k:t.kind=1) (h0:0<t.text.length) (hd:QE (XF t.text 0)=true) (h1:Qya t.text)
 |U5 (k:t.kind=2) (h0:t.text.length=1) (h1:QeH (XF t.text 0)=true)
def Qym (l:BS):Prop:=l=[]∨Yp (XF l 0)=false∧XF l 0≠47
inductive Lx:BS→List TK→Prop where
 |nil:Lx [] []
 |blank (b:UInt8) (l:BS) (ts:List TK):QbE b.toNat=true→Lx l ts→Lx (b::l) ts
 |note (c l:BS) (ts:List TK):(∀x∈c,x.toNat≠10)→Lx l ts→Lx (35::(c++10::l)) ts
 |tok (t:TK) (l:BS) (ts:List TK):Qyl t→Qym l→Lx l ts→Lx (t.text++l) (t::ts)
 |U5 (b:UInt8) (l:BS) (ts:List TK):QeH b.toNat=true→Lx l ts→Lx (b::l) (⟨2,[b]⟩::ts)
section
variable {α β : Type}
structure Qe8 (r:RD):Prop where
 w:r.wf 1073741824
 v:r.valid=true
 q:0≤r.q
 l:(Xr r).length≤100
def Xab (x:X3):Prop:=QB x.name=true∧Qe8 x.p∧Qe8 x.fail∧Qe8 x.rep∧0≤x.cost∧x.cost≤1073741824
def Qgy (i:BS):Prop:=(XF i 0=64∧QB (i.drop 1)=true∧0<i.length)∨QB i=true
def Qyn (g:Xe):Prop:=QB g.name=true∧0≤g.kind∧g.kind≤8∧0≤g.k∧g.k≤16∧(g.kind≠2→g.k=0)∧Qe8 g.dorm∧(g.kind≠7→g.dorm=rd0)∧∀i∈g.inputs,Qgy i
def Xac (x:Yz):Prop:=QB x.name=true∧Qgy x.top∧∀g∈x.gates,Qyn g
def Xad (x:YB):Prop:=QB x.name=true∧(x.kind=0∨x.kind=1)∧(∀n∈x.members,QB n=true)∧∀r∈x.factors,Qe8 r
def Xae (v:Zp):Prop:=QB v.event=true∧Qe8 v.p
def Xaf (x:V0):Prop:=QB x.name=true∧Qgy x.top∧∀v∈x.values,Xae v
structure MdB (m:Qv):Prop where
 nm:QB m.name=true
 tp:Qgy m.top
 ev:∀x∈m.events,Xab x
 hs:∀x∈m.houses,QB x.name=true
 gt:∀x∈m.gates,Qyn x
 pg:∀x∈m.pages,Xac x
 gr:∀x∈m.groups,Xad x
 ph:∀x∈m.phases,Xaf x
theorem sign_zero {r:RD} (h:Qe8 r) (hs:YJ r.q=0):r=rd0:=by
 have hq:r.q=0:=by
  unfold YJ at hs
  split at hs
  ·assumption
  ·split at hs<;>cases hs
 have:=Qm1 h.w h.v
 rw [hq] at this
 rw [←this];decide+kernel
end
theorem WC:∀(k n:Nat),n<10^(k+1)→(VA n).length≤k+1
 |0,n,h=>by rw [Jx (by simpa using h)];simp
 |k+1,n,h=>by
  by_cases h10:n<10
  ·rw [Jx h10];simp
  ·have:=WC k (n/10) (by rw [Nat.pow_succ] at h;omega)
   rw [QbK om,La]
   simp;omega
theorem QbT {c:Int} (h0:0<c):Xr (rd (c:Rat))=VA c.natAbs:=by
 have e1:((c:Int):Rat).num=c:=Rat.num_intCast c
 have e2:((c:Int):Rat).den=1:=Rat.den_intCast c
 have hr:rd (c:Rat)=⟨false,Qc c.natAbs,Qc 1⟩:=by
  unfold rd
  rw [e1,e2,iN om,De om]
 have hne:(Qc c.natAbs).length≠0:=by
  intro e
  have:=Qd c.natAbs
  rw [Lh.1 e] at this
  have:0=c.natAbs:=this
  omega
 have hs:(rd (c:Rat)).some=true:=by
  unfold RD.some
  rw [QqC,hr]
  simpa using hne
 have a1:(rd (c:Rat)).ps=false:=by unfold RD.ps;rw [iP hs,hr]
 have a2:(rd (c:Rat)).pn=c.natAbs:=by unfold RD.pn;rw [iP hs,hr];exact Qd _
 have a3:(rd (c:Rat)).pd=1:=by unfold RD.pd;rw [iP hs,hr];exact Qd _
 unfold Xr
 rw [a1,a2,a3,iN (by simp),iP rfl,Lp,QbO]
theorem O2 (c:Int):YJ (rd (c:Rat)).q=0↔c=0:=by
 rw [Ow]
 unfold YJ
 constructor
 ·intro h
  split at h
  ·rename_i e;exact_mod_cast e
  ·split at h<;>cases h
 ·intro h
  subst h
  rw [iP (by rfl)]
def Ux (l:List BS):BS:=l.flatMap fun y=>32::y
theorem Qe9 (a b:List BS):Ux (a++b)=Ux a++Ux b:=List.flatMap_append
theorem Qm7 {α:Type} (l:List α) (d:α) {j:Nat} (h:j<l.length):l.take (j+1)=l.take j++[l.getD j d]:=by
 rw [List.take_add_one,Lg,Li h];rfl
theorem QoS {α:Type} (f:α→BS) (l:List α) (d:α) {j:Nat} (h:j<l.length):(l.take (j+1)).flatMap f=(l.take j).flatMap f++f (l.getD j d):=by
 rw [Qm7 l d h,List.flatMap_append];simp
theorem Qrn {α:Type} (f:α→Bool) (l:List α) (d:α) {j:Nat} (h:j<l.length):(l.take (j+1)).any f=((l.take j).any f||f (l.getD j d)):=by
 rw [Qm7 l d h,List.any_append];simp
theorem Qro (l:List BS):l.length≤(Ux l).length:=by
 induction l with
 |nil=>exact Ac _
 |cons x l ih=>unfold Ux at*;rw [List.flatMap_cons,La,Lc,Lc];omega
theorem Qf6 {α:Type} (B:BS) (f:α→BS) (l:List α) (d:α):∃A:Nat→BS,A 0=B∧(∀i,i<l.length→A (i+1)=A i++f (l.getD i d))∧A l.length=B++l.flatMap f∧∀i,(A i).length≤(B++l.flatMap f).length:=by
 refine⟨fun i=>B++(l.take i).flatMap f,by simp,fun i hi=> ?_,by simp,fun i=> ?_⟩
 ·show B++_=(B++_)++_
  rw [QoS f l d hi,Lo]
 ·show(B++_).length≤_
  conv=>rhs;rw [←List.take_append_drop i l,List.flatMap_append]
  simp only [La]
  omega
theorem Qlq {α:Type} (b:Bool) (f:α→Bool) (l:List α) (d:α):∃A:Nat→Bool,A 0=b∧(∀i,i<l.length→A (i+1)=(A i||f (l.getD i d)))∧A l.length=(b||l.any f):=by
 refine⟨fun i=>b||(l.take i).any f,by simp,fun i hi=> ?_,by simp⟩
 show(b||_)=((b||_)||_)
 rw [Qrn f l d hi,Bool.or_assoc]
theorem QcO {w:BS} {r:RD} (hw:r.wf 100000) (hl:w.length≤1000):(Ot w r).length≤4000000:=by
 have b1:=QbN om hw
 unfold Ot
 split
 ·simp
 ·simp only [La,Lc];omega
def O3 (g:Xe):BS:=Qz++32::(g.name++32::(XG g.kind++(if g.kind=2 then 32::YX g.k else if g.kind=7 then 32::Xr g.dorm else [])))
theorem Qrp (g:Xe):Zj g=O3 g++(Ux g.inputs++[59]):=by
 unfold Zj Xj YY O3 Uc
 by_cases h2:g.kind=2
 ·simp [h2,Ux]
 ·by_cases h7:g.kind=7
  ·simp [h7,Ux]
  ·simp [h2,h7,Ux]
theorem QcP (w:BS) (r:RD):Ux (Yj w r)=Ot w r:=by
 unfold Yj Ot
 split<;>simp [Ux]
def Qm8 (c:Int):BS:=if c=0 then [] else 32::(kCost++32::YX c)
theorem QoT {c:Int} (h:0≤c):Ux (Yj kCost (rd (c:Rat)))=Qm8 c:=by
 unfold Yj Qm8
 by_cases h0:c=0
 ·rw [iP ((O2 c).2 h0),iP h0];rfl
 ·rw [iN (fun e=>h0 ((O2 c).1 e)),iN h0,QbT om]
  unfold YX
  rw [iN om]
  simp [Ux]
def QwL (x:X3):BS:=Xn++32::(x.name++(Ot kP x.p++(Ot kFail x.fail++(Ot kRepair x.rep++Qm8 x.cost))))
theorem QwM {x:X3} (h:0≤x.cost):evX x=QwL x++[59,10]:=by
 have e:evX x=Xn++Ux (x.name::(Yj kP x.p++Yj kFail x.fail++Yj kRepair x.rep++Yj kCost (rd (x.cost:Rat))))++[59]++[10]:=rfl
 rw [e]
 have e2:Ux (x.name::(Yj kP x.p++Yj kFail x.fail++Yj kRepair x.rep++Yj kCost (rd (x.cost:Rat))))=32::(x.name++Ux (Yj kP x.p++Yj kFail x.fail++Yj kRepair x.rep++Yj kCost (rd (x.cost:Rat)))):=rfl
 rw [e2,Qe9,Qe9,Qe9,QcP,QcP,QcP,QoT h]
 unfold QwL
 simp
end Go.PN
namespace Go.Proofs.YtngjgahldnnapaaGreatDoor
open Go.AI Go.PN Proofs.Tryz
attribute [local irreducible] aw Fa ZN ZZ Fh YE
theorem QjC (xs:List Nat) (hx:∀x∈xs,x<4294967296) (hl:xs.length≤1000000):Fa prog 133 [.c (ws false xs)] (.c (.str (sB (WB (val xs))))):=by
 have hgb:=QeZ hx
 have hwl:=QV xs hx
 have hnine:=QcL _ (val xs) (Ac _)
 have htx:WB (val xs)=if((catTo (Kj (val xs)) (Kj (val xs)).length).dropWhile (·==48))==[] then [48] else(catTo (Kj (val xs)) (Kj (val xs)).length).dropWhile (·==48):=rfl
 refine fA func133 fun C hC=>?_
 refine xG ?_
 refine xC (ZX xs hx ?_) ?_
 ·omega
 refine xG ?_
 generalize val xs=N at*
 refine Qh (fun x:Option Nat×List (List UInt8)×Nat=>[(0,.c (ws true (Qc x.2.2))),(3,.c (gs x.1 1 x.2.1.length))]) (fun x=>gh x.1 9 (x.2.1.length*1) (Qlp x.2.1))
  (fun x=>Kj N=x.2.1++Kj x.2.2∧x.2.2≤N∧(x.1=none→x.2.1.length=0)) (fun x=>x.2.2) (none,[],N) eB zZ ⟨rfl,Ac _,fun _=>rfl⟩ ?_
 rintro ⟨og,G,v⟩ ⟨hG,hv,hog⟩
 dsimp only at hG hv hog⊢
 have hGl:G.length+(Kj v).length≤2*xs.length:=by rw [←La,←hG];exact hgb
 have hvl:=QL hv
 refine xG ?_
 refine xF (fun h1=>?_) fun h1=>?_
 ·have h1':v≠0:=by
   intro e
   subst e
   rw [QC] at h1
   simp at h1
  have hst:=Qar h1'
  have hnl:(Ub (v%1000000000)).length=9:=Qaq _
  refine xG ?_
  have hsm:=QiQ (Qc v) 1000000000 (Qr v) om om om
  rw [Qd] at hsm
  refine xC (hsm) ?_
  refine xG ?_
  refine xC (Qul (v%1000000000) ?_) ?_
  ·omega
  refine xG ?_
  refine QX (pre:=[]) rfl rfl rfl rfl rfl rfl rfl eE eE (by rfl) om om eE om (by exact hog) eE (by rfl) (by rfl) qb qc om (by exact Qrl rfl _) fun g n_=> ?_
  replace n_:=Qa.ne_of n_
  first|dsimp only [Qa.ne,gh] at n_|dsimp only [Qa.ne] at n_|skip
  refine Xp n_ ?_
  have e:(G++[Ub (v%1000000000)]).length=G.length+1:=by simp
  refine Qb ⟨(some g,G++[Ub (v%1000000000)],v/1000000000),by dsimp only;omega,?_,?_,by dsimp only;rw [Lo,hG,hst];rfl,by dsimp only;omega,fun e=>by cases e⟩
  ·dsimp only
   rw [e]
   exact(zB n_)
  ·dsimp only
   rw [e]
   exact zZ
 ·have h1':v=0:=by
   apply Classical.byContradiction
   intro e
   have:=of_decide_eq_false h1
   rw [X5 e] at this
   simp at this
  subst h1'
  rw [JK,Lp] at hG
  have hcl:=QcM hnine
  rw [hG] at hgb hnine htx hcl
  refine Qi (h':=gh og 9 (G.length*1) (Qlp G)++[]) (by rw [Lp,Ad]) ?_
  refine Vw (t:=3) (f':=Qlp G) hog rfl eE (fun g _=>hC g) (fun _ _=>rfl) rfl ?_
  refine Z1 ?_
  refine Qgw (vs:=[.pointer none,.slice none 0 0]) rfl rfl rfl kR fun gB n_B=> ?_
  refine(?_:aw _ _ _ [OB gB (bA gB 0) (Jq none 0)])
  refine Z1 ?_
  refine Qh (fun x:Option Nat×Nat=>[(3,.c (.row true 1 G.length (Qlp G))),(6,.c (.optr gB 0)),(7,.c (.int .i64 ((G.length:Int)-1-(x.2:Int))))]) (fun x=>OB gB (bA gB x.2) (Jq x.1 (catTo G x.2).length)::gh x.1 5 (catTo G x.2).length (UZ (catTo G x.2)))
   (fun x=>x.2≤G.length∧(x.1=none→x.2=0)∧(x.2=0→x.1=none)) (fun x=>G.length-x.2) (none,0) (by refine xS ?_;simp) zZ ⟨Lz _,fun _=>rfl,fun _=>rfl⟩ ?_
  rintro ⟨og2,i⟩ ⟨hi,hn1,hn2⟩
  dsimp only at hi hn1 hn2⊢
  have hci:=hcl i hi
  refine xG ?_
  refine xF (fun h2=>?_) fun h2=>?_
  ·have h2':i<G.length:=dT h2
   obtain⟨q,hq⟩:∃q:Nat,q=G.length-1-i:=⟨_,rfl⟩
   have hqi:(G.length:Int)-1-(i:Int)=(q:Int):=by omega
   have hcat:catTo G (i+1)=catTo G i++G.getD q []:=by rw [catTo,hq]
   have hl9:(G.getD q []).length=9:=by
    rw [Lg,Li om]
    exact hnine _ (Le _)
   have hci2:=hcl (i+1) om
   rw [hqi]
   refine xG ?_
   refine Ql (hc:=OB gB (bA gB i) (Jq og2 (catTo G i).length)::gh og2 5 (catTo G i).length (UZ (catTo G i))) (hr:=[]) (Qui gB _ (Qyk gB i) og2 (catTo G i) (G.getD q []) (fun e=>by rw [hn1 e];rfl) om) rfl rfl rfl (by rw [Lp]) eL ?_
   rintro _ _ ⟨og',h3,rfl,rfl⟩ _
   rw [←hcat,Lp] at*
   refine Z1 ?_
   rw [show(q:Int)-1=(G.length:Int)-1-((i+1:Nat):Int) from by omega]
   exact Qb ⟨(og',i+1),by dsimp only;omega,eB,zZ,by dsimp only;omega,fun e=>by have:=h3 e;omega,fun e=>by dsimp only at e;omega⟩
  ·have h2':i=G.length:=dF h2
   subst h2'
   refine xG ?_
   refine Ql (hc:=OB gB (bA gB G.length) (Jq og2 (catTo G G.length).length)::gh og2 5 (catTo G G.length).length (UZ (catTo G G.length))) (hr:=[]) (Quj gB _ og2 (catTo G G.length) (fun e=>by rw [hn1 e];rfl) (fun e=>hn2 (by rw [e] at hci;simp only [Lu] at hci;omega)) om) rfl rfl rfl (by rw [Lp]) eL ?_
   rintro _ _ ⟨rfl,rfl⟩ _
   generalize catTo G G.length=B at*
   refine Z1 ?_
   refine xC (QjB B ?_) ?_
   ·omega
   refine xG ?_
   refine xF (fun h5=>?_) fun h5=>?_
   ·refine xG ?_
    rw [htx,iP h5]
    refine xT hC ?_
    exact .one (.c (.str _))
   ·refine xG ?_
    rw [htx,iN (by rw [h5];simp)]
    refine xT hC ?_
    exact .one (.c (.str _))
theorem WD (r:RD) (hw:r.wf 100000):Fa prog 63 [.agg (Y1 r)] (.c (.str (sB (Xr r)))):=by
 obtain⟨hl1,hl2⟩:=RD.p_len hw om
 have t1:=Qjy (Qc r.pn) (Qr _) om
 have t2:=Qjy (Qc r.pd) (Qr _) om
 rw [Qd,←QbO] at t1 t2
 have b1:=W7 (n:=r.pn) (L:=100002) om
 have b2:=W7 (n:=r.pd) (L:=100002) om
 have hr:Xr r=(if r.ps then [45]++WB r.pn else WB r.pn)++(if r.pd=1 then [] else [47]++WB r.pd):=rfl
 generalize WB r.pn=T1 at*
 generalize WB r.pd=T2 at*
 have hcm:=QvR r.pd 1 om (by rw [KE];simp)
 rw [KE] at hcm
 have h1:= @Xaa r.pd
 have f1:=Wq r (Zu hw om)
 refine fA func63 fun C hC=>?_
 refine zA o0 ?_
 refine xB fun g1 n_1=>?_
 repeat' first|refine zV n_1 ?_|refine yQ n_1 f1 ?_|refine yQ n_1 t1 ?_|refine yQ n_1 t2 ?_|refine zH n_1 ?_ ?_<;>intro hb|fail
 all_goals
  first|rw [iP hb] at hr|rw [iN (by rw [hb];simp)] at hr
  refine Qn (xs:=[.const (.int .u32 1)]) (cells:=[.int .u32 1]) rfl rfl rfl Xy (by rw [Qdw,Xt];rfl) rfl om om (by intro x hx;simp only [Lb,Lj,or_false] at hx;subst hx;exact⟨rfl,rfl,rfl⟩) rfl fun g hg=> ?_
  replace hg:=Qa.ne_of hg
  dsimp only [Qa.ne] at hg
  have J1:=oj n_1 hg
  refine yS J1 ?_
  refine Qu hcm rfl rfl rfl (by refine yS J1 ?_;exact⟨.c wl2,.c (Yt (zE J1) om rfl (fun j hj=>by match j,hj with|0,_=>rfl))⟩) ?_
  refine yS J1 ?_
  all_goals repeat' first|refine zV J1 ?_|refine yQ J1 t2 ?_|refine zH J1 ?_ ?_<;>intro hb|fail
  all_goals
   first|rw [iP (h1.1 hb),Lp] at hr|rw [iN (fun e=>hb (h1.2 e))] at hr
   try simp only [Lq,Ln,Lo] at hr
   rw [hr]
   refine yT hC J1 ?_
   exact .one (.c (.str _))
abbrev kWt:List BS:=[QtU,kOr,kVote,kNot,kXor,kInhibit,kPand,kSpare,QdU]
theorem Qrq (k:Int) (h1: -9223372036854775808≤k) (h2:k<9223372036854775808):Fa prog 68 [.c (.int .i64 k)] (.c (.str (sB (XG k)))):=by
 by_cases h:k<0∨k≥9
 ·have e:XG k=Qri:=iP h
  rw [e]
  refine fA func68 fun C hC=>?_
  refine xG ?_
  refine Qn (xs:=kWt.map fun w=>Operand.const (.string (sB w))) (cells:=kWt.map fun w=>.str (sB w)) rfl rfl rfl eE (by refine xS ?_;rfl) rfl om om (by intro z hz;simp only [kWt,Ld,List.map_nil,Lb,Lj,or_false] at hz;rcases hz with rfl|rfl|rfl|rfl|rfl|rfl|rfl|rfl|rfl<;>exact⟨rfl,rfl,rfl⟩) rfl fun g3 n_3=> ?_
  refine xS ?_
  repeat' first|refine zV o0 ?_|refine zH o0 ?_ ?_<;>intro hb|fail
  ·refine xT hC ?_
   exact .one (.c (.str _))
  ·refine xT hC ?_
   exact .one (.c (.str _))
  ·exfalso;omega
 ·have e:k=0∨k=1∨k=2∨k=3∨k=4∨k=5∨k=6∨k=7∨k=8:=by omega
  rcases e with rfl|rfl|rfl|rfl|rfl|rfl|rfl|rfl|rfl
  all_goals
   refine fA func68 fun C hC=>?_
   refine xG ?_
   refine Qn (xs:=kWt.map fun w=>Operand.const (.string (sB w))) (cells:=kWt.map fun w=>.str (sB w)) rfl rfl rfl eE (by refine xS ?_;rfl) rfl om om (by intro z hz;simp only [kWt,Ld,List.map_nil,Lb,Lj,or_false] at hz;rcases hz with rfl|rfl|rfl|rfl|rfl|rfl|rfl|rfl|rfl<;>exact⟨rfl,rfl,rfl⟩) rfl fun g3 n_3=> ?_
   refine xS ?_
   refine zA o0 ?_
   refine xT hC ?_
   exact .one (.c (.str _))
theorem Qfa (w:BS) (r:RD) (hw:r.wf 100000) (hwl:w.length≤1000):Fa prog 127 [.c (.str (sB w)),.agg (Y1 r)] (.c (.str (sB (Ot w r)))):=by
 have f1:=QbB r (Zu hw om)
 have f2:=WD r hw
 have b1:=QbN om hw
 have hr:Ot w r=if YJ r.q=0 then [] else 32::(w++32::Xr r):=rfl
 generalize YJ r.q=z at*
 generalize Xr r=T at*
 refine fA func127 fun C hC=>?_
 have sn:=Qrm
 refine zA sn ?_
 refine yB sn fun g1 n_1=>?_
 all_goals try(have Z:=(oj sn n_1);(repeat' first|refine zV Z ?_|refine yQ Z f1 ?_|refine yQ Z f2 ?_|refine zH Z ?_ ?_<;>intro hb|fail);all_goals clear Z)
 ·rw [hr,iP hb]
  refine yT hC (oj sn n_1) ?_
  exact .one (.c (.str _))
 ·rw [hr,iN hb]
  refine yT hC (oj sn n_1) ?_
  exact .one (.c (.str _))
theorem WE (r:RD) (hw:r.wf 100000):Fa prog 64 [.agg (Y1 r)] (.c (.bool (QF r))):=by
 have f2:=WD r hw
 have b1:=QbN om hw
 have hr:QF r=decide ((Xr r).length>100):=rfl
 generalize Xr r=T at*
 refine fA func64 fun C hC=>?_
 refine zA o0 ?_
 refine xB fun g1 n_1=>?_
 refine Zo n_1 f2 ?_
 rw [hr]
 refine yT hC n_1 ?_
 exact .one (.c (Qp (decide_eq_decide.2 om)))
theorem Qrr (g:Xe) (hk1: -9223372036854775808≤g.kind) (hk2:g.kind<9223372036854775808) (hk3:g.kind=2→ -9223372036854775808≤g.k∧g.k≤9223372036854775807) (hw:g.dorm.wf 100000) (hl:(Zj g).length≤1099511627776):ZN prog 34 [.agg (Zy g)] (.c (.str (sB (Zj g)))):=by
 have sn:=Qrm
 have f1:=Qrq g.kind hk1 hk2
 have f3:=WD g.dorm hw
 have hB:Zj g=O3 g++(Ux g.inputs++[59]):=Qrp g
 rw [hB] at hl⊢
 have hBd:O3 g=Qz++32::(g.name++32::(XG g.kind++(if g.kind=2 then 32::YX g.k else if g.kind=7 then 32::Xr g.dorm else []))):=rfl
 have hil:g.inputs.length≤(Ux g.inputs).length:=Qro g.inputs
 rw [La,La] at hl
 have hgl:=congrArg List.length hBd
 simp only [La,Lc,Lu] at hgl
 have b2:g.kind=2→(YX g.k).length+1≤(O3 g).length:=fun h=>by rw [iP h] at hgl;rw [hgl];simp only [Lc];omega
 have b7:g.kind=7→(Xr g.dorm).length+1≤(O3 g).length:=fun h=>by rw [iN om,iP h] at hgl;rw [hgl];simp only [Lc];omega
 refine Yo func34 rfl rfl (by simp [ntmps34]) fun C hC hT=> ?_
 simp only [Y8,Nat.reduceAdd]
 refine zA sn ?_
 refine yB sn fun g1 n_1=>?_
 refine zA (oj sn n_1) ?_
 refine Xv 9 Qg kR ?_
 all_goals try(have Z:=(oj sn n_1);(repeat' first|refine zV Z ?_|refine yQ Z f1 ?_|refine yQ Z f3 ?_|refine zH Z ?_ ?_<;>intro hb|fail);all_goals clear Z)
 any_goals (refine yC3 sn ((Qv1 g.k (hk3 hb).1 (hk3 hb).2).toC hT) ?_)
 all_goals try(have Z:=(oj sn n_1);(repeat' first|refine zV Z ?_|refine zH Z ?_ ?_<;>intro hb|fail);all_goals clear Z)
 all_goals
  simp only [Lq,Ln] at hBd
  first
   |rw [iN (by assumption),iP hb] at hBd
   |rw [iN (by assumption),iN hb,Lp] at hBd
   |rw [iP hb] at hBd
  rw [←hBd]
  clear hB hBd hgl b2 b7 hb
  obtain⟨A,a0,aS,aE,aL⟩:=Qf6 (O3 g) (fun y:BS=>32::y) g.inputs []
  have e5:O3 g++(Ux g.inputs++[59])=A g.inputs.length++[59]:=by rw [aE,Lo];rfl
  have e6:(O3 g++List.flatMap (fun y:BS=>32::y) g.inputs).length=(O3 g).length+(Ux g.inputs).length:=La
  rw [e6] at aL
  rw [e5]
  clear aE e5 e6
  generalize O3 g=B at*
  refine Qh (fun i:Nat=>[(1,.c (.optr g1 0)),(3,.c (.str (sB (A i)))),(33,.c (X0 true g.inputs)),(34,.c (.int .i64 g.inputs.length)),(35,.c (.int .i64 i))]) (fun _=>[(g1,.cells 79 7 (ofL (Zy g)))]) (fun i=>i≤g.inputs.length) (fun i=>g.inputs.length-i) 0 (zB (oj sn (oj n_1 a0))) zZ (Lz _) ?_
  rintro i hi
  by_cases hj:i<g.inputs.length
  ·have d1:decide (i<g.inputs.length)=true:=Dt hj
   have b1:=aL i
   have b3:=aL (i+1)
   have hS:=aS i hj
   rw [hS,La,Lc] at b3
   clear aL aS
   generalize hv:g.inputs.getD i []=v at*
   generalize A i=S at*
   refine zA (oj sn (oj n_1 (oj a0 (oj d1 (oj hv hS))))) ?_
   exact Qb ⟨i+1,by omega,(zB (oj sn (oj n_1 (oj a0 (oj d1 (oj hv hS)))))),zZ,by omega⟩
  ·obtain rfl:i=g.inputs.length:=by omega
   have d1:decide (g.inputs.length<g.inputs.length)=false:=De om
   have b1:=aL g.inputs.length
   clear aL aS
   refine zA (oj sn (oj n_1 (oj a0 d1))) ?_
   refine yT hC (oj sn (oj n_1 (oj a0 d1))) ?_
   exact .one (.c (.str _))
theorem QoU (x:X3) (h1:x.p.wf 100000) (h2:x.fail.wf 100000) (h3:x.rep.wf 100000) (h4:0≤x.cost) (h5:x.cost<9223372036854775808) (hl:(evX x).length≤1099511627776):ZN prog 61 [.agg (evc x)] (.tup [.c (.str (sB (evX x))),.c (.bool (QbP x))]):=by
 have sn:=Qrm
 have p1:=Qfa kP x.p h1 Af
 have p2:=Qfa kFail x.fail h2 Af
 have p3:=Qfa kRepair x.rep h3 Af
 have q1:=QcO (w:=kP) h1 Af
 have q2:=QcO (w:=kFail) h2 Af
 have q3:=QcO (w:=kRepair) h3 Af
 have l1:=WE x.p h1
 have l2:=WE x.fail h2
 have l3:=WE x.rep h3
 have hX:=QwM h4
 rw [hX] at hl⊢
 have hE:QbP x=(QF x.p||QF x.fail||QF x.rep):=rfl
 rw [hE]
 clear hX hE
 unfold QwL Qm8 at hl⊢
 simp only [Lo,Lq,Ln,La,Lc,Lu] at hl⊢
 generalize Ot kP x.p=P1 at*
 generalize Ot kFail x.fail=P2 at*
 generalize Ot kRepair x.rep=P3 at*
 generalize QF x.p=b1 at*
 generalize QF x.fail=b2 at*
 generalize QF x.rep=b3 at*
 refine Yo func61 rfl rfl (by simp [ntmps61]) fun C hC hT=> ?_
 simp only [Y8,Nat.reduceAdd]
 refine zA sn ?_
 refine yB sn fun g1 n_1=>?_
 refine zA (oj sn n_1) ?_
 refine Xv 16 Qg kR ?_
 all_goals try(have Z:=(oj sn n_1);(repeat' first|refine zV Z ?_|refine yQ Z p1 ?_|refine yQ Z p2 ?_|refine yQ Z p3 ?_|refine zH Z ?_ ?_<;>intro hb|fail);all_goals clear Z)
 any_goals (refine yC3 sn ((Qv1 x.cost om om).toC hT) ?_)
 all_goals
  first|rw [iP hb] at hl⊢ |rw [iN hb] at hl⊢
  simp only [Lo,Lq,Ln,La,Lc,Lu] at hl⊢
  all_goals try(have Z:=(oj sn n_1);(repeat' first|refine zV Z ?_|refine yQ Z l1 ?_|refine yQ Z l2 ?_|refine yQ Z l3 ?_|refine zH Z ?_ ?_<;>intro hb|fail);all_goals clear Z)
 all_goals
  refine yT hC (oj sn n_1) ?_
  exact .tup ⟨.c (.str _),.c (Qp (by simp [*])),trivial⟩
theorem Qgz (ind:BS) (L:List Xe) (hL:∀g∈L,-9223372036854775808≤g.kind∧g.kind<9223372036854775808∧(g.kind=2→0≤g.k∧g.k<100)∧g.dorm.wf 100000) (hn:L.length≤1099511627776) (hl:(L.flatMap (gtX ind)).length≤1099511627776):ZN prog 62 [.c (gts true L),.c (.str (sB ind))] (.tup [.c (.str (sB (L.flatMap (gtX ind)))),.c (.bool (Jo L))]):=by
 have sn:=Qrm
 obtain⟨A,a0,aS,aE,aL⟩:=Qf6 [] (gtX ind) L gt0
 obtain⟨F,c0,cS,cE⟩:=Qlq false (fun g:Xe=>QF g.dorm) L gt0
 rw [Ln] at aE aL
 rw [Bool.false_or] at cE
 have e5:Jo L=F L.length:=cE.symm
 rw [e5,←aE]
 clear e5 aE cE
 refine Yo func62 rfl rfl (by simp [ntmps62]) fun C hC hT=> ?_
 simp only [Y8,Nat.reduceAdd]
 refine zA (oj sn (oj a0 c0)) ?_
 refine Qh (fun i:Nat=>[(1,.c (.str (sB ind))),(6,.c (.str (sB (A i)))),(7,.c (.bool (F i))),(10,.c (gts true L)),(11,.c (.int .i64 L.length)),(12,.c (.int .i64 i))]) (fun _=>[]) (fun i=>i≤L.length) (fun i=>L.length-i) 0 (zB (oj sn (oj a0 c0))) zZ (Lz _) ?_
 rintro i hi
 by_cases hj:i<L.length
 ·have d1:decide (i<L.length)=true:=Dt hj
  have b1:=aL i
  have b3:=aL (i+1)
  have hS:=aS i hj
  have hF:=cS i hj
  have hx:=hL (L.getD i gt0) (by rw [Lg,Li hj];exact Le _)
  clear aL aS cS
  generalize hv:L.getD i gt0=x at*
  unfold gtX at hS
  rw [hS] at b3
  simp only [Lo] at hS
  simp only [La,Lc,Lu] at b3
  obtain⟨x1,x2,x3,x4⟩:=hx
  have f1:=Qrr x x1 x2 (fun h=>by have:=x3 h;omega) x4 om
  have f2:=WE x.dorm x4
  generalize Zj x=W at*
  generalize A i=S at*
  generalize QF x.dorm=lb at*
  generalize F i=bd at*
  refine zA (oj sn (oj a0 (oj c0 (oj d1 (oj hv (oj hS hF)))))) ?_
  refine yA (oj sn (oj a0 (oj c0 (oj d1 (oj hv (oj hS hF)))))) fun g9 n_9=>?_
  cases bd
  all_goals
   all_goals try(have Z:=(oj sn (oj a0 (oj c0 (oj d1 (oj hv (oj hS (oj hF n_9)))))));(repeat' first|refine zV Z ?_|(refine yC3 Z ((f1).toC hT) ?_)|(refine yD3 Z ((f1).toC hT) ?_)|refine yQ Z f2 ?_|refine zH Z ?_ ?_<;>intro hb|fail);all_goals clear Z)
   exact Qb ⟨i+1,by omega,(zB (oj sn (oj a0 (oj c0 (oj d1 (oj hv (oj hS (oj hF n_9)))))))),Ls _ _,by omega⟩
 ·obtain rfl:i=L.length:=by omega
  have d1:decide (L.length<L.length)=false:=De om
  refine zA (oj sn (oj a0 (oj c0 d1))) ?_
  refine yT hC (oj sn (oj a0 (oj c0 d1))) ?_
  exact .tup ⟨.c (.str _),.c (.bool _),trivial⟩
end Go.Proofs.YtngjgahldnnapaaGreatDoor
namespace Go.AI
section
section
variable {E : Vl} {K : List It} {σ σ' : Sl} {h : Qa} {all rest l : List Oper} {o : Oper}
theorem QwN {f:FuncId} {fn:Func} {ps:Array TypeId} {t e:TypeId} {x:Operand} {ts:Array TypeId} {n:Nat} (hf:E.P.funcs[f]?=some fn) (hname:(fn.name== "runtime.NumGoroutine")=false) (hb:fn.body.isNone=true) (hn0:Extern.findNext fn=none) (he:Extern.find fn=some (Extern.BytealgMakeNoZero.makeNoZero ps #[t]))
  (ht:E.P.underlying t=some (.slice e)) (hop:o.op=.call {callee:=.value (.func f),args:= #[x],argTypes:=ts}) (hw:Qx all σ o=some true) (hd:Qw E.N o.dst=true) (hk:ev σ (.func f)=.c (.raw (.func (.func f) #[] #[]))) (hx:ev σ x=.c (.int .i64 n)) (hn:n≤140737488355328)
  (k:∀g,g∉h.keys→aw E (.ops all rest::K) (σ.setO o.dst (.c (.osl g 1 0 n))) ((g,.cells e n (fun _=>.any))::h)):aw E (.ops all (o::rest)::K) σ h:=by
 refine UU (r:=fun g=>.c (.osl g 1 0 n)) (ob:=.cells e n (fun _=>.any)) hw hd (fun a w s=> ?_) k
 have h1:=QK s x
 rw [hx] at h1
 have h1:a.eval x=.int .i64 n:=h1
 have h3:=QK s (.func f)
 rw [hk] at h3
 have h3:a.eval (.func f)=.func (.func f) #[] #[]:=h3
 obtain⟨cs,hrun,hle,hmax⟩:=Lib.run_makeNoZero (P:=E.P) w ps t e ht n (Lt hn Af)
 have hcall:=run_callFunc_extern (P:=E.P) hf hname hb hn0 he #[a.eval x] w
 rw [h1,hrun] at hcall
 have hsz:(w.drew.drew.alloc (.cells cs e)).heap[w.heap.size]?=some (.cells cs e (0,0)):=heap_alloc_new w.drew.drew _
 refine⟨.slice (some ⟨w.heap.size,0,none⟩) n cs.size,w.drew.drew.alloc (.cells cs e),?_,?_,by simp,⟨cs,hsz,hle,fun j hj=>⟨cs[j]'om,Array.getElem?_eq_getElem om,trivial⟩⟩,?_⟩
 ·simp [execOp,hop,resolve,invoke,h3,h1,Deferred.ofValue,hcall,Result.andThen]
 ·exact(Fr.drew (fun _=>False) w (w.drawn+1)).trans ((Fr.drew (fun _=>False) w.drew (w.drew.drawn+1)).trans (Fr.alloc (fun _=>False) w.drew.drew _) fun _ h _=>h) fun _ h _=>h
 ·exact⟨cs.size,rfl,hle,hmax (Lt hn Af),cs,e,⟨(0,0),hsz⟩,by omega⟩
theorem QwO {FP FP':Qa} {i m:Nat} {cs:List (Nat×Nat)} {f:FuncId} {fn:Func} {ps:Array TypeId} {t e:TypeId} {x:Operand} {ts:Array TypeId} {n:Nat} (ho:l[i]?=some o) (hf:E.P.funcs[f]?=some fn) (hname:(fn.name== "runtime.NumGoroutine")=false) (hb:fn.body.isNone=true) (hn0:Extern.findNext fn=none) (he:Extern.find fn=some (Extern.BytealgMakeNoZero.makeNoZero ps #[t]))
  (ht:E.P.underlying t=some (.slice e)) (hop:o.op=.call {callee:=.value (.func f),args:= #[x],argTypes:=ts}) (hw:Qx l σ o=some true) (hd:Qw E.N o.dst=true) (hk:∀σ:Sl,ev σ (.func f)=.c (.raw (.func (.func f) #[] #[]))) (hx:ev σ x=.c (.int .i64 n)) (hn:n≤140737488355328) (hFP:Kp FP' h)
  (k:∀g,g∉h.keys→CW E l K FP' cs (σ.setO o.dst (.c (.osl g 1 0 n))) ((g,.cells e n (fun _=>.any))::h)) (hm:m=2∨m=1∧FP'=FP:=by first|exact .inl rfl|exact .inr ⟨rfl,rfl⟩):CW E l K FP ((i,m)::cs) σ h:=by
 refine .pin ho hm (R:=fun r h2=>∃g,g∉h.keys∧r=.c (.osl g 1 0 n)∧h2=(g,.cells e n (fun _=>.any))::h) (fun σ' K hs=> ?_) ?_ ?_
 ·exact QwN hf hname hb hn0 he ht hop ((Xh hs).trans hw) hd (hk _) ((XI (by rw [hop];simp [Op.operands,Call.operands]) hs).trans hx) hn fun g hg=>XA (Qb ⟨_,⟨g,hg,rfl,rfl⟩,rfl⟩)
 ·rintro r h2 ⟨g,_,_,rfl⟩;exact fun p hp=>Lm _ (hFP p hp)
 ·rintro r h2 ⟨g,hg,rfl,rfl⟩;exact k g hg
end
end
section
section
variable {P : Program} {h : Qa} {ρ : Operand → AV}
theorem QA.fromUnsafeG {s d u ty:TypeId} {x:Operand} {g m n:Nat} {f:Nat→CV} {j:TypeInfo} (hs:P.underlying s=some .unsafePointer) (hd:P.underlying d=some (.pointer u)) (hj:P.info? u=some j) (hl:∀count,1≤count→liesAt P P.depth ty count 0 u 1=true) (hc:P.cellsOf ty=n) (hn0:0<n) (hx:ρ x=.c (.optr g 0)) (hg:h.get g=some (.cells ty m f)) (hm:n≤m):
  QA P h ρ (.convert s d x) (.c (.optr g 0)):=fun S w e _ ho hh=>by
 have h2:e x=.pointer (some ⟨g,0,none⟩):=by have:=ho x Ag;rw [hx] at this;exact this
 obtain⟨cs,hb,hn,_⟩:=hh _ _ (Qa.get_mem hg)
 have hsh:w.shape? g=some (ty,cs.size):=by simp [World.shape?,hb]
 refine⟨_,fun o hop=> ?_,rfl⟩
 have:=Lib.run_from_unsafe (P:=P) w ⟨g,0,none⟩ hs hd hj hsh (hl _ (by rw [hc];exact(Nat.le_div_iff_mul_le hn0).2 om))
 simp [execOp,hop,h2,this]
end
end
theorem zero_rd:∀j,j<3→∀S w u,XX S w (ofL [CV.bool false,.nils,.nils] j) u→XX S w (ofL [CV.bool (Go.PN.rd 0).neg,ws true (Go.PN.rd 0).num,ws true (Go.PN.rd 0).den] j) u:=by
 rw [Go.PN.rd_zero]
 intro j hj S w u h
 match j,hj with
 |0,_=>exact h
 |1,_=>exact XS h
 |2,_=>exact XS h
section
section
variable {E : Vl} {K : List It} {σ σ' : Sl} {h : Qa} {all rest l : List Oper} {o : Oper}
theorem QjD {S:Bool→Nat→Prop} {w:World}:∀{cs:List CV} {us:List Value},X4 S w cs us→cs.all CV.solid=true→∀u∈us,u.oneCell'=true
 |[],[],_,_,u,hu=>absurd hu Lj
 |c::cs,u::us,h,hs,v,hv=>by
  rw [List.all_cons,Ba] at hs
  rcases Lb.1 hv with rfl|hv
  ·exact Wb hs.1 h.1
  ·exact QjD h.2 hs.2 v hv
theorem Qrs {t e size bytes n m k q g off:Nat} {f f2:Nat→CV} {x s:Operand} {cx:CV} {h':Qa} (hop:o.op=.call {callee:=.builtin .copy,args:= #[x,s],argTypes:= #[t,t]}) (hw:Qx all σ o=some true) (hd:Qw E.N o.dst=true)
  (ht:QR E.P t=some (e,size,bytes)) (hx:ev σ x=.c (.osl g size off n)) (hg:h.get g=some (.cells e m f)) (hs:ev σ s=.c cx) (hsrc:Src h size cx k f2) (hq:q=min k n) (hm:off+n*size≤m)
  (hsol:(YN f2 0 0 (q*size)).all CV.solid=true) (hh:h.set g (.cells e m (VL f off (YN f2 0 0 (q*size))))=h') (kk:aw E (.ops all rest::K) (σ.setO o.dst (.c (.int .i64 q))) h'):aw E (.ops all (o::rest)::K) σ h:=by
 subst hh
 refine V9 hw (fun ac w st=> ?_) kk
 have h1:=QK st x
 have h2:=QK st s
 rw [hx] at h1
 rw [hs] at h2
 obtain⟨c,hv1,hnc,hcm,cs0,ty0,⟨_,hb0⟩,hcs0⟩:=h1
 obtain⟨A,d,hv2,hA⟩:=hsrc.cells st.heap h2
 obtain⟨cs,hb,hn,hj⟩:=st.heap g _ (Qa.get_mem hg)
 obtain⟨hu,inf,hi,hsz,hbb⟩:=Xg ht
 have hqk:q*size≤k*size:=Nm _ om
 have hqn:q*size≤n*size:=Nm _ om
 have hload:∃us,(Builtin.firstCells size q (.slice A k d)).run E.P w=.ok us.toArray w∧X4 (QH E.C h w) w (YN f2 0 0 (q*size)) us:=by
  rcases Nat.eq_zero_or_pos (q*size) with h0|h0
  ·refine⟨[],?_,by rw [h0];trivial⟩
   cases A with
   |none=>simp [Builtin.firstCells]
   |some a=>simp [Builtin.firstCells,h0,loadCells,loadCellsFrom]
  ·obtain⟨ad,rfl,hc⟩:=hA om
   obtain⟨us,hus,hrs⟩:=UC (P:=E.P) (S:=QH E.C h w) (w:=w) (ad:=ad) (f:=f2) (off:=0) (q*size) 0 #[] (fun j _ hj=>by
    obtain⟨u,e1,e2⟩:=hc j om
    exact⟨u,e1,by rw [Nz];exact e2⟩)
   exact⟨us,by simp [Builtin.firstCells,loadCells,hus],hrs⟩
 obtain⟨us,hus,hL⟩:=hload
 have hul:us.length=q*size:=by rw [hL.length,Qii]
 obtain⟨w',hrun,hbl,hfr⟩:=JT (P:=E.P) us w cs off 0 hb om (QjD hL hsol)
 refine⟨.int .i64 (q:Int),w',.inl ?_,?_⟩
 ·have hq':Nat.min k n=q:=by rw [hq]
  simp only [execOp,hop,resolve,invoke,Go.builtin,Builtin.copy_,Sem.run_bind,Sem.run_pure,Result.andThen_ok,List.map_toArray,Ld,List.map_nil,hv1,hv2,run_underlying hu,Builtin.lenOf,sizeOf,typeInfo,hi,hsz,hq',hus,hrun,List.size_toArray,Lc,Lu,List.getElem?_toArray,List.getElem?_cons_zero,List.getElem?_cons_succ,goInt]
  simp [Sem.run_bind,run_underlying hu,Builtin.lenOf,sizeOf,typeInfo,hi,hsz,hq',hus,hrun,goInt]
 ·have hgm:g∈h.keys:=List.mem_map.2 ⟨_,Qa.get_mem hg,rfl⟩
  have hkk:(h.set g (.cells e m (VL f off (YN f2 0 0 (q*size))))).keys=h.keys:=Qa.keys_set _ _ _
  have kp:YA (QH E.C h w) (QH E.C (h.set g (.cells e m (VL f off (YN f2 0 0 (q*size))))) w') w w':=
   ⟨fun t b hb=>⟨hb.1,Ae hb.2.1 hfr.size,by rw [hkk];exact hb.2.2⟩,fun t b hb=>hfr.block b hb.2.1 (fun e=>hb.2.2 (e▸hgm)),hfr.has⟩
  refine(st.setObj (ob':=.cells e m (VL f off (YN f2 0 0 (q*size)))) hg hfr ⟨_,hbl,by rw [Qcq];exact hn,?_⟩).put hd (r:=.c (.int .i64 q)) rfl
  have:=Qej (YN f2 0 0 (q*size)) us cs f (off+0) (hL.keep kp) hn (fun j hjn=>by obtain⟨u,hu,hr⟩:=hj j hjn;exact⟨u,hu,hr.keep kp⟩)
  simpa using this
end
end
end Go.AI
namespace Go.Proofs.YtngjgahldnnapaaGreatDoor
open Go.AI Go.PN Proofs.Tryz
attribute [local irreducible] aw Fa ZN ZZ Fh YE
structure Qlr (ty:TypeId) (r:List CV):Prop where
 l:∀count,1≤count→liesAt prog prog.depth ty count 0 125 1=true
 c:prog.cellsOf ty=2+r.length
 s:r.all CV.solid=true
abbrev Yv (ty:TypeId) (r:List CV) (gB:Nat) (a b:CV):Nat×XD:=(gB,.cells ty (2+r.length) (ofL (a::b::r)))
theorem Qum:Qlr 125 []:=⟨fun count h=>Qdt (n:=2) kR om h,by kernel_rfl,rfl⟩
theorem Qfb {ty:TypeId} {r:List CV} (hB:Qlr ty r) (gB:Nat) (b:CV):Fh prog 198 [Yv ty r gB (.raw (.pointer none)) b] [.c (.optr gB 0)] (fun x h=>x=.tup []∧h=[Yv ty r gB (.optr gB 0) b]):=by
 obtain⟨j,hj,hjs⟩:=Option.map_eq_some_iff.1 (show(prog.info? 125).map (·.size)=some 2 from by kernel_rfl)
 refine fH func198 fun C hC=>?_
 refine xG ?_
 refine QT (QA.eqPtr (b:=true) U0 eE eE (.inl ⟨rfl,rfl⟩)) rfl rfl ?_
 refine Z1 ?_
 refine xP ?_
 refine xG ?_
 refine QT (QA.toUnsafe U0 QhL hj (by rw [hjs];decide) eE eE om) rfl rfl ?_
 refine Z1 ?_
 refine QT (QA.noEscape func294 rfl rfl rfl rfl rfl eE) rfl rfl ?_
 refine Z1 ?_
 refine QT (QA.fromUnsafeG QhL U0 hj hB.l hB.c om eE eE om) rfl rfl ?_
 refine Z1 ?_
 refine xW ?_
 refine xS ?_
 refine QU (f':=ofL (.optr gB 0::b::r)) (fun j hj=>by match j,hj with|0,_=>rfl|j+1,_=>rfl) ?_
 refine xG ?_
 refine xV ?_
 exact⟨rfl,rfl⟩
theorem Qfc {ty:TypeId} {r:List CV} (gB:Nat) (b:CV):Fh prog 198 [Yv ty r gB (.optr gB 0) b] [.c (.optr gB 0)] (fun x h=>x=.tup []∧h=[Yv ty r gB (.optr gB 0) b]):=by
 obtain⟨j,hj,hjs⟩:=Option.map_eq_some_iff.1 (show(prog.info? 125).map (·.size)=some 2 from by kernel_rfl)
 refine fH func198 fun C hC=>?_
 refine xG ?_
 refine QT (QA.eqPtr (b:=false) U0 eE eE (.inr ⟨gB,rfl,rfl⟩)) rfl rfl ?_
 refine Z1 ?_
 refine xN ?_
 refine xG ?_
 refine QT (QA.neqPtr U0 hj eE eE) rfl rfl ?_
 refine Z1 ?_
 refine xN ?_
 refine xG ?_
 refine xV ?_
 exact⟨rfl,rfl⟩
def Qa6 (a:CV) (gB:Nat) (og:Option Nat) (B:List UInt8):Prop:=(a=.raw (.pointer none)∨a=.optr gB 0)∧(og=none→B.length=0)
abbrev KS (ty:TypeId) (r:List CV) (gB:Nat) (a:CV) (og:Option Nat) (B:List UInt8):Qa:=Yv ty r gB a (Jq og B.length)::gh og 5 B.length (UZ B)
theorem U1 {ty:TypeId} {r:List CV} (hB:Qlr ty r) (gB:Nat) (a b:CV) (ha:a=.raw (.pointer none)∨a=.optr gB 0):Fh prog 198 [Yv ty r gB a b] [.c (.optr gB 0)] (fun x h=>x=.tup []∧h=[Yv ty r gB (.optr gB 0) b]):=by
 rcases ha with rfl|rfl
 ·exact Qfb hB ..
 ·exact Qfc ..
theorem QbU {ty:TypeId} {r:List CV} (hB:Qlr ty r) (gB:Nat) (a:CV) (og:Option Nat) (B l:List UInt8) (hbd:Qa6 a gB og B) (hlen:B.length+l.length≤100000000000):
  Fh prog 122 (KS ty r gB a og B) [.c (.optr gB 0),.c (.str (sB l))]
   (fun x h=>∃og',Qa6 (.optr gB 0) gB og' (B++l)∧x=.tup [.c (.int .i64 l.length),.c .nilI]∧h=KS ty r gB (.optr gB 0) og' (B++l)):=by
 obtain⟨ha,hog⟩:=hbd
 have hcc:=U1 hB gB a (Jq og B.length) ha
 refine fH func122 fun C hC=>?_
 refine xG ?_
 refine Ql (hc:=[Yv ty r gB a (Jq og B.length)]) (hr:=gh og 5 B.length (UZ B)) hcc rfl rfl rfl (.refl _) eL ?_
 rintro _ _ ⟨rfl,rfl⟩ _
 refine Z1 ?_
 refine QbQ (pre:=[Yv ty r gB (.optr gB 0) (Jq og B.length)]) (f:=UZ B) (bs:=sB l) rfl rfl rfl eE QhM eE (by rfl) eE eE hog rfl (by rw [UO];unfold maxLen;omega) (by rw [UO];omega) fun og' h1 h2=> ?_
 rw [UO,Qm5,List.singleton_append]
 refine Qjz (n':=(B++l).length) (f':=UZ (B++l)) (by simp) (fun j _=>QhK B l j) ?_
 rw [show B.length+l.length=(B++l).length from by simp]
 rw [UO,show B.length+l.length=(B++l).length from by simp] at h1
 refine Z1 ?_
 have hsol:(Jq og' (B++l).length).solid=true:=by cases og'<;>rfl
 refine KV rfl rfl rfl rfl eE eE eE eE (fun _ e=>by cases e) (by simp only [AV.cells,List.all_cons,List.all_nil,hsol];rfl) (by rfl) om rfl ?_
 refine xS ?_
 refine QU (f':=ofL (.optr gB 0::Jq og' (B++l).length::r)) (fun j hj=>by match j,hj with|0,_=>rfl|1,_=>rfl|j+2,_=>rfl) ?_
 refine xG ?_
 refine xU ?_
 exact⟨og',⟨.inr rfl,h1⟩,rfl,rfl⟩
end Go.Proofs.YtngjgahldnnapaaGreatDoor
