/- Parts of one proof, laid by a program. -/
import Derived.Test.YtngjgahldnnapaaGreatDoorM00
import Derived.Test.YtngjgahldnnapaaGreatDoorM06
set_option linter.unusedSimpArgs false
set_option linter.unusedVariables false
set_option maxRecDepth 100000
set_option maxHeartbeats 12800000
namespace Go.AI
theorem QlA {P:Program} {fits:TypeId→Bool} {d count:Nat} {e:TypeId} (h1:1≤count) (h:rowAt P fits d e 1 0 1=true):rowAt P fits d e count 0 1=true:=by
 cases d with
 |zero=>cases h
 |succ d=>
  unfold rowAt at h⊢
  dsimp only at h⊢
  by_cases hs:P.cellsOf e=0
  ·rw [iP hs] at h;cases h
  ·rw [iN hs] at h⊢
   rw [Bool.or_eq_true] at h⊢
   rcases h with h|h
   ·left
    simp only [Ba,Dq] at h⊢
    exact⟨⟨h.1.1,by omega⟩,h.2⟩
   ·right
    rw [Ba] at h⊢
    exact⟨by rw [Dq,Nat.zero_div];omega,h.2⟩
theorem QjV {P:Program} {e u:TypeId} {count:Nat} (h1:1≤count) (h:rowAt P (fun x=>sameLayout P P.depth x u) P.depth e 1 0 1=true):liesAt P P.depth e count 0 u 1=true:=by
 have hd:P.depth=(2*(P.types.size+Made.depth)+1)+1:=rfl
 have h2:=QlA h1 h
 rw [hd]
 simp only [liesAt,Bool.or_eq_true]
 exact .inl h2
section
section
variable {E : Vl} {K : List It} {l : List Oper} {FP FP' : Qa} {σ σ' : Sl} {h : Qa} {o : Oper}
theorem KK {i mk:Nat} {cs:List (Nat×Nat)} {t e size bytes n k m g:Nat} {z:List CV} {f f2:Nat→CV} {s x:Operand} {cx:CV} {h2:Qa} (ho:l[i]?=some o) (hop:o.op=.call {callee:=.builtin .append,args:= #[s,x],argTypes:= #[t,t]}) (hw:Qx l σ o=some true) (hd:Qw E.N o.dst=true)
  (ht:QR E.P t=some (e,size,bytes)) (hz:Qj E.P e=some z) (hzl:z.length=size) (hs0:0<size) (hs:ev σ s=.c (.osl g size 0 n)) (hg:h.get g=some (.cells e m f)) (hm:n*size≤m) (hx:ev σ x=.c cx) (hsrc:Src h size cx k f2) (hsol:∀j,j<k*size→(f2 j).solid=true) (hk:0<k)
  (h63:n+k≤maxLen) (hby:(n+k)*bytes≤140737488355328) (hh2:h.del g=h2) (hFP:Kp FP' h2)
  (kk:∀g',g'∉h2.keys→CW E l K FP' cs (σ.setO o.dst (.c (.osl g' size 0 (n+k)))) ((g',.cells e ((n+k)*size) (Xq f (n*size) f2))::h2)) (hmk:mk=2∨mk=1∧FP'=FP:=by first|exact .inl rfl|exact .inr ⟨rfl,rfl⟩):CW E l K FP ((i,mk)::cs) σ h:=by
 refine .pin ho hmk (R:=fun r hh=>∃g',g'∉h2.keys∧r=.c (.osl g' size 0 (n+k))∧hh=(g',.cells e ((n+k)*size) (Xq f (n*size) f2))::h2) (fun σ' K hsm=> ?_) ?_ ?_
 ·exact YC hop ((Xh hsm).trans hw) hd ht hz hzl hs0 ((XI (by rw [hop];simp [Op.operands,Call.operands]) hsm).trans hs) hg hm ((XI (by rw [hop];simp [Op.operands,Call.operands]) hsm).trans hx) hsrc hsol hk h63 hby hh2 fun g' hg'=>XA (Qb ⟨_,⟨g',hg',rfl,rfl⟩,rfl⟩)
 ·rintro r hh ⟨g',_,_,rfl⟩;exact fun p hp=>Lm _ (hFP p hp)
 ·rintro r hh ⟨g',hg',rfl,rfl⟩;exact kk g' hg'
end
end
section
def QaP {α:Type} [DecidableEq α] (a:α) (v:Value):List (α×Value)→List (α×Value)
 |[]=>[]
 |p::kv=>if a=p.1 then(p.1,v)::kv else p::QaP a v kv
theorem QhQ {α:Type} [DecidableEq α] {K:α→Value} (a:α) (v:Value):∀(kv:List (α×Value)) (es:List MapEntry) (n i:Nat) (x:Value),es.map (fun e=>(e.key,e.val))=kv.map (fun p=>(K p.1,p.2))→fAsk a (kv.map (·.1)) es n=some (i,x)→∃j,i=n+j∧(es[j]?).map (·.key)=some (K a)∧(es.modify j (fun e=>{e with key:=K a,val:=v})).map (fun e=>(e.key,e.val))=(QaP a v kv).map (fun p=>(K p.1,p.2))
 |[],[],_,_,_,_,h=>by cases h
 |[],_::_,_,_,_,h,_=>by simp at h
 |_::_,[],_,_,_,h,_=>by simp at h
 |p::kv,e::es,n,i,x,h,hf=>by
  simp only [Ld,List.cons.injEq,Ab] at h
  simp only [Ld,fAsk] at hf
  split at hf
  ·rename_i ha
   injection hf with hf
   injection hf with h1 h2
   refine⟨0,h1.symm,?_,?_⟩
   ·simp [h.1.1,ha]
   ·simp only [QaP,iP ha]
    simp [h.2,ha]
  ·rename_i ha
   obtain⟨j,hj,hk,hm⟩:=QhQ a v kv es (n+1) i x h.2 hf
   refine⟨j+1,by omega,by simpa using hk,?_⟩
   simp only [QaP,iN ha]
   simp [hm,h.1.1,h.1.2]
section
variable {E : Vl} {K : List It} {σ σ' : Sl} {h : Qa} {all rest : List Oper} {o : Oper}
theorem Qpc {α:Type} [DecidableEq α] {Kf:α→Value} {t kt et g:TypeId} {kv:List (α×Value)} {x ky vl:Operand} {ck cv:AV} {a:α} {v:Value} (hop:o.op=.mapUpdate t x ky vl) (hdn:o.dst=none) (hw:Qx all σ o=some true)
  (ht:QbC E.P t=some (kt,et)) (hK:Oq E.P kt Kf) (hsb:Instr.sameBits 10000 (Kf a) (Kf a)=true) (hx:ev σ x=.c (.raw (.map (some g)))) (hg:h.get g=some (.gen (Uu Kf kv))) (hk:ev σ ky=ck) (hka:∀S w u,VK S w ck u→u=Kf a) (hv:ev σ vl=cv) (hva:∀S w u,VK S w cv u→u=v)
  (hold:(Ya a kv).isSome=true) {h':Qa} (hh:h.set g (.gen (Uu Kf (QaP a v kv)))=h') (k:aw E (.ops all rest::K) σ h'):aw E (.ops all (o::rest)::K) σ h:=by
 subst hh
 refine V9 hw (fun ac w s=> ?_) k
 have h1:=QK s x
 rw [hx] at h1
 have h1':ac.eval x=.map (some g):=h1
 have h2:=QK s ky
 rw [hk] at h2
 have h2':=hka _ _ _ h2
 have h3:=QK s vl
 rw [hv] at h3
 have h3':=hva _ _ _ h3
 obtain⟨ob,hb,es,c,rfl,hes⟩:=s.heap g _ (Qa.get_mem hg)
 have hkeys:es.toList.map (·.key)=(kv.map (·.1)).map Kf:=by
  have:=congrArg (List.map Prod.fst) hes
  rw [List.map_map,List.map_map] at this
  rw [List.map_map]
  exact this
 have hfind:=hK.find a (kv.map (·.1)) es.toList w hkeys
 have hget:=JZ (K:=Kf) a kv es.toList 0 hes
 obtain⟨i,y,hsome⟩:∃i y,fAsk a (kv.map (·.1)) es.toList 0=some (i,y):=by
  cases hf:fAsk a (kv.map (·.1)) es.toList 0 with
  |none=>rw [hf] at hget;rw [←hget] at hold;cases hold
  |some p=>exact⟨p.1,p.2,rfl⟩
 obtain⟨j,hj,hkj,hmod⟩:=QhQ (K:=Kf) a v kv es.toList 0 i y hes hsome
 rw [Nz] at hj
 subst hj
 have hgl:g<w.heap.size:=(Array.getElem?_eq_some_iff.1 hb).1
 let w':World:={w with heap:=w.heap.setIfInBounds g (.map (es.modify i fun e=>{e with key:=Kf a,val:=v}) c)}
 have hki:((es[i]?).map (·.key)).getD (Kf a)=Kf a:=by
  rw [←Array.getElem?_toList,hkj];rfl
 have hrun:(Instr.mapUpdate t (ac.eval x) (ac.eval ky) (ac.eval vl)).run E.P w=.ok () w':=by
  rw [h1',h2',h3']
  unfold Instr.mapUpdate
  simp only [Sem.run_bind,run_underlying (VZ ht),Result.andThen_ok,OW hb,hK.check,hfind,hsome,hki]
  unfold Instr.keyThatStays
  rw [iP hsb]
  simp only [Sem.run_pure,Result.andThen_ok,Qhz _ hb]
  rfl
 refine⟨undef,w',.inr ⟨?_,rfl⟩,?_⟩
 ·simp only [execOp,hop,Sem.run_bind,hrun,Result.andThen_ok]
  rfl
 ·rw [hdn]
  have hfr:Fr (fun b=>b=g) w w':=by
   refine⟨rfl,rfl,rfl,by simp [w'],Ac _,fun b _ hne=> ?_,fun g' m hh=> ?_⟩
   ·simp only [w'];rw [Array.getElem?_setIfInBounds_ne (fun e=>hne e.symm)]
   ·obtain⟨cs,ty,⟨fr,hc⟩,hs⟩:=hh
    refine⟨cs,ty,⟨fr,?_⟩,hs⟩
    have hne:g'≠g:=fun e=>by rw [e,hb] at hc;cases hc
    simp only [w']
    rw [Array.getElem?_setIfInBounds_ne (fun e=>hne e.symm)];exact hc
  refine s.setObj hg hfr ⟨_,by simp only [w'];rw [Array.getElem?_setIfInBounds_self_of_lt hgl],_,_,rfl,?_⟩
  rw [Array.toList_modify]
  exact hmod
end
end
section
theorem QA.buildZ {P:Program} {h:Qa} {ρ:Operand→AV} {t:TypeId} {vs:List Value} (hz:Qm4 P t=some vs) (hfl:(Xk P t).isSome=true):QA P h ρ (.build t #[]) (.agg (vs.map CV.raw)):=by
 intro S w e hS ho _
 obtain⟨fl,hfl⟩:=Option.isSome_iff_exists.1 hfl
 obtain⟨fs,hu,hrun⟩:=Qgd hfl
 obtain⟨i,zv,hi,hzv,rfl⟩:=Qe6 hz
 refine⟨.agg zv.cells,fun o hop=> ?_,zv.cells.toList,by simp,Qe7 _ _ _⟩
 simp only [execOp,hop,Instr.build,Sem.run_bind,zeroValue,typeInfo,run_program,hi,hzv,Result.andThen_ok,Sem.run_pure,run_underlying hu,hrun w]
 rw [show(Array.map (fun x:Nat×Operand=>(x.fst,e x.snd)) #[]).toList=[] from by simp]
 simp [Instr.fill,Sem.run_pure]
section
variable {E : Vl} {K : List It} {l : List Oper} {FP FP' : Qa} {σ σ' : Sl} {h : Qa} {o : Oper} {i m : Nat} {cs : List (Nat × Nat)}
theorem Qnj {r:AV} (ho:l[i]?=some o) (hp:∀ρ:Operand→AV,(∀x∈o.op.operands,ρ x=ev σ x)→QA E.P h ρ o.op r) (hw:Qx l σ o=some true) (hd:Qw E.N o.dst=true) (hFP:Kp FP' h) (k:CW E l K FP' cs (σ.setO o.dst r) h) (hm:m=2∨m=1∧FP'=FP:=by first|exact .inl rfl|exact .inr ⟨rfl,rfl⟩):CW E l K FP ((i,m)::cs) σ h:=by
 refine .pin ho hm (R:=fun x h2=>x=r∧h2=h) (fun σ' K hs=> ?_) ?_ ?_
 ·exact QT (hp (ev σ') fun x hx=>XI hx hs) ((Xh hs).trans hw) hd (XA (Qb ⟨r,⟨rfl,rfl⟩,rfl⟩))
 ·rintro _ _ ⟨_,rfl⟩;exact hFP
 ·rintro _ _ ⟨rfl,rfl⟩;exact k
end
end
end Go.AI
namespace Go.Proofs.YtngjgahldnnapaaGreatDoor
open Go.AI Go.PN Proofs.Tryz
attribute [local irreducible] aw Fa ZN ZZ Fh YE
theorem QyE (lo:Bool):Qlr 127 [.bool lo]:=⟨fun count h=>QjV h kR,by kernel_rfl,rfl⟩
theorem KL (lo:Bool) (gB:Nat) (a:CV) (og:Option Nat) (B l:List UInt8) (hbd:Qa6 a gB og B) (hlen:B.length+l.length+1≤100000000000):
  Fh prog 54 (KS 127 [.bool lo] gB a og B) [.c (.optr gB 0),.c (.str (sB l))]
   (fun x h=>∃og',Qa6 (.optr gB 0) gB og' (B++l++[10])∧x=.tup []∧h=KS 127 [.bool lo] gB (.optr gB 0) og' (B++l++[10])):=by
 refine fH func54 fun C hC=>?_
 refine xG ?_
 refine Ql (hc:=KS 127 [.bool lo] gB a og B) (hr:=[]) (QbU (QyE lo) gB a og B l hbd om) rfl rfl rfl (by rw [Lp]) eL ?_
 rintro _ _ ⟨og1,h1,rfl,rfl⟩ _
 rw [Lp]
 refine Z1 ?_
 refine Ql (hc:=KS 127 [.bool lo] gB (.optr gB 0) og1 (B++l)) (hr:=[]) (QoX (QyE lo) gB _ og1 (B++l) 10 h1 (by rw [La];omega)) rfl rfl rfl (by rw [Lp]) eL ?_
 rintro _ _ ⟨og2,h2,rfl,rfl⟩ _
 rw [Lp]
 refine Z1 ?_
 refine xV ?_
 exact⟨og2,h2,rfl,rfl⟩
theorem Oc (lo:Bool) (gB:Nat) (a b:CV) (r:RD) (hw:r.wf 100000):
  Fh prog 58 [Yv 127 [.bool lo] gB a b] [.c (.optr gB 0),.agg (Y1 r)]
   (fun x h=>x=.c (.str (sB (Xr r)))∧h=[Yv 127 [.bool (lo||QF r)] gB a b]):=by
 have f1:=QjS r hw
 refine fH func58 fun C hC=>?_
 refine xG ?_
 refine xB fun g3 n_3=>?_
 repeat' first|refine zV n_3 ?_|refine yQ n_3 f1 ?_|refine zH n_3 ?_ ?_<;>intro hb|fail
 ·subst hb
  refine QW (h':=[Yv 127 [.bool true] gB a b]) rfl sL fun R r=>?_;simp only[go_sem,n_3];refine r _ rfl ?_;clear r R
  exact⟨rfl,rfl⟩
 ·subst hb
  refine QW (h':=[Yv 127 [.bool (QF r)] gB a b]) rfl sL fun R r=>?_;simp only[go_sem,n_3];refine r _ rfl ?_;clear r R
  exact⟨rfl,rfl⟩
theorem QjW (lo:Bool) (gB:Nat) (a b:CV) (g:Xe) (hk1: -9223372036854775808≤g.kind) (hk2:g.kind<9223372036854775808) (hk:g.kind=2→0≤g.k∧g.k<100) (hw:g.dorm.wf 100000) (hl:(YY g).length+VB (YY g) (YY g).length≤10000000000):
  Fh prog 57 [Yv 127 [.bool lo] gB a b] [.c (.optr gB 0),.agg (Zy g)]
   (fun x h=>x=.c (.str (sB (Zj g)))∧h=[Yv 127 [.bool (lo||(decide (g.kind=7)&&QF g.dorm))] gB a b]):=by
 have f1:=QjU g hk1 hk2 hk hw hl
 refine fH func57 fun C hC=>?_
 refine xG ?_
 refine xB fun g3 n_3=>?_
 by_cases c7:g.kind=7
 ·have d7:(g.kind==7)=true:=by simpa using c7
  have e7:(lo||(decide (g.kind=7)&&QF g.dorm))=(lo||QF g.dorm):=by rw [Dt c7];rfl
  rw [e7]
  refine zA (oj n_3 d7) ?_
  refine Ql (hc:=[Yv 127 [.bool lo] gB a b]) (hr:=[(g3,.cells 79 7 (ofL (Zy g)))]) (Oc lo gB a b g.dorm hw) rfl rfl rfl (List.Perm.swap _ _ _) (zL (oj n_3 d7)) ?_
  rintro _ _ ⟨rfl,rfl⟩ _
  refine(?_:aw _ _ _ [Yv 127 [.bool (lo||QF g.dorm)] gB a b,(g3,.cells 79 7 (ofL (Zy g)))])
  refine yS (oj n_3 d7) ?_
  refine Zo (oj n_3 d7) f1 ?_
  refine Qi (List.Perm.swap _ _ _) ?_
  refine QW (h':=[Yv 127 [.bool (lo||QF g.dorm)] gB a b]) rfl sL fun R r=>?_;simp only[go_sem,n_3,d7];refine r _ rfl ?_;clear r R
  exact⟨rfl,rfl⟩
 ·have d7:(g.kind==7)=false:=by simpa using c7
  have e7:(lo||(decide (g.kind=7)&&QF g.dorm))=lo:=by rw [De c7];simp
  rw [e7]
  refine Zo (oj n_3 d7) f1 ?_
  refine QW (h':=[Yv 127 [.bool lo] gB a b]) rfl sL fun R r=>?_;simp only[go_sem,n_3,d7];refine r _ rfl ?_;clear r R
  exact⟨rfl,rfl⟩
theorem QlB (m:Qv) (k:Nat) (n:BS) (hk:k≤m.pages.length) (hm:MdOk m) (hw2:Qdq m) (h0:0<n.length) (hn:n.length≤1099511627776) (hpg:XF n 0=64→0≤Oz m (n.drop 1)):Fa prog 293 [.agg (Xa true m),.c (.int .i64 ((k:Int)-1)),.c (.str (sB n))] (thA (KG m k n)):=by
 have hpl:=hw2.pl
 refine fA func293 fun C hC=>?_
 refine zA o0 ?_
 refine xB fun g1 n_1=>?_
 refine zA n_1 ?_
 refine yA n_1 fun g2 n_2=>?_
 all_goals try(have Z:=(oj n_1 n_2);(repeat' first|refine zV Z ?_|refine zH Z ?_ ?_<;>intro hb|fail);all_goals clear Z)
 ·have h64:=hb
  obtain⟨q,hq⟩:∃q:Nat,Oz m (n.drop 1)=q:=⟨(Oz m (n.drop 1)).toNat,by have:=hpg h64;omega⟩
  have hql:q<m.pages.length:=by
   have:=QhF (fun x:Yz=>x.name==n.drop 1) m.pages
   rw [show Xu (fun x:Yz=>x.name==n.drop 1) m.pages=(q:Int) from hq] at this
   omega
  have f1:=QhG m (VN n 1 n.length) hm.pg
  rw [V1,show Xu (fun x:Yz=>x.name==n.drop 1) m.pages=(q:Int) from hq,←V1] at f1
  have e1:KG m k n=W9 m (q+1) (m.pages.getD q pg0).top:=by
   unfold KG QcT WG
   rw [iP h64,iP h64,hq]
   rfl
  rw [e1]
  have hgl:=K2 hw2 (q+1)
  have f4:=VS m (q+1) om hm.pg
  rw [show((q+1:Nat):Int)-1=q from by omega] at f4
  refine Xv 5 Qg kR ?_
  refine Zo (oj n_1 n_2) f1 ?_
  generalize hN:(m.pages.getD q pg0).top=N at*
  have f2:=Z8 m N hm.ev
  have f3:=OZ m N hm.hs
  have f5:=QbJ (Qt m (q+1)) N om
  all_goals try(have Z:=(oj n_1 n_2);(repeat' first|refine zV Z ?_|refine yQ Z f2 ?_|refine yQ Z f3 ?_|refine yQ Z f4 ?_|refine yQ Z f5 ?_|refine zH Z ?_ ?_<;>intro hb|fail);all_goals clear Z)
  ·refine yT hC (oj n_1 n_2) ?_
   rw [show W9 m (q+1) N=(0,0,VH m N) from iP hb]
   exact .one (.agg ⟨.int _ _,.int _ _,.int _ _,trivial⟩)
  ·rename_i h1
   refine yT hC (oj n_1 n_2) ?_
   rw [show W9 m (q+1) N=(1,0,hsI m N) from(iN h1).trans (iP hb)]
   exact .one (.agg ⟨.int _ _,.int _ _,.int _ _,trivial⟩)
  ·rename_i h1
   refine yT hC (oj n_1 n_2) ?_
   rw [show W9 m (q+1) N=(2,(((q+1):Nat):Int)-1,Oy (Qt m (q+1)) N) from(iN h1).trans (iN hb)]
   exact .one (.agg ⟨.int _ _,Qo (by dsimp only;omega),.int _ _,trivial⟩)
 ·have e1:KG m k n=W9 m k n:=by
   unfold KG QcT WG
   rw [iN hb,iN hb]
  rw [e1]
  clear e1 hpg
  generalize n=N at*
  have hgl:=K2 hw2 k
  have f4:=VS m k hk hm.pg
  have f2:=Z8 m N hm.ev
  have f3:=OZ m N hm.hs
  have f5:=QbJ (Qt m k) N om
  all_goals try(have Z:=(oj n_1 n_2);(repeat' first|refine zV Z ?_|refine yQ Z f2 ?_|refine yQ Z f3 ?_|refine yQ Z f4 ?_|refine yQ Z f5 ?_|refine zH Z ?_ ?_<;>intro hb|fail);all_goals clear Z)
  ·refine yT hC (oj n_1 n_2) ?_
   rw [show W9 m k N=(0,0,VH m N) from iP hb]
   exact .one (.agg ⟨.int _ _,.int _ _,.int _ _,trivial⟩)
  ·rename_i h1
   refine yT hC (oj n_1 n_2) ?_
   rw [show W9 m k N=(1,0,hsI m N) from(iN h1).trans (iP hb)]
   exact .one (.agg ⟨.int _ _,.int _ _,.int _ _,trivial⟩)
  ·rename_i h1
   refine yT hC (oj n_1 n_2) ?_
   rw [show W9 m k N=(2,((k:Nat):Int)-1,Oy (Qt m k) N) from(iN h1).trans (iN hb)]
   exact .one (.agg ⟨.int _ _,.int _ _,.int _ _,trivial⟩)
end Go.Proofs.YtngjgahldnnapaaGreatDoor
namespace Go.PN
open Go.AI
def evP (x:X3):List Zp:=[⟨kP,x.p⟩,⟨kFail,x.fail⟩,⟨kRepair,x.rep⟩,⟨kCost,rd (x.cost:Rat)⟩]
theorem QyF (x:X3) (j:Nat) (hj:j<16):ofL ((evP x).flatMap vlc) j=V6 (evP x) j:=by
 match j,hj with
 |0,_|1,_|2,_|3,_|4,_|5,_|6,_|7,_|8,_|9,_|10,_|11,_|12,_|13,_|14,_|15,_=>rfl
 |n+16,h=>exact absurd h om
def K8 (x:X3) (j:Nat):List BS:=[Xn,x.name]++((evP x).take j).flatMap fun v=>Yj v.event v.p
def Uh (lo:Bool) (x:X3) (j:Nat):Bool:=lo||((evP x).take j).any fun v=>decide (YJ v.p.q≠0)&&QF v.p
theorem QjX (x:X3) (j:Nat) (hj:j<4):(evP x).take (j+1)=(evP x).take j++[(evP x).getD j vl0]:=by
 match j,hj with
 |0,_|1,_|2,_|3,_=>rfl
theorem Qc0 (x:X3) (j:Nat) (hj:j<4):K8 x (j+1)=K8 x j++Yj ((evP x).getD j vl0).event ((evP x).getD j vl0).p:=by
 unfold K8
 rw [QjX x j hj,List.flatMap_append,←Lo]
 simp
theorem QgL (lo:Bool) (x:X3) (j:Nat) (hj:j<4):Uh lo x (j+1)=(Uh lo x j||(decide (YJ ((evP x).getD j vl0).p.q≠0)&&QF ((evP x).getD j vl0).p)):=by
 unfold Uh
 rw [QjX x j hj,List.any_append,←Bool.or_assoc]
 simp
theorem QjY (x:X3):∀j,j≤4→(K8 x j).length≤2+2*j
 |0,_=>Ac _
 |j+1,h=>by
  have ih:=QjY x j om
  rw [Qc0 x j om,La]
  have:(Yj ((evP x).getD j vl0).event ((evP x).getD j vl0).p).length≤2:=by unfold Yj;split<;>simp
  omega
theorem QrI (x:X3):K8 x 4=evW x:=by
 unfold K8 evW evP
 simp [List.flatMap_cons]
section
variable {β : Type}
def Wd (w:BS) (ts:List TK):Prop:=∀l us,Qym l→Lx l us→Lx (w++l) (ts++us)
inductive WL:List BS→List TK→Prop where
 |nil:WL [] []
 |cons {w:BS} {t:List TK} {ws:List BS} {ts:List TK}:Wd w t→WL ws ts→WL (w::ws) (t++ts)
end
def Uz (t:Th):Value:=Qjd [t.1,t.2.1,t.2.2]
theorem QhR {P:Program} {kt:TypeId} (ht:Qeo P kt=some 3):Oq P kt Uz:=by
 have h:=QtQ ht
 have hj:∀a b:Th,((⟨[a.1,a.2.1,a.2.2],rfl⟩:{l:List Int//l.length=3})=⟨[b.1,b.2.1,b.2.2],rfl⟩)↔a=b:=fun a b=>by
  obtain⟨a1,a2,a3⟩:=a
  obtain⟨b1,b2,b3⟩:=b
  simp
 refine⟨fun b a w=>h.check b ⟨[a.1,a.2.1,a.2.2],rfl⟩ w,fun a ks es w he=> ?_⟩
 have:=h.find ⟨[a.1,a.2.1,a.2.2],rfl⟩ (ks.map fun k=>⟨[k.1,k.2.1,k.2.2],rfl⟩) es w (by rw [he,List.map_map];rfl)
 have e:∀(ks:List Th) (es:List MapEntry) (i:Nat),fAsk (⟨[a.1,a.2.1,a.2.2],rfl⟩:{l:List Int//l.length=3}) (ks.map fun k=>⟨[k.1,k.2.1,k.2.2],rfl⟩) es i=fAsk a ks es i:=by
  intro ks
  induction ks with
  |nil=>intro es i;rfl
  |cons k ks ih=>
   intro es i
   cases es with
   |nil=>rfl
   |cons x es=>
    simp only [Ld,fAsk,hj]
    rw [ih]
 rw [e] at this
 exact this
theorem Qpd (t:Th):Instr.sameBits 10000 (Uz t) (Uz t)=true:=by
 show Instr.sameBits (9999+1) (Uz t) (Uz t)=true
 unfold Instr.sameBits Uz Qjd
 simp [Instr.sameBits]
def kvT (st:List (Th×Int)):List (Th×Value):=st.map fun p=>(p.1,.int .i64 p.2)
theorem Qnk (t:Th):∀st:List (Th×Int),(Ya t (kvT st)).getD (.int .i64 0)=.int .i64 (Zq t st)
 |[]=>rfl
 |p::st=>by
  show(if t=p.1 then some (Value.int .i64 p.2) else Ya t (kvT st)).getD (.int .i64 0)=Value.int .i64 (if t=p.1 then p.2 else Zq t st)
  split
  ·rfl
  ·exact Qnk t st
theorem QjZ {t:Th}:∀{st:List (Th×Int)},t∉st.map (·.1)→Ya t (kvT st)=none
 |[],_=>rfl
 |p::st,h=>by
  show(if t=p.1 then some (Value.int .i64 p.2) else Ya t (kvT st))=none
  rw [iN (fun e=>h (by rw [e];exact Lf))]
  exact QjZ fun z=>h (Lm _ z)
theorem Qj0 {t:Th}:∀{st:List (Th×Int)},t∈st.map (·.1)→(Ya t (kvT st)).isSome=true
 |p::st,h=>by
  show(if t=p.1 then some (Value.int .i64 p.2) else Ya t (kvT st)).isSome=true
  split
  ·rfl
  ·rename_i e
   exact Qj0 ((Lb.1 h).resolve_left e)
theorem Qnl (t:Th) (v:Int):∀st:List (Th×Int),QaP t (.int .i64 v) (kvT st)=kvT (WF t v st)
 |[]=>rfl
 |p::st=>by
  show(if t=p.1 then _ else _)=kvT (if t=p.1 then _ else _)
  split
  ·rfl
  ·show _::QaP t (.int .i64 v) (kvT st)=_::kvT (WF t v st)
   rw [Qnl t v st]
theorem QuG (st:List (Th×Int)) (t:Th) (v:Int):kvT st++[(t,.int .i64 v)]=kvT (st++[(t,v)]):=by
 unfold kvT;rw [List.map_append];rfl
theorem QuH {S:Bool→Nat→Prop} {w:World} {t:Th} {v:Value} (h:VK S w (thA t) v):v=Uz t:=by
 obtain⟨cs,rfl,h⟩:=h
 match cs,h with
 |[a,b,c],⟨h1,h2,h3,_⟩=>
  have h1:a=_:=h1
  have h2:b=_:=h2
  have h3:c=_:=h3
  subst h1 h2 h3
  rfl
structure QwU (m:Qv):Prop where
 ok:Go.Proofs.YtngjgahldnnapaaGreatDoor.MdOk m
 w2:Qdq m
 ins:Qnc m
 len:∀k i j,(((Qt m k).getD i gt0).inputs.getD j []).length≤1099511627776
theorem Qj1 (m:Qv) {k:Nat} (h:k≤m.pages.length):Vs m k (m.pages.length+1-k)=YL m k++Vs m (k+1) (m.pages.length+1-(k+1)):=by
 rw [show m.pages.length+1-k=(m.pages.length+1-(k+1))+1 from by omega];rfl
theorem Qj2 (m:Qv) {k i:Nat} (h:i<(Qt m k).length):(YL m k).drop i=((2,(k:Int)-1,(i:Int)):Th)::(YL m k).drop (i+1):=by
 have hl:i<(YL m k).length:=by unfold YL;rw [Lw,List.length_range];exact h
 rw [List.drop_eq_getElem_cons hl]
 congr 1
 simp only [YL,List.getElem_map,List.getElem_range]
theorem QlC (m:Qv) (k:Nat):(YL m k).length=(Qt m k).length:=by unfold YL;rw [Lw,List.length_range]
theorem Jb.cy {m:Qv} (h:Jb m) (h0:Vr m=0):QwU m:=⟨h.ok,h.wf2,QcU (WH h0),h.inl⟩
section
variable {α β σ : Type}
theorem VV {a b:Int} (h:a≠0):Vn a b=a:=iN h
theorem XW {a b:Int} (h:a=0):Vn a b=b:=iP h
theorem Qc1 (a b c:Int):Vn (Vn a b) c=Vn a (Vn b c):=by
 by_cases h:a=0
 ·rw [XW h,XW h]
 ·rw [VV h,VV h,VV h]
theorem QhS {f:Nat→σ→Int×σ} {n i:Nat} {s:σ} (h:(f i s).1=0):K1 f (n+1) i s=K1 f n (i+1) (f i s).2:=iP h
theorem QdY {f:Nat→σ→Int×σ} {n i:Nat} {s:σ} (h:(f i s).1≠0):K1 f (n+1) i s=f i s:=iN h
def UA (m:Qv):Int:=Vn (Vr m) (if QaF m then 14 else 0)
abbrev Qpe (m:Qv):Int:=(K1 (fun k (_:Unit)=>(Wy m k,())) (m.pages.length+1) 0 ()).1
abbrev QrJ (m:Qv):Int:=(K1 (U6 m) (m.pages.length+1) 0 []).1
theorem QlD (m:Qv):UA m=Vn (if QB m.name then 0 else 5) (Vn (Uv m) (Vn (Uw m) (Vn (Qpe m) (Vn (QrJ m) (Vn (if Yq m 0 m.top then 0 else 5) (Vn (Y3 m) (Vn (Vz m) (if QaF m then 14 else 0)))))))):=by
 unfold UA Vr
 simp only [Qc1]
theorem Qc2 {f:Nat→α→List β→Int×List β} {c:Nat}:∀(l:List α) (i:Nat) (s:List β),(∀i x s,x∈l→(f i x s).2.length≤s.length+c)→(X1 f l i s).2.length≤s.length+c*l.length
 |[],_,s,_=>Ac _
 |x::l,i,s,h=>by
  have h1:=h i x s Lf
  have h2:=Qc2 l (i+1) (f i x s).2 fun i y s hy=>h i y s (Lm _ hy)
  rw [Lc,Nat.mul_add]
  unfold X1
  split
  ·omega
  ·omega
theorem QrK (m:Qv) (k:Nat) (x:Xe) (j:Nat) (i:BS) (sp:List BS):(inI m k x j i sp).2.length≤sp.length+1:=by
 unfold inI
 repeat' split
 all_goals first|exact Nat.le_succ _|(rw [La];exact Ac _)
theorem QrL {m:Qv} {k:Nat} (hI:∀x∈Qt m k,x.inputs.length≤16) (sp:List BS):(U6 m k sp).2.length≤sp.length+16*(Qt m k).length:=by
 have:=Qc2 (f:=inG m k) (c:=16) (Qt m k) 0 sp fun i x s hx=>by
  have h1:=Qc2 (f:=inI m k x) (c:=1) x.inputs 0 s fun j n s _=>QrK m k x j n s
  have h2:=hI x hx
  show(X1 (inI m k x) x.inputs 0 s).2.length≤_
  omega
 unfold U6
 split<;>exact this
theorem QrM {m:Qv} (h:Qpe m=0) {k:Nat} (hk:k≤m.pages.length):∀x∈Qt m k,x.inputs.length≤16:=fun x hx=>by
 obtain⟨_,hg⟩:=Qfh h k om
 rw [Nz] at hg
 obtain⟨i,hi,rfl⟩:=List.getElem_of_mem hx
 have:=Qfg gt0 (show X2 (gtC m k) (Qt m k) 0=0 from hg) i hi
 rw [Lg,Li hi] at this
 simp only [Option.getD_some] at this
 generalize (Qt m k)[i]=x at*
 unfold gtC at this
 split at this
 ·cases this
 split at this
 ·cases this
 unfold Je at this
 split at this
 ·cases this
 split at this
 ·cases this
 rename_i hb
 unfold QeR at hb
 repeat' split at hb
 all_goals simp at hb<;>omega
end
theorem WJ {m:Qv} (h:UA m=0):Good m:=(Qfl m).1 (Z9.1 (show Vn (Vr m) (if QaF m then 14 else 0)=0 from h)).1
theorem QwV:Xr rd0=[48]:=by
 have e1:RD.ps rd0=false:=by decide
 have e2:RD.pn rd0=0:=by decide
 have e3:RD.pd rd0=1:=by decide
 unfold Xr
 rw [e1,e2,e3,iN (by simp),iP rfl,QbO,Jx Af];rfl
theorem zero_rd {r:RD} (h:QbI r=true):r=rd0:=by
 obtain⟨a,b,c⟩:=r
 unfold QbI at h
 simp only [Ba,Bool.not_eq_true',beq_iff_eq,Lh] at h
 obtain⟨⟨h1,h2⟩,h3⟩:=h
 subst h1 h2 h3
 rfl
theorem QhT {m:Qv} (h:Good m) {L:List Xe} (hL:GsA m L) {i:BS} (hi:InN m L i):Qgy i:=by
 have he:∀n,n∈Ug m→QB n=true:=fun n hn=>by
  obtain⟨x,hx,rfl⟩:=List.mem_map.1 hn
  exact(h.ev x hx).1
 rcases hi with ⟨⟨h1,h2⟩,h3⟩|⟨_,h3|h3|h3⟩
 ·obtain⟨x,hx,e⟩:=List.mem_map.1 h3
  exact .inl ⟨h2,by rw [←e];exact(h.pg x hx).1,h1⟩
 ·exact .inr (he i h3)
 ·obtain⟨x,hx,rfl⟩:=List.mem_map.1 h3
  exact .inr (h.hs x hx).1
 ·obtain⟨x,hx,rfl⟩:=List.mem_map.1 h3
  exact .inr (hL.2 x hx).1
theorem QlE (x:BS) (l:List BS):(Uc (x::l)).length+1=(x::l).length+VB (x::l) (x::l).length:=by
 have h:=QbV x l l.length (Ac _)
 have e:Uy x l l.length=Uc (x::l):=by unfold Uy;rw [Lk];rfl
 rw [e] at h
 have a2:VB (x::l) (x::l).length=x.length+VB l l.length:=by unfold VB;rw [Lk,Lk];rfl
 rw [h,a2,Lc];omega
theorem Vg (x:BS) (l:List BS):(Xj (x::l)).length=(x::l).length+VB (x::l) (x::l).length:=by
 rw [←QlE];unfold Xj;simp
theorem YZ {α:Type} (l:List α) (f:α→BS) (j:Nat):((l.take j).flatMap f).length≤(l.flatMap f).length:=by
 conv=>rhs;rw [←List.take_append_drop j l,List.flatMap_append,La]
 omega
def KM (m:Qv) (j:Nat):BS:=Xj [ZR,m.name]++[10]++(m.events.take j).flatMap evX
def Ui (m:Qv) (j:Nat):Bool:=(m.events.take j).any fun x=>Uh false x 4
structure MdP (m:Qv):Prop where
 ev:∀x∈m.events,x.p.wf 100000∧x.fail.wf 100000∧x.rep.wf 100000∧ -9223372036854775808≤x.cost∧x.cost<9223372036854775808
 gt:∀g∈m.gates,-9223372036854775808≤g.kind∧g.kind<9223372036854775808∧(g.kind=2→0≤g.k∧g.k<100)∧g.dorm.wf 100000
 pg:∀p∈m.pages,∀g∈p.gates,-9223372036854775808≤g.kind∧g.kind<9223372036854775808∧(g.kind=2→0≤g.k∧g.k<100)∧g.dorm.wf 100000
 gr:∀x∈m.groups,∀r∈x.factors,r.wf 100000
 gk:∀x∈m.groups,∃q:Nat,q<2∧x.kind=(q:Int)
 ph:∀x∈m.phases,∀v∈x.values,v.p.wf 100000
 len:(XZ m).length≤10000000000
def JA (m:Qv) (j:Nat):BS:=KM m m.events.length++(m.houses.take j).flatMap hsX
theorem Qpf (m:Qv) (j:Nat) (hj:j<m.houses.length):JA m (j+1)=JA m j++hsX (m.houses.getD j hs0):=by
 unfold JA
 rw [List.take_add_one,Li hj,Lg,Li hj,List.flatMap_append]
 simp
def Uj (m:Qv) (j:Nat):BS:=JA m m.houses.length++(m.gates.take j).flatMap (gtX [])
def Y6 (lo:Bool) (l:List Xe) (j:Nat):Bool:=lo||(l.take j).any fun g=>decide (g.kind=7)&&QF g.dorm
theorem Qpg (m:Qv) (j:Nat) (hj:j<m.gates.length):Uj m (j+1)=Uj m j++Zj (m.gates.getD j gt0)++[10]:=by
 unfold Uj
 rw [List.take_add_one,Li hj,Lg,Li hj,List.flatMap_append]
 simp [gtX]
theorem Qdu (lo:Bool) (l:List Xe) (j:Nat) (hj:j<l.length):Y6 lo l (j+1)=(Y6 lo l j||(decide ((l.getD j gt0).kind=7)&&QF (l.getD j gt0).dorm)):=by
 unfold Y6
 rw [List.take_add_one,Li hj,Lg,Li hj,List.any_append,←Bool.or_assoc]
 simp
def ZK (m:Qv) (j:Nat):BS:=Uj m m.gates.length++(m.pages.take j).flatMap pgX
def Uk (lo:Bool) (l:List Yz) (j:Nat):Bool:=lo||(l.take j).any fun p=>p.gates.any fun g=>decide (g.kind=7)&&QF g.dorm
theorem Qph (m:Qv) (j:Nat) (hj:j<m.pages.length):ZK m (j+1)=ZK m j++pgX (m.pages.getD j pg0):=by
 unfold ZK
 rw [List.take_add_one,Li hj,Lg,Li hj,List.flatMap_append]
 simp
theorem Qj3 (lo:Bool) (l:List Yz) (j:Nat) (hj:j<l.length):Uk lo l (j+1)=Y6 (Uk lo l j) (l.getD j pg0).gates (l.getD j pg0).gates.length:=by
 unfold Uk Y6
 rw [List.take_add_one,Li hj,Lg,Li hj,List.any_append,←Bool.or_assoc,Lk]
 simp
def QdC (k name top:BS):BS:=k++32::(name++32::(Yx++32::(top++[32,123])))
theorem QrN (k name top:BS):QdC k name top++[10]=UN k name top:=by simp [QdC,UN]
def JB (B:BS) (x:Yz) (k:Nat):BS:=B++UN XT x.name x.top++(x.gates.take k).flatMap (gtX [32,32])
theorem Qpi (B:BS) (x:Yz) (k:Nat) (hk:k<x.gates.length):JB B x (k+1)=JB B x k++([32,32]++Zj (x.gates.getD k gt0))++[10]:=by
 unfold JB
 rw [List.take_add_one,Li hk,Lg,Li hk,List.flatMap_append]
 simp [gtX]
theorem QrO (B:BS) (x:Yz):JB B x x.gates.length++[125]++[10]=B++pgX x:=by
 unfold JB pgX
 rw [Lk];simp
theorem QuI (B:BS) (x:Yz) (k:Nat):(JB B x k).length≤(B++pgX x).length:=by
 have:=YZ x.gates (gtX [32,32]) k
 unfold JB pgX
 simp only [La]
 omega
def V7 (m:Qv) (j:Nat):BS:=ZK m m.pages.length++(m.groups.take j).flatMap grX
def U2 (lo:Bool) (l:List YB) (j:Nat):Bool:=lo||(l.take j).any fun x=>x.factors.any QF
theorem Qpj (m:Qv) (j:Nat) (hj:j<m.events.length):KM m (j+1)=KM m j++Xj (evW (m.events.getD j ev0))++[10]:=by
 unfold KM
 rw [List.take_add_one,Li hj,Lg,Li hj,List.flatMap_append]
 simp [evX]
theorem Qj4 (m:Qv) (j:Nat) (hj:j<m.events.length):Ui m (j+1)=Uh (Ui m j) (m.events.getD j ev0) 4:=by
 unfold Ui
 rw [List.take_add_one,Li hj,Lg,Li hj,List.any_append]
 simp [Uh]
theorem Qnm (m:Qv) (j:Nat):(KM m j).length≤(XZ m).length:=by
 have:=YZ m.events evX j
 unfold KM XZ
 simp only [La,Lc,Lu]
 omega
theorem QuJ (m:Qv) (j:Nat):(JA m j).length≤(XZ m).length:=by
 have:=YZ m.houses hsX j
 unfold JA KM XZ
 simp only [La,Lc,Lu,Lk]
 omega
theorem QuK (m:Qv) (j:Nat):(Uj m j).length≤(XZ m).length:=by
 have:=YZ m.gates (gtX []) j
 unfold Uj JA KM XZ
 simp only [La,Lc,Lu,Lk]
 omega
theorem QuL (m:Qv) (j:Nat):(ZK m j).length≤(XZ m).length:=by
 have:=YZ m.pages pgX j
 unfold ZK Uj JA KM XZ
 simp only [La,Lc,Lu,Lk]
 omega
def Y7 (x:YB) (k:Nat):List BS:=[Xf,x.name,if x.kind=1 then Yh else ZF]++(x.factors.take k).map Xr
def QaG (lo:Bool) (x:YB) (k:Nat):Bool:=lo||(x.factors.take k).any QF
theorem Qpk (x:YB) (k:Nat) (hk:k<x.factors.length):Y7 x (k+1)=Y7 x k++[Xr (x.factors.getD k rd0)]:=by
 unfold Y7
 rw [List.take_add_one,Li hk,Lg,Li hk,List.map_append,←Lo]
 simp
theorem Qpl (lo:Bool) (x:YB) (k:Nat) (hk:k<x.factors.length):QaG lo x (k+1)=(QaG lo x k||QF (x.factors.getD k rd0)):=by
 unfold QaG
 rw [List.take_add_one,Li hk,Lg,Li hk,List.any_append,←Bool.or_assoc]
 simp
theorem QrP (x:YB) (k:Nat) (hk:k≤x.factors.length):(Y7 x k).length=k+3:=by
 unfold Y7
 rw [La,Lw,List.length_take]
 simp;omega
theorem QrQ (x:YB):Y7 x x.factors.length++[Zi]++x.members=grW x:=by
 unfold Y7 grW
 rw [Lk];simp
theorem Qpm (m:Qv) (j:Nat) (hj:j<m.groups.length):V7 m (j+1)=V7 m j++Xj (grW (m.groups.getD j gr0))++[10]:=by
 unfold V7
 rw [List.take_add_one,Li hj,Lg,Li hj,List.flatMap_append]
 simp [grX]
theorem Qj5 (lo:Bool) (l:List YB) (j:Nat) (hj:j<l.length):U2 lo l (j+1)=QaG (U2 lo l j) (l.getD j gr0) (l.getD j gr0).factors.length:=by
 unfold U2 QaG
 rw [List.take_add_one,Li hj,Lg,Li hj,List.any_append,←Bool.or_assoc,Lk]
 simp
theorem QuM (m:Qv) (j:Nat):(V7 m j).length≤(XZ m).length:=by
 have:=YZ m.groups grX j
 unfold V7 ZK Uj JA KM XZ
 simp only [La,Lc,Lu,Lk]
 omega
def Zw (m:Qv) (j:Nat):BS:=V7 m m.groups.length++(m.phases.take j).flatMap phX
def Ul (lo:Bool) (l:List V0) (j:Nat):Bool:=lo||(l.take j).any fun x=>x.values.any fun v=>QF v.p
def Jh (B:BS) (x:V0) (k:Nat):BS:=B++UN Q9 x.name x.top++(x.values.take k).flatMap vlX
def QdD (lo:Bool) (l:List Zp) (k:Nat):Bool:=lo||(l.take k).any fun v=>QF v.p
theorem Qpn (m:Qv) (j:Nat) (hj:j<m.phases.length):Zw m (j+1)=Zw m j++phX (m.phases.getD j ph0):=by
 unfold Zw
 rw [List.take_add_one,Li hj,Lg,Li hj,List.flatMap_append]
 simp
theorem Qj6 (lo:Bool) (l:List V0) (j:Nat) (hj:j<l.length):Ul lo l (j+1)=QdD (Ul lo l j) (l.getD j ph0).values (l.getD j ph0).values.length:=by
 unfold Ul QdD
 rw [List.take_add_one,Li hj,Lg,Li hj,List.any_append,←Bool.or_assoc,Lk]
 simp
theorem Qpo (lo:Bool) (l:List Zp) (k:Nat) (hk:k<l.length):QdD lo l (k+1)=(QdD lo l k||QF (l.getD k vl0).p):=by
 unfold QdD
 rw [List.take_add_one,Li hk,Lg,Li hk,List.any_append,←Bool.or_assoc]
 simp
theorem Qpp (B:BS) (x:V0) (k:Nat) (hk:k<x.values.length):Jh B x (k+1)=Jh B x k++([32,32]++Xj [(x.values.getD k vl0).event,Xr (x.values.getD k vl0).p])++[10]:=by
 unfold Jh
 rw [List.take_add_one,Li hk,Lg,Li hk,List.flatMap_append]
 simp [vlX]
theorem QrR (B:BS) (x:V0):Jh B x x.values.length++[125]++[10]=B++phX x:=by
 unfold Jh phX
 rw [Lk];simp
theorem QuN (B:BS) (x:V0) (k:Nat):(Jh B x k).length≤(B++phX x).length:=by
 have:=YZ x.values vlX k
 unfold Jh phX
 simp only [La]
 omega
theorem QuO (m:Qv) (j:Nat):(Zw m j).length≤(XZ m).length:=by
 have:=YZ m.phases phX j
 unfold Zw V7 ZK Uj JA KM XZ
 simp only [La,Lc,Lu,Lk]
 omega
theorem QrS (m:Qv):Zw m m.phases.length++Xj [Yx,m.top]++[10]=XZ m:=by
 unfold Zw V7 ZK Uj JA KM XZ
 simp only [Lk]
 simp
theorem Qb0 {α:Type} {f:α→BS} {B:Nat}:∀{l:List α} {n:Nat},l.length≤n→(∀x∈l,(f x).length≤B)→(l.flatMap f).length≤n*B
 |[],_,_,_=>Lz _
 |x::l,n+1,hn,h=>by
  rw [List.flatMap_cons,La,Nat.add_mul]
  have h1:=Qb0 (l:=l) (n:=n) (by simpa using hn) fun y hy=>h y (Lm _ hy)
  have h2:=h x Lf
  omega
theorem Um {l:List BS} {n B:Nat} (hn:l.length≤n) (h:∀x∈l,x.length≤B):(Xj l).length≤n*(B+1)+1:=by
 have e:(Uc l).length≤n*(B+1):=by
  match l,n,hn with
  |[],_,_=>exact Lz _
  |x::l,n+1,hn=>
   have h1:=Qb0 (f:=fun y:BS=>(32:UInt8)::y) (B:=B+1) (l:=l) (n:=n) (by simpa using hn) fun y hy=>by
    have:=h y (Lm _ hy)
    simpa using this
   have h2:=h x Lf
   show(x++l.flatMap fun y:BS=>(32:UInt8)::y).length≤_
   rw [La,Nat.add_mul,Nat.one_mul]
   generalize n*(B+1)=K at*
   omega
 unfold Xj
 simpa using e
theorem Qav {r:RD} (h:Ks r):(Xr r).length≤36004:=QbN (L:=1000) Af h
theorem Vh {n:BS} (h:QB n=true):n.length≤24:=by
 unfold QB at h
 simp only [Ba,Dq] at h
 exact h.1.1.2
theorem QlF {i:BS} (h:Qgy i):i.length≤25:=by
 rcases h with ⟨_,h,_⟩|h
 ·have:=Vh h
  rw [List.length_drop] at this
  omega
 ·have:=Vh h;omega
theorem QrT (k:Int):(XG k).length≤36004:=by
 unfold XG
 split
 ·decide
 ·rename_i h
  obtain⟨n,rfl⟩:=Int.eq_ofNat_of_zero_le (show 0≤k by omega)
  have:n<9:=by omega
  match n,this with
  |0,_|1,_|2,_|3,_|4,_|5,_|6,_|7,_|8,_=>decide
structure Xag (x:Xe):Prop where
 k0:0≤x.kind
 k8:x.kind≤8
 n0:0≤x.k
 n16:x.k≤16
 inp:x.inputs.length≤16
 dm:x.kind=7→x.dorm.prob=true
 d0:x.kind≠7→x.dorm=rd0
theorem Qnn {x:Xe} (h:Je x=0):Xag x:=by
 unfold Je at h
 rw [Kl Af,Kl Af,Kl Af,Kl Af,Kl Af,Kl Af] at h
 obtain⟨h1,h2,h3,h4,h5,h6,_⟩:=h
 have hi:x.inputs.length≤16:=by
  unfold QeR at h2
  simp only [Bool.not_eq_false] at h2
  split at h2
  ·have:=beq_iff_eq.1 h2;omega
  ·split at h2
   ·have:=beq_iff_eq.1 h2;omega
   ·split at h2
    ·simp only [Ba,Dq] at h2;omega
    ·simp only [Ba,Dq] at h2;omega
 have k0:x.kind≠2→x.k=0:=fun e=>Classical.byContradiction fun z=>h4 ⟨e,z⟩
 refine⟨by omega,by omega,?_,?_,hi,fun e=> ?_,fun e=>zero_rd (by
  by_cases z:QbI x.dorm=true
  ·exact z
  ·exact absurd ⟨e,by simpa using z⟩ h6)⟩
 ·by_cases e:x.kind=2
  ·have:¬(x.k<1∨x.k>x.inputs.length):=fun z=>h3 ⟨e,z⟩
   omega
  ·rw [k0 e];decide
 ·by_cases e:x.kind=2
  ·have:¬(x.k<1∨x.k>x.inputs.length):=fun z=>h3 ⟨e,z⟩
   omega
  ·rw [k0 e];decide
 ·by_cases z:x.dorm.prob=true
  ·exact z
  ·exact absurd ⟨e,by simpa using z⟩ h5
theorem QuP {k:Int} (h0:0≤k) (h1:k≤16):(YX k).length≤2:=by
 unfold YX
 rw [iN om]
 exact WC 1 _ (by show _<100;omega)
theorem QrU {m:Qv} (hg:Good m) {L:List Xe} (hL:GsA m L) (ho:∀g∈L,GtO g):∀g∈L,(Zj g).length≤800000:=fun g hgm=>by
 obtain⟨a1,_,_,a4,a5,_⟩:=hL.2 g hgm
 have s:=Qnn a4
 have hw:(YY g).length≤20:=by
  have hp:∀a b:BS,(if g.kind=2 then [a] else if g.kind=7 then [b] else []).length≤1:=fun a b=>by
   split
   ·simp
   ·split<;>simp
  have:=hp (YX g.k) (Xr g.dorm)
  have:=s.inp
  unfold YY
  simp only [Lc,La]
  omega
 refine Lt (Um (B:=36004) hw fun x hx=> ?_) Af
 unfold YY at hx
 simp only [Lb,List.mem_append] at hx
 rcases hx with rfl|rfl|rfl|hx|hx
 ·decide
 ·have:=Vh a1;omega
 ·exact QrT _
 ·split at hx
  ·rw [Lv] at hx
   subst hx
   have:=QuP s.n0 s.n16;omega
  ·split at hx
   ·rw [Lv] at hx
    subst hx
    exact Qav (ho g hgm).2.1
   ·cases hx
 ·have:=QlF (QhT hg hL (a5 x hx));omega
theorem QwW {x:X3} (ha:EvA x) (ho:EvO x):(Xj (evW x)).length≤400000:=by
 have hp:∀(w:BS) (r:RD),(Yj w r).length≤2:=fun w r=>by unfold Yj;split<;>simp
 have hm:∀(w:BS) (r:RD),w.length≤36004→(YJ r.q≠0→(Xr r).length≤36004)→∀y∈Yj w r,y.length≤36004:=fun w r h1 h2 y hy=>by
  unfold Yj at hy
  split at hy
  ·cases hy
  ·rename_i e
   simp only [Lb,Lj,or_false] at hy
   rcases hy with rfl|rfl
   ·exact h1
   ·exact h2 e
 obtain⟨a1,a2,a3,a4,a5,a6⟩:=ha
 obtain⟨o1,o2,o3,o4⟩:=ho
 have hw:(evW x).length≤10:=by
  have h1:=hp kP x.p
  have h2:=hp kFail x.fail
  have h3:=hp kRepair x.rep
  have h4:=hp kCost (rd (x.cost:Rat))
  unfold evW
  simp only [Lc,La]
  omega
 refine Lt (Um (B:=36004) hw fun y hy=> ?_) Af
 unfold evW at hy
 simp only [Lb,List.mem_append] at hy
 rcases hy with rfl|rfl|((hy|hy)|hy)|hy
 ·decide
 ·have:=Vh a1;omega
 ·exact hm kP _ Af (fun _=>Qav o2) y hy
 ·exact hm kFail _ Af (fun _=>Qav o3) y hy
 ·exact hm kRepair _ Af (fun _=>Qav o4) y hy
 ·refine hm kCost _ Af (fun hs=> ?_) y hy
  have hc:x.cost≠0:=fun e=>hs ((O2 x.cost).2 e)
  rw [QbT om]
  have:=WC 9 x.cost.natAbs (by show _<10000000000;omega)
  omega
theorem Qfq {r:RD} (h:QaN r=true):r.valid=true:=by
 unfold QaN at h
 simp only [Ba] at h
 exact h.1
theorem QlG {r:RD} (h:r.prob=true):r.valid=true:=by
 unfold RD.prob at h
 simp only [Ba] at h
 exact h.1.1
theorem QlH:QF rd0=false:=by unfold QF;rw [QwV];rfl
theorem Qc3 {r:RD} (hw:Ks r) (hv:r.valid=true):(decide (YJ r.q≠0)&&QF r)=QF r:=by
 by_cases hs:YJ r.q=0
 ·have hq:r.q=0:=by
   unfold YJ at hs
   split at hs
   ·assumption
   ·split at hs<;>cases hs
  have h1:=Qm1 hw hv
  rw [hq] at h1
  have h2:r=rd0:=by rw [←h1];decide+kernel
  rw [h2,QlH,Bool.and_false]
 ·rw [Dt hs,Bool.true_and]
theorem Qpq {c:Int} (h0:0≤c) (h1:c≤1073741824):(decide (YJ (rd (c:Rat)).q≠0)&&QF (rd (c:Rat)))=false:=by
 by_cases hc:c=0
 ·rw [De (fun h=>h ((O2 c).2 hc))];rfl
 ·have:QF (rd (c:Rat))=false:=by
   unfold QF
   rw [QbT om]
   have:=WC 9 c.natAbs (by show _<10000000000;omega)
   exact De om
  rw [this,Bool.and_false]
theorem Qb1 {α:Type} {p q:α→Bool}:∀{l:List α},(∀x∈l,p x=q x)→l.any p=l.any q
 |[],_=>rfl
 |x::l,h=>by
  rw [List.any_cons,List.any_cons,h x Lf,Qb1 fun y hy=>h y (Lm _ hy)]
theorem Qno {m:Qv} {L:List Xe} (hL:GsA m L):(L.any fun g=>decide (g.kind=7)&&QF g.dorm)=Jo L:=by
 refine Qb1 fun g hg=> ?_
 have s:=Qnn (hL.2 g hg).2.2.2.1
 by_cases h7:g.kind=7
 ·rw [Dt h7,Bool.true_and]
 ·rw [s.d0 h7,QlH,Bool.and_false]
theorem QwX {m:Qv} (ho:Jb m) (hg:Good m):Ul (U2 (Uk (Y6 (Ui m m.events.length) m.gates m.gates.length) m.pages m.pages.length) m.groups m.groups.length) m.phases m.phases.length=Jp m:=by
 unfold Ul U2 Uk Y6 Ui Jp
 simp only [Lk]
 rw [Qno hg.gt,Qb1 (p:=fun p:Yz=>p.gates.any fun g=>decide (g.kind=7)&&QF g.dorm) (q:=fun p=>Jo p.gates) fun p hp=>Qno (hg.pg p hp).2.1]
 rw [Qb1 (p:=fun x=>Uh false x 4) (q:=QbP) fun x hx=> ?_]
 obtain⟨a1,a2,a3,a4,a5,a6⟩:=hg.ev x hx
 obtain⟨o1,o2,o3,o4⟩:=ho.ev.2 x hx
 have e:Uh false x 4=((decide (YJ x.p.q≠0)&&QF x.p)||((decide (YJ x.fail.q≠0)&&QF x.fail)||((decide (YJ x.rep.q≠0)&&QF x.rep)||((decide (YJ (rd (x.cost:Rat)).q≠0)&&QF (rd (x.cost:Rat)))||false)))):=rfl
 rw [e,Qc3 o2 (QlG a2),Qc3 o3 (Qfq a3),Qc3 o4 (Qfq a4),Qpq a5 a6]
 unfold QbP
 simp [Bool.or_assoc]
theorem QrV {p:Prop} [Decidable p] {a b:BS} {n:Nat} (ha:a.length≤n) (hb:b.length≤n):(if p then a else b).length≤n:=by split<;>assumption
theorem QrW {m:Qv} (hg:Good m) {x:Yz} (hx:x∈m.pages):x.top.length≤24:=by
 obtain⟨_,a2,a3⟩:=hg.pg x hx
 rcases a3 with a3|a3
 ·obtain⟨g,hgm,e⟩:=List.mem_map.1 a3
  rw [←e];exact Vh (a2.2 g hgm).1
 ·obtain⟨g,hgm,e⟩:=List.mem_map.1 a3
  rw [←e];exact Vh (hg.ev g hgm).1
theorem QrX {m:Qv} (hg:Good m):m.gates.length≤64∧∀p∈m.pages,p.gates.length≤64:=by
 have h:=hg.gtl
 unfold gtN at h
 refine⟨by omega,fun p hp=> ?_⟩
 have:p.gates.length≤(m.pages.map fun p=>p.gates.length).sum:=by
  clear h hg
  generalize m.pages=L at*
  induction L with
  |nil=>cases hp
  |cons a L ih=>
   rw [Ld,List.sum_cons]
   rcases Lb.1 hp with rfl|hp
   ·omega
   ·have:=ih hp;omega
 omega
theorem Qv3 {m:Qv} (hg:Good m) {x:V0} (hx:x∈m.phases):x.values.length≤24:=by
 obtain⟨_,_,a3,a4⟩:=hg.ph x hx
 have h1:(x.values.map Zp.event).length≤(Ug m).length:=JL a4 fun n hn=>by
  obtain⟨v,hv,rfl⟩:=List.mem_map.1 hn
  exact(a3 v hv).1
 rw [Lw,Lw] at h1
 have:=hg.evl
 omega
theorem QuQ {m:Qv} (ho:Jb m) (hg:Good m):(XZ m).length≤10000000000:=by
 have h0:(Xj [ZR,m.name]).length≤2*(24+1)+1:=Um (B:=24) (by simp) fun x hx=>by
  simp only [Lb,Lj,or_false] at hx
  rcases hx with rfl|rfl
  ·decide
  ·exact Vh hg.nm
 have h1:(m.events.flatMap evX).length≤24*400001:=Qb0 hg.evl fun x hx=>by
  have:=QwW (hg.ev x hx) (ho.ev.2 x hx)
  unfold evX;simpa using this
 have h2:(m.houses.flatMap hsX).length≤16*100:=Qb0 hg.hsl fun x hx=>by
  have:(Xj [QP,x.name,if x.on then kOn else Ox]).length≤3*(24+1)+1:=Um (B:=24) (by simp) fun y hy=>by
   simp only [Lb,Lj,or_false] at hy
   rcases hy with rfl|rfl|rfl
   ·decide
   ·exact Vh (hg.hs x hx).1
   ·exact QrV Af Af
  unfold hsX
  rw [La,List.length_singleton];omega
 obtain⟨g1,g2⟩:=QrX hg
 have hgt:∀(ind:BS) (L:List Xe),ind.length≤2→GsA m L→(∀g∈L,GtO g)→L.length≤64→(L.flatMap (gtX ind)).length≤64*800003:=fun ind L hi hL hLo hl=>Qb0 hl fun g hgm=>by
  have:=QrU hg hL hLo g hgm
  unfold gtX
  rw [La,La,List.length_singleton];omega
 have h3:=hgt [] m.gates Af hg.gt ho.gt.2 g1
 have h4:(m.pages.flatMap pgX).length≤8*60000000:=Qb0 hg.pgl fun x hx=>by
  have a:=hgt [32,32] x.gates Af (hg.pg x hx).2.1 (ho.pg.2 x hx).2.2.2 (g2 x hx)
  have b:=Vh (hg.pg x hx).1
  have c:=QrW hg hx
  unfold pgX UN
  simp only [La,Lc,Lu]
  omega
 have h5:(m.groups.flatMap grX).length≤8*2000000:=Qb0 hg.grl fun x hx=>by
  obtain⟨b1,b2,b3,b4,b5⟩:=hg.gr x hx
  have c1:x.members.length≤24∧x.factors.length≤24:=by
   obtain⟨d1,d2,d3⟩:=b3
   split at d2<;>(split at d3<;>omega)
  have hw:(grW x).length≤52:=by unfold grW;simp only [Lc,La,Lw];omega
  have:=Um (B:=36004) hw fun y hy=>by
   unfold grW at hy
   simp only [Lb,List.mem_append] at hy
   rcases hy with rfl|rfl|rfl|hy|rfl|hy
   ·decide
   ·have:=Vh b1;omega
   ·exact QrV Af Af
   ·obtain⟨r,hr,rfl⟩:=List.mem_map.1 hy
    exact Qav ((ho.gr.2 x hx).2.2.2.2 r hr)
   ·decide
   ·obtain⟨e,he,h⟩:=List.mem_map.1 (b4 y hy)
    have:=Vh (hg.ev e he).1
    rw [h] at this;omega
  unfold grX
  rw [La,List.length_singleton];omega
 have h6:(m.phases.flatMap phX).length≤6*2000000:=Qb0 hg.phl fun x hx=>by
  obtain⟨b1,b2,b3,_⟩:=hg.ph x hx
  have c1:=Qv3 hg hx
  have a:(x.values.flatMap vlX).length≤24*72100:=Qb0 c1 fun v hv=>by
   have:(Xj [v.event,Xr v.p]).length≤2*(36004+1)+1:=Um (B:=36004) (by simp) fun y hy=>by
    simp only [Lb,Lj,or_false] at hy
    rcases hy with rfl|rfl
    ·obtain⟨e,he,h⟩:=List.mem_map.1 (b3 v hv).1
     have:=Vh (hg.ev e he).1
     rw [h] at this;omega
    ·exact Qav ((ho.ph.2 x hx).2.2.2 v hv).2
   unfold vlX
   simp only [La,Lc,Lu];omega
  have b:=Vh b1
  have c:=QlF (QhT hg hg.gt b2)
  unfold phX UN
  simp only [La,Lc,Lu]
  have:Q9.length=5:=rfl
  have:Yx.length=3:=rfl
  omega
 have h7:(Xj [Yx,m.top]).length≤2*(25+1)+1:=Um (B:=25) (by simp) fun x hx=>by
  simp only [Lb,Lj,or_false] at hx
  rcases hx with rfl|rfl
  ·decide
  ·exact QlF (QhT hg hg.gt hg.tp)
 unfold XZ
 simp only [La,Lc,Lu]
 omega
theorem QhU {m:Qv} (ho:Jb m) (h:UA m=0):MdP m:=by
 have hg:=WJ h
 have hgt:∀(L:List Xe),GsA m L→(∀g∈L,GtO g)→∀g∈L,-9223372036854775808≤g.kind∧g.kind<9223372036854775808∧(g.kind=2→0≤g.k∧g.k<100)∧g.dorm.wf 100000:=fun L hL hLo g hgm=>by
  have s:=Qnn (hL.2 g hgm).2.2.2.1
  have a1:=s.k0
  have a2:=s.k8
  have a3:=s.n0
  have a4:=s.n16
  exact⟨by omega,by omega,fun _=>⟨a3,by omega⟩,RD.wf.mono (hLo g hgm).2.1 Af⟩
 refine⟨fun x hx=> ?_,hgt _ hg.gt ho.gt.2,fun p hp=>hgt _ (hg.pg p hp).2.1 (ho.pg.2 p hp).2.2.2,fun x hx r hr=>RD.wf.mono ((ho.gr.2 x hx).2.2.2.2 r hr) Af,fun x hx=> ?_,fun x hx v hv=>RD.wf.mono ((ho.ph.2 x hx).2.2.2 v hv).2 Af,QuQ ho hg⟩
 ·obtain⟨_,_,_,_,a5,a6⟩:=hg.ev x hx
  obtain⟨_,o2,o3,o4⟩:=ho.ev.2 x hx
  exact⟨RD.wf.mono o2 Af,RD.wf.mono o3 Af,RD.wf.mono o4 Af,by omega,by omega⟩
 ·rcases(hg.gr x hx).2.1 with e|e
  ·exact⟨0,by omega,e⟩
  ·exact⟨1,by omega,e⟩
theorem Od {α:Type} (l:List α) (d:α) {q:Nat} (h:q<l.length):l.getD q d∈l:=by
 rw [Lg,Li h];exact Le _
theorem QwY (x:Vx):hsX x=QP++32::(x.name++32::((if x.on then kOn else Ox)++[59,10])):=by
 unfold hsX Xj Uc
 simp
theorem QwZ (x:Yz):pgX x=XT++32::(x.name++32::(Yx++32::(x.top++32::123::10::(x.gates.flatMap (gtX [32,32])++[125,10])))):=by
 unfold pgX UN
 simp
def grH (x:YB):BS:=Xf++32::(x.name++32::(if x.kind=1 then Yh else ZF))
theorem Qw0 (x:YB):grX x=grH x++(x.factors.flatMap (fun r=>32::Xr r)++(32::58::(Ux x.members++[59,10]))):=by
 have e:∀l:List RD,(l.map Xr).flatMap (fun y:BS=>32::y)=l.flatMap (fun r=>32::Xr r):=fun l=>List.flatMap_map ..
 unfold grX Xj grW Uc grH
 simp only [List.flatMap_cons,List.flatMap_append,e]
 simp [Ux]
theorem Qw1 (v:Zp):vlX v=32::32::(v.event++32::(Xr v.p++[59,10])):=by
 unfold vlX Xj Uc
 simp
theorem Qw2 (x:V0):phX x=(Q9++32::(x.name++32::(Yx++32::(x.top++[32,123,10]))))++(x.values.flatMap vlX++[125,10]):=by
 unfold phX UN
 simp
def T0 (m:Qv):BS:=ZR++32::(m.name++[59,10])
def TE (m:Qv):BS:=Yx++32::(m.top++[59,10])
theorem Qj7 (m:Qv):XZ m=((((((T0 m++m.events.flatMap evX)++m.houses.flatMap hsX)++m.gates.flatMap (gtX []))++m.pages.flatMap pgX)++m.groups.flatMap grX)++m.phases.flatMap phX)++TE m:=by
 unfold XZ Xj Uc T0 TE
 simp
theorem QrY {m:Qv}:∀k,0≤Y5 m k
 |0=>Int.le_refl _
 |k+1=>by
  have:=QrY (m:=m) k
  unfold Y5
  omega
theorem QlI {m:Qv} {k i:Nat} (hi:i<(Qt m k).length):(YL m k)[i]?=some (2,(k:Int)-1,(i:Int)):=by
 unfold YL
 rw [List.getElem?_map,List.getElem?_range hi];rfl
theorem Qaw {m:Qv} {k:Nat}:(YL m k).length=(Qt m k).length:=by unfold YL;rw [Lw,List.length_range]
theorem Qfr {m:Qv}:∀n k,((Vs m k n).length:Int)=Y5 m (k+n)-Y5 m k
 |0,k=>by
  show(0:Int)=Y5 m k-Y5 m k
  omega
 |n+1,k=>by
  show((YL m k++Vs m (k+1) n).length:Int)=_
  have h:=Qfr (m:=m) n (k+1)
  have e:Y5 m (k+1)=Y5 m k+(Qt m k).length:=rfl
  rw [La,Qaw,show k+(n+1)=k+1+n from by omega]
  omega
theorem Qfs {m:Qv}:∀(n k0 k i x:Nat),k0≤k→k<k0+n→i<(Qt m k).length→(x:Int)=Y5 m k-Y5 m k0+i→(Vs m k0 n)[x]?=some (2,(k:Int)-1,(i:Int))
 |0,k0,k,i,x,h1,h2,_,_=>by omega
 |n+1,k0,k,i,x,h1,h2,h3,h4=>by
  show(YL m k0++Vs m (k0+1) n)[x]?=_
  have e:Y5 m (k0+1)=Y5 m k0+(Qt m k0).length:=rfl
  by_cases hk:k=k0
  ·subst hk
   have hx:x=i:=by omega
   subst hx
   have hl:x<(YL m k).length:=by rw [Qaw];exact h3
   rw [List.getElem?_append_left hl,QlI h3]
  ·have hm:∀d:Nat,Y5 m (k0+1)≤Y5 m (k0+1+d):=fun d=>by
    induction d with
    |zero=>exact Int.le_refl _
    |succ d ih=>
     have:Y5 m (k0+1+(d+1))=Y5 m (k0+1+d)+(Qt m (k0+1+d)).length:=rfl
     omega
   have hm2:=hm (k-(k0+1))
   rw [show k0+1+(k-(k0+1))=k from by omega] at hm2
   have hl:(YL m k0).length≤x:=by rw [Qaw];omega
   rw [List.getElem?_append_right hl]
   exact Qfs n (k0+1) k i _ om om h3 (by rw [Qaw];omega)
theorem Qft {m:Qv} {k i x:Nat} (hk:k≤m.pages.length) (hi:i<(Qt m k).length) (hx:(x:Int)=Y5 m k+i):(Q5 m)[x]?=some (2,(k:Int)-1,(i:Int)):=
 Qfs _ 0 k i x (Lz _) om hi (by show(x:Int)=Y5 m k-0+i;omega)
theorem Qfu {m:Qv}:((Q5 m).length:Int)=Y5 m (m.pages.length+1):=by
 have h:=Qfr (m:=m) (m.pages.length+1) 0
 have e:Y5 m 0=0:=rfl
 rw [Nz,e] at h
 unfold Q5
 omega
def Qpr (m:Qv) (t:Th):Nat:= @List.idxOf Th instBEqOfDecidableEq t (Q5 m)
theorem Qps {m:Qv} {k i:Nat} (hk:k≤m.pages.length) (hi:i<(Qt m k).length):((Qpr m ((2:Int),(k:Int)-1,(i:Int)):Nat):Int)=Y5 m k+i:=by
 have h0:=QrY (m:=m) k
 obtain⟨x,hx⟩:∃x:Nat,(x:Int)=Y5 m k+i:=⟨(Y5 m k+i).toNat,by omega⟩
 have hg:=Qft hk hi hx
 obtain⟨hl,he⟩:=List.getElem?_eq_some_iff.1 hg
 have hn:(Q5 m).Nodup:=Oa m _ _
 unfold Qpr
 rw [←he, @List.Nodup.idxOf_getElem Th instBEqOfDecidableEq inferInstance _ hn x hl,hx]
def Qj8 (m:Qv) (k:Nat) (l:List BS):List Nat:=((l.map (KG m k)).filter fun y=> !Zr y).map (Qpr m)
def ZL (m:Qv):List (List Nat):=(Q5 m).map fun t=>((Z2 m t).filter fun y=> !Zr y).map (Qpr m)
theorem Qpt (m:Qv) (k:Nat) (l:List BS) (n:BS):Qj8 m k (l++[n])=if Zr (KG m k n)=true then Qj8 m k l else Qj8 m k l++[Qpr m (KG m k n)]:=by
 unfold Qj8
 rw [List.map_append,List.filter_append,List.map_append]
 show _++List.map _ (List.filter _ [KG m k n])=_
 cases h:Zr (KG m k n) with
 |true=>rw [List.filter_cons,h];simp
 |false=>rw [List.filter_cons,h];simp
theorem QgM (m:Qv):(ZL m).length=(Q5 m).length:=by unfold ZL;rw [Lw]
theorem Qpu {m:Qv} {k i x:Nat} (hk:k≤m.pages.length) (hi:i<(Qt m k).length) (hx:(x:Int)=Y5 m k+i):(ZL m).take (x+1)=(ZL m).take x++[Qj8 m k ((Qt m k).getD i gt0).inputs]:=by
 have hg:=Qft hk hi hx
 have hu:(ZL m)[x]?=some (Qj8 m k ((Qt m k).getD i gt0).inputs):=by
  unfold ZL
  rw [List.getElem?_map,hg]
  show some (List.map _ (List.filter _ (Z2 m _)))=_
  unfold Z2 QbX Qj8
  dsimp only
  rw [show((k:Int)-1+1).toNat=k from by omega,Int.toNat_natCast]
 rw [List.take_add_one,hu];rfl
theorem Qj9 {m:Qv} {k:Nat} {n:BS} (h:Zr (W9 m k n)=true∨W9 m k n∈Q5 m):QdB m k n=W9 m k n:=by
 unfold QdB W9
 unfold W9 at h
 by_cases h1:VH m n≥0
 ·rw [iP h1,iP h1]
 ·rw [iN h1] at h⊢
  rw [iN h1]
  by_cases h2:hsI m n≥0
  ·rw [iP h2,iP h2]
  ·rw [iN h2] at h⊢
   rw [iN h2]
   by_cases h3:Oy (Qt m k) n≥0
   ·rw [iP h3]
   ·exfalso
    rcases h with h|h
    ·cases h
    ·obtain⟨j,i,_,_,e⟩:=Y4.1 h
     simp only [Ab] at e
     omega
theorem QrZ {m:Qv} {k:Nat} {n:BS} (h:QwR m k n):Qlu m k n=KG m k n:=by
 obtain⟨h0,h1,h2⟩:=h
 unfold Qlu
 unfold KG QcT WG at h2⊢
 by_cases h64:XF n 0=64
 ·have hp:=h1 h64
  rw [iP h64,iP h64] at h2⊢
  rw [iP ⟨h0,h64⟩,iN om]
  exact Qj9 h2
 ·rw [iN h64,iN h64] at h2⊢
  rw [iN fun z=>h64 z.2]
  exact Qj9 h2
theorem Qnp {s:BS} (h:QB s=true):¬(0<s.length∧XF s 0=64):=fun z=>by
 unfold QB at h
 simp only [Ba,Dq] at h
 have:=h.1.2
 rw [z.2] at this
 exact absurd this Af
theorem Qw3 {m:Qv} (h:MdC m) (q:Nat) (hq:q<m.pages.length):¬(0<(m.pages.getD q pg0).top.length∧XF (m.pages.getD q pg0).top 0=64):=by
 generalize ht:(m.pages.getD q pg0).top=t
 have h1:=h.tp q hq
 rw [ht] at h1
 rcases h1 with h1|h1
 ·obtain⟨i,_,h5,h6⟩:=K5 gt0 h1
  have h7:=h.gt (q+1) om i h5
  have e:((m.pages.getD q pg0).gates.getD i gt0).name=t:=by simpa using h6
  unfold gtC at h7
  split at h7
  ·cases h7
  ·rename_i h8
   have:=Qnp (s:=((Qt m (q+1)).getD i gt0).name) (by simpa using h8)
   rw [show((Qt m (q+1)).getD i gt0).name=t from e] at this
   exact this
 ·obtain⟨i,_,h5,h6⟩:=K5 ev0 h1
  have:=Qnp (h.ev i h5)
  rw [show(m.events.getD i ev0).name=t from by simpa using h6] at this
  exact this
theorem Qr0 {m:Qv} (h:MdC m):QaF m= !((QdA (ZL m) (Q5 m).length (Q5 m).length (List.replicate (Q5 m).length false)).all id):=
 QwQ (Oa m _ _) Ue (KH (QcU h)) rfl
end Go.PN
namespace Go.Proofs.YtngjgahldnnapaaGreatDoor
open Go.AI Go.PN Proofs.Tryz
theorem Qw4 (x:X3) (hp:x.p.wf 100000) (hf:x.fail.wf 100000) (hr:x.rep.wf 100000) (hc1: -9223372036854775808≤x.cost) (hc2:x.cost<9223372036854775808) (j:Nat) (hj:j<4):((evP x).getD j vl0).p.wf 100000:=by
 match j,hj with
 |0,_=>exact hp
 |1,_=>exact hf
 |2,_=>exact hr
 |3,_=>
  refine Zu (L:=2) (UI ⟨?_,by simp⟩) om
  rw [show((x.cost:Int):Rat).num=x.cost from by simp]
  show _<18446744073709551616
  omega
attribute [local irreducible] aw Fa ZN ZZ Fh YE
theorem Qpv (lo:Bool) (gB:Nat) (a b:CV) (x:X3) (hp:x.p.wf 100000) (hf:x.fail.wf 100000) (hr:x.rep.wf 100000) (hc1: -9223372036854775808≤x.cost) (hc2:x.cost<9223372036854775808) (hl:(evW x).length+VB (evW x) (evW x).length≤10000000000):
  Fh prog 56 [Yv 127 [.bool lo] gB a b] [.c (.optr gB 0),.agg (evc x)]
   (fun r h=>r=.c (.str (sB (Xj (evW x))))∧h=[Yv 127 [.bool (Uh lo x 4)] gB a b]):=by
 refine fH func56 fun C hC=>?_
 refine xG ?_
 refine xB fun g3 n_3=>?_
 refine zA n_3 ?_
 refine Qn (xs:=[.const (.string (sB Xn)),.tmp 9]) (cells:=[.str (sB Xn),.str (sB x.name)]) rfl rfl rfl (zE n_3) (by refine yS n_3 ?_;rfl) rfl om om (by intro z hz;simp only [Lb,Lj,or_false] at hz;rcases hz with rfl|rfl<;>exact⟨rfl,rfl,rfl⟩) rfl fun g10 n_10=> ?_
 replace n_10:=Qa.ne_of n_10
 dsimp only [Qa.ne] at n_10
 have J1:=oj n_3 n_10
 refine Xp J1 ?_
 refine Yf [(g3,.cells 89 11 (ofL (evc x)))] [(0,0),(1,0),(2,0),(3,0),(4,0),(5,0),(6,0),(7,0),(8,0),(9,0),(10,0),(11,0),(12,0),(15,0),(13,1),(14,0)] Qg kR qa ?_
 refine yG J1 ?_
 refine Yg rfl (QeC x.cost hc1 om) rfl rfl rfl (fun _ _=>(zL J1)) ?_
 refine Xp J1 ?_
 refine Qs (xs:=[.tmp 13,.tmp 16,.tmp 19,.tmp 23]) (cells:=(evP x).flatMap vlc) rfl rfl rfl rfl (zE J1) (by refine yS J1 ?_;rfl) rfl om om (by intro z hz;simp only [Lb,Lj,or_false] at hz;rcases hz with rfl|rfl|rfl|rfl<;>exact⟨rfl,rfl,rfl⟩) rfl (by intro z hz;simp only [Lb,Lj,or_false] at hz;rcases hz with rfl|rfl|rfl|rfl<;>simp [Op.operands]) qa (fun g24 n_24=> ?_) (.inr ⟨rfl,rfl⟩)
 replace n_24:=Qa.ne_of n_24
 dsimp only [Qa.ne] at n_24
 have J2:=oj n_3 (oj n_10 n_24)
 refine Xp J2 ?_
 refine QU (f':=V6 (evP x)) (fun j hj=>QyF x j hj) ?_
 refine QjT (f':=Qe (K8 x 0)) (fun j hj=>by match j,hj with|0,_=>rw [Xb];rfl|1,_=>rw [Xb];rfl) ?_
 refine Qh (fun z:Nat×Nat=>[(0,.c (.optr gB 0)),(5,.c (.osl z.2 1 0 (K8 x z.1).length)),(24,.c (.osl g24 4 0 4)),(25,.c (.int .i64 4)),(26,.c (.int .i64 z.1))]) (fun z=>[(g24,.cells 183 16 (V6 (evP x))),(z.2,.cells 9 (K8 x z.1).length (Qe (K8 x z.1))),Yv 127 [.bool (Uh lo x z.1)] gB a b]) (fun z=>z.1≤4) (fun z=>4-z.1) (0,g10) (zB J2) (by dsimp only;exact .cons_cons _ (.cons_cons _ (.cons _ (by unfold Uh;simp)))) (Lz _) ?_
 rintro ⟨j,g⟩ hj
 dsimp only at hj⊢
 refine Y9 fun hnd=> ?_
 by_cases hj4:j<4
 ·have d1:decide (j<4)=true:=Dt hj4
  have hv5:((evP x).getD j vl0).p.wf 100000:=Qw4 x hp hf hr hc1 hc2 j hj4
  have hv:((evP x).getD j vl0).p.wf 1073741824:=Zu hv5 om
  have fs:=Qi1 _ hv
  simp only [Qa.keys,Ld,List.map_nil,List.nodup_cons,Lb,Lj,or_false,not_or] at hnd
  obtain⟨⟨a1,a2⟩,a3,_⟩:=hnd
  have b1:=eq_false a1
  have b2:=eq_false a2
  have b3:=eq_false a3
  have b4:=eq_false (Ne.symm a1)
  have b5:=eq_false (Ne.symm a2)
  have b6:=eq_false (Ne.symm a3)
  refine Zo (oj n_3 (oj n_10 (oj n_24 (oj d1 (oj b1 (oj b2 (oj b3 (oj b4 (oj b5 b6))))))))) fs ?_
  refine yA (oj n_3 (oj n_10 (oj n_24 (oj d1 (oj b1 (oj b2 (oj b3 (oj b4 (oj b5 b6))))))))) fun g7 n_7=>?_
  all_goals try(have Z:=(oj n_3 (oj n_10 (oj n_24 (oj d1 (oj b1 (oj b2 (oj b3 (oj b4 (oj b5 (oj b6 n_7))))))))));(repeat' first|refine zV Z ?_|refine yQ Z fs ?_|refine zH Z ?_ ?_<;>intro hb|fail);all_goals clear Z)
  ·have eW:K8 x (j+1)=K8 x j++[((evP x).getD j vl0).event,Xr ((evP x).getD j vl0).p]:=by rw [Qc0 x j hj4];unfold Yj;rw [iN hb]
   have eL:Uh lo x (j+1)=(Uh lo x j||QF ((evP x).getD j vl0).p):=by rw [QgL lo x j hj4,Dt hb];rfl
   have hwl:=QjY x j hj
   have hnp:=Oc (Uh lo x j) gB a b ((evP x).getD j vl0).p hv5
   generalize (evP x).getD j vl0=v at*
   refine Yf [(g7,.cells 183 4 (ofL (vlc v)))] [(0,0),(1,0),(2,0),(3,0),(4,0),(5,0),(6,1),(7,1),(8,1),(9,0)] Qg kR qa ?_
   have J3:=oj n_3 (oj n_10 (oj n_24 (oj d1 (oj b1 (oj b2 (oj b3 (oj b4 (oj b5 (oj b6 n_7)))))))))
   refine yG J3 ?_
   refine Kc (hc:=[Yv 127 [.bool (Uh lo x j)] gB a b]) (hr:=[(g7,.cells 183 4 (ofL (vlc v))),(g24,.cells 183 16 (V6 (evP x))),(g,.cells 9 (K8 x j).length (Qe (K8 x j)))]) rfl hnp rfl rfl rfl (List.perm_append_comm (l₁:=[_,_,_]) (l₂:=[_])) (zL J3) (fun _ _ hq=>by obtain⟨_,rfl⟩:=hq;exact Qm (by simp) Qf) ?_ (hm:=.inr ⟨rfl,rfl⟩)
   rintro _ _ ⟨rfl,rfl⟩ _
   refine Xp J3 ?_
   refine Qs (xs:=[.tmp 36,.tmp 40]) (cells:=[.str (sB v.event),.str (sB (Xr v.p))]) rfl rfl rfl rfl (zE J3) (by refine yS J3 ?_;rfl) rfl om om (by intro z hz;simp only [Lb,Lj,or_false] at hz;rcases hz with rfl|rfl<;>exact⟨rfl,rfl,rfl⟩) rfl (by intro z hz;simp only [Lb,Lj,or_false] at hz;rcases hz with rfl|rfl<;>simp [Op.operands]) qa (fun g41 n_41=> ?_) (.inr ⟨rfl,rfl⟩)
   replace n_41:=Qa.ne_of n_41
   dsimp only [Qa.ne] at n_41
   have J4:=oj n_3 (oj n_10 (oj n_24 (oj d1 (oj b1 (oj b2 (oj b3 (oj b4 (oj b5 (oj b6 (oj n_7 n_41))))))))))
   refine Xp J4 ?_
   refine KK (size:=1) (n:=(K8 x j).length) (k:=2) (m:=(K8 x j).length) (g:=g) (f:=Qe (K8 x j)) (f2:=Qe [v.event,Xr v.p]) (cx:=.osl g41 1 0 2) (h2:=[(g41,.cells 9 2 (ofL [.str (sB v.event),.str (sB (Xr v.p))])),Yv 127 [.bool (Uh lo x j||QF v.p)] gB a b,(g7,.cells 183 4 (ofL (vlc v))),(g24,.cells 183 16 (V6 (evP x)))]) rfl rfl rfl rfl (by exact XL) (by exact Zb) rfl om (zE J4) (zE J4) om (zE J4)
    (.osl (m:=2) (ty:=9) (f':=ofL [.str (sB v.event),.str (sB (Xr v.p))]) (zE J4) om (fun q hq=>by match q,hq with|0,_=>rw [Xb];rfl|1,_=>rw [Xb];rfl)) (fun q _=>Yb _ q) om qc om (zE J4) qa (fun g42 n_42=> ?_) (.inr ⟨rfl,rfl⟩)
   refine Xp J4 ?_
   refine QM (h':=[(g42,.cells 9 ((K8 x j).length+2) (Xq (Qe (K8 x j)) (K8 x j).length (Qe [v.event,Xr v.p]))),Yv 127 [.bool (Uh lo x j||QF v.p)] gB a b,(g24,.cells 183 16 (V6 (evP x)))]) (Sl.le_refl _) (.cons_cons _ (.cons _ (.cons_cons _ (.cons _ (.cons_cons _ .slnil))))) ?_
   refine QU (f':=Qe (K8 x (j+1))) (fun q hq=>by rw [eW];have:=K7 (K8 x j) [v.event,Xr v.p] q (by simpa using hq);simpa using this) ?_
   rw [show(K8 x j).length+2=(K8 x (j+1)).length from by rw [eW];simp]
   refine Qi (List.perm_append_comm (l₁:=[_,_]) (l₂:=[_])) ?_
   exact Qb ⟨(j+1,g42),by dsimp only;omega,(zB J4),by dsimp only;rw [eL];exact Lr _,by dsimp only;omega⟩
  ·have eW:K8 x (j+1)=K8 x j:=by rw [Qc0 x j hj4];unfold Yj;rw [iP hb,Lp]
   have eL:Uh lo x (j+1)=Uh lo x j:=by rw [QgL lo x j hj4,De (fun e=>e hb)];simp
   refine Qb ⟨(j+1,g),by dsimp only;omega,?_,?_,by dsimp only;omega⟩
   ·dsimp only;rw [eW];exact(zB (oj n_3 (oj n_10 (oj n_24 (oj d1 (oj b1 (oj b2 (oj b3 (oj b4 (oj b5 (oj b6 n_7)))))))))))
   ·dsimp only;rw [eW,eL];exact Ls _ _
 ·have d1:decide (j<4)=false:=De hj4
  have e4:j=4:=by omega
  subst e4
  rw [QrI]
  have fL:=KT false (evW x) hl
  refine zA (oj n_3 (oj n_10 (oj n_24 d1))) ?_
  refine Qi (h':=[(g24,.cells 183 16 (V6 (evP x))),Yv 127 [.bool (Uh lo x 4)] gB a b]++gh (some g) 9 (evW x).length (Qe (evW x))) (List.Perm.cons _ (List.Perm.swap _ _ _)) ?_
  refine Y9 fun hnd2=> ?_
  refine Qu fL rfl rfl rfl (by refine yS (oj n_3 (oj n_10 (oj n_24 d1))) ?_;exact .c (Qa5 (og:=some g) (pre:=[(g24,.cells 183 16 (V6 (evP x))),Yv 127 [.bool (Uh lo x 4)] gB a b]) (fun e=>by cases e) hnd2)) ?_
  have J5:=oj n_3 (oj n_10 (oj n_24 d1))
  refine Xp J5 ?_
  refine QM (h':=[Yv 127 [.bool (Uh lo x 4)] gB a b]) (Sl.le_refl _) (.cons _ (.cons_cons _ (.cons _ .slnil))) ?_
  refine yU J5 ?_
  exact⟨rfl,rfl⟩
end Go.Proofs.YtngjgahldnnapaaGreatDoor
namespace Go.Proofs.YtngjgahldnnapaaGreatDoor
open Go.AI Go.PN Proofs.Tryz
attribute [local irreducible] aw Fa ZN ZZ Fh YE
theorem Qfv:QbC prog 244=some (247,3):=by kernel_rfl
theorem Qc4:Qeo prog 247=some 3:=by kernel_rfl
theorem QuR:tZ1 prog 3=some (.int .i64 0):=by kernel_rfl
abbrev fvN (f:FuncId):AV:=.c (.raw (.func (.func f) #[] #[]))
theorem QuS (m:Qv) (hc:QwU m) (fE:FuncId) (hE:∀t:Th,Fa prog fE [thA t] (.tup [])) (g:Nat):∀(n:Nat) (st:List (Th×Int)) (stk fin:List Th) (t:Th),DInv Zr (Z2 m) (Q5 m) st stk fin→(Q5 m).length<n+st.length→(Zr t=true∨t∈Q5 m)→(∀h,stk.head?=some h→t∈Z2 m h)→
  Fg prog 196 g (.gen (Uu Uz (kvT st))) [.agg (Xa true m),thA t,.c (.raw (.map (some g))),fvN fE] (.c (.bool (Zk m n st t).1)) (.gen (Uu Uz (kvT (Zk m n st t).2))):=by
 intro n
 induction n with
 |zero=>
  intro st stk fin t hi hn _ _
  have:=JL hi.nd hi.sub
  rw [Lw] at this
  omega
 |succ n ih=>
  intro st stk fin t hi hn ht hh
  have hE':=hE t
  unfold Fg
  by_cases hl:Zr t=true
  ·have ht2:t.1≠2:=by unfold Zr at hl;simpa using hl
   have hr:Zk m (n+1) st t=(false,st):=by
    unfold Zk Jr
    rw [iP hl]
   rw [hr]
   refine fH func196 fun C hC=>?_
   refine zA o0 ?_
   refine xB fun g4 n_4=>?_
   refine zA n_4 ?_
   refine yB n_4 fun g5 n_5=>?_
   all_goals try(have Z:=(oj n_4 n_5);(repeat' first|refine zV Z ?_|refine zH Z ?_ ?_<;>intro hb|fail);all_goals clear Z)
   ·refine QcH hE' rfl rfl rfl (zE (oj n_4 n_5)) (zL (oj n_4 n_5)) ?_
    refine yS (oj n_4 n_5) ?_
    refine zA (oj n_4 n_5) ?_
    refine QW (h':=[(g,.gen (Uu Uz (kvT st)))]) rfl sL fun R r=>?_;simp only[go_sem,n_4,n_5];refine r _ rfl ?_;clear r R
    exact⟨rfl,rfl⟩
   ·exfalso;exact ht2 hb
  have htn:t∈Q5 m:=ht.resolve_left hl
  have hsuc:∀x∈Z2 m t,Zr x=true∨x∈Q5 m:=KH hc.ins t htn
  have hw:=Qas Ue (KH hc.ins) (n+1) st stk fin t hi hn ht hh
  obtain⟨k,i,hk,hil,he⟩:=Y4.1 htn
  have hgt:(Qt m k).getD i gt0=QbX m t:=by
   rw [he]
   unfold QbX
   dsimp only
   rw [show((k:Int)-1+1).toNat=k from by omega,Int.toNat_natCast]
  have hkk:(t.2.1+1).toNat=k:=by rw [he];dsimp only;omega
  have hthA:thA t=.agg [.int .i64 2,.int .i64 ((k:Int)-1),.int .i64 (i:Int)]:=by rw [he]
  have hstep:Zk m (n+1) st t=(if Zq t st=1 then(true,st) else if Zq t st=2 then(false,st) else
   if(goD (Zk m n) (Z2 m t) (st++[(t,1)])).1=true then goD (Zk m n) (Z2 m t) (st++[(t,1)]) else(false,WF t 2 (goD (Zk m n) (Z2 m t) (st++[(t,1)])).2)):=by
   show Jr Zr (Z2 m) (n+1) st t=_
   unfold Jr
   rw [iN hl]
   rfl
  rw [hstep]
  have hRe:∀{S:Bool→Nat→Prop} {w:World} {v:Value},VK S w (.agg [.int .i64 2,.int .i64 ((k:Int)-1),.int .i64 (i:Int)]) v→v=Uz t:=fun h=>QuH (by rw [hthA];exact h)
  have hsl:Z2 m t=(QbX m t).inputs.map (KG m k):=by unfold Z2;rw [hkk]
  have hin:=hc.ins k hk i hil
  have hlen:=hc.len k i
  have hw2:=hc.w2
  have hil2:(QbX m t).inputs.length≤1099511627776:=by rw [←hgt];exact(hw2.gt k i).2.2
  have hgk:=K2 hw2 k
  rw [hthA] at hE'
  rw [hthA]
  refine fH func196 fun C hC=>?_
  refine zA o0 ?_
  refine xB fun g4 n_4=>?_
  refine zA n_4 ?_
  refine yB n_4 fun g5 n_5=>?_
  refine zA (oj n_4 n_5) ?_
  refine QoB (a:=t) (kv:=kvT st) (Kf:=Uz) (z:=.int .i64 0) rfl rfl rfl Qfv (QhR Qc4) QuR (zE (oj n_4 n_5)) (zE (oj n_4 n_5)) (zE (oj n_4 n_5)) (fun _ _ _ h=>hRe h) ?_
  rw [Qnk]
  dsimp only [U7]
  refine yS (oj n_4 n_5) ?_
  all_goals try(have Z:=(oj n_4 n_5);(repeat' first|refine zV Z ?_|refine zH Z ?_ ?_<;>intro hb|fail);all_goals clear Z)
  ·refine QW (h':=[(g,.gen (Uu Uz (kvT st)))]) rfl sL fun R r=>?_;simp only[go_sem,n_4,n_5];refine r _ rfl ?_;clear r R
   rw [iP hb]
   exact⟨rfl,rfl⟩
  ·rename_i h1
   refine QW (h':=[(g,.gen (Uu Uz (kvT st)))]) rfl sL fun R r=>?_;simp only[go_sem,n_4,n_5];refine r _ rfl ?_;clear r R
   rw [iN h1,iP hb]
   exact⟨rfl,rfl⟩
  rename_i h1
  have h2:=hb
  rw [iN h1,iN h2]
  have htk:t∉st.map (·.1):=fun h=>((hi.key t).1 h).elim (fun z=>h1 ((hi.gray t).2 z)) fun z=>h2 ((hi.black t).2 z)
  refine JI (a:=t) (kv:=kvT st) (Kf:=Uz) (v:=.int .i64 1) rfl rfl rfl Qfv (QhR Qc4) (zE (oj n_4 n_5)) (zE (oj n_4 n_5)) (zE (oj n_4 n_5)) (fun _ _ _ h=>hRe h) (cv:=.c (.int .i64 1)) (zE (oj n_4 n_5)) (fun _ _ _ h=>h) (QjZ htk) (zE (oj n_4 n_5)) ?_
  rw [QuG]
  have J1:=oj n_4 n_5
  refine yS J1 ?_
  refine zA J1 ?_
  refine QcH hE' rfl rfl rfl (zE J1) (zL J1) ?_
  refine yS J1 ?_
  refine zA J1 ?_
  have f4:=VS m k hk hc.ok.pg
  refine Xv 11 Qg kR ?_
  refine Zo J1 f4 ?_
  rw [hgt]
  have htF:t∉fin:=fun z=>h2 ((hi.black t).2 z)
  have hi0:=hi.push hl htn htk htF hh
  have hlen0:(st++[(t,1)]).length=st.length+1:=by rw [La];rfl
  generalize hR:goD (Zk m n) (Z2 m t) (st++[(t,1)])=R
  rw [hgt] at hin hlen
  generalize hG:QbX m t=G at*
  clear hw hstep hgt h1 h2 htk hE' J1
  refine Qh (fun x:Nat×List (Th×Int)×List Th=>[(2,.c (.raw (.map (some g)))),(3,fvN fE),(4,.c (.optr g4 0)),(5,.c (.optr g5 0)),(37,.c (X0 true G.inputs)),(38,.c (.int .i64 G.inputs.length)),(39,.c (.int .i64 x.1))]) (fun x=>[(g5,.cells 247 3 (ofL [.int .i64 2,.int .i64 ((k:Int)-1),.int .i64 (i:Int)])),(g4,.cells 29 8 (ofL (Xa true m))),(g,.gen (Uu Uz (kvT x.2.1)))]) (fun x=>x.1≤G.inputs.length∧goD (Zk m n) ((Z2 m t).drop x.1) x.2.1=R∧DInv Zr (Z2 m) (Q5 m) x.2.1 (t::stk) x.2.2∧st.length+1≤x.2.1.length) (fun x=>G.inputs.length-x.1) (0,st++[(t,1)],fin) (zB (oj n_4 n_5)) zZ ⟨Lz _,hR,hi0,by rw [hlen0];exact Ac _⟩ ?_
  rintro ⟨j,st1,fin1⟩ ⟨hj,hgo,hi1,hl1⟩
  dsimp only at hj hgo hi1 hl1⊢
  all_goals try(have Z:=(oj n_4 n_5);(repeat' first|refine zV Z ?_|refine zH Z ?_ ?_<;>intro hb|fail);all_goals clear Z)
  ·have hj':=hb
   have hmem:G.inputs.getD j []∈G.inputs:=by
    rw [Lg,Li hj'];exact Le hj'
   obtain⟨n1,n2,n3⟩:=hin _ hmem
   have hnl:=hlen j
   have hx:(Z2 m t).drop j=KG m k (G.inputs.getD j [])::(Z2 m t).drop (j+1):=by
    rw [hsl,List.drop_eq_getElem_cons (by rw [Lw];exact hj'),List.getElem_map,Lg,Li hj'];rfl
   rw [hx] at hgo
   have hxs:KG m k (G.inputs.getD j [])∈Z2 m t:=by rw [hsl];exact List.mem_map_of_mem hmem
   generalize hN:G.inputs.getD j []=N at*
   have f5:=QlB m k N hk hc.ok hw2 n1 hnl n2
   generalize KG m k N=X at*
   have f6:=ih st1 (t::stk) fin1 X hi1 om n3 (fun h e=>by simp at e;subst e;exact hxs)
   have ho:=Qas Ue (KH hc.ins) n st1 (t::stk) fin1 X hi1 om n3 (fun h e=>by simp at e;subst e;exact hxs)
   change Qrv Zr (Z2 m) (Q5 m) st1 (t::stk) fin1 (Zk m n st1 X) _ at ho
   have hgo2:(if(Zk m n st1 X).1=true then Zk m n st1 X else goD (Zk m n) ((Z2 m t).drop (j+1)) (Zk m n st1 X).2)=R:=hgo
   clear hgo
   generalize hr:Zk m n st1 X=r at*
   refine Yf ([(g4,.cells 29 8 (ofL (Xa true m))),(g5,.cells 247 3 (ofL [.int .i64 2,.int .i64 ((k:Int)-1),.int .i64 (i:Int)]))]) [(0,0),(1,0),(2,0),(3,0),(4,0),(5,0),(6,0),(7,0),(8,1)] Qg kR eI ?_
   have J2:=oj n_4 n_5
   refine yG J2 ?_
   refine Yg rfl f5 rfl rfl rfl (fun _ _=>(zL J2)) ?_
   refine Xp J2 ?_
   refine OY rfl f6 rfl rfl rfl (zE J2) (zL J2) (by refine yS J2 ?_;exact Qm (Lm _ (Lf ..)) (Qm (Lf ..) Qf)) ?_
   refine Xp J2 ?_
   all_goals repeat' first|refine zV J2 ?_|refine zH J2 ?_ ?_<;>intro hb|fail
   ·refine QW (h':=[(g,.gen (Uu Uz (kvT r.2)))]) rfl sL fun R r=>?_;simp only[go_sem,n_4,n_5];refine r _ rfl ?_;clear r R
    rw [iP hb] at hgo2
    rw [←hgo2,iP hb]
    exact⟨by rw [hb],rfl⟩
   ·have hrf:r.1=false:=hb
    rw [iN (by rw [hrf];decide)] at hgo2
    obtain⟨fin2,q1,_,q3,_⟩:=ho.2 hrf
    refine Qb ⟨(j+1,r.2,fin2),?_⟩
    and_intros
    all_goals first|rfl|exact Lr _|exact True.intro|exact hgo2|exact q1|(dsimp only;omega)
  ·have hge:(Z2 m t).drop j=[]:=List.drop_of_length_le (by rw [hsl,Lw];omega)
   rw [hge] at hgo
   have hgo2:(false,st1)=R:=hgo
   subst hgo2
   have htk1:t∈st1.map (·.1):=(hi1.key t).2 (.inl Lf)
   refine Qpc (a:=t) (kv:=kvT st1) (Kf:=Uz) (v:=.int .i64 2) rfl rfl rfl Qfv (QhR Qc4) (Qpd t) (zE (oj n_4 n_5)) (zE (oj n_4 n_5)) (zE (oj n_4 n_5)) (fun _ _ _ h=>hRe h) (cv:=.c (.int .i64 2)) (zE (oj n_4 n_5)) (fun _ _ _ h=>h) (Qj0 htk1) (zE (oj n_4 n_5)) ?_
   rw [Qnl]
   refine yS (oj n_4 n_5) ?_
   refine zA (oj n_4 n_5) ?_
   refine QW (h':=[(g,.gen (Uu Uz (kvT (WF t 2 st1))))]) rfl sL fun R r=>?_;simp only[go_sem,n_4,n_5];refine r _ rfl ?_;clear r R
   exact⟨rfl,rfl⟩
theorem Qw5 (t:Th):Fa prog 197 [thA t] (.tup []):=by
 refine fA func197 fun C hC=>?_
 refine zA o0 ?_
 refine xB fun g1 n_1=>?_
 refine zA n_1 ?_
 refine Qtj hC rfl fun R r=>?_
 refine yS n_1 ?_
 refine r _ rfl ?_
 exact .tup trivial
theorem Qpw (m:Qv) (hc:QwU m):Fa prog 121 [.agg (Xa true m)] (.c (.bool (QaF m))):=by
 have hpl:=hc.w2.pl
 refine fA func121 fun C hC=>?_
 refine zA o0 ?_
 refine xB fun g1 n_1=>?_
 refine zA n_1 ?_
 refine QeF (Kf:=Uz) rfl rfl rfl fun g n_=> ?_
 replace n_:=Qa.ne_of n_
 dsimp only [Qa.ne] at n_
 have J1:=oj n_1 n_
 refine yS J1 ?_
 refine zA J1 ?_
 have hcy:QaF m=(goD (Zk m ((Q5 m).length+1)) (Vs m 0 (m.pages.length+1-0)) []).1:=rfl
 rw [hcy]
 generalize hR:goD (Zk m ((Q5 m).length+1)) (Vs m 0 (m.pages.length+1-0)) []=R
 refine Qh (fun x:Nat×List (Th×Int)×List Th=>[(1,.c (.optr g1 0)),(3,.c (.raw (.map (some g)))),(4,.c (.int .i64 ((x.1:Int)-1)))]) (fun x=>[(g,.gen (Uu Uz (kvT x.2.1))),(g1,.cells 29 8 (ofL (Xa true m)))]) (fun x=>x.1≤m.pages.length+1∧goD (Zk m ((Q5 m).length+1)) (Vs m x.1 (m.pages.length+1-x.1)) x.2.1=R∧DInv Zr (Z2 m) (Q5 m) x.2.1 [] x.2.2) (fun x=>m.pages.length+1-x.1) (0,[],[]) (zB J1) zZ ⟨Lz _,hR,Qfe⟩ ?_
 clear hR hcy J1
 rintro ⟨k,st,fin⟩ ⟨hk,hgo,hi⟩
 dsimp only at hk hgo hi⊢
 all_goals try(have Z:=(oj n_1 n_);(repeat' first|refine zV Z ?_|refine zH Z ?_ ?_<;>intro hb|fail);all_goals clear Z)
 ·have hk':k≤m.pages.length:=by omega
  have f1:=VS m k hk' hc.ok.pg
  have hgl:=K2 hc.w2 k
  rw [Qj1 m hk'] at hgo
  refine Zo (oj n_1 n_) f1 ?_
  refine Qh (fun x:Nat×List (Th×Int)×List Th=>[(1,.c (.optr g1 0)),(3,.c (.raw (.map (some g)))),(4,.c (.int .i64 ((k:Int)-1))),(17,.c (.int .i64 (Qt m k).length)),(18,.c (.int .i64 x.1))]) (fun x=>[(g,.gen (Uu Uz (kvT x.2.1))),(g1,.cells 29 8 (ofL (Xa true m)))]) (fun x=>x.1≤(Qt m k).length∧goD (Zk m ((Q5 m).length+1)) ((YL m k).drop x.1++Vs m (k+1) (m.pages.length+1-(k+1))) x.2.1=R∧DInv Zr (Z2 m) (Q5 m) x.2.1 [] x.2.2) (fun x=>(Qt m k).length-x.1) (0,st,fin) (zB (oj n_1 n_)) zZ ⟨Lz _,hgo,hi⟩ ?_
  clear hgo hi
  rintro ⟨i,st,fin⟩ ⟨hil,hgo,hi⟩
  dsimp only at hil hgo hi⊢
  all_goals try(have Z:=(oj n_1 n_);(repeat' first|refine zV Z ?_|refine zH Z ?_ ?_<;>intro hb|fail);all_goals clear Z)
  ·have hi':=hb
   have hmem:((2,(k:Int)-1,(i:Int)):Th)∈Q5 m:=Y4.2 ⟨k,i,hk',hi',rfl⟩
   have f2:=QuS m hc 197 Qw5 g ((Q5 m).length+1) st [] fin (2,(k:Int)-1,(i:Int)) hi om (.inr hmem) (fun h e=>by simp at e)
   have ho:=Qas Ue (KH hc.ins) ((Q5 m).length+1) st [] fin (2,(k:Int)-1,(i:Int)) hi om (.inr hmem) (fun h e=>by simp at e)
   change Qrv Zr (Z2 m) (Q5 m) st [] fin (Zk m ((Q5 m).length+1) st (2,(k:Int)-1,(i:Int))) _ at ho
   rw [Qj2 m hi',Lq] at hgo
   have hgo2:(if(Zk m ((Q5 m).length+1) st (2,(k:Int)-1,(i:Int))).1=true then Zk m ((Q5 m).length+1) st (2,(k:Int)-1,(i:Int)) else goD (Zk m ((Q5 m).length+1)) ((YL m k).drop (i+1)++Vs m (k+1) (m.pages.length+1-(k+1))) (Zk m ((Q5 m).length+1) st (2,(k:Int)-1,(i:Int))).2)=R:=hgo
   clear hgo
   generalize hr:Zk m ((Q5 m).length+1) st (2,(k:Int)-1,(i:Int))=r at*
   all_goals try(have Z:=(oj n_1 n_);(repeat' first|refine zV Z ?_|refine yQ Z f2 ?_|refine zH Z ?_ ?_<;>intro hb|fail);all_goals clear Z)
   ·refine yT hC (oj n_1 n_) ?_
    rw [iP hb] at hgo2
    rw [←hgo2]
    exact .one (.c (Qp hb.symm))
   ·have hrf:r.1=false:=hb
    rw [iN (by rw [hrf];decide)] at hgo2
    obtain⟨fin2,q1,_,q3,_⟩:=ho.2 hrf
    refine Qb ⟨(i+1,r.2,fin2),?_⟩
    and_intros
    all_goals first|rfl|exact Lr _|exact True.intro|exact hgo2|exact q1|(dsimp only;omega)
  ·rw [List.drop_of_length_le (by rw [QlC];omega),Ln] at hgo
   refine zA (oj n_1 n_) ?_
   refine Qb ⟨(k+1,st,fin),?_⟩
   and_intros
   all_goals first|rfl|exact Lr _|exact True.intro|exact hgo|exact hi|exact Wh om|(dsimp only;omega)
 ·have hk1:k=m.pages.length+1:=by omega
  subst hk1
  rw [Nat.sub_self] at hgo
  have hgo2:(false,st)=R:=hgo
  subst hgo2
  refine yT hC (oj n_1 n_) ?_
  exact .one (.c (.bool _))
theorem Qfw (m:Qv) (ho:Jb m):Fa prog 53 [.agg (Xa true m)] (.c (Y2 (UA m))):=by
 have hm:=ho.ok
 have hw2:=ho.wf2
 have hpl:=hw2.pl
 have fn:Fa prog 113 [.c (.str (sB m.name))] (.c (.bool (QB m.name))):=J0 m.name ho.wf.nm
 have f1:=QeS m hm ho.wf
 have f2:=Qf2 m hm hw2
 rw [QlD]
 refine fA func53 fun C hC=>?_
 refine zA o0 ?_
 refine xB fun g1 n_1=>?_
 repeat' first|refine zV n_1 ?_|refine yQ n_1 fn ?_|refine yQ n_1 f1 ?_|refine yQ n_1 f2 ?_|refine zH n_1 ?_ ?_<;>intro hb|fail
 ·refine yT hC n_1 ?_
  rw [show QB m.name=false from by simpa using hb,VV Af]
  exact .one (.c (QG rfl Af))
 ·rename_i h1
  rw [iP (by simpa using h1),XW rfl,VV (by simpa using hb)]
  refine yT hC n_1 ?_
  exact .one (.c Zv)
 ·rename_i h1 h2
  rw [iP (by simpa using h1),XW rfl,XW (by simpa using h2),VV (by simpa using hb)]
  refine yT hC n_1 ?_
  exact .one (.c Zv)
 rename_i h1 h2
 have h3:Uw m=0:=by simpa using hb
 rw [iP (by simpa using h1),XW rfl,XW (by simpa using h2),XW h3]
 clear fn f1 f2
 generalize hG:Qpe m=G
 refine Qh (fun k:Nat=>[(1,.c (.optr g1 0)),(2,.c .nilI),(5,.c (.int .i64 ((k:Int)-1)))]) (fun _=>[(g1,.cells 29 8 (ofL (Xa true m)))]) (fun k=>k≤m.pages.length+1∧(K1 (fun k (_:Unit)=>(Wy m k,())) (m.pages.length+1-k) k ()).1=G) (fun k=>m.pages.length+1-k) 0 (zB n_1) zZ ⟨Lz _,hG⟩ ?_
 rintro k ⟨hk,hlp⟩
 repeat' first|refine zV n_1 ?_|refine zH n_1 ?_ ?_<;>intro hb|fail
 ·have hk':k≤m.pages.length:=by omega
  have f1:=Qf3 m k hk' hm hw2
  rw [show m.pages.length+1-k=(m.pages.length+1-(k+1))+1 from by omega] at hlp
  repeat' first|refine zV n_1 ?_|refine yQ n_1 f1 ?_|refine zH n_1 ?_ ?_<;>intro hb|fail
  ·have hb2:Wy m k≠0:=by simpa using hb
   rw [QdY (f:=fun k (_:Unit)=>(Wy m k,())) hb2] at hlp
   have hlp:Wy m k=G:=hlp
   subst hlp
   rw [VV hb2]
   refine yT hC n_1 ?_
   exact .one (.c Zv)
  ·rw [QhS (f:=fun k (_:Unit)=>(Wy m k,())) (by simpa using hb)] at hlp
   refine Qb ⟨k+1,?_⟩
   and_intros
   all_goals first|rfl|exact Lr _|exact True.intro|exact hlp|exact Wh om|omega
 have hk1:k=m.pages.length+1:=by omega
 subst hk1
 rw [Nat.sub_self] at hlp
 have hG0:G=0:=hlp.symm
 subst hG0
 rw [XW rfl]
 have hI:=fun k hk=>QrM hG (k:=k) hk
 have hp8:m.pages.length≤8:=by
  unfold Uw at h3
  split at h3
  ·cases h3
  ·omega
 have hIi:∀k,k≤m.pages.length→∀i,((Qt m k).getD i gt0).inputs.length≤16:=fun k hk i=>Xw (P:=fun x:Xe=>x.inputs.length≤16) (hI k hk) (Lz _) i
 have hsz:=fun k hk sp=>QrL (hI k hk) sp
 have hgl:=fun k=>K2 hw2 k
 clear hlp
 generalize hN:QrJ m=N
 refine zA n_1 ?_
 refine Qh (fun x:Nat×List BS×Option Nat=>[(1,.c (.optr g1 0)),(2,.c .nilI),(7,.c (gs x.2.2 1 x.2.1.length)),(8,.c (.int .i64 ((x.1:Int)-1)))]) (fun x=>gh x.2.2 9 x.2.1.length (Qe x.2.1)++[(g1,.cells 29 8 (ofL (Xa true m)))]) (fun x=>x.1≤m.pages.length+1∧(x.2.2=none→x.2.1.length=0)∧x.2.1.length≤16777216*x.1∧(K1 (U6 m) (m.pages.length+1-x.1) x.1 x.2.1).1=N) (fun x=>m.pages.length+1-x.1) (0,[],none) (zB n_1) zZ ⟨Lz _,fun _=>rfl,Lz _,hN⟩ ?_
 rintro ⟨k,sp,og⟩ ⟨hk,hog,hsp,hlp⟩
 dsimp only at hk hog hsp hlp⊢
 refine Y9 fun hnd=> ?_
 have hgn:∀g,og=some g→(g=g1)=False:=fun g e=>by
  subst e
  simp only [gh,Qa.keys,List.map_append,Ld,List.map_nil,Lq,Ln] at hnd
  exact eq_false fun e=>(List.nodup_cons.1 hnd).1 (by rw [e];exact Lf)
 refine Qi List.perm_append_comm ?_
 clear hnd
 simp only [Lq,Ln]
 repeat' first|refine zV n_1 ?_|refine zH n_1 ?_ ?_<;>intro hb|fail
 ·have hk':k≤m.pages.length:=by omega
  have hsz':=hsz k hk' sp
  have hgk:=hgl k
  rw [show m.pages.length+1-k=(m.pages.length+1-(k+1))+1 from by omega] at hlp
  refine Ql (hc:=gh og 9 sp.length (Qe sp)) (hr:=[(g1,.cells 29 8 (ofL (Xa true m)))]) (QeU m k sp og hk' hm hw2 (hIi k hk') (fun i j=>ho.inl k i j) hog om) rfl rfl rfl (List.perm_append_comm (l₁:=[(g1,_)])) (zL n_1) ?_
  rintro _ _ (⟨q1,rfl,rfl⟩|⟨q1,og2,q2,rfl,rfl⟩) _
  ·rw [QdY (f:=U6 m) q1] at hlp
   subst hlp
   simp only [Ln]
   rw [VV q1]
   refine yS n_1 ?_
   repeat' first|refine zV n_1 ?_|refine zH n_1 ?_ ?_<;>intro hb|fail
   ·refine yT hC n_1 ?_
    exact .one (.c Zv)
   ·exfalso;simp_all
  ·rw [QhS (f:=U6 m) q1] at hlp
   refine yS n_1 ?_
   refine zA n_1 ?_
   refine Qb ⟨(k+1,(U6 m k sp).2,og2),?_⟩
   and_intros
   all_goals first|rfl|exact Lr _|exact True.intro|exact q2|exact hlp|exact Wh om|(dsimp only;omega)
 all_goals
  have hk1:k=m.pages.length+1:=by omega
  subst hk1
  rw [Nat.sub_self] at hlp
  have hN0:N=0:=hlp.symm
  subst hN0
  rw [XW rfl]
 have f3:=Qa4 m 0 m.top (Lz _) hm (Lt (hgl 0) Af) (Lt ho.tp Af)
 rw [show((0:Nat):Int)-1= -1 from rfl] at f3
 have f4:=QeV m hm ho.wf4
 have f5:=QeT m hm hw2 ho.wf3
 clear hlp hsp hog hgn
 repeat' first|refine zV n_1 ?_|refine yQ n_1 f3 ?_|refine yQ n_1 f4 ?_|refine yQ n_1 f5 ?_|refine zH n_1 ?_ ?_<;>intro hb|fail
 ·refine yT hC n_1 ?_
  rw [show Yq m 0 m.top=false from by simpa using hb,iN Af,VV Af]
  exact .one (.c (QG rfl Af))
 ·rename_i h4
  rw [iP (by simpa using h4),XW rfl,VV (by simpa using hb)]
  refine yT hC n_1 ?_
  exact .one (.c Zv)
 ·rename_i h4 h5
  rw [iP (by simpa using h4),XW rfl,XW (by simpa using h5),VV (by simpa using hb)]
  refine yT hC n_1 ?_
  exact .one (.c Zv)
 rename_i h4 h5
 have e0:Vr m=0:=by
  unfold Vr
  rw [iP (by simpa using h1),XW rfl,XW (by simpa using h2),XW h3,XW hG,XW hN,iP (by simpa using h4),XW rfl,XW (by simpa using h5)]
  simpa using hb
 rw [iP (by simpa using h4),XW rfl,XW (by simpa using h5),XW (by simpa using hb)]
 have f6:=Qpw m (ho.cy e0)
 repeat' first|refine zV n_1 ?_|refine yQ n_1 f6 ?_|refine zH n_1 ?_ ?_<;>intro hb|fail
 ·refine yT hC n_1 ?_
  rw [iP hb]
  exact .one (.c (QG rfl Af))
 ·refine yT hC n_1 ?_
  rw [iN (by simpa using hb)]
  exact .one (.c (Z6 rfl))
theorem Qka (m:Qv) (ho:Jb m) (h0:UA m=0):ZN prog 31 [.agg (Xa true m)] (.tup [.c (.str (sB (Vo m).1)),.c (.int .i64 (Vo m).2)]):=by
 have sn:=Qrm
 have hg:=WJ h0
 have hP:=QhU ho h0
 have nE:m.events.length≤1099511627776:=Lt hg.evl Af
 have nH:m.houses.length≤1099511627776:=Lt hg.hsl Af
 have nG:m.gates.length≤1099511627776:=Lt ho.gt.1 Af
 have nP:m.pages.length≤1099511627776:=Lt hg.pgl Af
 have nR:m.groups.length≤1099511627776:=Lt hg.grl Af
 have nS:m.phases.length≤1099511627776:=Lt hg.phl Af
 have hlen:=hP.len
 rw [Qj7] at hlen
 obtain⟨A1,a1,s1,e1,l1⟩:=Qf6 (T0 m) evX m.events ev0
 obtain⟨F1,c1,t1,g1⟩:=Qlq false QbP m.events ev0
 obtain⟨A2,a2,s2,e2,l2⟩:=Qf6 (A1 m.events.length) hsX m.houses hs0
 obtain⟨A4,a4,s4,e4,l4⟩:=Qf6 (A2 m.houses.length++m.gates.flatMap (gtX [])) pgX m.pages pg0
 obtain⟨F4,c4,t4,g4⟩:=Qlq (F1 m.events.length||Jo m.gates) (fun p=>Jo p.gates) m.pages pg0
 obtain⟨A5,a5,s5,e5,l5⟩:=Qf6 (A4 m.pages.length) grX m.groups gr0
 obtain⟨F5,c5,t5,g5⟩:=Qlq (F4 m.pages.length) (fun x=>x.factors.any QF) m.groups gr0
 obtain⟨A6,a6,s6,e6,l6⟩:=Qf6 (A5 m.groups.length) phX m.phases ph0
 obtain⟨F6,c6,t6,g6⟩:=Qlq (F5 m.groups.length) (fun x=>x.values.any fun v=>QF v.p) m.phases ph0
 have hTx:XZ m=A6 m.phases.length++TE m:=by rw [Qj7,e6,e5,e4,e2,e1]
 have hLx:Jp m=F6 m.phases.length:=by rw [g6,g5,g4,g1];rfl
 rw [←e1,←e2,←e4,←e5,←e6] at hlen
 rw [←e1] at l1
 rw [←e2] at l2
 rw [←e4] at l4
 rw [←e5] at l5
 rw [←e6] at l6
 have lT:=hlen
 rw [La] at lT
 have k5:(A5 m.groups.length).length≤(A6 m.phases.length).length:=by have:=l6 0;rw [a6] at this;exact this
 have k4:(A4 m.pages.length).length≤(A5 m.groups.length).length:=by have:=l5 0;rw [a5] at this;exact this
 have k3:(A2 m.houses.length).length+(m.gates.flatMap (gtX [])).length≤(A4 m.pages.length).length:=by have:=l4 0;rw [a4,La] at this;exact this
 have k1:(A1 m.events.length).length≤(A2 m.houses.length).length:=by have:=l2 0;rw [a2] at this;exact this
 have k0:(T0 m).length≤(A1 m.events.length).length:=by have:=l1 0;rw [a1] at this;exact this
 have eTR:Vo m=if Jp m=true∨(XZ m).length>65536 then([],4) else(XZ m,0):=rfl
 rw [hTx,hLx] at eTR
 rw [eTR]
 have f3:=Qgz [] m.gates hP.gt nG om
 clear hTx hLx e1 e2 e4 e5 e6 g1 g4 g5 g6 eTR hlen
 generalize hT0:T0 m=Z0 at*
 unfold T0 at hT0
 simp only [Lq,Ln] at hT0
 generalize hTE:TE m=ZE at*
 unfold TE at hTE
 simp only [Lq,Ln] at hTE
 have lZ0:=congrArg List.length hT0
 have lZE:=congrArg List.length hTE
 simp only [La,Lc,Lu] at lZ0 lZE
 generalize hG3:m.gates.flatMap (gtX [])=W3 at*
 generalize Jo m.gates=B3 at*
 refine Yo func31 rfl rfl (by simp [ntmps31]) fun C hC hT=> ?_
 simp only [Y8,Nat.reduceAdd]
 refine zA (oj sn (oj hT0 (oj a1 c1))) ?_
 refine yB (oj sn (oj hT0 (oj a1 c1))) fun g1 n_1=>?_
 refine zA (oj sn (oj hT0 (oj a1 (oj c1 n_1)))) ?_
 refine Qh (fun i:Nat=>[(1,.c (.optr g1 0)),(4,.c (.str (sB (A1 i)))),(5,.c (.bool (F1 i))),(34,.c (evs true m.events)),(35,.c (.int .i64 m.events.length)),(36,.c (.int .i64 i))]) (fun _=>[(g1,.cells 29 8 (ofL (Xa true m)))]) (fun i=>i≤m.events.length) (fun i=>m.events.length-i) 0 (zB (oj sn (oj hT0 (oj a1 (oj c1 n_1))))) zZ (Lz _) ?_
 rintro i hi
 by_cases hj:i<m.events.length
 ·have d1:decide (i<m.events.length)=true:=Dt hj
  have b1:=l1 i
  have b3:=l1 (i+1)
  have hS:=s1 i hj
  have hF:=t1 i hj
  have hm:=Od m.events ev0 hj
  obtain⟨x1,x2,x3,x4,x5⟩:=hP.ev _ hm
  have x6:=(hg.ev _ hm).2.2.2.2.1
  clear hm
  generalize hv:m.events.getD i ev0=x at*
  rw [hS,La] at b3
  have f1:=QoU x x1 x2 x3 x6 x5 om
  generalize evX x=W at*
  generalize QbP x=lb at*
  generalize A1 i=S at*
  generalize F1 i=bd at*
  refine zA (oj sn (oj hT0 (oj a1 (oj c1 (oj n_1 (oj d1 (oj hv (oj hS hF)))))))) ?_
  refine yA (oj sn (oj hT0 (oj a1 (oj c1 (oj n_1 (oj d1 (oj hv (oj hS hF)))))))) fun g9 n_9=>?_
  cases bd
  all_goals
   all_goals try(have Z:=(oj sn (oj hT0 (oj a1 (oj c1 (oj n_1 (oj d1 (oj hv (oj hS (oj hF n_9)))))))));(repeat' first|refine zV Z ?_|(refine yC3 Z ((f1).toC hT) ?_)|(refine yD3 Z ((f1).toC hT) ?_)|refine zH Z ?_ ?_<;>intro hb|fail);all_goals clear Z)
   exact Qb ⟨i+1,by omega,(zB (oj sn (oj hT0 (oj a1 (oj c1 (oj n_1 (oj d1 (oj hv (oj hS (oj hF n_9)))))))))),Ls _ _,by omega⟩
 ·obtain rfl:i=m.events.length:=by omega
  have d1:decide (m.events.length<m.events.length)=false:=De om
  refine zA (oj sn (oj hT0 (oj a1 (oj c1 (oj n_1 (oj d1 a2)))))) ?_
  refine Qh (fun i:Nat=>[(1,.c (.optr g1 0)),(4,.c (.str (sB (A2 i)))),(5,.c (.bool (F1 m.events.length))),(54,.c (hss true m.houses)),(55,.c (.int .i64 m.houses.length)),(56,.c (.int .i64 i))]) (fun _=>[(g1,.cells 29 8 (ofL (Xa true m)))]) (fun i=>i≤m.houses.length) (fun i=>m.houses.length-i) 0 (zB (oj sn (oj hT0 (oj a1 (oj c1 (oj n_1 (oj d1 a2))))))) zZ (Lz _) ?_
  rintro i hi
  by_cases hj:i<m.houses.length
  ·have d1:decide (i<m.houses.length)=true:=Dt hj
   have b1:=l2 i
   have b3:=l2 (i+1)
   have hS:=s2 i hj
   have hm:=Od m.houses hs0 hj
   clear hm
   generalize hv:m.houses.getD i hs0=x at*
   rw [hS,La] at b3
   rw [QwY] at hS b3
   obtain⟨xn,xo⟩:=x
   dsimp only at hS b3
   generalize A2 i=S at*
   generalize F1 m.events.length=bd at*
   refine zA (oj sn (oj hT0 (oj a1 (oj c1 (oj n_1 (oj d1 (oj a2 (oj d1 (oj hv hS))))))))) ?_
   refine yA (oj sn (oj hT0 (oj a1 (oj c1 (oj n_1 (oj d1 (oj a2 (oj d1 (oj hv hS))))))))) fun g9 n_9=>?_
   cases xo
   all_goals
    simp only [Lo,Lq,Ln,La,Lc,Lu,if_true,if_false,Bool.false_eq_true] at hS b3
    refine zA (oj sn (oj hT0 (oj a1 (oj c1 (oj n_1 (oj d1 (oj a2 (oj d1 (oj hv (oj hS n_9)))))))))) ?_
    exact Qb ⟨i+1,by omega,(zB (oj sn (oj hT0 (oj a1 (oj c1 (oj n_1 (oj d1 (oj a2 (oj d1 (oj hv (oj hS n_9))))))))))),Ls _ _,by omega⟩
  ·obtain rfl:i=m.houses.length:=by omega
   have d1:decide (m.houses.length<m.houses.length)=false:=De om
   have b1:=l2 m.houses.length
   generalize hS2:A2 m.houses.length=S2 at*
   generalize hF1:F1 m.events.length=bd at*
   cases bd
   all_goals
    simp only [Bool.true_or,Bool.false_or] at c4
    all_goals try(have Z:=(oj sn (oj hT0 (oj a1 (oj c1 (oj n_1 (oj d1 (oj a2 (oj d1 (oj a4 c4)))))))));(repeat' first|refine zV Z ?_|(refine yC3 Z ((f3).toC hT) ?_)|(refine yD3 Z ((f3).toC hT) ?_)|refine zH Z ?_ ?_<;>intro hb|fail);all_goals clear Z)
    refine Qh (fun i:Nat=>[(1,.c (.optr g1 0)),(4,.c (.str (sB (A4 i)))),(5,.c (.bool (F4 i))),(86,.c (pgs true m.pages)),(87,.c (.int .i64 m.pages.length)),(88,.c (.int .i64 i))]) (fun _=>[(g1,.cells 29 8 (ofL (Xa true m)))]) (fun i=>i≤m.pages.length) (fun i=>m.pages.length-i) 0 (zB (oj sn (oj hT0 (oj a1 (oj c1 (oj n_1 (oj d1 (oj a2 (oj d1 (oj a4 c4)))))))))) zZ (Lz _) ?_
    rintro i hi
    by_cases hj:i<m.pages.length
    ·have d1:decide (i<m.pages.length)=true:=Dt hj
     have b1:=l4 i
     have b3:=l4 (i+1)
     have hS:=s4 i hj
     have hF:=t4 i hj
     have hm:=Od m.pages pg0 hj
     have x1:=hP.pg _ hm
     have x2:(m.pages.getD i pg0).gates.length≤1099511627776:=Lt (ho.pg.2 _ hm).2.2.1 Af
     clear hm
     generalize hv:m.pages.getD i pg0=x at*
     rw [hS,La] at b3
     rw [QwZ] at hS b3
     simp only [Lo,Lq,Ln,La,Lc,Lu] at hS b3
     have f1:=Qgz [32,32] x.gates x1 x2 om
     generalize x.gates.flatMap (gtX [32,32])=W at*
     generalize Jo x.gates=lb at*
     generalize A4 i=S at*
     generalize F4 i=bd at*
     refine zA (oj sn (oj hT0 (oj a1 (oj c1 (oj n_1 (oj d1 (oj a2 (oj d1 (oj a4 (oj c4 (oj d1 (oj hv (oj hS hF))))))))))))) ?_
     refine yA (oj sn (oj hT0 (oj a1 (oj c1 (oj n_1 (oj d1 (oj a2 (oj d1 (oj a4 (oj c4 (oj d1 (oj hv (oj hS hF))))))))))))) fun g9 n_9=>?_
     cases bd
     all_goals
      all_goals try(have Z:=(oj sn (oj hT0 (oj a1 (oj c1 (oj n_1 (oj d1 (oj a2 (oj d1 (oj a4 (oj c4 (oj d1 (oj hv (oj hS (oj hF n_9))))))))))))));(repeat' first|refine zV Z ?_|(refine yC3 Z ((f1).toC hT) ?_)|(refine yD3 Z ((f1).toC hT) ?_)|refine zH Z ?_ ?_<;>intro hb|fail);all_goals clear Z)
      exact Qb ⟨i+1,by omega,(zB (oj sn (oj hT0 (oj a1 (oj c1 (oj n_1 (oj d1 (oj a2 (oj d1 (oj a4 (oj c4 (oj d1 (oj hv (oj hS (oj hF n_9))))))))))))))),Ls _ _,by omega⟩
    ·obtain rfl:i=m.pages.length:=by omega
     have d1:decide (m.pages.length<m.pages.length)=false:=De om
     have b1:=l4 m.pages.length
     refine zA (oj sn (oj hT0 (oj a1 (oj c1 (oj n_1 (oj d1 (oj a2 (oj d1 (oj a4 (oj c4 (oj d1 (oj a5 c5)))))))))))) ?_
     refine Qh (fun i:Nat=>[(1,.c (.optr g1 0)),(4,.c (.str (sB (A5 i)))),(5,.c (.bool (F5 i))),(117,.c (grs true m.groups)),(118,.c (.int .i64 m.groups.length)),(119,.c (.int .i64 i))]) (fun _=>[(g1,.cells 29 8 (ofL (Xa true m)))]) (fun i=>i≤m.groups.length) (fun i=>m.groups.length-i) 0 (zB (oj sn (oj hT0 (oj a1 (oj c1 (oj n_1 (oj d1 (oj a2 (oj d1 (oj a4 (oj c4 (oj d1 (oj a5 c5))))))))))))) zZ (Lz _) ?_
     rintro i hi
     by_cases hj:i<m.groups.length
     ·have d1:decide (i<m.groups.length)=true:=Dt hj
      have b1:=l5 i
      have b3:=l5 (i+1)
      have hS:=s5 i hj
      have hF:=t5 i hj
      have hm:=Od m.groups gr0 hj
      obtain⟨q,hq,hqk⟩:=hP.gk _ hm
      have x1:=hP.gr _ hm
      have x2:(m.groups.getD i gr0).factors.length≤1099511627776:=Lt (ho.gr.2 _ hm).2.2.2.1 Af
      have x3:(m.groups.getD i gr0).members.length≤1099511627776:=Lt (ho.gr.2 _ hm).2.1 Af
      clear hm
      generalize hv:m.groups.getD i gr0=x at*
      rw [Qw0] at hS
      rw [←Lo] at hS
      obtain⟨C1,u0,uS,uE,uL⟩:=Qf6 (A5 i++grH x) (fun r=>32::Xr r) x.factors rd0
      obtain⟨D1,v0,vS,vE⟩:=Qlq (F5 i) QF x.factors rd0
      obtain⟨C2,w0,wS,wE,wL⟩:=Qf6 (C1 x.factors.length++[32,58]) (fun y:BS=>32::y) x.members []
      have hS':A5 (i+1)=C2 x.members.length++[59,10]:=by rw [hS,wE,uE];simp only [Lo,Lq,Ln];rfl
      rw [←vE] at hF
      rw [←wE] at wL
      rw [←uE] at uL
      have y1:=wL 0
      rw [w0,La] at y1
      have y2:=congrArg List.length hS'
      rw [La] at y2
      simp only [Lc,Lu] at y1 y2
      clear hS vE wE uE
      obtain⟨w,hw⟩:∃w:BS,w=if x.kind=1 then Yh else ZF:=⟨_,rfl⟩
      have hH:A5 i++grH x=A5 i++(Xf++32::(x.name++32::w)):=by rw [hw];rfl
      have hHl:=congrArg List.length hH
      have y4:=uL 0
      rw [u0] at y4
      simp only [Lo,Lq,Ln] at hH
      simp only [La,Lc,Lu] at hHl y4
      rw [hH] at u0
      clear hH
      generalize grH x=GH at*
      generalize A5 i=S at*
      generalize hSN:A5 (i+1)=SN at*
      generalize F5 i=bd at*
      generalize hBN:F5 (i+1)=bN at*
      have hwq:ofL [CV.str (sB ZF),.str (sB Yh)] q=.str (sB w):=by
       rw [hw,hqk]
       match q,hq with
       |0,_=>rfl
       |1,_=>rfl
      refine zA (oj sn (oj hT0 (oj a1 (oj c1 (oj n_1 (oj d1 (oj a2 (oj d1 (oj a4 (oj c4 (oj d1 (oj a5 (oj c5 (oj d1 (oj hv hqk))))))))))))))) ?_
      refine yA (oj sn (oj hT0 (oj a1 (oj c1 (oj n_1 (oj d1 (oj a2 (oj d1 (oj a4 (oj c4 (oj d1 (oj a5 (oj c5 (oj d1 (oj hv hqk))))))))))))))) fun g9 n_9=>?_
      refine zA (oj sn (oj hT0 (oj a1 (oj c1 (oj n_1 (oj d1 (oj a2 (oj d1 (oj a4 (oj c4 (oj d1 (oj a5 (oj c5 (oj d1 (oj hv (oj hqk n_9)))))))))))))))) ?_
      refine Yf [(g9,.cells 94 4 (ofL [.str (sB x.name),.int .i64 q,X0 true x.members,VQ true x.factors]))] [(0,0),(1,0),(2,0),(3,0),(4,0),(6,0),(7,0),(5,1),(8,0),(9,1),(10,0),(11,0),(12,0)] Qg kR qa ?_
      have J1:=oj sn (oj hT0 (oj a1 (oj c1 (oj n_1 (oj d1 (oj a2 (oj d1 (oj a4 (oj c4 (oj d1 (oj a5 (oj c5 (oj d1 (oj hv (oj hqk n_9)))))))))))))))
      refine yG J1 ?_
      refine Qs (xs:=[.const (.string (sB ZF)),.const (.string (sB Yh))]) (cells:=[.str (sB ZF),.str (sB Yh)]) rfl rfl rfl rfl (zE J1) (by refine yS J1 ?_;rfl) rfl om om (by intro z hz;simp only [Lb,Lj,or_false] at hz;rcases hz with rfl|rfl<;>exact⟨rfl,rfl,rfl⟩) rfl (by intro z hz;simp only [Lb,Lj,or_false] at hz;rcases hz with rfl|rfl<;>simp [Op.operands]) qa (fun g128 n_128=> ?_) (.inr ⟨rfl,rfl⟩)
      replace n_128:=Qa.ne_of n_128
      dsimp only [Qa.ne] at n_128
      have J2:=oj sn (oj hT0 (oj a1 (oj c1 (oj n_1 (oj d1 (oj a2 (oj d1 (oj a4 (oj c4 (oj d1 (oj a5 (oj c5 (oj d1 (oj hv (oj hqk (oj n_9 n_128))))))))))))))))
      refine Xp J2 ?_
      refine Qnj (r:=.c (.str (sB w))) rfl (fun ρ hρ=> ?_) rfl rfl qa ?_ (.inr ⟨rfl,rfl⟩)
      ·have hl:=QA.loadO (P:=prog) (h:=(g128,XD.cells 9 (2*1) (ofL [CV.str (sB ZF),.str (sB Yh)]))::(g9,.cells 94 4 (ofL [.str (sB x.name),.int .i64 q,X0 true x.members,VQ true x.factors]))::[(g1,.cells 29 8 (ofL (Xa true m)))]) (ρ:=ρ) (t:=9) (a:=.tmp 131) (n:=1) (m:=2) (ag:=false) (g:=g128) (off:=q) (ty:=9) (f:=ofL [CV.str (sB ZF),.str (sB Yh)]) kR (fun _=>rfl) ((hρ _ Ag).trans (zE J2)) (by simp [Qa.get]) om
       rw [iN (by simp),hwq] at hl
       exact hl
      refine Xp J2 ?_
      refine QM (h':=[(g9,.cells 94 4 (ofL [.str (sB x.name),.int .i64 q,X0 true x.members,VQ true x.factors])),(g1,.cells 29 8 (ofL (Xa true m)))]) (Sl.le_refl _) (.cons _ (Lr _)) ?_
      have J3:=oj sn (oj hT0 (oj a1 (oj c1 (oj n_1 (oj d1 (oj a2 (oj d1 (oj a4 (oj c4 (oj d1 (oj a5 (oj c5 (oj d1 (oj hv (oj hqk (oj n_9 (oj n_128 (oj u0 (oj v0 w0)))))))))))))))))))
      refine yS J3 ?_
      refine zA J3 ?_
      refine Qh (fun k:Nat=>[(1,.c (.optr g1 0)),(4,.c (.str (sB (C1 k)))),(5,.c (.bool (D1 k))),(117,.c (grs true m.groups)),(118,.c (.int .i64 m.groups.length)),(119,.c (.int .i64 i)),(20,.c (.optr g9 0)),(136,.c (VQ true x.factors)),(137,.c (.int .i64 x.factors.length)),(138,.c (.int .i64 k))]) (fun _=>[(g9,.cells 94 4 (ofL [.str (sB x.name),.int .i64 q,X0 true x.members,VQ true x.factors])),(g1,.cells 29 8 (ofL (Xa true m)))]) (fun k=>k≤x.factors.length) (fun k=>x.factors.length-k) 0 (zB J3) zZ (Lz _) ?_
      rintro k hk
      by_cases hkn:k<x.factors.length
      ·have e1:decide (k<x.factors.length)=true:=Dt hkn
       have z1:=uL k
       have z2:=uL (k+1)
       have hU:=uS k hkn
       have hV:=vS k hkn
       have hr:=x1 (x.factors.getD k rd0) (Od x.factors rd0 hkn)
       generalize hv2:x.factors.getD k rd0=r at*
       rw [hU,La,Lc] at z2
       have r1:=WD r hr
       have r2:=WE r hr
       generalize Xr r=TT at*
       generalize QF r=lb at*
       generalize C1 k=SS at*
       generalize D1 k=db at*
       refine zA (oj sn (oj hT0 (oj a1 (oj c1 (oj n_1 (oj d1 (oj a2 (oj d1 (oj a4 (oj c4 (oj d1 (oj a5 (oj c5 (oj d1 (oj hv (oj hqk (oj n_9 (oj n_128 (oj u0 (oj v0 (oj w0 (oj e1 (oj hv2 (oj hU hV)))))))))))))))))))))))) ?_
       refine yA (oj sn (oj hT0 (oj a1 (oj c1 (oj n_1 (oj d1 (oj a2 (oj d1 (oj a4 (oj c4 (oj d1 (oj a5 (oj c5 (oj d1 (oj hv (oj hqk (oj n_9 (oj n_128 (oj u0 (oj v0 (oj w0 (oj e1 (oj hv2 (oj hU hV)))))))))))))))))))))))) fun g22 n_22=>?_
       cases db
       all_goals
        refine zA2 (oj sn (oj hT0 (oj a1 (oj c1 (oj n_1 (oj d1 (oj a2 (oj d1 (oj a4 (oj c4 (oj d1 (oj a5 (oj c5 (oj d1 (oj hv (oj hqk (oj n_9 (oj n_128 (oj u0 (oj v0 (oj w0 (oj e1 (oj hv2 (oj hU (oj hV n_22))))))))))))))))))))))))) r1 r2 ?_
        exact Qb ⟨k+1,by omega,(zB (oj sn (oj hT0 (oj a1 (oj c1 (oj n_1 (oj d1 (oj a2 (oj d1 (oj a4 (oj c4 (oj d1 (oj a5 (oj c5 (oj d1 (oj hv (oj hqk (oj n_9 (oj n_128 (oj u0 (oj v0 (oj w0 (oj e1 (oj hv2 (oj hU (oj hV n_22)))))))))))))))))))))))))),Ls _ _,by omega⟩
      ·obtain rfl:k=x.factors.length:=by omega
       have e1:decide (x.factors.length<x.factors.length)=false:=De om
       have z1:=uL x.factors.length
       generalize C1 x.factors.length=SC at*
       generalize D1 x.factors.length=dn at*
       refine zA (oj sn (oj hT0 (oj a1 (oj c1 (oj n_1 (oj d1 (oj a2 (oj d1 (oj a4 (oj c4 (oj d1 (oj a5 (oj c5 (oj d1 (oj hv (oj hqk (oj n_9 (oj n_128 (oj u0 (oj v0 (oj w0 e1))))))))))))))))))))) ?_
       refine Qh (fun k:Nat=>[(1,.c (.optr g1 0)),(4,.c (.str (sB (C2 k)))),(5,.c (.bool dn)),(117,.c (grs true m.groups)),(118,.c (.int .i64 m.groups.length)),(119,.c (.int .i64 i)),(156,.c (X0 true x.members)),(157,.c (.int .i64 x.members.length)),(158,.c (.int .i64 k))]) (fun _=>[(g9,.cells 94 4 (ofL [.str (sB x.name),.int .i64 q,X0 true x.members,VQ true x.factors])),(g1,.cells 29 8 (ofL (Xa true m)))]) (fun k=>k≤x.members.length) (fun k=>x.members.length-k) 0 (zB (oj sn (oj hT0 (oj a1 (oj c1 (oj n_1 (oj d1 (oj a2 (oj d1 (oj a4 (oj c4 (oj d1 (oj a5 (oj c5 (oj d1 (oj hv (oj hqk (oj n_9 (oj n_128 (oj u0 (oj v0 (oj w0 e1)))))))))))))))))))))) zZ (Lz _) ?_
       clear hk hkn J1 J2 J3
       rintro k hk
       by_cases hkn:k<x.members.length
       ·have e2:decide (k<x.members.length)=true:=Dt hkn
        have z1:=wL k
        have z2:=wL (k+1)
        have hU:=wS k hkn
        generalize hv2:x.members.getD k []=v at*
        rw [hU,La,Lc] at z2
        generalize C2 k=SS at*
        refine zA (oj sn (oj hT0 (oj a1 (oj c1 (oj n_1 (oj d1 (oj a2 (oj d1 (oj a4 (oj c4 (oj d1 (oj a5 (oj c5 (oj d1 (oj hv (oj hqk (oj n_9 (oj n_128 (oj u0 (oj v0 (oj w0 (oj e1 (oj e2 (oj hv2 hU)))))))))))))))))))))))) ?_
        exact Qb ⟨k+1,by omega,(zB (oj sn (oj hT0 (oj a1 (oj c1 (oj n_1 (oj d1 (oj a2 (oj d1 (oj a4 (oj c4 (oj d1 (oj a5 (oj c5 (oj d1 (oj hv (oj hqk (oj n_9 (oj n_128 (oj u0 (oj v0 (oj w0 (oj e1 (oj e2 (oj hv2 hU))))))))))))))))))))))))),zZ,by omega⟩
       ·obtain rfl:k=x.members.length:=by omega
        have e2:decide (x.members.length<x.members.length)=false:=De om
        have z1:=wL x.members.length
        generalize C2 x.members.length=SD at*
        refine zA (oj sn (oj hT0 (oj a1 (oj c1 (oj n_1 (oj d1 (oj a2 (oj d1 (oj a4 (oj c4 (oj d1 (oj a5 (oj c5 (oj d1 (oj hv (oj hqk (oj n_9 (oj n_128 (oj u0 (oj v0 (oj w0 (oj e1 e2)))))))))))))))))))))) ?_
        rw [←hSN] at hS'
        rw [←hBN] at hF
        exact Qb ⟨i+1,by omega,(zB (oj sn (oj hT0 (oj a1 (oj c1 (oj n_1 (oj d1 (oj a2 (oj d1 (oj a4 (oj c4 (oj d1 (oj a5 (oj c5 (oj d1 (oj hv (oj hqk (oj n_9 (oj n_128 (oj u0 (oj v0 (oj w0 (oj e1 (oj e2 (oj hS' hF))))))))))))))))))))))))),Ls _ _,by omega⟩
     ·obtain rfl:i=m.groups.length:=by omega
      have d1:decide (m.groups.length<m.groups.length)=false:=De om
      have b1:=l5 m.groups.length
      refine zA (oj sn (oj hT0 (oj a1 (oj c1 (oj n_1 (oj d1 (oj a2 (oj d1 (oj a4 (oj c4 (oj d1 (oj a5 (oj c5 (oj d1 (oj a6 c6))))))))))))))) ?_
      refine Qh (fun i:Nat=>[(1,.c (.optr g1 0)),(4,.c (.str (sB (A6 i)))),(5,.c (.bool (F6 i))),(171,.c (phs true m.phases)),(172,.c (.int .i64 m.phases.length)),(173,.c (.int .i64 i))]) (fun _=>[(g1,.cells 29 8 (ofL (Xa true m)))]) (fun i=>i≤m.phases.length) (fun i=>m.phases.length-i) 0 (zB (oj sn (oj hT0 (oj a1 (oj c1 (oj n_1 (oj d1 (oj a2 (oj d1 (oj a4 (oj c4 (oj d1 (oj a5 (oj c5 (oj d1 (oj a6 c6)))))))))))))))) zZ (Lz _) ?_
      rintro i hi
      by_cases hj:i<m.phases.length
      ·have d1:decide (i<m.phases.length)=true:=Dt hj
       have b1:=l6 i
       have b3:=l6 (i+1)
       have hS:=s6 i hj
       have hF:=t6 i hj
       have hm:=Od m.phases ph0 hj
       have x1:=hP.ph _ hm
       have x2:(m.phases.getD i ph0).values.length≤1099511627776:=Lt (ho.ph.2 _ hm).2.2.1 Af
       clear hm
       generalize hv:m.phases.getD i ph0=x at*
       rw [Qw2] at hS
       rw [←Lo] at hS
       obtain⟨C1,u0,uS,uE,uL⟩:=Qf6 (A6 i++(Q9++32::(x.name++32::(Yx++32::(x.top++[32,123,10]))))) vlX x.values vl0
       obtain⟨D1,v0,vS,vE⟩:=Qlq (F6 i) (fun v:Zp=>QF v.p) x.values vl0
       have hS':A6 (i+1)=C1 x.values.length++[125,10]:=by rw [hS,uE];simp only [Lo]
       rw [←vE] at hF
       rw [←uE] at uL
       have y2:=congrArg List.length hS'
       have y4:=uL 0
       rw [u0] at y4
       simp only [Lo,Lq,Ln] at u0
       simp only [La,Lc,Lu] at y2 y4
       clear hS vE uE
       generalize A6 i=S at*
       generalize hSN:A6 (i+1)=SN at*
       generalize F6 i=bd at*
       generalize hBN:F6 (i+1)=bN at*
       refine zA (oj sn (oj hT0 (oj a1 (oj c1 (oj n_1 (oj d1 (oj a2 (oj d1 (oj a4 (oj c4 (oj d1 (oj a5 (oj c5 (oj d1 (oj a6 (oj c6 (oj d1 (oj hv (oj u0 v0))))))))))))))))))) ?_
       refine yA (oj sn (oj hT0 (oj a1 (oj c1 (oj n_1 (oj d1 (oj a2 (oj d1 (oj a4 (oj c4 (oj d1 (oj a5 (oj c5 (oj d1 (oj a6 (oj c6 (oj d1 (oj hv (oj u0 v0))))))))))))))))))) fun g9 n_9=>?_
       refine zA (oj sn (oj hT0 (oj a1 (oj c1 (oj n_1 (oj d1 (oj a2 (oj d1 (oj a4 (oj c4 (oj d1 (oj a5 (oj c5 (oj d1 (oj a6 (oj c6 (oj d1 (oj hv (oj u0 (oj v0 n_9)))))))))))))))))))) ?_
       refine Qh (fun k:Nat=>[(1,.c (.optr g1 0)),(4,.c (.str (sB (C1 k)))),(5,.c (.bool (D1 k))),(171,.c (phs true m.phases)),(172,.c (.int .i64 m.phases.length)),(173,.c (.int .i64 i)),(188,.c (vls true x.values)),(189,.c (.int .i64 x.values.length)),(190,.c (.int .i64 k))]) (fun _=>[(g9,.cells 97 3 (ofL (WR x))),(g1,.cells 29 8 (ofL (Xa true m)))]) (fun k=>k≤x.values.length) (fun k=>x.values.length-k) 0 (zB (oj sn (oj hT0 (oj a1 (oj c1 (oj n_1 (oj d1 (oj a2 (oj d1 (oj a4 (oj c4 (oj d1 (oj a5 (oj c5 (oj d1 (oj a6 (oj c6 (oj d1 (oj hv (oj u0 (oj v0 n_9))))))))))))))))))))) zZ (Lz _) ?_
       rintro k hk
       by_cases hkn:k<x.values.length
       ·have e1:decide (k<x.values.length)=true:=Dt hkn
        have z1:=uL k
        have z2:=uL (k+1)
        have hU:=uS k hkn
        have hV:=vS k hkn
        have hr:=x1 (x.values.getD k vl0) (Od x.values vl0 hkn)
        generalize hv2:x.values.getD k vl0=v at*
        rw [Qw1] at hU
        rw [hU] at z2
        simp only [La,Lc,Lu] at z2
        have r1:=WD v.p hr
        have r2:=WE v.p hr
        generalize Xr v.p=TT at*
        generalize QF v.p=lb at*
        generalize C1 k=SS at*
        generalize D1 k=db at*
        refine zA (oj sn (oj hT0 (oj a1 (oj c1 (oj n_1 (oj d1 (oj a2 (oj d1 (oj a4 (oj c4 (oj d1 (oj a5 (oj c5 (oj d1 (oj a6 (oj c6 (oj d1 (oj hv (oj u0 (oj v0 (oj n_9 (oj e1 (oj hv2 (oj hU hV)))))))))))))))))))))))) ?_
        refine yA (oj sn (oj hT0 (oj a1 (oj c1 (oj n_1 (oj d1 (oj a2 (oj d1 (oj a4 (oj c4 (oj d1 (oj a5 (oj c5 (oj d1 (oj a6 (oj c6 (oj d1 (oj hv (oj u0 (oj v0 (oj n_9 (oj e1 (oj hv2 (oj hU hV)))))))))))))))))))))))) fun g28 n_28=>?_
        refine zA (oj sn (oj hT0 (oj a1 (oj c1 (oj n_1 (oj d1 (oj a2 (oj d1 (oj a4 (oj c4 (oj d1 (oj a5 (oj c5 (oj d1 (oj a6 (oj c6 (oj d1 (oj hv (oj u0 (oj v0 (oj n_9 (oj e1 (oj hv2 (oj hU (oj hV n_28))))))))))))))))))))))))) ?_
        refine Xv 12 Qg kR ?_
        cases db
        all_goals
         refine zA2 (oj sn (oj hT0 (oj a1 (oj c1 (oj n_1 (oj d1 (oj a2 (oj d1 (oj a4 (oj c4 (oj d1 (oj a5 (oj c5 (oj d1 (oj a6 (oj c6 (oj d1 (oj hv (oj u0 (oj v0 (oj n_9 (oj e1 (oj hv2 (oj hU (oj hV n_28))))))))))))))))))))))))) r1 r2 ?_
         exact Qb ⟨k+1,by omega,(zB (oj sn (oj hT0 (oj a1 (oj c1 (oj n_1 (oj d1 (oj a2 (oj d1 (oj a4 (oj c4 (oj d1 (oj a5 (oj c5 (oj d1 (oj a6 (oj c6 (oj d1 (oj hv (oj u0 (oj v0 (oj n_9 (oj e1 (oj hv2 (oj hU (oj hV n_28)))))))))))))))))))))))))),Ls _ _,by omega⟩
       ·obtain rfl:k=x.values.length:=by omega
        have e1:decide (x.values.length<x.values.length)=false:=De om
        have z1:=uL x.values.length
        generalize C1 x.values.length=SC at*
        generalize D1 x.values.length=dn at*
        refine zA (oj sn (oj hT0 (oj a1 (oj c1 (oj n_1 (oj d1 (oj a2 (oj d1 (oj a4 (oj c4 (oj d1 (oj a5 (oj c5 (oj d1 (oj a6 (oj c6 (oj d1 (oj hv (oj u0 (oj v0 (oj n_9 e1))))))))))))))))))))) ?_
        rw [←hSN] at hS'
        rw [←hBN] at hF
        exact Qb ⟨i+1,by omega,(zB (oj sn (oj hT0 (oj a1 (oj c1 (oj n_1 (oj d1 (oj a2 (oj d1 (oj a4 (oj c4 (oj d1 (oj a5 (oj c5 (oj d1 (oj a6 (oj c6 (oj d1 (oj hv (oj u0 (oj v0 (oj n_9 (oj e1 (oj hS' hF)))))))))))))))))))))))),Ls _ _,by omega⟩
      ·obtain rfl:i=m.phases.length:=by omega
       have d1:decide (m.phases.length<m.phases.length)=false:=De om
       have b1:=l6 m.phases.length
       generalize A6 m.phases.length=S at*
       generalize F6 m.phases.length=bd at*
       clear l1 l2 l4 l5 l6 s1 s2 s4 s5 s6 t1 t4 t5 t6
       have hSL:(S++ZE).length=S.length+ZE.length:=La
       cases bd
       ·all_goals try(have Z:=(oj sn (oj hT0 (oj a1 (oj c1 (oj n_1 (oj d1 (oj a2 (oj d1 (oj a4 (oj c4 (oj d1 (oj a5 (oj c5 (oj d1 (oj a6 (oj c6 (oj d1 hTE)))))))))))))))));(repeat' first|refine zV Z ?_|refine zH Z ?_ ?_<;>intro hb|fail);all_goals clear Z)
        ·rw [iP (.inr om)]
         refine yT hC (oj sn (oj hT0 (oj a1 (oj c1 (oj n_1 (oj d1 (oj a2 (oj d1 (oj a4 (oj c4 (oj d1 (oj a5 (oj c5 (oj d1 (oj a6 (oj c6 (oj d1 hTE))))))))))))))))) ?_
         exact .tup ⟨.c (.str _),.c (.int _ _),trivial⟩
        ·rw [iN (by rintro (h|h);cases h;omega)]
         refine yT hC (oj sn (oj hT0 (oj a1 (oj c1 (oj n_1 (oj d1 (oj a2 (oj d1 (oj a4 (oj c4 (oj d1 (oj a5 (oj c5 (oj d1 (oj a6 (oj c6 (oj d1 hTE))))))))))))))))) ?_
         exact .tup ⟨.c (.str _),.c (.int _ _),trivial⟩
       ·rw [iP (.inl rfl)]
        refine zA (oj sn (oj hT0 (oj a1 (oj c1 (oj n_1 (oj d1 (oj a2 (oj d1 (oj a4 (oj c4 (oj d1 (oj a5 (oj c5 (oj d1 (oj a6 (oj c6 (oj d1 hTE))))))))))))))))) ?_
        refine yT hC (oj sn (oj hT0 (oj a1 (oj c1 (oj n_1 (oj d1 (oj a2 (oj d1 (oj a4 (oj c4 (oj d1 (oj a5 (oj c5 (oj d1 (oj a6 (oj c6 (oj d1 hTE))))))))))))))))) ?_
        exact .tup ⟨.c (.str _),.c (.int _ _),trivial⟩
end Go.Proofs.YtngjgahldnnapaaGreatDoor
namespace Go.Proofs.YtngjgahldnnapaaGreatDoor
open Go.AI Go.PN Proofs.Tryz
theorem Qpx (a b c:List BS) (j:Nat) (hj:j<a.length+b.length+c.length):Xq (Xq (Qe a) (a.length*1) (Qe b)) ((a.length+b.length)*1) (Qe c) j=Qe (a++b++c) j:=by
 have h2:=K7 (a++b) c j (by rw [La];omega)
 rw [La] at h2
 rw [←h2]
 by_cases h:j<(a.length+b.length)*1
 ·have h1:=K7 a b j h
  show(if j<(a.length+b.length)*1 then Xq (Qe a) (a.length*1) (Qe b) j else _)=(if j<(a.length+b.length)*1 then Qe (a++b) j else _)
  rw [iP h,iP h]
  exact h1
 ·unfold Xq
  rw [iN h,iN h]
theorem Qc5 {g n:Nat} {ty:TypeId} {l:List BS} {f:Nat→CV} {h:Qa} (hg:h.get g=some (.cells ty n f)) (hn:n=l.length) (hf:∀j,j<n→f j=Qe l j):LeC h (.osl g 1 0 n) (X0 false l):=by
 subst hn
 exact .osl hg om (fun j hj=>by rw [Nz,hf j om];exact .refl _)
attribute [local irreducible] aw Fa ZN ZZ Fh YE
set_option pp.maxSteps 40000 in
set_option pp.deepTerms true in
theorem Qfx (m:Qv) (ho:Jb m) (hP:UA m=0→MdP m):Fa prog 30 [.agg (Xa true m)] (.tup [.c (.str (sB (if UA m≠0 then([],UA m) else Vo m).1)),.c (Y2 (if UA m≠0 then([],UA m) else Vo m).2)]):=by
 have f1:=Qfw m ho
 by_cases hc:UA m=0
 ·rw [iN (fun h=>h hc)]
  rw [hc] at f1
  have e0:Y2 0=.nilI:=rfl
  rw [e0] at f1
  have p:=hP hc
  have hGood:=WJ hc
  have hlong:=QwX ho hGood
  have h0l:(Xj [ZR,m.name]).length≤10000000000:=by have a:=Qnm m 0;have b:=p.len;unfold KM at a;simp only [La] at a;omega
  have nR:m.groups.length≤1099511627776:=Lt ho.gr.1 Af
  have nS:m.phases.length≤1099511627776:=Lt ho.ph.1 Af
  have nP:m.pages.length≤1099511627776:=Lt ho.pg.1 Af
  have nG:m.gates.length≤1099511627776:=Lt ho.gt.1 Af
  have nH:m.houses.length≤1099511627776:=Lt ho.hs.1 Af
  have nE:m.events.length≤1099511627776:=Lt ho.ev.1 Af
  refine fA func30 fun C hC=>?_
  refine xG ?_
  refine xB fun g1 n_1=>?_
  refine yG n_1 ?_
  refine yC n_1 (f1) ?_
  refine yG n_1 ?_
  refine yN n_1 ?_
  repeat first|apply wa1|apply wa3|apply wa4|apply wa6
  refine QT (QA.buildZ (vs:=[.pointer none,.slice none 0 0,.bool false]) kR kR) rfl rfl ?_
  refine yS n_1 ?_
  refine Zs (t:=31) (v:=.agg [.raw (.pointer none),.raw (.slice none 0 0),.bool false]) (fun S w u h=>by obtain⟨us,e,hL⟩:=h;exact⟨us,e,by match us,hL with|[_,_,_],h=>exact h⟩) rfl ?_
  refine yS n_1 ?_
  refine yB n_1 fun g5 n_5=>?_
  refine(?_:aw _ _ _ [Yv 127 [.bool false] g5 (.raw (.pointer none)) (Jq none 0),(g1,.cells 29 8 (ofL (Xa true m)))])
  have J1:=oj n_1 n_5
  refine yG J1 ?_
  refine Qn (xs:=[.const (.string (sB ZR)),.tmp 35]) (cells:=[.str (sB ZR),.str (sB m.name)]) rfl rfl rfl (zE J1) (by refine yS J1 ?_;rfl) rfl om om (by intro z hz;simp only [Lb,Lj,or_false] at hz;rcases hz with rfl|rfl<;>exact⟨rfl,rfl,rfl⟩) rfl fun g36 n_36=> ?_
  refine yS J1 ?_
  refine Qu (KT false [ZR,m.name] (by rw [←Vg];omega)) rfl rfl rfl (by refine yS J1 ?_;exact .c (Qc5 (n:=2) (ty:=9) (f:=ofL [.str (sB ZR),.str (sB m.name)]) (by simp [Qa.get]) rfl (fun q hq=>by match q,hq with|0,_=>rw [Xb];rfl|1,_=>rw [Xb];rfl))) ?_
  refine QM (Sl.le_refl _) (Ls _ _) ?_
  refine yS J1 ?_
  refine Ql (hc:=KS 127 [.bool false] g5 (.raw (.pointer none)) none []) (hr:=[(g1,.cells 29 8 (ofL (Xa true m)))]) (KL false g5 _ none [] (Xj [ZR,m.name]) ⟨.inl rfl,fun _=>rfl⟩ (by rw [Lu];omega)) rfl rfl rfl (.refl _) (zL J1) ?_
  rintro _ _ ⟨og,hog,rfl,rfl⟩ _
  refine Qi (List.perm_append_comm (l₂:=[_])) ?_
  rw [show []++Xj [ZR,m.name]++[10]=KM m 0 from by simp [KM]] at hog⊢
  refine(?_:aw _ _ _ ((g1,.cells 29 8 (ofL (Xa true m)))::KS 127 [.bool (Ui m 0)] g5 (.optr g5 0) og (KM m 0)))
  refine Xp J1 ?_
  refine Qh (fun z:Nat×Option Nat=>[(1,.c (.optr g1 0)),(5,.c (.optr g5 0)),(40,.c (evs true m.events)),(41,.c (.int .i64 m.events.length)),(42,.c (.int .i64 z.1))]) (fun z=>(g1,.cells 29 8 (ofL (Xa true m)))::KS 127 [.bool (Ui m z.1)] g5 (.optr g5 0) z.2 (KM m z.1)) (fun z=>z.1≤m.events.length∧Qa6 (.optr g5 0) g5 z.2 (KM m z.1)) (fun z=>m.events.length-z.1) (0,og) (zB J1) zZ ⟨Lz _,hog⟩ ?_
  rintro ⟨j,og1⟩ ⟨hj,hog1⟩
  dsimp only at hj hog1⊢
  by_cases hjn:j<m.events.length
  ·have d1:decide (j<m.events.length)=true:=Dt hjn
   have hx:m.events.getD j ev0∈m.events:=by rw [Lg,Li hjn];exact Le _
   obtain⟨x1,x2,x3,x4,x5⟩:=p.ev _ hx
   generalize hv:m.events.getD j ev0=x at*
   refine zA (oj n_1 (oj n_5 (oj d1 hv))) ?_
   refine yA (oj n_1 (oj n_5 (oj d1 hv))) fun g7 n_7=>?_
   refine zA (oj n_1 (oj n_5 (oj d1 (oj hv n_7)))) ?_
   have hs:=Qpj m j hjn
   have hls:=Qj4 m j hjn
   rw [hv] at hs hls
   have hb:=Qnm m (j+1)
   have hb2:=p.len
   have hlen:(KM m (j+1)).length=(KM m j).length+(Xj (evW x)).length+1:=by rw [hs];simp;omega
   have hlw:(Xj (evW x)).length=(evW x).length+VB (evW x) (evW x).length:=Vg _ _
   have he:=Qpv (Ui m j) g5 (.optr g5 0) (Jq og1 (KM m j).length) x x1 x2 x3 x4 x5 om
   refine Ql (hc:=[Yv 127 [.bool (Ui m j)] g5 (.optr g5 0) (Jq og1 (KM m j).length)]) (hr:=(g7,.cells 89 11 (ofL (evc x)))::(g1,.cells 29 8 (ofL (Xa true m)))::gh og1 5 (KM m j).length (UZ (KM m j))) he rfl rfl rfl (List.perm_middle (l₁:=[_,_])) (zL (oj n_1 (oj n_5 (oj d1 (oj hv n_7))))) ?_
   rintro _ _ ⟨rfl,rfl⟩ _
   have J2:=oj n_1 (oj n_5 (oj d1 (oj hv n_7)))
   refine yS J2 ?_
   refine Ql (hc:=KS 127 [.bool (Uh (Ui m j) x 4)] g5 (.optr g5 0) og1 (KM m j)) (hr:=[(g7,.cells 89 11 (ofL (evc x))),(g1,.cells 29 8 (ofL (Xa true m)))]) (KL _ g5 _ og1 (KM m j) (Xj (evW x)) hog1 om) rfl rfl rfl (List.Perm.cons _ (List.perm_append_comm (l₁:=[_,_]))) (zL J2) ?_
   rintro _ _ ⟨og2,hog2,rfl,rfl⟩ _
   rw [←hs] at hog2⊢
   rw [←hls]
   refine Qi (List.perm_append_comm (l₂:=[_,_])) ?_
   refine QM (Sl.le_refl _) (Ls _ _) ?_
   refine Xp J2 ?_
   exact Qb ⟨(j+1,og2),by dsimp only;omega,(zB J2),zZ,by dsimp only;omega,hog2⟩
  have d1:decide (j<m.events.length)=false:=De hjn
  obtain rfl:j=m.events.length:=by omega
  rw [show KM m m.events.length=JA m 0 from by simp [JA]] at hog1⊢
  generalize Ui m m.events.length=lo1 at*
  refine zA (oj n_1 (oj n_5 d1)) ?_
  refine Qh (fun z:Nat×Option Nat=>[(1,.c (.optr g1 0)),(5,.c (.optr g5 0)),(53,.c (hss true m.houses)),(54,.c (.int .i64 m.houses.length)),(55,.c (.int .i64 z.1))]) (fun z=>(g1,.cells 29 8 (ofL (Xa true m)))::KS 127 [.bool lo1] g5 (.optr g5 0) z.2 (JA m z.1)) (fun z=>z.1≤m.houses.length∧Qa6 (.optr g5 0) g5 z.2 (JA m z.1)) (fun z=>m.houses.length-z.1) (0,og1) (zB (oj n_1 (oj n_5 d1))) zZ ⟨Lz _,hog1⟩ ?_
  rintro ⟨j,og⟩ ⟨hj,hog⟩
  dsimp only at hj hog⊢
  by_cases hjn:j<m.houses.length
  ·have d1:decide (j<m.houses.length)=true:=Dt hjn
   have hs:=Qpf m j hjn
   have hbb:=QuJ m (j+1)
   have hb2:=p.len
   generalize hv:m.houses.getD j hs0=x at*
   obtain⟨w,hw⟩:∃w,w=if x.on then kOn else Ox:=⟨_,rfl⟩
   have hs2:JA m (j+1)=JA m j++Xj [QP,x.name,w]++[10]:=by rw [hs,hw,Lo];rfl
   have hlen:(JA m (j+1)).length=(JA m j).length+(Xj [QP,x.name,w]).length+1:=by rw [hs2];simp only [La,Lc,Lu]
   refine zA (oj n_1 (oj n_5 (oj d1 (oj d1 hv)))) ?_
   refine yA (oj n_1 (oj n_5 (oj d1 (oj d1 hv)))) fun g9 n_9=>?_
   all_goals try(have Z:=(oj n_1 (oj n_5 (oj d1 (oj d1 (oj hv n_9)))));(repeat' first|refine zV Z ?_|refine zH Z ?_ ?_<;>intro hb|fail);all_goals clear Z)
   ·have hwo:w=kOn:=by rw [hw,hb];rfl
    subst hwo
    refine Qn (xs:=[.const (.string (sB QP)),.tmp 63,.tmp 64]) (cells:=[.str (sB QP),.str (sB x.name),.str (sB kOn)]) rfl rfl rfl (zE (oj n_1 (oj n_5 (oj d1 (oj d1 (oj hv n_9)))))) (by refine yS (oj n_1 (oj n_5 (oj d1 (oj d1 (oj hv n_9))))) ?_;rfl) rfl om om (by intro z hz;simp only [Lb,Lj,or_false] at hz;rcases hz with rfl|rfl|rfl<;>exact⟨rfl,rfl,rfl⟩) rfl fun g65 n_65=> ?_
    have J3:=oj n_1 (oj n_5 (oj d1 (oj d1 (oj hv n_9))))
    refine yS J3 ?_
    refine Qu (KT false [QP,x.name,kOn] (by rw [←Vg];omega)) rfl rfl rfl (by refine yS J3 ?_;exact .c (Qc5 (n:=3) (ty:=9) (f:=ofL [.str (sB QP),.str (sB x.name),.str (sB kOn)]) (by simp [Qa.get]) rfl (fun q hq=>by match q,hq with|0,_=>rw [Xb];rfl|1,_=>rw [Xb];rfl|2,_=>rw [Xb];rfl))) ?_
    refine QM (Sl.le_refl _) (.cons _ (Ls _ _)) ?_
    refine yS J3 ?_
    refine Ql (hc:=KS 127 [.bool lo1] g5 (.optr g5 0) og (JA m j)) (hr:=[(g1,.cells 29 8 (ofL (Xa true m)))]) (KL lo1 g5 _ og (JA m j) (Xj [QP,x.name,kOn]) hog om) rfl rfl rfl (List.perm_append_comm (l₁:=[_])) (zL J3) ?_
    rintro _ _ ⟨og2,hog2,rfl,rfl⟩ _
    rw [←hs2] at hog2⊢
    refine Qi (List.perm_append_comm (l₂:=[_])) ?_
    refine Xp J3 ?_
    exact Qb ⟨(j+1,og2),by dsimp only;omega,(zB J3),zZ,by dsimp only;omega,hog2⟩
   ·have hwo:w=Ox:=by rw [hw,hb];rfl
    subst hwo
    refine Qn (xs:=[.const (.string (sB QP)),.tmp 63,.tmp 64]) (cells:=[.str (sB QP),.str (sB x.name),.str (sB Ox)]) rfl rfl rfl (zE (oj n_1 (oj n_5 (oj d1 (oj d1 (oj hv n_9)))))) (by refine yS (oj n_1 (oj n_5 (oj d1 (oj d1 (oj hv n_9))))) ?_;rfl) rfl om om (by intro z hz;simp only [Lb,Lj,or_false] at hz;rcases hz with rfl|rfl|rfl<;>exact⟨rfl,rfl,rfl⟩) rfl fun g65 n_65=> ?_
    have J4:=oj n_1 (oj n_5 (oj d1 (oj d1 (oj hv n_9))))
    refine yS J4 ?_
    refine Qu (KT false [QP,x.name,Ox] (by rw [←Vg];omega)) rfl rfl rfl (by refine yS J4 ?_;exact .c (Qc5 (n:=3) (ty:=9) (f:=ofL [.str (sB QP),.str (sB x.name),.str (sB Ox)]) (by simp [Qa.get]) rfl (fun q hq=>by match q,hq with|0,_=>rw [Xb];rfl|1,_=>rw [Xb];rfl|2,_=>rw [Xb];rfl))) ?_
    refine QM (Sl.le_refl _) (.cons _ (Ls _ _)) ?_
    refine yS J4 ?_
    refine Ql (hc:=KS 127 [.bool lo1] g5 (.optr g5 0) og (JA m j)) (hr:=[(g1,.cells 29 8 (ofL (Xa true m)))]) (KL lo1 g5 _ og (JA m j) (Xj [QP,x.name,Ox]) hog om) rfl rfl rfl (List.perm_append_comm (l₁:=[_])) (zL J4) ?_
    rintro _ _ ⟨og2,hog2,rfl,rfl⟩ _
    rw [←hs2] at hog2⊢
    refine Qi (List.perm_append_comm (l₂:=[_])) ?_
    refine Xp J4 ?_
    exact Qb ⟨(j+1,og2),by dsimp only;omega,(zB J4),zZ,by dsimp only;omega,hog2⟩
  have d1:decide (j<m.houses.length)=false:=De hjn
  obtain rfl:j=m.houses.length:=by omega
  rw [show JA m m.houses.length=Uj m 0 from by simp [Uj]] at hog⊢
  rw [show lo1=Y6 lo1 m.gates 0 from by simp [Y6]]
  refine zA (oj n_1 (oj n_5 (oj d1 d1))) ?_
  refine Qh (fun z:Nat×Option Nat=>[(1,.c (.optr g1 0)),(5,.c (.optr g5 0)),(70,.c (gts true m.gates)),(71,.c (.int .i64 m.gates.length)),(72,.c (.int .i64 z.1))]) (fun z=>(g1,.cells 29 8 (ofL (Xa true m)))::KS 127 [.bool (Y6 lo1 m.gates z.1)] g5 (.optr g5 0) z.2 (Uj m z.1)) (fun z=>z.1≤m.gates.length∧Qa6 (.optr g5 0) g5 z.2 (Uj m z.1)) (fun z=>m.gates.length-z.1) (0,og) (zB (oj n_1 (oj n_5 (oj d1 d1)))) zZ ⟨Lz _,hog⟩ ?_
  rintro ⟨j,og⟩ ⟨hj,hog⟩
  dsimp only at hj hog⊢
  by_cases hjn:j<m.gates.length
  ·have d1:decide (j<m.gates.length)=true:=Dt hjn
   have hx:m.gates.getD j gt0∈m.gates:=by rw [Lg,Li hjn];exact Le _
   obtain⟨x1,x2,x3,x4⟩:=p.gt _ hx
   have hs:=Qpg m j hjn
   have hls:=Qdu lo1 m.gates j hjn
   have hbb:=QuK m (j+1)
   have hb2:=p.len
   generalize hv:m.gates.getD j gt0=x at*
   have hlen:(Uj m (j+1)).length=(Uj m j).length+(Zj x).length+1:=by rw [hs];simp only [La,Lc,Lu]
   have hlw:(Zj x).length=(YY x).length+VB (YY x) (YY x).length:=Vg _ _
   have he:=QjW (Y6 lo1 m.gates j) g5 (.optr g5 0) (Jq og (Uj m j).length) x x1 x2 x3 x4 om
   refine zA (oj n_1 (oj n_5 (oj d1 (oj d1 (oj d1 hv))))) ?_
   refine yA (oj n_1 (oj n_5 (oj d1 (oj d1 (oj d1 hv))))) fun g12 n_12=>?_
   refine zA (oj n_1 (oj n_5 (oj d1 (oj d1 (oj d1 (oj hv n_12)))))) ?_
   refine Ql (hc:=[Yv 127 [.bool (Y6 lo1 m.gates j)] g5 (.optr g5 0) (Jq og (Uj m j).length)]) (hr:=(g12,.cells 79 7 (ofL (Zy x)))::(g1,.cells 29 8 (ofL (Xa true m)))::gh og 5 (Uj m j).length (UZ (Uj m j))) he rfl rfl rfl (List.perm_middle (l₁:=[_,_])) (zL (oj n_1 (oj n_5 (oj d1 (oj d1 (oj d1 (oj hv n_12))))))) ?_
   rintro _ _ ⟨rfl,rfl⟩ _
   rw [←hls]
   have J5:=oj n_1 (oj n_5 (oj d1 (oj d1 (oj d1 (oj hv n_12)))))
   refine yS J5 ?_
   refine Ql (hc:=KS 127 [.bool (Y6 lo1 m.gates (j+1))] g5 (.optr g5 0) og (Uj m j)) (hr:=[(g12,.cells 79 7 (ofL (Zy x))),(g1,.cells 29 8 (ofL (Xa true m)))]) (KL _ g5 _ og (Uj m j) (Zj x) hog om) rfl rfl rfl (List.Perm.cons _ (List.perm_append_comm (l₁:=[_,_]))) (zL J5) ?_
   rintro _ _ ⟨og2,hog2,rfl,rfl⟩ _
   rw [←hs] at hog2⊢
   refine Qi (List.perm_append_comm (l₂:=[_,_])) ?_
   refine QM (Sl.le_refl _) (Ls _ _) ?_
   refine Xp J5 ?_
   exact Qb ⟨(j+1,og2),by dsimp only;omega,(zB J5),zZ,by dsimp only;omega,hog2⟩
  have d1:decide (j<m.gates.length)=false:=De hjn
  obtain rfl:j=m.gates.length:=by omega
  rw [show Uj m m.gates.length=ZK m 0 from by simp [ZK]] at hog⊢
  generalize Y6 lo1 m.gates m.gates.length=lo2 at*
  rw [show lo2=Uk lo2 m.pages 0 from by simp [Uk]]
  refine zA (oj n_1 (oj n_5 (oj d1 (oj d1 d1)))) ?_
  refine Qh (fun z:Nat×Option Nat=>[(1,.c (.optr g1 0)),(5,.c (.optr g5 0)),(83,.c (pgs true m.pages)),(84,.c (.int .i64 m.pages.length)),(85,.c (.int .i64 z.1))]) (fun z=>(g1,.cells 29 8 (ofL (Xa true m)))::KS 127 [.bool (Uk lo2 m.pages z.1)] g5 (.optr g5 0) z.2 (ZK m z.1)) (fun z=>z.1≤m.pages.length∧Qa6 (.optr g5 0) g5 z.2 (ZK m z.1)) (fun z=>m.pages.length-z.1) (0,og) (zB (oj n_1 (oj n_5 (oj d1 (oj d1 d1))))) zZ ⟨Lz _,hog⟩ ?_
  rintro ⟨j,og⟩ ⟨hj,hog⟩
  dsimp only at hj hog⊢
  by_cases hjn:j<m.pages.length
  ·have d1:decide (j<m.pages.length)=true:=Dt hjn
   have hx:m.pages.getD j pg0∈m.pages:=by rw [Lg,Li hjn];exact Le _
   have hpg:=p.pg _ hx
   have nXG:(m.pages.getD j pg0).gates.length≤1099511627776:=Lt (ho.pg.2 _ hx).2.2.1 Af
   have hs:=Qph m j hjn
   have hls:=Qj3 lo2 m.pages j hjn
   have hbb:=QuL m (j+1)
   have hb2:=p.len
   generalize hv:m.pages.getD j pg0=x at*
   have hxl:(pgX x).length≤10000000000:=by rw [hs,La] at hbb;omega
   have hnl:x.name.length+x.top.length≤10000000000:=by unfold pgX UN at hxl;simp only [La,Lc] at hxl;omega
   refine zA (oj n_1 (oj n_5 (oj d1 (oj d1 (oj d1 (oj d1 hv)))))) ?_
   refine yA (oj n_1 (oj n_5 (oj d1 (oj d1 (oj d1 (oj d1 hv)))))) fun g14 n_14=>?_
   refine zA (oj n_1 (oj n_5 (oj d1 (oj d1 (oj d1 (oj d1 (oj hv n_14))))))) ?_
   refine QT (QA.addStr (a:=sB ([112,97,103,101,32]++(x.name++[32,116,111,112,32]))) (b:=sB x.top) (by show List.length _+List.length _≤_;simp only [La,Lc,Lu];omega) (zE (oj n_1 (oj n_5 (oj d1 (oj d1 (oj d1 (oj d1 (oj hv n_14)))))))) (zE (oj n_1 (oj n_5 (oj d1 (oj d1 (oj d1 (oj d1 (oj hv n_14))))))))) rfl rfl ?_
   rw [QhJ]
   have J6:=oj n_1 (oj n_5 (oj d1 (oj d1 (oj d1 (oj d1 (oj hv n_14))))))
   refine Xp J6 ?_
   refine QT (QA.addStr (a:=sB (([112,97,103,101,32]++(x.name++[32,116,111,112,32]))++x.top)) (b:=sB [32,123]) (by show List.length _+List.length _≤_;simp only [La,Lc,Lu];omega) (zE J6) (zE J6)) rfl rfl ?_
   rw [QhJ]
   refine yS J6 ?_
   refine Zs (t:=97) (v:=.c (.str (sB (QdC XT x.name x.top)))) (fun S w u h=>(show u=.string _ from h).trans (by simp [QdC])) rfl ?_
   refine yS J6 ?_
   have hin0:JB (ZK m j) x 0=ZK m j++QdC XT x.name x.top++[10]:=by unfold JB;rw [←QrN];simp
   have hinl:∀k,(JB (ZK m j) x k).length≤10000000000:=fun k=>by have a:=QuI (ZK m j) x k;rw [←hs] at a;omega
   have hin1:(ZK m j).length+(QdC XT x.name x.top).length+1≤10000000000:=by have a:=hinl 0;rw [hin0] at a;simp only [La,Lc,Lu] at a;omega
   refine Ql (hc:=KS 127 [.bool (Uk lo2 m.pages j)] g5 (.optr g5 0) og (ZK m j)) (hr:=[(g14,.cells 91 3 (ofL (pgc x))),(g1,.cells 29 8 (ofL (Xa true m)))]) (KL _ g5 _ og (ZK m j) (QdC XT x.name x.top) hog om) rfl rfl rfl (List.perm_append_comm (l₁:=[_,_])) (zL J6) ?_
   rintro _ _ ⟨og2,hog2,rfl,rfl⟩ _
   rw [←hin0] at hog2⊢
   refine Qi (List.perm_append_comm (l₂:=[_,_])) ?_
   generalize hlo:Uk lo2 m.pages j=lo3 at*
   have e3:Y6 lo3 x.gates 0=lo3:=by simp [Y6]
   refine(?_:aw _ _ _ ((g14,.cells 91 3 (ofL (pgc x)))::(g1,.cells 29 8 (ofL (Xa true m)))::KS 127 [.bool lo3] g5 (.optr g5 0) og2 (JB (ZK m j) x 0)))
   refine Xp J6 ?_
   refine Qh (fun z:Nat×Option Nat=>[(1,.c (.optr g1 0)),(5,.c (.optr g5 0)),(83,.c (pgs true m.pages)),(84,.c (.int .i64 m.pages.length)),(85,.c (.int .i64 j)),(100,.c (gts true x.gates)),(101,.c (.int .i64 x.gates.length)),(102,.c (.int .i64 z.1))]) (fun z=>(g1,.cells 29 8 (ofL (Xa true m)))::KS 127 [.bool (Y6 lo3 x.gates z.1)] g5 (.optr g5 0) z.2 (JB (ZK m j) x z.1)) (fun z=>z.1≤x.gates.length∧Qa6 (.optr g5 0) g5 z.2 (JB (ZK m j) x z.1)) (fun z=>x.gates.length-z.1) (0,og2) (zB J6) (by dsimp only;rw [e3];exact Ls _ _) ⟨Lz _,hog2⟩ ?_
   rintro ⟨k,og3⟩ ⟨hk,hog3⟩
   dsimp only at hk hog3⊢
   by_cases hkn:k<x.gates.length
   ·have d2:decide (k<x.gates.length)=true:=Dt hkn
    have hy:x.gates.getD k gt0∈x.gates:=by rw [Lg,Li hkn];exact Le _
    obtain⟨x1,x2,x3,x4⟩:=hpg _ hy
    have hs3:=Qpi (ZK m j) x k hkn
    have hls3:=Qdu lo3 x.gates k hkn
    have hb3:=hinl (k+1)
    generalize hv3:x.gates.getD k gt0=v at*
    have hlen:(JB (ZK m j) x (k+1)).length=(JB (ZK m j) x k).length+([32,32]++Zj v).length+1:=by rw [hs3];simp only [La,Lc,Lu]
    have hg2:([32,32]++Zj v).length=(Zj v).length+2:=by simp
    have hlw:(Zj v).length=(YY v).length+VB (YY v) (YY v).length:=Vg _ _
    have he:=QjW (Y6 lo3 x.gates k) g5 (.optr g5 0) (Jq og3 (JB (ZK m j) x k).length) v x1 x2 x3 x4 om
    refine zA (oj n_1 (oj n_5 (oj d1 (oj d1 (oj d1 (oj d1 (oj hv (oj n_14 (oj d2 hv3))))))))) ?_
    refine yA (oj n_1 (oj n_5 (oj d1 (oj d1 (oj d1 (oj d1 (oj hv (oj n_14 (oj d2 hv3))))))))) fun g16 n_16=>?_
    refine zA (oj n_1 (oj n_5 (oj d1 (oj d1 (oj d1 (oj d1 (oj hv (oj n_14 (oj d2 (oj hv3 n_16)))))))))) ?_
    refine Ql (hc:=[Yv 127 [.bool (Y6 lo3 x.gates k)] g5 (.optr g5 0) (Jq og3 (JB (ZK m j) x k).length)]) (hr:=(g16,.cells 79 7 (ofL (Zy v)))::(g1,.cells 29 8 (ofL (Xa true m)))::gh og3 5 (JB (ZK m j) x k).length (UZ (JB (ZK m j) x k))) he rfl rfl rfl (List.perm_middle (l₁:=[_,_])) (zL (oj n_1 (oj n_5 (oj d1 (oj d1 (oj d1 (oj d1 (oj hv (oj n_14 (oj d2 (oj hv3 n_16))))))))))) ?_
    rintro _ _ ⟨rfl,rfl⟩ _
    rw [←hls3]
    have J7:=oj n_1 (oj n_5 (oj d1 (oj d1 (oj d1 (oj d1 (oj hv (oj n_14 (oj d2 (oj hv3 n_16)))))))))
    refine Xp J7 ?_
    refine Ql (hc:=KS 127 [.bool (Y6 lo3 x.gates (k+1))] g5 (.optr g5 0) og3 (JB (ZK m j) x k)) (hr:=[(g16,.cells 79 7 (ofL (Zy v))),(g1,.cells 29 8 (ofL (Xa true m)))]) (KL _ g5 _ og3 (JB (ZK m j) x k) ([32,32]++Zj v) hog3 om) rfl rfl rfl (List.Perm.cons _ (List.perm_append_comm (l₁:=[_,_]))) (zL J7) ?_
    rintro _ _ ⟨og4,hog4,rfl,rfl⟩ _
    rw [←hs3] at hog4⊢
    refine Qi (List.perm_append_comm (l₂:=[_,_])) ?_
    refine QM (Sl.le_refl _) (Ls _ _) ?_
    refine Xp J7 ?_
    exact Qb ⟨(k+1,og4),by dsimp only;omega,(zB J7),zZ,by dsimp only;omega,hog4⟩
   ·have d2:decide (k<x.gates.length)=false:=De hkn
    obtain rfl:k=x.gates.length:=by omega
    have hend:=QrO (ZK m j) x
    rw [←hs] at hend
    have hbf:(ZK m (j+1)).length≤10000000000:=by omega
    have hbe:(JB (ZK m j) x x.gates.length).length+[(125:UInt8)].length+1≤10000000000:=by rw [←hend] at hbf;simp only [La,Lc,Lu] at hbf⊢;omega
    refine zA (oj n_1 (oj n_5 (oj d1 (oj d1 (oj d1 (oj d1 (oj hv (oj n_14 d2)))))))) ?_
    refine Ql (hc:=KS 127 [.bool (Y6 lo3 x.gates x.gates.length)] g5 (.optr g5 0) og3 (JB (ZK m j) x x.gates.length)) (hr:=[(g1,.cells 29 8 (ofL (Xa true m)))]) (KL _ g5 _ og3 (JB (ZK m j) x x.gates.length) [125] hog3 om) rfl rfl rfl (List.perm_append_comm (l₁:=[_])) (zL (oj n_1 (oj n_5 (oj d1 (oj d1 (oj d1 (oj d1 (oj hv (oj n_14 d2))))))))) ?_
    rintro _ _ ⟨og4,hog4,rfl,rfl⟩ _
    rw [hend] at hog4⊢
    rw [←hls]
    refine Qi (List.perm_append_comm (l₂:=[_])) ?_
    have J8:=oj n_1 (oj n_5 (oj d1 (oj d1 (oj d1 (oj d1 (oj hv (oj n_14 d2)))))))
    refine Xp J8 ?_
    exact Qb ⟨(j+1,og4),by dsimp only;omega,(zB J8),zZ,by dsimp only;omega,hog4⟩
  have d1:decide (j<m.pages.length)=false:=De hjn
  obtain rfl:j=m.pages.length:=by omega
  rw [show ZK m m.pages.length=V7 m 0 from by simp [V7]] at hog⊢
  generalize Uk lo2 m.pages m.pages.length=lo4 at*
  rw [show lo4=U2 lo4 m.groups 0 from by simp [U2]]
  refine zA (oj n_1 (oj n_5 (oj d1 (oj d1 (oj d1 d1))))) ?_
  refine Qh (fun z:Nat×Option Nat=>[(1,.c (.optr g1 0)),(5,.c (.optr g5 0)),(117,.c (grs true m.groups)),(118,.c (.int .i64 m.groups.length)),(119,.c (.int .i64 z.1))]) (fun z=>(g1,.cells 29 8 (ofL (Xa true m)))::KS 127 [.bool (U2 lo4 m.groups z.1)] g5 (.optr g5 0) z.2 (V7 m z.1)) (fun z=>z.1≤m.groups.length∧Qa6 (.optr g5 0) g5 z.2 (V7 m z.1)) (fun z=>m.groups.length-z.1) (0,og) (zB (oj n_1 (oj n_5 (oj d1 (oj d1 (oj d1 d1)))))) zZ ⟨Lz _,hog⟩ ?_
  rintro ⟨j,og⟩ ⟨hj,hog⟩
  dsimp only at hj hog⊢
  by_cases hjn:j<m.groups.length
  ·have d1:decide (j<m.groups.length)=true:=Dt hjn
   have hx:m.groups.getD j gr0∈m.groups:=by rw [Lg,Li hjn];exact Le _
   have hx0:=hx
   obtain⟨q,hq,hqk⟩:=p.gk _ hx
   have hfw:=p.gr _ hx
   have hxO:=ho.gr.2 _ hx
   have hs:=Qpm m j hjn
   have hls:=Qj5 lo4 m.groups j hjn
   have hbb:=QuM m (j+1)
   have hb2:=p.len
   generalize hv:m.groups.getD j gr0=x at*
   generalize hlo:U2 lo4 m.groups j=lo5 at*
   have nF:x.factors.length≤1099511627776:=Lt hxO.2.2.2.1 Af
   have nF2:x.factors.length≤1048576:=hxO.2.2.2.1
   have nM:x.members.length≤1048576:=hxO.2.1
   refine zA (oj n_1 (oj n_5 (oj d1 (oj d1 (oj d1 (oj d1 (oj d1 (oj hv hqk)))))))) ?_
   refine yA (oj n_1 (oj n_5 (oj d1 (oj d1 (oj d1 (oj d1 (oj d1 (oj hv hqk)))))))) fun g18 n_18=>?_
   refine zA (oj n_1 (oj n_5 (oj d1 (oj d1 (oj d1 (oj d1 (oj d1 (oj hv (oj hqk n_18))))))))) ?_
   refine Yf [(g18,.cells 94 4 (ofL [.str (sB x.name),.int .i64 q,X0 true x.members,VQ true x.factors]))] [(0,0),(1,0),(3,0),(4,0),(2,1),(5,0),(6,1),(7,1),(8,0)] Qg kR qa ?_
   have J9:=oj n_1 (oj n_5 (oj d1 (oj d1 (oj d1 (oj d1 (oj d1 (oj hv (oj hqk n_18))))))))
   refine yG J9 ?_
   refine Qs (xs:=[.const (.string (sB ZF)),.const (.string (sB Yh))]) (cells:=[.str (sB ZF),.str (sB Yh)]) rfl rfl rfl rfl (zE J9) (by refine yS J9 ?_;rfl) rfl om om (by intro z hz;simp only [Lb,Lj,or_false] at hz;rcases hz with rfl|rfl<;>exact⟨rfl,rfl,rfl⟩) rfl (by intro z hz;simp only [Lb,Lj,or_false] at hz;rcases hz with rfl|rfl<;>simp [Op.operands]) qa (fun g125 n_125=> ?_) (.inr ⟨rfl,rfl⟩)
   refine Xp J9 ?_
   obtain⟨w,hw⟩:∃w:BS,w=if x.kind=1 then Yh else ZF:=⟨_,rfl⟩
   have hwq:ofL [CV.str (sB ZF),.str (sB Yh)] q=.str (sB w):=by
    rw [hw,hqk]
    match q,hq with
    |0,_=>rfl
    |1,_=>rfl
   refine Qnj (r:=.c (.str (sB w))) rfl (fun ρ hρ=> ?_) rfl rfl qa ?_ (.inr ⟨rfl,rfl⟩)
   ·have hl:=QA.loadO (P:=prog) (h:=(g125,XD.cells 9 (2*1) (ofL [CV.str (sB ZF),.str (sB Yh)]))::(g18,.cells 94 4 (ofL [.str (sB x.name),.int .i64 q,X0 true x.members,VQ true x.factors]))::(g1,.cells 29 8 (ofL (Xa true m)))::KS 127 [.bool lo5] g5 (.optr g5 0) og (V7 m j)) (ρ:=ρ) (t:=9) (a:=.tmp 128) (n:=1) (m:=2) (ag:=false) (g:=g125) (off:=q) (ty:=9) (f:=ofL [CV.str (sB ZF),.str (sB Yh)]) kR (fun _=>rfl) ((hρ _ Ag).trans (zE (oj n_1 (oj n_5 (oj d1 (oj d1 (oj d1 (oj d1 (oj d1 (oj hv (oj hqk n_18))))))))))) (by simp [Qa.get]) om
    rw [iN (by simp),hwq] at hl
    exact hl
   have J10:=oj n_1 (oj n_5 (oj d1 (oj d1 (oj d1 (oj d1 (oj d1 (oj hv (oj hqk n_18))))))))
   refine Xp J10 ?_
   refine Qs (xs:=[.const (.string (sB Xf)),.tmp 124,.tmp 129]) (cells:=[.str (sB Xf),.str (sB x.name),.str (sB w)]) rfl rfl rfl rfl (zE J10) (by refine yS J10 ?_;rfl) rfl om om (by intro z hz;simp only [Lb,Lj,or_false] at hz;rcases hz with rfl|rfl|rfl<;>exact⟨rfl,rfl,rfl⟩) rfl (by intro z hz;simp only [Lb,Lj,or_false] at hz;rcases hz with rfl|rfl|rfl<;>simp [Op.operands]) qa (fun g130 n_130=> ?_) (.inr ⟨rfl,rfl⟩)
   refine Xp J10 ?_
   refine QM (h':=(g130,.cells 9 (3*1) (ofL [.str (sB Xf),.str (sB x.name),.str (sB w)]))::(g18,.cells 94 4 (ofL [.str (sB x.name),.int .i64 q,X0 true x.members,VQ true x.factors]))::(g1,.cells 29 8 (ofL (Xa true m)))::KS 127 [.bool lo5] g5 (.optr g5 0) og (V7 m j)) (Sl.le_refl _) (.cons_cons _ (.cons _ (Lr _))) ?_
   replace n_130:=Qa.ne_of n_130
   dsimp only [Qa.ne] at n_130
   have hW0:Y7 x 0=[Xf,x.name,w]:=by rw [hw];rfl
   refine QU (f':=Qe (Y7 x 0)) (fun i hi=>by rw [hW0];match i,hi with|0,_=>rw [Xb];rfl|1,_=>rw [Xb];rfl|2,_=>rw [Xb];rfl) ?_
   have hlw:(Xj (grW x)).length=(grW x).length+VB (grW x) (grW x).length:=Vg _ _
   have hgl:(V7 m (j+1)).length=(V7 m j).length+(Xj (grW x)).length+1:=by rw [hs];simp only [La,Lc,Lu]
   refine zA (oj n_1 (oj n_5 (oj d1 (oj d1 (oj d1 (oj d1 (oj d1 (oj hv (oj hqk (oj n_18 n_130)))))))))) ?_
   refine Qh (fun z:Nat×Nat=>[(1,.c (.optr g1 0)),(5,.c (.optr g5 0)),(18,.c (.optr g18 0)),(19,.c (.osl z.2 1 0 (Y7 x z.1).length)),(117,.c (grs true m.groups)),(118,.c (.int .i64 m.groups.length)),(119,.c (.int .i64 j)),(132,.c (VQ true x.factors)),(133,.c (.int .i64 x.factors.length)),(134,.c (.int .i64 z.1))]) (fun z=>(z.2,.cells 9 (Y7 x z.1).length (Qe (Y7 x z.1)))::(g18,.cells 94 4 (ofL [.str (sB x.name),.int .i64 q,X0 true x.members,VQ true x.factors]))::(g1,.cells 29 8 (ofL (Xa true m)))::KS 127 [.bool (QaG lo5 x z.1)] g5 (.optr g5 0) og (V7 m j)) (fun z=>z.1≤x.factors.length) (fun z=>x.factors.length-z.1) (0,g130) (zB (oj n_1 (oj n_5 (oj d1 (oj d1 (oj d1 (oj d1 (oj d1 (oj hv (oj hqk (oj n_18 n_130))))))))))) (by dsimp only;rw [show QaG lo5 x 0=lo5 from by simp [QaG],show(Y7 x 0).length=3 from rfl];exact Lr _) (Lz _) ?_
   rintro ⟨k,gW⟩ hk
   dsimp only at hk⊢
   have hWl:=QrP x k hk
   by_cases hkn:k<x.factors.length
   ·have d2:decide (k<x.factors.length)=true:=Dt hkn
    have hy:x.factors.getD k rd0∈x.factors:=by rw [Lg,Li hkn];exact Le _
    have hwy:=hfw _ hy
    have hs3:=Qpk x k hkn
    have hls3:=Qpl lo5 x k hkn
    generalize hv3:x.factors.getD k rd0=r at*
    generalize hlo6:QaG lo5 x k=lo6 at*
    refine zA (oj n_1 (oj n_5 (oj d1 (oj d1 (oj d1 (oj d1 (oj d1 (oj hv (oj hqk (oj n_18 (oj n_130 (oj d2 hv3)))))))))))) ?_
    refine yA (oj n_1 (oj n_5 (oj d1 (oj d1 (oj d1 (oj d1 (oj d1 (oj hv (oj hqk (oj n_18 (oj n_130 (oj d2 hv3)))))))))))) fun g21 n_21=>?_
    refine zA (oj n_1 (oj n_5 (oj d1 (oj d1 (oj d1 (oj d1 (oj d1 (oj hv (oj hqk (oj n_18 (oj n_130 (oj d2 (oj hv3 n_21))))))))))))) ?_
    refine Ql (hc:=[Yv 127 [.bool lo6] g5 (.optr g5 0) (Jq og (V7 m j).length)]) (hr:=(g21,.cells 77 3 (ofL (Y1 r)))::(gW,.cells 9 (Y7 x k).length (Qe (Y7 x k)))::(g18,.cells 94 4 (ofL [.str (sB x.name),.int .i64 q,X0 true x.members,VQ true x.factors]))::(g1,.cells 29 8 (ofL (Xa true m)))::gh og 5 (V7 m j).length (UZ (V7 m j))) (Oc lo6 g5 (.optr g5 0) (Jq og (V7 m j).length) r hwy) rfl rfl rfl (List.perm_middle (l₁:=[_,_,_,_])) (zL (oj n_1 (oj n_5 (oj d1 (oj d1 (oj d1 (oj d1 (oj d1 (oj hv (oj hqk (oj n_18 (oj n_130 (oj d2 (oj hv3 n_21)))))))))))))) ?_
    rintro _ _ ⟨rfl,rfl⟩ _
    rw [←hls3]
    refine Qi (h':=(gW,.cells 9 (Y7 x k).length (Qe (Y7 x k)))::(g21,.cells 77 3 (ofL (Y1 r)))::(g18,.cells 94 4 (ofL [.str (sB x.name),.int .i64 q,X0 true x.members,VQ true x.factors]))::(g1,.cells 29 8 (ofL (Xa true m)))::KS 127 [.bool (QaG lo5 x (k+1))] g5 (.optr g5 0) og (V7 m j)) ((List.perm_middle (l₁:=[_,_,_,_])).symm.trans (List.Perm.swap _ _ _)) ?_
    have J11:=oj n_1 (oj n_5 (oj d1 (oj d1 (oj d1 (oj d1 (oj d1 (oj hv (oj hqk (oj n_18 (oj n_130 (oj d2 (oj hv3 n_21))))))))))))
    refine Xp J11 ?_
    refine Qn (xs:=[.tmp 141]) (cells:=[.str (sB (Xr r))]) rfl rfl rfl (zE J11) (by refine yS J11 ?_;rfl) rfl om om qd rfl fun g142 n_142=> ?_
    have hne:(g142=gW)=False:=eq_false fun e=>n_142 (by subst e;simp [Qa.keys])
    refine yS J11 ?_
    refine YC (size:=1) (g:=gW) (n:=(Y7 x k).length) (m:=(Y7 x k).length) (k:=1) (f:=Qe (Y7 x k)) (f2:=Qe [Xr r]) (cx:=.osl g142 1 0 1) (h2:=(g142,.cells 9 (1*1) (ofL [.str (sB (Xr r))]))::(g21,.cells 77 3 (ofL (Y1 r)))::(g18,.cells 94 4 (ofL [.str (sB x.name),.int .i64 q,X0 true x.members,VQ true x.factors]))::(g1,.cells 29 8 (ofL (Xa true m)))::KS 127 [.bool (QaG lo5 x (k+1))] g5 (.optr g5 0) og (V7 m j)) rfl rfl rfl (by exact XL) (by exact Zb) rfl om (zE J11) (by simp [Qa.get,hne]) om (zE J11)
     (.osl (m:=1) (ty:=9) (f':=ofL [.str (sB (Xr r))]) (by simp [Qa.get]) om (fun i hi=>by match i,hi with|0,_=>rw [Xb];rfl)) (fun i _=>Yb _ i) om qc om (by simp [Qa.del,hne]) fun g143 n_143=> ?_
    refine Xp J11 ?_
    refine QM (h':=(g143,.cells 9 ((Y7 x k).length+1) (Xq (Qe (Y7 x k)) (Y7 x k).length (Qe [Xr r])))::(g18,.cells 94 4 (ofL [.str (sB x.name),.int .i64 q,X0 true x.members,VQ true x.factors]))::(g1,.cells 29 8 (ofL (Xa true m)))::KS 127 [.bool (QaG lo5 x (k+1))] g5 (.optr g5 0) og (V7 m j)) (Sl.le_refl _) (.cons_cons _ (.cons _ (.cons _ (Lr _)))) ?_
    refine QU (f':=Qe (Y7 x (k+1))) (fun i hi=>by rw [hs3];have:=K7 (Y7 x k) [Xr r] i (by simpa using hi);simpa using this) ?_
    rw [show(Y7 x k).length+1=(Y7 x (k+1)).length from by rw [hs3];simp]
    exact Qb ⟨(k+1,g143),by dsimp only;omega,(zB J11),zZ,by dsimp only;omega⟩
   ·have d2:decide (k<x.factors.length)=false:=De hkn
    obtain rfl:k=x.factors.length:=by omega
    have hwe:=QrQ x
    have hmem:0<x.members.length:=by
     have:=(hGood.gr x hx0).2.2.1.1
     omega
    refine zA (oj n_1 (oj n_5 (oj d1 (oj d1 (oj d1 (oj d1 (oj d1 (oj hv (oj hqk (oj n_18 (oj n_130 d2))))))))))) ?_
    refine Yf [(g18,.cells 94 4 (ofL [.str (sB x.name),.int .i64 q,X0 true x.members,VQ true x.factors]))] [(0,0),(1,0),(4,0),(5,0),(2,1),(3,1),(6,1),(7,1),(8,2)] Qg kR qa ?_
    have J12:=oj n_1 (oj n_5 (oj d1 (oj d1 (oj d1 (oj d1 (oj d1 (oj hv (oj hqk (oj n_18 (oj n_130 d2))))))))))
    refine yG J12 ?_
    refine Qs (xs:=[.const (.string (sB Zi))]) (cells:=[.str (sB Zi)]) rfl rfl rfl rfl (zE J12) (by refine yS J12 ?_;rfl) rfl om om (by intro z hz;simp only [Lv] at hz;subst hz;exact⟨rfl,rfl,rfl⟩) rfl (by intro z hz;simp only [Lv] at hz;subst hz;simp [Op.operands]) qa (fun g147 n_147=> ?_) (.inr ⟨rfl,rfl⟩)
    have hne:(g147=gW)=False:=eq_false fun e=>n_147 (by subst e;simp [Qa.keys])
    refine Xp J12 ?_
    refine KK (size:=1) (n:=(Y7 x x.factors.length).length) (k:=1) (m:=(Y7 x x.factors.length).length) (g:=gW) (f:=Qe (Y7 x x.factors.length)) (f2:=Qe [Zi]) (cx:=.osl g147 1 0 1) (h2:=(g147,.cells 9 (1*1) (ofL [.str (sB Zi)]))::(g18,.cells 94 4 (ofL [.str (sB x.name),.int .i64 q,X0 true x.members,VQ true x.factors]))::(g1,.cells 29 8 (ofL (Xa true m)))::KS 127 [.bool (QaG lo5 x x.factors.length)] g5 (.optr g5 0) og (V7 m j)) rfl rfl rfl rfl (by exact XL) (by exact Zb) rfl om (zE J12) (by simp [Qa.get,hne]) om (zE J12)
     (.osl (m:=1) (ty:=9) (f':=ofL [.str (sB Zi)]) (by simp [Qa.get]) om (fun i hi=>by match i,hi with|0,_=>rw [Xb];rfl)) (fun i _=>Yb _ i) om qc om (by simp [Qa.del,hne]) qa (fun g148 n_148=> ?_) (.inr ⟨rfl,rfl⟩)
    refine Xp J12 ?_
    refine KK (size:=1) (n:=(Y7 x x.factors.length).length+1) (k:=x.members.length) (m:=((Y7 x x.factors.length).length+1)*1) (g:=g148) (f:=Xq (Qe (Y7 x x.factors.length)) ((Y7 x x.factors.length).length*1) (Qe [Zi])) (f2:=Qe x.members) (cx:=X0 true x.members) (h2:=(g147,.cells 9 (1*1) (ofL [.str (sB Zi)]))::(g18,.cells 94 4 (ofL [.str (sB x.name),.int .i64 q,X0 true x.members,VQ true x.factors]))::(g1,.cells 29 8 (ofL (Xa true m)))::KS 127 [.bool (QaG lo5 x x.factors.length)] g5 (.optr g5 0) og (V7 m j)) rfl rfl rfl rfl (by exact XL) (by exact Zb) rfl om (zE J12) (by simp [Qa.get]) om (zE J12)
     .row (fun i _=>Yb _ i) hmem qc om (by simp [Qa.del]) qa (fun g151 n_151=> ?_) (.inr ⟨rfl,rfl⟩)
    refine Xp J12 ?_
    have hWn:(Y7 x x.factors.length).length+1+x.members.length=(grW x).length:=by rw [←hwe,La,La];rfl
    refine Qgp (args:=[.c (X0 false (grW x))]) rfl (KT false (grW x) (by rw [←hlw];omega)) rfl rfl rfl (by refine yS J12 ?_;exact .c (by
     rw [hWn]
     refine Qc5 (n:=(grW x).length) (ty:=9) (f:=Xq (Xq (Qe (Y7 x x.factors.length)) ((Y7 x x.factors.length).length*1) (Qe [Zi])) (((Y7 x x.factors.length).length+1)*1) (Qe x.members)) (by simp [Qa.get,hWn]) rfl (fun i hi=>by rw [←hwe];exact Qpx (Y7 x x.factors.length) [Zi] x.members i (by rw [←hWn] at hi;exact hi)))) qa ?_ (.inr ⟨rfl,rfl⟩)
    refine Xp J12 ?_
    refine Kc (FP':=[]) (hc:=KS 127 [.bool (QaG lo5 x x.factors.length)] g5 (.optr g5 0) og (V7 m j)) (hr:=[(g151,.cells 9 ((Y7 x x.factors.length).length+1+x.members.length) (Xq (Xq (Qe (Y7 x x.factors.length)) (Y7 x x.factors.length).length (Qe [Zi])) ((Y7 x x.factors.length).length+1) (Qe x.members))),(g147,.cells 9 (1*1) (ofL [.str (sB Zi)])),(g18,.cells 94 4 (ofL [.str (sB x.name),.int .i64 q,X0 true x.members,VQ true x.factors])),(g1,.cells 29 8 (ofL (Xa true m)))]) rfl (KL _ g5 _ og (V7 m j) (Xj (grW x)) hog om) rfl rfl rfl (List.perm_append_comm (l₁:=[_,_,_,_])) (zL J12) (fun _ _ _=>Qf) ?_
    rintro _ _ ⟨og2,hog2,rfl,rfl⟩ _
    rw [←hs] at hog2⊢
    refine Xp J12 ?_
    refine QM (h':=KS 127 [.bool (QaG lo5 x x.factors.length)] g5 (.optr g5 0) og2 (V7 m (j+1))++[(g1,.cells 29 8 (ofL (Xa true m)))]) (Sl.le_refl _) (List.Sublist.append_left (.cons _ (.cons _ (.cons _ (Lr _)))) _) ?_
    refine Qi (List.perm_append_comm (l₂:=[_])) ?_
    rw [←hls]
    exact Qb ⟨(j+1,og2),by dsimp only;omega,(zB J12),zZ,by dsimp only;omega,hog2⟩
  ·have d1:decide (j<m.groups.length)=false:=De hjn
   obtain rfl:j=m.groups.length:=by omega
   rw [show V7 m m.groups.length=Zw m 0 from by simp [Zw]] at hog⊢
   generalize U2 lo4 m.groups m.groups.length=lo7 at*
   rw [show lo7=Ul lo7 m.phases 0 from by simp [Ul]]
   refine zA (oj n_1 (oj n_5 (oj d1 (oj d1 (oj d1 (oj d1 d1)))))) ?_
   refine Qh (fun z:Nat×Option Nat=>[(1,.c (.optr g1 0)),(5,.c (.optr g5 0)),(156,.c (phs true m.phases)),(157,.c (.int .i64 m.phases.length)),(158,.c (.int .i64 z.1))]) (fun z=>(g1,.cells 29 8 (ofL (Xa true m)))::KS 127 [.bool (Ul lo7 m.phases z.1)] g5 (.optr g5 0) z.2 (Zw m z.1)) (fun z=>z.1≤m.phases.length∧Qa6 (.optr g5 0) g5 z.2 (Zw m z.1)) (fun z=>m.phases.length-z.1) (0,og) (zB (oj n_1 (oj n_5 (oj d1 (oj d1 (oj d1 (oj d1 d1))))))) zZ ⟨Lz _,hog⟩ ?_
   rintro ⟨j,og⟩ ⟨hj,hog⟩
   dsimp only at hj hog⊢
   by_cases hjn:j<m.phases.length
   ·have d1:decide (j<m.phases.length)=true:=Dt hjn
    have hx:m.phases.getD j ph0∈m.phases:=by rw [Lg,Li hjn];exact Le _
    have hvw:=p.ph _ hx
    have nV:(m.phases.getD j ph0).values.length≤1099511627776:=Lt (ho.ph.2 _ hx).2.2.1 Af
    have hs:=Qpn m j hjn
    have hls:=Qj6 lo7 m.phases j hjn
    have hbb:=QuO m (j+1)
    have hb2:=p.len
    generalize hv:m.phases.getD j ph0=x at*
    have hxl:(phX x).length≤10000000000:=by rw [hs,La] at hbb;omega
    have hnl:x.name.length+x.top.length≤10000000000:=by unfold phX UN at hxl;simp only [La,Lc] at hxl;omega
    refine zA (oj n_1 (oj n_5 (oj d1 (oj d1 (oj d1 (oj d1 (oj d1 (oj d1 hv)))))))) ?_
    refine yA (oj n_1 (oj n_5 (oj d1 (oj d1 (oj d1 (oj d1 (oj d1 (oj d1 hv)))))))) fun g23 n_23=>?_
    refine zA (oj n_1 (oj n_5 (oj d1 (oj d1 (oj d1 (oj d1 (oj d1 (oj d1 (oj hv n_23))))))))) ?_
    refine QT (QA.addStr (a:=sB ([112,104,97,115,101,32]++(x.name++[32,116,111,112,32]))) (b:=sB x.top) (by show List.length _+List.length _≤_;simp only [La,Lc,Lu];omega) (zE (oj n_1 (oj n_5 (oj d1 (oj d1 (oj d1 (oj d1 (oj d1 (oj d1 (oj hv n_23)))))))))) (zE (oj n_1 (oj n_5 (oj d1 (oj d1 (oj d1 (oj d1 (oj d1 (oj d1 (oj hv n_23))))))))))) rfl rfl ?_
    rw [QhJ]
    have J13:=oj n_1 (oj n_5 (oj d1 (oj d1 (oj d1 (oj d1 (oj d1 (oj d1 (oj hv n_23))))))))
    refine Xp J13 ?_
    refine QT (QA.addStr (a:=sB (([112,104,97,115,101,32]++(x.name++[32,116,111,112,32]))++x.top)) (b:=sB [32,123]) (by show List.length _+List.length _≤_;simp only [La,Lc,Lu];omega) (zE J13) (zE J13)) rfl rfl ?_
    rw [QhJ]
    refine yS J13 ?_
    refine Zs (t:=170) (v:=.c (.str (sB (QdC Q9 x.name x.top)))) (fun S w u h=>(show u=.string _ from h).trans (by simp [QdC])) rfl ?_
    refine yS J13 ?_
    have hin0:Jh (Zw m j) x 0=Zw m j++QdC Q9 x.name x.top++[10]:=by unfold Jh;rw [←QrN];simp
    have hinl:∀k,(Jh (Zw m j) x k).length≤10000000000:=fun k=>by have a:=QuN (Zw m j) x k;rw [←hs] at a;omega
    have hin1:(Zw m j).length+(QdC Q9 x.name x.top).length+1≤10000000000:=by have a:=hinl 0;rw [hin0] at a;simp only [La,Lc,Lu] at a;omega
    refine Ql (hc:=KS 127 [.bool (Ul lo7 m.phases j)] g5 (.optr g5 0) og (Zw m j)) (hr:=[(g23,.cells 97 3 (ofL (WR x))),(g1,.cells 29 8 (ofL (Xa true m)))]) (KL _ g5 _ og (Zw m j) (QdC Q9 x.name x.top) hog om) rfl rfl rfl (List.perm_append_comm (l₁:=[_,_])) (zL J13) ?_
    rintro _ _ ⟨og2,hog2,rfl,rfl⟩ _
    rw [←hin0] at hog2⊢
    refine Qi (List.perm_append_comm (l₂:=[_,_])) ?_
    generalize hlo:Ul lo7 m.phases j=lo3 at*
    have e3:QdD lo3 x.values 0=lo3:=by simp [QdD]
    refine(?_:aw _ _ _ ((g23,.cells 97 3 (ofL (WR x)))::(g1,.cells 29 8 (ofL (Xa true m)))::KS 127 [.bool lo3] g5 (.optr g5 0) og2 (Jh (Zw m j) x 0)))
    refine Xp J13 ?_
    refine Qh (fun z:Nat×Option Nat=>[(1,.c (.optr g1 0)),(5,.c (.optr g5 0)),(156,.c (phs true m.phases)),(157,.c (.int .i64 m.phases.length)),(158,.c (.int .i64 j)),(173,.c (vls true x.values)),(174,.c (.int .i64 x.values.length)),(175,.c (.int .i64 z.1))]) (fun z=>(g1,.cells 29 8 (ofL (Xa true m)))::KS 127 [.bool (QdD lo3 x.values z.1)] g5 (.optr g5 0) z.2 (Jh (Zw m j) x z.1)) (fun z=>z.1≤x.values.length∧Qa6 (.optr g5 0) g5 z.2 (Jh (Zw m j) x z.1)) (fun z=>x.values.length-z.1) (0,og2) (zB J13) (by dsimp only;rw [e3];exact Ls _ _) ⟨Lz _,hog2⟩ ?_
    rintro ⟨k,og3⟩ ⟨hk,hog3⟩
    dsimp only at hk hog3⊢
    by_cases hkn:k<x.values.length
    ·have d2:decide (k<x.values.length)=true:=Dt hkn
     have hy:x.values.getD k vl0∈x.values:=by rw [Lg,Li hkn];exact Le _
     have x1:=hvw _ hy
     have hs3:=Qpp (Zw m j) x k hkn
     have hls3:=Qpo lo3 x.values k hkn
     have hb3:=hinl (k+1)
     generalize hv3:x.values.getD k vl0=v at*
     generalize hlo6:QdD lo3 x.values k=lo6 at*
     have hlen:(Jh (Zw m j) x (k+1)).length=(Jh (Zw m j) x k).length+([32,32]++Xj [v.event,Xr v.p]).length+1:=by rw [hs3];simp only [La,Lc,Lu]
     have hg2:([32,32]++Xj [v.event,Xr v.p]).length=(Xj [v.event,Xr v.p]).length+2:=by simp
     have hlw:(Xj [v.event,Xr v.p]).length=([v.event,Xr v.p]:List BS).length+VB [v.event,Xr v.p] ([v.event,Xr v.p]:List BS).length:=Vg _ _
     refine zA (oj n_1 (oj n_5 (oj d1 (oj d1 (oj d1 (oj d1 (oj d1 (oj d1 (oj hv (oj n_23 (oj d2 hv3))))))))))) ?_
     refine yA (oj n_1 (oj n_5 (oj d1 (oj d1 (oj d1 (oj d1 (oj d1 (oj d1 (oj hv (oj n_23 (oj d2 hv3))))))))))) fun g25 n_25=>?_
     refine zA (oj n_1 (oj n_5 (oj d1 (oj d1 (oj d1 (oj d1 (oj d1 (oj d1 (oj hv (oj n_23 (oj d2 (oj hv3 n_25)))))))))))) ?_
     refine Yf [(g25,.cells 99 4 (ofL (vlc v)))] [(0,0),(1,0),(2,0),(3,0),(4,0),(5,0),(6,1),(7,1),(8,1),(9,0),(10,2)] Qg kR qa ?_
     have J14:=oj n_1 (oj n_5 (oj d1 (oj d1 (oj d1 (oj d1 (oj d1 (oj d1 (oj hv (oj n_23 (oj d2 (oj hv3 n_25)))))))))))
     refine yG J14 ?_
     refine Kc (hc:=[Yv 127 [.bool lo6] g5 (.optr g5 0) (Jq og3 (Jh (Zw m j) x k).length)]) (hr:=(g25,.cells 99 4 (ofL (vlc v)))::(g1,.cells 29 8 (ofL (Xa true m)))::gh og3 5 (Jh (Zw m j) x k).length (UZ (Jh (Zw m j) x k))) rfl (Oc lo6 g5 (.optr g5 0) (Jq og3 (Jh (Zw m j) x k).length) v.p x1) rfl rfl rfl (List.perm_middle (l₁:=[_,_])) (zL J14) (fun _ _ hq=>by obtain⟨_,rfl⟩:=hq;exact Qm (by simp) Qf) ?_ (hm:=.inr ⟨rfl,rfl⟩)
     rintro _ _ ⟨rfl,rfl⟩ _
     rw [←hls3]
     refine Xp J14 ?_
     refine Qs (xs:=[.tmp 181,.tmp 185]) (cells:=[.str (sB v.event),.str (sB (Xr v.p))]) rfl rfl rfl rfl (zE J14) (by refine yS J14 ?_;rfl) rfl om om (by intro z hz;simp only [Lb,Lj,or_false] at hz;rcases hz with rfl|rfl<;>exact⟨rfl,rfl,rfl⟩) rfl (by intro z hz;simp only [Lb,Lj,or_false] at hz;rcases hz with rfl|rfl<;>simp [Op.operands]) qa (fun g186 n_186=> ?_) (.inr ⟨rfl,rfl⟩)
     refine Xp J14 ?_
     refine Qgp (args:=[.c (X0 false [v.event,Xr v.p])]) rfl (KT false [v.event,Xr v.p] (by rw [←hlw];omega)) rfl rfl rfl (by refine yS J14 ?_;exact .c (Qc5 (n:=2) (ty:=9) (f:=ofL [.str (sB v.event),.str (sB (Xr v.p))]) (by simp [Qa.get]) rfl (fun i hi=>by match i,hi with|0,_=>rw [Xb];rfl|1,_=>rw [Xb];rfl))) qa ?_ (.inr ⟨rfl,rfl⟩)
     refine Xp J14 ?_
     refine Kc (FP':=[]) (hc:=KS 127 [.bool (QdD lo3 x.values (k+1))] g5 (.optr g5 0) og3 (Jh (Zw m j) x k)) (hr:=[(g186,.cells 9 (2*1) (ofL [.str (sB v.event),.str (sB (Xr v.p))])),(g25,.cells 99 4 (ofL (vlc v))),(g1,.cells 29 8 (ofL (Xa true m)))]) rfl (KL _ g5 _ og3 (Jh (Zw m j) x k) ([32,32]++Xj [v.event,Xr v.p]) hog3 om) rfl rfl rfl (by
      refine((List.Perm.cons _ (List.perm_middle (l₁:=[_,_]).symm)).trans ?_)
      exact List.perm_append_comm (l₁:=[_,_,_])) (zL J14) (fun _ _ _=>Qf) ?_
     rintro _ _ ⟨og4,hog4,rfl,rfl⟩ _
     rw [←hs3] at hog4⊢
     refine Xp J14 ?_
     refine QM (h':=KS 127 [.bool (QdD lo3 x.values (k+1))] g5 (.optr g5 0) og4 (Jh (Zw m j) x (k+1))++[(g1,.cells 29 8 (ofL (Xa true m)))]) (Sl.le_refl _) (List.Sublist.append_left (.cons _ (.cons _ (Lr _))) _) ?_
     refine Qi (List.perm_append_comm (l₂:=[_])) ?_
     exact Qb ⟨(k+1,og4),by dsimp only;omega,(zB J14),zZ,by dsimp only;omega,hog4⟩
    ·have d2:decide (k<x.values.length)=false:=De hkn
     obtain rfl:k=x.values.length:=by omega
     have hend:=QrR (Zw m j) x
     rw [←hs] at hend
     have hbf:(Zw m (j+1)).length≤10000000000:=by omega
     have hbe:(Jh (Zw m j) x x.values.length).length+[(125:UInt8)].length+1≤10000000000:=by rw [←hend] at hbf;simp only [La,Lc,Lu] at hbf⊢;omega
     refine zA (oj n_1 (oj n_5 (oj d1 (oj d1 (oj d1 (oj d1 (oj d1 (oj d1 (oj hv (oj n_23 d2)))))))))) ?_
     refine Ql (hc:=KS 127 [.bool (QdD lo3 x.values x.values.length)] g5 (.optr g5 0) og3 (Jh (Zw m j) x x.values.length)) (hr:=[(g1,.cells 29 8 (ofL (Xa true m)))]) (KL _ g5 _ og3 (Jh (Zw m j) x x.values.length) [125] hog3 om) rfl rfl rfl (List.perm_append_comm (l₁:=[_])) (zL (oj n_1 (oj n_5 (oj d1 (oj d1 (oj d1 (oj d1 (oj d1 (oj d1 (oj hv (oj n_23 d2))))))))))) ?_
     rintro _ _ ⟨og4,hog4,rfl,rfl⟩ _
     rw [hend] at hog4⊢
     rw [←hls]
     refine Qi (List.perm_append_comm (l₂:=[_])) ?_
     have J15:=oj n_1 (oj n_5 (oj d1 (oj d1 (oj d1 (oj d1 (oj d1 (oj d1 (oj hv (oj n_23 d2)))))))))
     refine Xp J15 ?_
     exact Qb ⟨(j+1,og4),by dsimp only;omega,(zB J15),zZ,by dsimp only;omega,hog4⟩
   ·have d1:decide (j<m.phases.length)=false:=De hjn
    obtain rfl:j=m.phases.length:=by omega
    have hend:=QrS m
    have hb2:=p.len
    have hbe:(Zw m m.phases.length).length+(Xj [Yx,m.top]).length+1≤10000000000:=by rw [←hend] at hb2;simp only [La,Lc,Lu] at hb2⊢;omega
    refine zA (oj n_1 (oj n_5 (oj d1 (oj d1 (oj d1 (oj d1 (oj d1 d1))))))) ?_
    refine Qn (xs:=[.const (.string (sB Yx)),.tmp 196]) (cells:=[.str (sB Yx),.str (sB m.top)]) rfl rfl rfl (zE (oj n_1 (oj n_5 (oj d1 (oj d1 (oj d1 (oj d1 (oj d1 d1)))))))) (by refine yS (oj n_1 (oj n_5 (oj d1 (oj d1 (oj d1 (oj d1 (oj d1 d1))))))) ?_;rfl) rfl om om (by intro z hz;simp only [Lb,Lj,or_false] at hz;rcases hz with rfl|rfl<;>exact⟨rfl,rfl,rfl⟩) rfl fun g197 n_197=> ?_
    have J16:=oj n_1 (oj n_5 (oj d1 (oj d1 (oj d1 (oj d1 (oj d1 d1))))))
    refine yS J16 ?_
    refine Qu (KT false [Yx,m.top] (by rw [←Vg];omega)) rfl rfl rfl (by refine yS J16 ?_;exact .c (Qc5 (n:=2) (ty:=9) (f:=ofL [.str (sB Yx),.str (sB m.top)]) (by simp [Qa.get]) rfl (fun q hq=>by match q,hq with|0,_=>rw [Xb];rfl|1,_=>rw [Xb];rfl))) ?_
    refine QM (Sl.le_refl _) (.cons _ (.cons _ (Lr _))) ?_
    refine yS J16 ?_
    refine Ql (hc:=KS 127 [.bool (Ul lo7 m.phases m.phases.length)] g5 (.optr g5 0) og (Zw m m.phases.length)) (hr:=[]) (KL _ g5 _ og (Zw m m.phases.length) (Xj [Yx,m.top]) hog om) rfl rfl rfl (by rw [Lp]) (zL J16) ?_
    rintro _ _ ⟨og2,hog2,rfl,rfl⟩ _
    rw [hend] at hog2⊢
    rw [Lp]
    rw [hlong]
    have hog0:og2=none→XZ m=[]:=fun e=>Lh.1 (hog2.2 e)
    by_cases hL:Jp m=true
    ·have hR:Vo m=([],4):=by unfold Vo;rw [iP (.inl hL)]
     rw [hR,hL]
     refine zA J16 ?_
     refine yT hC J16 ?_
     exact .tup ⟨.c (.str _),.c (Ws rfl om),trivial⟩
    ·have hL':Jp m=false:=by simpa using hL
     rw [hL']
     refine zA J16 ?_
     refine Ql (hc:=KS 127 [.bool false] g5 (.optr g5 0) og2 (XZ m)) (hr:=[]) (Qun g5 _ og2 (XZ m) hog2.2) rfl rfl rfl (by rw [Lp]) (zL J16) ?_
     rintro _ _ ⟨rfl,rfl⟩ _
     rw [Lp]
     refine yS J16 ?_
     by_cases hl:(XZ m).length>65536
     ·have hR:Vo m=([],4):=by unfold Vo;rw [iP (.inr hl)]
      have d3:decide (((XZ m).length:Int)>65536)=true:=Dt om
      rw [hR]
      refine zA (oj n_1 (oj n_5 (oj d1 (oj d1 (oj d1 (oj d1 (oj d1 (oj d1 d3)))))))) ?_
      refine yT hC (oj n_1 (oj n_5 (oj d1 (oj d1 (oj d1 (oj d1 (oj d1 (oj d1 d3)))))))) ?_
      exact .tup ⟨.c (.str _),.c (Ws rfl om),trivial⟩
     ·have hR:Vo m=(XZ m,0):=by unfold Vo;rw [iN (by rw [hL'];simpa using hl)]
      have d3:decide (((XZ m).length:Int)>65536)=false:=De om
      rw [hR]
      refine zA (oj n_1 (oj n_5 (oj d1 (oj d1 (oj d1 (oj d1 (oj d1 (oj d1 d3)))))))) ?_
      have hne:XZ m≠[]:=by unfold XZ Xj;simp
      refine Ql (hc:=KS 127 [.bool false] g5 (.optr g5 0) og2 (XZ m)) (hr:=[]) (QjE g5 _ og2 (XZ m) hog0 (fun e=>absurd e hne) om) rfl rfl rfl (by rw [Lp]) (zL (oj n_1 (oj n_5 (oj d1 (oj d1 (oj d1 (oj d1 (oj d1 (oj d1 d3))))))))) ?_
      rintro _ _ ⟨rfl,rfl⟩ _
      have J17:=oj n_1 (oj n_5 (oj d1 (oj d1 (oj d1 (oj d1 (oj d1 (oj d1 d3)))))))
      refine yS J17 ?_
      refine zA J17 ?_
      refine yT hC J17 ?_
      exact .tup ⟨.c (.str _),.c (Z6 rfl),trivial⟩
 ·rw [iP hc]
  have hc':(!decide (UA m=0))=true:=by rw [De hc];rfl
  refine fA func30 fun C hC=>?_
  refine xG ?_
  refine xB fun g1 n_1=>?_
  refine Zo (oj n_1 hc') f1 ?_
  refine yT hC (oj n_1 hc') ?_
  exact .tup ⟨.c (.str _),.c Zv,trivial⟩
end Go.Proofs.YtngjgahldnnapaaGreatDoor
