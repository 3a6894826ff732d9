/- Parts of one proof, laid by a program. -/
import Derived.Test.YtngjgahldnnapaaGreatDoorM00
import Derived.Test.YtngjgahldnnapaaGreatDoorM02
import Derived.Test.YtngjgahldnnapaaGreatDoorProg
import Derived.KernelRfl
set_option linter.unusedSimpArgs false
set_option linter.unusedVariables false
set_option maxRecDepth 100000
set_option maxHeartbeats 12800000
namespace Go.PN
theorem OU (n j:Nat):(List.replicate n 0).getD j 0=0:=by
 rw [Lg,List.getElem?_replicate];split<;>rfl
theorem Vu {n:Nat} (hn:n≤32):(4294967296:Nat)=2^n*2^(32-n):=by
 rw [←Nat.pow_add,show n+(32-n)=32 from by omega]
theorem QmD (x n:Nat) (hn:n≤32):x*2^n%4294967296=2^n*(x%2^(32-n)):=by
 rw [Vu hn,Nc x,Nat.mul_mod_mul_left]
theorem Qwl {z x n:Nat} (hn:n≤32) (hz:z<2^n):z|||x*2^n%4294967296=z+x*2^n%4294967296:=by
 rw [QmD x n hn,Nat.or_comm,←Nat.two_pow_add_eq_or_of_lt hz,Nat.add_comm]
theorem Qop {z x n:Nat} (hn:n≤32) (hz:z<2^n):z+x*2^n%4294967296<4294967296:=by
 rw [QmD x n hn]
 have h1:x%2^(32-n)+1≤2^(32-n):=Nat.mod_lt _ (Nat.two_pow_pos _)
 have h2:=Nat.mul_le_mul_left (2^n) h1
 rw [←Vu hn,Nat.mul_add] at h2
 omega
theorem Qwm {x n:Nat} (hx:x<4294967296):x*2^n/4294967296<2^n:=by
 rw [Nat.div_lt_iff_lt_mul om,Nc (2^n)]
 exact Nat.mul_lt_mul_of_pos_right hx (Nat.two_pow_pos _)
theorem Qoq {xs zs:List Nat} {i n:Nat} (hi:i+1<zs.length) (h0:zs.getD (i+1) 0=0) (h:val zs=val (xs.take i)*2^n):
  val ((zs.set i (zs.getD i 0+xs.getD i 0*2^n%4294967296)).set (i+1) (xs.getD i 0*2^n/4294967296))=val (xs.take (i+1))*2^n:=by
 have h1:=QdP (zs:=zs) (j:=i) (v:=zs.getD i 0+xs.getD i 0*2^n%4294967296) om
 have h2:=QdP (zs:=zs.set i (zs.getD i 0+xs.getD i 0*2^n%4294967296)) (j:=i+1) (v:=xs.getD i 0*2^n/4294967296) (by simpa using hi)
 rw [getD_set_ne om,h0] at h2
 rw [Qy,Nat.add_mul,←h]
 generalize hy:xs.getD i 0*2^n=y at h1 h2⊢
 have h3:4294967296^i*xs.getD i 0*2^n=4294967296^i*y:=by rw [Na,hy]
 have h4:4294967296^i*y=4294967296^i*(y%4294967296)+4294967296^(i+1)*(y/4294967296):=by
  rw [Nat.pow_succ,Na,←Nat.mul_add];congr 1;omega
 rw [Nat.mul_add] at h1
 rw [h3,h4]
 omega
def rgt (n:Nat):List Nat→List Nat
 |[]=>[]
 |x::xs=>(x+xs.getD 0 0*4294967296)/2^n%4294967296::rgt n xs
theorem KC (n:Nat):∀xs,(rgt n xs).length=xs.length
 |[]=>rfl
 |_::xs=>by simp [rgt,KC n xs]
theorem QiR (n:Nat) (xs:List Nat):∀(i:Nat),i<xs.length→(rgt n xs).getD i 0=(xs.getD i 0+xs.getD (i+1) 0*4294967296)/2^n%4294967296:=by
 induction xs with
 |nil=>intro i h;simp at h
 |cons x xs ih=>
  intro i h
  cases i with
  |zero=>simp only [rgt,List.getD_cons_zero,List.getD_cons_succ]
  |succ i=>
   simp only [rgt,List.getD_cons_succ]
   exact ih i (by simpa using h)
theorem Qqu (n:Nat) (xs:List Nat):∀x∈rgt n xs,x<4294967296:=by
 induction xs with
 |nil=>intro x h;simp [rgt] at h
 |cons y xs ih=>
  intro x h
  simp only [rgt,Lb] at h
  rcases h with h|h
  ·rw [h];exact Nat.mod_lt _ om
  ·exact ih x h
theorem QmE {n:Nat} (hn:n≤32) (xs:List Nat):(∀x∈xs,x<4294967296)→val (rgt n xs)=val xs/2^n:=by
 induction xs with
 |nil=>intro _;simp [rgt,val]
 |cons x xs ih0=>
  intro hx
  have ih:=ih0 (fun y hy=>hx y (Lm _ hy))
  have hxx:=hx x (by simp)
  have hV:val xs=xs.getD 0 0+4294967296*val (xs.drop 1):=by have:=KZ xs 0;simpa using this
  simp only [rgt,val,ih]
  generalize hx':xs.getD 0 0=x' at hV⊢
  generalize val (xs.drop 1)=r at hV
  generalize hVv:val xs=V at hV⊢
  have hN:0<2^n:=Nat.two_pow_pos n
  have hB:=Vu hn
  have hM:0<2^(32-n):=Nat.two_pow_pos _
  generalize 2^n=N at hN hB⊢
  generalize 2^(32-n)=M at hB hM
  have e1:x'%N=V%N:=by rw [hV,hB,Na,Nat.add_mul_mod_self_left]
  have e2:(x+x'*4294967296)/N=(x+x'%N*4294967296)/N+x'/N*4294967296:=by
   have hq:x'=N*(x'/N)+x'%N:=(Nat.div_add_mod x' N).symm
   have:x+x'*4294967296=(x+x'%N*4294967296)+N*(x'/N*4294967296):=by
    conv=>lhs;rw [hq]
    rw [Nat.add_mul,Na];omega
   rw [this,Nat.add_mul_div_left _ _ hN]
  have e3:(x+4294967296*V)/N=(x+V%N*4294967296)/N+V/N*4294967296:=by
   have hq:V=N*(V/N)+V%N:=(Nat.div_add_mod V N).symm
   have:x+4294967296*V=(x+V%N*4294967296)+N*(V/N*4294967296):=by
    conv=>lhs;rw [hq]
    rw [Nat.mul_add,←Na,Nc 4294967296 N,Na,Nc 4294967296 (V/N),Nc 4294967296 (V%N)];omega
   rw [this,Nat.add_mul_div_left _ _ hN]
  have hs:(x+x'%N*4294967296)/N<4294967296:=by
   rw [Nat.div_lt_iff_lt_mul hN]
   have h1:x'%N+1≤N:=Nat.mod_lt _ hN
   have h2:=Nm 4294967296 h1
   rw [Nc 4294967296 N]
   omega
  rw [e2,Nat.add_mul_mod_self_right,Nat.mod_eq_of_lt hs,e3,e1]
  omega
theorem Qor {us vs zs:List Nat} {i c b n:Nat} (hi:i<zs.length) (hu:us.getD i 0<4294967296) (hb:b≤1) (h:val (zs.take i)+n*val (vs.take i)=val (us.take i)+4294967296^i*(c+b)):
  val ((zs.set i (JW (us.getD i 0) ((c+n*vs.getD i 0)%4294967296) b%4294967296)).take (i+1))+n*val (vs.take (i+1))=
   val (us.take (i+1))+4294967296^(i+1)*((c+n*vs.getD i 0)/4294967296+JW (us.getD i 0) ((c+n*vs.getD i 0)%4294967296) b/9223372036854775808)∧
   JW (us.getD i 0) ((c+n*vs.getD i 0)%4294967296) b/9223372036854775808≤1:=by
 rw [WY hi,Qy vs,Qy us,Nat.mul_add,Nat.pow_succ]
 have e0:n*(4294967296^i*vs.getD i 0)=4294967296^i*(n*vs.getD i 0):=by rw [←Na,Nc n,Na]
 rw [e0]
 generalize hU:us.getD i 0=u at*
 generalize hV:n*vs.getD i 0=p at*
 generalize hP:4294967296^i=P at*
 have hm:(c+p)%4294967296<4294967296:=Nat.mod_lt _ om
 have hdm:=Nat.div_add_mod (c+p) 4294967296
 generalize (c+p)%4294967296=l at*
 generalize (c+p)/4294967296=q at*
 refine⟨?_,by unfold JW;omega⟩
 have key:u+4294967296*(JW u l b/9223372036854775808)=JW u l b%4294967296+l+b:=by unfold JW;omega
 generalize JW u l b%4294967296=d at*
 generalize JW u l b/9223372036854775808=b' at*
 have k2:=congrArg (P* ·) key
 simp only [Nat.mul_add] at k2
 have k3:=congrArg (P* ·) hdm
 simp only [Nat.mul_add] at k3
 simp only [Nat.mul_add] at h⊢
 rw [Na P 4294967296 q,Na P 4294967296 b']
 omega
theorem QkZ {c n y:Nat} (hc:c<4294967296) (hn:n<4294967296) (hy:y<4294967296):c+n*y<18446744073709551616∧(c+n*y)/4294967296<4294967296:=by
 have:=Wn hn hy
 omega
theorem Qk0 {V W D v1 v2 head w2 wr g rest:Nat} (hV:(v1*4294967296+v2)*D≤V) (hW:W=(head*4294967296+w2)*D+wr) (hr:wr<D) (hg:g*v1+rest=head) (hc:rest*4294967296+w2<g*v2):W<g*V:=by
 have h1:head*4294967296+w2+1≤g*(v1*4294967296+v2):=by
  rw [←hg,Nat.mul_add,←Na,Nat.add_mul];omega
 have h2:(head*4294967296+w2+1)*D≤g*V:=by
  refine Lt (Nm D h1) ?_
  rw [Na]
  exact Nat.mul_le_mul_left g hV
 rw [Nat.add_mul,Nat.one_mul] at h2
 omega
theorem QiS {V W D v1 v2 head w2 wr g rest vr:Nat} (hV:V=(v1*4294967296+v2)*D+vr) (hvr:vr<D) (hv1:1≤v1) (hW:W=(head*4294967296+w2)*D+wr) (hg:g*v1+rest=head) (hlt:g<4294967296) (hc:g*v2≤rest*4294967296+w2):g*V<W+V:=by
 have h1:g*(v1*4294967296+v2)≤head*4294967296+w2:=by
  rw [←hg,Nat.mul_add,←Na,Nat.add_mul];omega
 have h2:g*((v1*4294967296+v2)*D)≤(head*4294967296+w2)*D:=by
  rw [←Na];exact Nm D h1
 have h3:g*vr≤4294967296*D:=Nat.mul_le_mul (Ll hlt) (Ll hvr)
 have h4:4294967296*D≤(v1*4294967296+v2)*D:=Nm D om
 have hD:0<D:=by omega
 have h5:g*vr<4294967296*D∨D=0:=by
  rcases Nat.eq_zero_or_pos g with h|h
  ·subst h;left;omega
  ·left
   have:g*vr<g*D:=Nat.mul_lt_mul_of_pos_left hvr h
   have h6:g*D≤4294967296*D:=Nm D (Ll hlt)
   omega
 have h7:g*V=g*((v1*4294967296+v2)*D)+g*vr:=by rw [hV,Nat.mul_add]
 omega
theorem QiT {v1 head u1 g rest:Nat} (hh:head≤v1*4294967296+u1) (hu:u1<4294967296) (hg:g*v1+rest=head) (hr:4294967296≤rest):g<4294967296:=by
 rcases Nat.lt_or_ge g 4294967296 with h|h
 ·exact h
 ·have h2:=Nm v1 h
  rw [Nc 4294967296 v1] at h2
  omega
def win (ys:List Nat) (off:Nat) (zs:List Nat):List Nat:=ys.take off++(zs++ys.drop (off+zs.length))
theorem W1 {ys zs:List Nat} {off:Nat} (h:off+zs.length≤ys.length):(win ys off zs).length=ys.length:=by
 simp [win];omega
theorem QiU {ys zs:List Nat} {off i:Nat} (h:off≤ys.length) (hi:i<zs.length):(win ys off zs).getD (off+i) 0=zs.getD i 0:=by
 unfold win
 rw [Lg,List.getElem?_append_right (by simp;omega),List.getElem?_append_left (by simp;omega),Lg]
 congr 2;simp;omega
theorem QmF {ys zs:List Nat} {off i v:Nat} (h:off≤ys.length) (hi:i<zs.length):(win ys off zs).set (off+i) v=win ys off (zs.set i v):=by
 unfold win
 rw [List.set_append,iN (by simp;omega),List.set_append,iP (by simp;omega)]
 simp only [List.length_set,List.length_take]
 rw [show off+i-min off ys.length=i from by omega]
theorem QiV {ys:List Nat} {off L:Nat} (h:off+L≤ys.length):win ys off ((ys.drop off).take L)=ys:=by
 unfold win
 rw [show off+((ys.drop off).take L).length=off+L from by simp;omega,←List.drop_drop,List.take_append_drop,List.take_append_drop]
theorem Qtu {ys zs:List Nat} {off:Nat} (h:off≤ys.length):val (win ys off zs)=val (ys.take off)+4294967296^off*(val zs+4294967296^zs.length*val (ys.drop (off+zs.length))):=by
 unfold win
 rw [KA,KA,List.length_take,Nat.min_eq_left h]
theorem Qqv {ys zs:List Nat} {off:Nat} (hy:∀x∈ys,x<4294967296) (hz:∀x∈zs,x<4294967296):∀x∈win ys off zs,x<4294967296:=fun x hx=>by
 unfold win at hx
 simp only [List.mem_append] at hx
 rcases hx with h|h|h
 ·exact hy x (List.mem_of_mem_take h)
 ·exact hz x h
 ·exact hy x (List.mem_of_mem_drop h)
end Go.PN
namespace Go.Proofs.YtngjgahldnnapaaGreatDoor
open Go.AI Go.PN Tryz
attribute [local irreducible] aw Fa ZN ZZ Fh YE
theorem QmG (xs:List Nat) (n:Nat) (hx:∀x∈xs,x<4294967296) (hlx:xs.length≤68719476736) (hn:n<32):
  Fh prog 351 [] [.c (ws false xs),.c (.int .i64 n)] (fun r h=>∃g zs,r=.c (.osl g 1 0 (xs.length+1))∧h=[(g,.cells 193 (xs.length+1) (wf zs))]∧zs.length=xs.length+1∧(∀y∈zs,y<4294967296)∧val zs=val xs*2^n):=by
 refine fH func351 fun C hC=>?_
 refine xG ?_
 refine Jt (n:=xs.length+1) (c:=xs.length+1) rfl rfl rfl Xy Xt rfl om eE eE rfl rfl om om om fun g hg=> ?_
 rw [UD (xs.length+1)]
 refine Z1 ?_
 refine Qh (fun x:Nat×List Nat=>[(0,.c (ws false xs)),(1,.c (.int .i64 n)),(5,.c (.osl g 1 0 (xs.length+1))),(13,.c (ws false xs)),(14,.c (.int .i64 xs.length)),(15,.c (.int .i64 x.1))]) (fun x=>[(g,.cells 193 (xs.length+1) (wf x.2))])
  (fun x=>x.1≤xs.length∧x.2.length=xs.length+1∧(∀y∈x.2,y<4294967296)∧x.2.getD x.1 0<2^n∧(∀j,x.1<j→x.2.getD j 0=0)∧val x.2=val (xs.take x.1)*2^n) (fun x=>xs.length-x.1) (0,List.replicate (xs.length+1) 0) eB zZ
  ⟨by omega,by simp,YS _,by rw [OU];exact Nat.two_pow_pos n,fun j _=>OU _ _,by simp [UX,val]⟩ ?_
 rintro ⟨i,zs⟩ ⟨hi,hzl,hz,hlow,hhi,hv⟩
 dsimp only at hi hzl hz hlow hhi hv⊢
 refine xG ?_
 refine QS eE (fun hb1=> ?_) (fun hb1=> ?_)
 ·have hi1:i<xs.length:=dT hb1
  have hxi:=QI hx i
  refine xG ?_
  rw [QmB _ n hxi om]
  refine xG ?_
  have hml:xs.getD i 0*2^n%4294967296<4294967296:=Nat.mod_lt _ om
  rw [QO,Qwk _ _ (by have:=QI hz i;omega) hml,Qwl om hlow]
  have hvl:=Qop (x:=xs.getD i 0) om hlow
  have hst:=Qoq (xs:=xs) (zs:=zs) (i:=i) (n:=n) om (hhi _ om) hv
  have hhl:=Qwm (n:=n) hxi
  have hp32:2^n≤4294967296:=Wo om
  refine xW ?_
  refine xS ?_
  rw [Vd om]
  refine xG ?_
  rw [W0,QO,Nat.mod_eq_of_lt (show xs.getD i 0*2^n/4294967296<4294967296 from by omega)]
  refine xW ?_
  refine xS ?_
  rw [Vd (by simp;omega)]
  refine xG ?_
  refine Qb ⟨(i+1,_),by dsimp only;omega,eB,zZ,by dsimp only;omega,by simpa using hzl,Jc (Jc hz hvl) om,?_,fun j hj=> ?_,hst⟩
  ·dsimp only
   rw [PN.getD_set (by simp;omega)];exact hhl
  ·dsimp only at hj⊢
   rw [PN.getD_set_ne om,PN.getD_set_ne om];exact hhi j om
 ·have hi1:i=xs.length:=dF hb1
  subst hi1
  refine xG ?_
  refine xU ?_
  exact⟨g,zs,rfl,rfl,hzl,hz,by rw [hv,Lk]⟩
theorem Qqw (xs:List Nat) (n:Nat) (hx:∀x∈xs,x<4294967296) (hlx:xs.length≤68719476738) (hn:n<32):
  Fa prog 354 [.c (ws false xs),.c (.int .i64 n)] (.c (ws true (rgt n xs))):=by
 refine fA func354 fun C hC=>?_
 refine xG ?_
 refine Jt (n:=xs.length) (c:=xs.length) rfl rfl rfl Xy Xt rfl om eE eE rfl rfl om om om fun g hg=> ?_
 rw [UD xs.length]
 refine Z1 ?_
 refine Qh (fun x:Nat×List Nat=>[(0,.c (ws false xs)),(1,.c (.int .i64 n)),(5,.c (.osl g 1 0 xs.length)),(11,.c (.int .i64 xs.length)),(12,.c (.int .i64 x.1))]) (fun x=>[(g,.cells 193 xs.length (wf x.2))])
  (fun x=>x.1≤xs.length∧x.2.length=xs.length∧(∀j,j<x.1→x.2.getD j 0=(rgt n xs).getD j 0)) (fun x=>xs.length-x.1) (0,List.replicate xs.length 0) eB zZ
  ⟨by omega,by simp,fun j hj=>by dsimp only at hj;omega⟩ ?_
 rintro ⟨i,zs⟩ ⟨hi,hzl,hv⟩
 dsimp only at hi hzl hv⊢
 refine xG ?_
 refine QS eE (fun hb1=> ?_) (fun hb1=> ?_)
 ·have hi1:i<xs.length:=dT hb1
  have hxi:=QI hx i
  have hxj:=QI hx (i+1)
  refine xG ?_
  refine Qu (KQ xs i hx) rfl rfl rfl eL ?_
  refine Z1 ?_
  refine Qu (KQ xs (i+1) hx) rfl rfl rfl eL ?_
  refine Z1 ?_
  rw [VO _ hxj,WZ _ _ hxj hxi]
  refine xG ?_
  rw [QmC _ n om,QO]
  have hr:=QiR n xs i hi1
  rw [Nat.add_comm (xs.getD i 0)] at hr
  refine xW ?_
  refine xS ?_
  rw [Vd om]
  refine xG ?_
  refine Qb ⟨(i+1,_),by dsimp only;omega,eB,zZ,by dsimp only;omega,by simpa using hzl,fun j hj=> ?_⟩
  dsimp only at hj⊢
  by_cases e:j=i
  ·rw [e,PN.getD_set om,hr]
  ·rw [PN.getD_set_ne om];exact hv j om
 ·have hi1:i=xs.length:=dF hb1
  subst hi1
  refine xGT hC ?_
  refine .one (.c (VW eE om (KC n xs).symm (fun j hj=> ?_)))
  rw [Nz,QvL,hv j hj]
theorem Qew (xs ys:List Nat) (hx:∀x∈xs,x<4294967296) (hy:∀x∈ys,x<4294967296) (hlx:xs.length≤68719476736) (hly:ys.length≤68719476736):
  Fa prog 134 [.c (ws false xs),.c (ws false ys)] (.c (.int .i64 (ZQ (val xs) (val ys)))):=by
 refine fA func134 fun C hC=>?_
 refine xG ?_
 refine Qu (ZX xs hx om) rfl rfl rfl eL ?_
 refine Z1 ?_
 refine Qu (ZX ys hy om) rfl rfl rfl eL ?_
 refine xS ?_
 generalize hvx:val xs=a
 generalize hvy:val ys=b
 have hla:(Qc a).length≤68719476736:=by rw [←hvx];exact Lt (QV xs hx) hlx
 have hlb:(Qc b).length≤68719476736:=by rw [←hvy];exact Lt (QV ys hy) hly
 refine xG ?_
 refine QS eE (fun hb=> ?_) (fun hb=> ?_)
 ·have hne:(Qc a).length≠(Qc b).length:=by simp at hb;omega
  refine xG ?_
  refine QS eE (fun hb=> ?_) (fun hb=> ?_)
  ·have hlt:(Qc a).length<(Qc b).length:=by simpa using hb
   refine xGT hC ?_
   exact .one (.c (Qo (QiM hlt).symm))
  ·have hge:¬((Qc a).length:Int)<(Qc b).length:=by simpa using hb
   refine xGT hC ?_
   exact .one (.c (Qo (QiN om).symm))
 ·have hlen:(Qc a).length=(Qc b).length:=by simp at hb;omega
  refine xG ?_
  refine Qh (fun m:Nat=>[(0,.c (ws true (Qc a))),(1,.c (ws true (Qc b))),(5,.c (.int .i64 ((m:Int)-1)))]) (fun _=>[]) (fun m=>m≤(Qc a).length∧(Qc a).drop m=(Qc b).drop m) id (Qc a).length eB zZ
   ⟨Ac _,by rw [List.drop_eq_nil_of_le (Ac _),List.drop_eq_nil_of_le om]⟩ ?_
  rintro m ⟨hm,hd⟩
  refine xG ?_
  refine QS eE (fun hb=> ?_) (fun hb=> ?_)
  ·have hm1:1≤m:=dT hb
   have e1:((m:Int)-1).toNat=m-1:=by omega
   refine xG ?_
   refine Xv 9 Qg kR ?_
   refine xG ?_
   refine QS eE (fun hb=> ?_) (fun hb1=> ?_)
   ·have hlt:(Qc a).getD (m-1) 0<(Qc b).getD (m-1) 0:=dT hb
    refine xGT hC ?_
    have:=Qmw (Qr a) (Qr b) om om (by rw [show m-1+1=m from by omega];exact hd) hlt
    rw [Qd,Qd] at this
    exact .one (.c (Qo (by simp [ZQ,this])))
   ·have hge:¬((Qc a).getD (m-1) 0<(Qc b).getD (m-1) 0):=dF hb1
    refine xG ?_
    refine Xv 9 Qg kR ?_
    refine xG ?_
    refine QS eE (fun hb=> ?_) (fun hb2=> ?_)
    ·have hgt:(Qc b).getD (m-1) 0<(Qc a).getD (m-1) 0:=dT hb
     refine xGT hC ?_
     have:=Qmw (Qr b) (Qr a) om om (by rw [show m-1+1=m from by omega];exact hd.symm) hgt
     rw [Qd,Qd] at this
     exact .one (.c (Qo (by unfold ZQ;rw [iN om,iN om])))
    ·have hle:¬((Qc b).getD (m-1) 0<(Qc a).getD (m-1) 0):=dF hb2
     refine xG ?_
     refine Qb ⟨m-1,by simp only [id];omega,eB,zZ,by omega,?_⟩
     rw [Qcz (Qc a) (i:=m-1) om,Qcz (Qc b) (i:=m-1) om,show m-1+1=m from by omega,hd]
     congr 1
     omega
  ·have hm0:m=0:=dF hb
   subst hm0
   refine xGT hC ?_
   have:a=b:=Qon (by simpa using hd)
   exact .one (.c (Qo (by simp [ZQ,this])))
theorem QvM (n:Int) (h0: -9223372036854775808≤n) (h1:n≤9223372036854775807):Fa prog 299 [.c (.int .i64 n)] (.c (ws true (Qc n.toNat))):=by
 refine fA func299 fun C hC=>?_
 refine xG ?_
 refine QS eE (fun hb=> ?_) (fun hb=> ?_)
 ·have hn:n≤0:=of_decide_eq_true hb
  refine xGT hC ?_
  rw [show n.toNat=0 from by omega,QC]
  exact .one (.c .nils)
 ·have hn:¬n≤0:=of_decide_eq_false hb
  refine xG ?_
  have e1:XE .u32 n=((n.toNat%4294967296:Nat):Int):=by rw [QN,IntKind.wrap_u32];omega
  have e2:XE .u32 (n/4294967296)=((n.toNat/4294967296:Nat):Int):=by rw [QN,IntKind.wrap_u32];omega
  rw [e1,e2]
  refine Qn (xs:=[.tmp 6,.tmp 9]) (cells:=[.int .u32 ((n.toNat%4294967296:Nat):Int),.int .u32 ((n.toNat/4294967296:Nat):Int)]) rfl rfl rfl Xy (by rw [Qdw,Xt];rfl) rfl om om (by intro x hx;simp only [Lb,Lj,or_false] at hx;rcases hx with rfl|rfl<;>exact⟨rfl,rfl,rfl⟩) eE fun g hg=> ?_
  refine xS ?_
  refine Qu (ZX [n.toNat%4294967296,n.toNat/4294967296] (by intro x hx;simp only [Lb,Lj,or_false] at hx;rcases hx with rfl|rfl<;>omega) (by simp)) rfl rfl rfl
   (by refine xS ?_;exact .c (Yt eE om rfl (fun j hj=>by match j,hj with|0,_=>rfl|1,_=>rfl))) ?_
  refine UW hC ?_
  rw [show val [n.toNat%4294967296,n.toNat/4294967296]=n.toNat from by simp [val];omega]
  exact .one (.c Xc)
theorem QcA {x y b:Nat} (hx:x<4294967296) (hy:y<4294967296) (hb:b≤1):XE .u64 (XE .u64 ((x:Int)-(y:Int))-(b:Int))=((JW x y b:Nat):Int):=by
 rw [QN,QN,IntKind.wrap_u64,IntKind.wrap_u64];unfold JW
 rcases Nat.lt_or_ge x y with h|h
 ·have e:((x:Int)-y)%18446744073709551616=x-y+18446744073709551616:=by omega
  rw [e];omega
 ·have e:((x:Int)-y)%18446744073709551616=x-y:=by omega
  rw [e];omega
theorem Qtv (g off L n:Nat) (ys us vs:List Nat) (hus:us=(ys.drop off).take L) (hL:off+L≤ys.length) (hy:∀x∈ys,x<4294967296) (hv:∀x∈vs,x<4294967296) (hly:ys.length≤68719476738) (hn:n<4294967296) (hvl:vs.length<L):
  Fh prog 352 [(g,.cells 193 ys.length (wf ys))] [.c (.osl g 1 off L),.c (ws false vs),.c (.int .u64 n)]
   (fun r h=>∃(b:Nat) (zs:List Nat),r=.c (.bool ((b:Int)==1))∧h=[(g,.cells 193 ys.length (wf (win ys off zs)))]∧zs.length=L∧(∀y∈zs,y<4294967296)∧b≤1∧val zs+n*val vs=val us+4294967296^L*b):=by
 refine QaX func352 rfl rfl (by simp [ntmps352]) fun C hC=> ?_
 have hu:∀x∈us,x<4294967296:=fun x hx=>hy x (List.mem_of_mem_drop (List.mem_of_mem_take (hus▸hx)))
 have hul:us.length=L:=by rw [hus];simp;omega
 have hself:win ys off us=ys:=by rw [hus];exact QiV hL
 simp only [Y8,Nat.reduceAdd]
 refine xG ?_
 refine Qh (fun x:Nat×Nat×Nat×List Nat=>[(0,.c (.osl g 1 off L)),(1,.c (ws false vs)),(2,.c (.int .u64 n)),(7,.c (.int .u64 x.2.1)),(8,.c (.int .u64 x.2.2.1)),(12,.c (.int .i64 L)),(13,.c (.int .i64 x.1))]) (fun x=>[(g,.cells 193 ys.length (wf (win ys off x.2.2.2)))])
  (fun x=>x.1≤L∧x.2.1<4294967296∧x.2.2.1≤1∧x.2.2.2.length=L∧(∀y∈x.2.2.2,y<4294967296)∧(∀j,x.1≤j→x.2.2.2.getD j 0=us.getD j 0)∧(vs.length<x.1→x.2.1=0)∧val (x.2.2.2.take x.1)+n*val (vs.take x.1)=val (us.take x.1)+4294967296^x.1*(x.2.1+x.2.2.1)) (fun x=>L-x.1) (0,0,0,us) eB (by rw [hself];exact zZ)
  ⟨Lz _,by simp,Lz _,hul,hu,fun _ _=>rfl,fun _=>rfl,by simp [val]⟩ ?_
 rintro ⟨i,c,b,zs⟩ ⟨hi,hc,hbb,hzl,hz,hsame,hc0,hval⟩
 dsimp only at hi hc hbb hzl hz hsame hc0 hval⊢
 refine xG ?_
 refine QS eE (fun hb=> ?_) (fun hb=> ?_)
 ·have hin:i<L:=dT hb
  have hui:=QI hu i
  have hvi:=QI hv i
  have hwi:(win ys off zs).getD (off+i) 0=us.getD i 0:=by rw [QiU om om,hsame i (Ac _)]
  obtain⟨hcl,hcq⟩:=QkZ hc hn hvi
  refine xG ?_
  refine Qu (KQ vs i hv) rfl rfl rfl eL ?_
  refine Z1 ?_
  obtain⟨st1,st2⟩:=Qor (zs:=zs) (n:=n) (vs:=vs) om hui hbb hval
  have hT:(c:Int)+(n:Int)*((vs.getD i 0:Nat):Int)=((c+n*vs.getD i 0:Nat):Int):=by rw [Int.natCast_add,Int.natCast_mul]
  have hc2:vs.length<i+1→(c+n*vs.getD i 0)/4294967296=0:=fun hlt=>by rw [Ve om];omega
  rw [hwi,hT]
  generalize c+n*vs.getD i 0=T at hcl hcq st1 st2 hc2⊢
  have hTm:T%4294967296<4294967296:=Nat.mod_lt _ om
  rw [QO]
  refine xO ?_
  (refine Qbu false rfl (fun R hR=> ?_);simp only [go_sem];(with_reducible refine hR _ _ ?_ ?_);(focus (((try simp only [XH])<;>and_intros<;>first|exact True.intro|omega|trivial);done));clear hR R)
  refine xO ?_
  (refine Qbu false rfl (fun R hR=> ?_);simp only [go_sem];(with_reducible refine hR _ _ ?_ ?_);(focus (((try simp only [XH])<;>and_intros<;>first|exact True.intro|omega|trivial);done));clear hR R)
  rw [QcA hui hTm hbb]
  generalize JW (us.getD i 0) (T%4294967296) b=D at st1 st2⊢
  obtain⟨v,b2,e1,e2,hvl,st⟩:∃v b2:Nat,XE .u32 (D:Int)=(v:Int)∧Qcl .u64 (D:Int) 63=(b2:Int)∧v<4294967296∧(val ((zs.set i v).take (i+1))+n*val (vs.take (i+1))=val (us.take (i+1))+4294967296^(i+1)*(T/4294967296+b2)∧b2≤1):=
   ⟨_,_,QO D,Qct D,Nat.mod_lt _ om,st1,st2⟩
  clear st1 st2
  refine xG ?_
  rw [e1]
  refine xW ?_
  refine xS ?_
  rw [Vd (by rw [W1 om];omega),QmF om om]
  refine xG ?_
  rw [e2,W0]
  refine Qb ⟨(i+1,T/4294967296,b2,zs.set i v),by dsimp only;omega,eB,zZ,by dsimp only;omega,hcq,st.2,by simpa using hzl,Jc hz hvl,fun j hj=> ?_,hc2,st.1⟩
  dsimp only at hj⊢
  rw [PN.getD_set_ne om];exact hsame j om
 ·have hin:i=L:=dF hb
  subst hin
  refine xG ?_
  refine xU ?_
  rw [hc0 hvl,Ly (show zs.length≤i from by omega),Ly (show vs.length≤i from by omega),Ly (show us.length≤i from by omega),Nz] at hval
  exact⟨b,zs,rfl,rfl,hzl,hz,hbb,hval⟩
theorem Qtw (g off L:Nat) (ys us vs:List Nat) (hus:us=(ys.drop off).take L) (hL:off+L≤ys.length) (hy:∀x∈ys,x<4294967296) (hv:∀x∈vs,x<4294967296) (hly:ys.length≤68719476738) (hvl:vs.length<L):
  Fh prog 353 [(g,.cells 193 ys.length (wf ys))] [.c (.osl g 1 off L),.c (ws false vs)]
   (fun r h=>∃(c:Nat) (zs:List Nat),r=.tup []∧h=[(g,.cells 193 ys.length (wf (win ys off zs)))]∧zs.length=L∧(∀y∈zs,y<4294967296)∧val zs+4294967296^L*c=val us+val vs):=by
 refine QaX func353 rfl rfl (by simp [ntmps353]) fun C hC=> ?_
 have hu:∀x∈us,x<4294967296:=fun x hx=>hy x (List.mem_of_mem_drop (List.mem_of_mem_take (hus▸hx)))
 have hul:us.length=L:=by rw [hus];simp;omega
 have hself:win ys off us=ys:=by rw [hus];exact QiV hL
 simp only [Y8,Nat.reduceAdd]
 refine xG ?_
 refine Qh (fun x:Nat×Nat×List Nat=>[(0,.c (.osl g 1 off L)),(1,.c (ws false vs)),(4,.c (.int .u64 x.2.1)),(7,.c (.int .i64 L)),(8,.c (.int .i64 x.1))]) (fun x=>[(g,.cells 193 ys.length (wf (win ys off x.2.2)))])
  (fun x=>x.1≤L∧x.2.1≤1∧x.2.2.length=L∧(∀y∈x.2.2,y<4294967296)∧(∀j,x.1≤j→x.2.2.getD j 0=us.getD j 0)∧val (x.2.2.take x.1)+4294967296^x.1*x.2.1=val (us.take x.1)+val (vs.take x.1)) (fun x=>L-x.1) (0,0,us) eB (by rw [hself];exact zZ)
  ⟨Lz _,Lz _,hul,hu,fun _ _=>rfl,by simp [val]⟩ ?_
 rintro ⟨i,c,zs⟩ ⟨hi,hc,hzl,hz,hsame,hval⟩
 dsimp only at hi hc hzl hz hsame hval⊢
 refine xG ?_
 refine QS eE (fun hb=> ?_) (fun hb=> ?_)
 ·have hin:i<L:=dT hb
  have hui:=QI hu i
  have hvi:=QI hv i
  have hwi:(win ys off zs).getD (off+i) 0=us.getD i 0:=by rw [QiU om om,hsame i (Ac _)]
  refine xG ?_
  refine Xv 12 Qg kR ?_
  refine xO ?_
  refine xO ?_
  refine xO ?_
  refine xO ?_
  refine xO ?_
  rw [hwi]
  refine xG ?_
  refine Qbq (KQ vs i hv) rfl rfl rfl eL ?_
  refine Z1 ?_
  have ew:XE .u32 ((c:Int)+(((us.getD i 0:Nat):Int)+((vs.getD i 0:Nat):Int)))=(((c+(us.getD i 0+vs.getD i 0))%4294967296:Nat):Int):=by rw [QN,IntKind.wrap_u32];omega
  rw [ew]
  refine xW ?_
  refine xS ?_
  rw [Vd (by rw [W1 om];omega),QmF om om]
  refine xG ?_
  refine Qb ⟨(i+1,(c+(us.getD i 0+vs.getD i 0))/4294967296,zs.set i ((c+(us.getD i 0+vs.getD i 0))%4294967296)),by dsimp only;omega,eB,zZ,by dsimp only;omega,by dsimp only;omega,by simpa using hzl,Jc hz om,fun j hj=> ?_,Qeu om hval⟩
  dsimp only at hj⊢
  rw [PN.getD_set_ne om];exact hsame j om
 ·have hin:i=L:=dF hb
  subst hin
  refine xG ?_
  refine xV ?_
  rw [Ly (show zs.length≤i from by omega),Ly (show vs.length≤i from by omega),Ly (show us.length≤i from by omega)] at hval
  exact⟨c,zs,rfl,rfl,hzl,hz,hval⟩
end Go.Proofs.YtngjgahldnnapaaGreatDoor
namespace Go.AI
def Q8 (n:Nat):Nat:=if n=0 then 0 else Nat.log2 n+1
theorem QA.indexStr {P:Program} {h:Qa} {ρ:Operand→AV} {t:TypeId} {x ix:Operand} {s:ByteArray} {k:IntKind} {i:Nat} {b:UInt8} (ht:P.underlying t=some .string) (hx:ρ x=.c (.str s)) (hi:ρ ix=.c (.int k (i:Int))) (hb:s[i]?=some b):
  QA P h ρ (.index t x ix) (.c (.int .u8 (b.toNat:Nat))):=fun S w e _ ho _=>by
 have h1:e x=.string s:=by have:=ho x Ag;rw [hx] at this;exact this
 have h2:e ix=.int k i:=by have:=ho ix Ag;rw [hi] at this;exact this
 refine⟨.int .u8 (b.toNat:Nat),fun o hop=> ?_,rfl⟩
 simp [execOp,hop,h1,h2,Instr.index,asIntOf,run_underlying ht,hb]
theorem Qex {E:Vl} {K:List It} {σ:Sl} {h:Qa} {all rest:List Oper} {o:Oper} {t:TypeId} {x ix:Operand} {s:ByteArray} {k:IntKind} {i:Nat} (hop:o.op=.index t x ix) (hw:Qx all σ o=some true) (hd:Qw E.N o.dst=true) (ht:E.P.underlying t=some .string)
  (hx:ev σ x=.c (.str s)) (hi:ev σ ix=.c (.int k (i:Int))) (htab:∀j,j<256→(s[j]?).map UInt8.toNat=some (Q8 j)) (hlt:i<256) (kk:aw E (.ops all rest::K) (σ.setO o.dst (.c (.int .u8 (Q8 i:Nat)))) h):aw E (.ops all (o::rest)::K) σ h:=by
 have h1:=htab i hlt
 cases hs:s[i]? with
 |none=>rw [hs] at h1;cases h1
 |some b=>
  rw [hs] at h1
  injection h1 with h1
  rw [←h1] at kk
  exact QdL hw (by rw [hop];exact QA.indexStr ht hx hi hs) hd rfl kk
theorem Qk1 (x:Nat):Qcl .u32 (x:Int) 16=((x/65536:Nat):Int):=by
 rw [UB]
 show(x:Int).fdiv 65536=_
 rw [Int.fdiv_eq_ediv_of_nonneg _ om];omega
theorem Qgk (x:Nat):Qcl .u32 (x:Int) 8=((x/256:Nat):Int):=by
 rw [UB]
 show(x:Int).fdiv 256=_
 rw [Int.fdiv_eq_ediv_of_nonneg _ om];omega
theorem KD {x k:Nat} (hx:2^k≤x):Q8 x=k+Q8 (x/2^k):=by
 have hp:=Nat.two_pow_pos k
 have h0:x≠0:=by omega
 have h1:x/2^k≠0:=by have:=Nat.div_pos hx hp;omega
 unfold Q8
 rw [iN h0,iN h1]
 have:Nat.log2 x=Nat.log2 (x/2^k)+k:=by
  clear h1
  induction k generalizing x with
  |zero=>simp
  |succ k ih=>
   have e2:2≤x:=by have:2^1≤2^(k+1):=Nat.pow_le_pow_right om om;omega
   rw [Nat.log2_def,iP e2]
   have hk:2^k≤x/2:=by rw [Nat.pow_succ] at hx;omega
   rw [ih hk (Nat.two_pow_pos k) (by have:=Nat.two_pow_pos k;omega),Nat.div_div_eq_div_mul,Nat.pow_succ,Nc 2]
   omega
 omega
end Go.AI
namespace Go.Proofs.YtngjgahldnnapaaGreatDoor
open Go.AI Go.PN Tryz
attribute [local irreducible] aw Fa ZN ZZ Fh YE
theorem Qey:prog.underlying 9=some .string:=by kernel_rfl
@[go_sem] theorem Qy6:Z4 prog 5=some .u8:=by kernel_rfl
theorem UG {n:Nat} (h:n<256):XE .u8 (n:Int)=(n:Int):=by
 rw [QN];exact XV (k:=.u8) ⟨by omega,by omega⟩
theorem W2:∀j,j<256→Q8 j≤8:=by decide+kernel
theorem QiW (x:Nat) (hx:x<4294967296):Fa prog 164 [.c (.int .u32 x)] (.c (.int .i64 (Q8 x:Nat))):=by
 refine fA func164 fun C hC=>?_
 refine xG ?_
 refine QS eE (fun hb=> ?_) (fun hb=> ?_)
 ·have hx1:65536≤x:=dT hb
  have e1:Q8 x=16+Q8 (x/65536):=KD (k:=16) hx1
  refine xG ?_
  rw [Qk1]
  refine xG ?_
  refine QS eE (fun hb=> ?_) (fun hb=> ?_)
  ·have hx2:256≤x/65536:=dT hb
   have e2:Q8 (x/65536)=8+Q8 (x/65536/256):=KD (k:=8) hx2
   have hb8:=W2 (x/65536/256) om
   refine xG ?_
   rw [Qgk]
   refine xG ?_
   rw [UG (n:=x/65536/256) om]
   refine Qex (i:=x/65536/256) rfl rfl rfl Qey rfl eE (by decide+kernel) om ?_
   refine UW hC ?_
   exact .one (.c (Qo om))
  ·have hx2:x/65536<256:=dF hb
   have hb8:=W2 (x/65536) om
   refine xG ?_
   rw [UG (n:=x/65536) om]
   refine Qex (i:=x/65536) rfl rfl rfl Qey rfl eE (by decide+kernel) om ?_
   refine UW hC ?_
   exact .one (.c (Qo om))
 ·have hx1:x<65536:=dF hb
  refine xG ?_
  refine QS eE (fun hb=> ?_) (fun hb=> ?_)
  ·have hx2:256≤x:=dT hb
   have e2:Q8 x=8+Q8 (x/256):=KD (k:=8) hx2
   have hb8:=W2 (x/256) om
   refine xG ?_
   rw [Qgk]
   refine xG ?_
   rw [UG (n:=x/256) om]
   refine Qex (i:=x/256) rfl rfl rfl Qey rfl eE (by decide+kernel) om ?_
   refine UW hC ?_
   exact .one (.c (Qo om))
  ·have hx2:x<256:=dF hb
   have hb8:=W2 x om
   refine xG ?_
   rw [UG (n:=x) om]
   refine Qex (i:=x) rfl rfl rfl Qey rfl eE (by decide+kernel) om ?_
   refine UW hC ?_
   exact .one (.c (Qo om))
theorem Qam {x k:Nat} (h:x<2^k):Q8 x≤k:=by
 unfold Q8
 split
 ·omega
 ·rename_i h0
  have:=(Nat.log2_lt h0).2 h
  omega
theorem Qtx (x:Nat) (hx:x<4294967296):Fa prog 350 [.c (.int .u32 x)] (.c (.int .i64 (32-Q8 x:Nat))):=by
 refine fA func350 fun C hC=>?_
 have hb:Q8 x≤32:=Qam hx
 refine xG ?_
 refine Qu (QiW x hx) rfl rfl rfl eL ?_
 refine UW hC ?_
 exact .one (.c (Qo om))
theorem drop_zero {xs:List Nat} {m:Nat} (h:∀j,m≤j→xs.getD j 0=0):val (xs.drop m)=0:=by
 refine JV fun x hx=> ?_
 obtain⟨i,hi,rfl⟩:=List.getElem_of_mem hx
 have:=h (m+i) om
 rw [Lg] at this
 simp only [List.length_drop] at hi
 simpa [show m+i<xs.length from by omega] using this
theorem Qqx {xs:List Nat} {m:Nat} (hx:∀x∈xs,x<4294967296) (hm:m<xs.length) (hz:∀j,m+1≤j→xs.getD j 0=0) (h0:xs.getD m 0≠0):Q8 (val xs)=32*m+Q8 (xs.getD m 0):=by
 have h1:=YP xs (m+1) om
 rw [drop_zero hz,Nat.mul_zero,Nat.add_zero,Qy] at h1
 have h2:=XO xs hx m om
 have hp:4294967296^m=2^(32*m):=by rw [Nat.pow_mul]
 rw [hp] at h1 h2
 have hle:2^(32*m)≤val xs:=by
  rw [h1]
  have:=Nat.mul_le_mul_left (2^(32*m)) (show 1≤xs.getD m 0 from by omega)
  omega
 rw [KD hle,h1,Nat.add_mul_div_left _ _ (Nat.two_pow_pos _),Nat.div_eq_of_lt h2,Nz]
theorem Qty (xs:List Nat) (hx:∀x∈xs,x<4294967296) (hlx:xs.length≤68719476736):Fa prog 296 [.c (ws false xs)] (.c (.int .i64 (Q8 (val xs):Nat))):=by
 refine fA func296 fun C hC=>?_
 refine xG ?_
 refine Qh (fun m:Nat=>[(0,.c (ws false xs)),(3,.c (.int .i64 ((m:Int)-1)))]) (fun _=>[]) (fun m=>m≤xs.length∧(∀j,m≤j→xs.getD j 0=0)) id xs.length eB zZ ⟨Ac _,fun j hj=>Ve hj⟩ ?_
 rintro m ⟨hm,hz⟩
 refine xG ?_
 refine QS eE (fun hb=> ?_) (fun hb=> ?_)
 ·have hm1:1≤m:=dT hb
  have e1:((m:Int)-1).toNat=m-1:=by omega
  have hxi:=QI hx (m-1)
  refine xG ?_
  refine QS eE (fun hb=> ?_) (fun hb=> ?_)
  ·have h0:xs.getD (m-1) 0≠0:=by simpa using hb
   have hbt:=Qqx hx (m:=m-1) om (by rw [show m-1+1=m from by omega];exact hz) h0
   have hbl:Q8 (xs.getD (m-1) 0)≤32:=Qam hxi
   refine xG ?_
   refine Qu (QiW _ hxi) rfl rfl rfl eL ?_
   refine UW hC ?_
   exact .one (.c (Qo om))
  ·have h0:xs.getD (m-1) 0=0:=by simpa using hb
   refine xG ?_
   refine Qb ⟨m-1,by simp only [id];omega,eB,zZ,by omega,fun j hj=> ?_⟩
   by_cases e:j=m-1
   ·rw [e];exact h0
   ·exact hz j om
 ·have hm0:m=0:=dF hb
  subst hm0
  refine xGT hC ?_
  have:=drop_zero hz
  rw [List.drop_zero] at this
  exact .one (.c (Qo (by rw [this];rfl)))
theorem UH {n:Nat}:Q8 n=0↔n=0:=by
 unfold Q8;split<;>simp [*]
end Go.Proofs.YtngjgahldnnapaaGreatDoor
namespace Go.PN
theorem QmH (x:Nat):val [x]=x:=by simp [val]
theorem QmI {zs:List Nat} {m:Nat} (h:val zs<4294967296^m):val (zs.drop m)=0:=by
 refine JV fun x hx=> ?_
 obtain⟨i,hi,rfl⟩:=List.getElem_of_mem hx
 have:=Jd h (show m≤m+i from by omega)
 rw [Lg] at this
 simp only [List.length_drop] at hi
 simpa [show m+i<zs.length from by omega] using this
theorem W4 {zs:List Nat} {k:Nat} (h:zs.length=k):val (zs.take k)=val zs:=by rw [Ly om]
theorem Qzf {zs:List Nat} {k:Nat} (hl:zs.length=k+2):val zs=(zs.getD (k+1) 0*4294967296+zs.getD k 0)*4294967296^k+val (zs.take k):=by
 rw [←W4 hl,Qy,Qy,Nat.pow_succ,Nat.add_mul,Na,Nc (4294967296^k) (4294967296*zs.getD (k+1) 0),Nc (4294967296^k) (zs.getD k 0),Nc 4294967296 (zs.getD (k+1) 0)]
 omega
theorem Qzg {zs:List Nat} {k:Nat} (hl:zs.length=k+3):val zs=((zs.getD (k+2) 0*4294967296+zs.getD (k+1) 0)*4294967296+zs.getD k 0)*4294967296^k+val (zs.take k):=by
 rw [←W4 hl,Qy,Qy,Qy]
 generalize zs.getD (k+2) 0=a
 generalize zs.getD (k+1) 0=b
 generalize zs.getD k 0=c
 simp only [Nat.pow_succ]
 generalize 4294967296^k=D
 simp only [Nat.add_mul]
 have e1:a*4294967296*4294967296*D=D*4294967296*4294967296*a:=by rw [Nc (D*4294967296*4294967296) a,Nc D,Nc (4294967296*D),←Na 4294967296 4294967296 D,←Na,←Na]
 have e2:b*4294967296*D=D*4294967296*b:=by rw [Nc (D*4294967296) b,Nc D,←Na]
 have e3:c*D=D*c:=Nc _ _
 rw [e1,e2,e3]
 omega
theorem QcB {us:List Nat} {j L i:Nat} (hi:i<L):((us.drop j).take L).getD i 0=us.getD (j+i) 0:=by
 rw [Wm hi,Lg,Lg,List.getElem?_drop]
theorem Qtz {ys zs zs2:List Nat} {off:Nat} (h:off+zs.length≤ys.length) (he:zs2.length=zs.length):win (win ys off zs) off zs2=win ys off zs2:=by
 unfold win
 have h1:(ys.take off++(zs++ys.drop (off+zs.length))).take off=ys.take off:=by
  rw [List.take_append_of_le_length (by simp;omega),List.take_take,Nat.min_self]
 have h2:(ys.take off++(zs++ys.drop (off+zs.length))).drop (off+zs2.length)=ys.drop (off+zs2.length):=by
  rw [he,←Lo,List.drop_append_of_le_length (by simp;omega),List.drop_of_length_le (by simp;omega),Ln]
 rw [h1,h2]
theorem Qk2 {ys zs:List Nat} {off L:Nat} (h:off+L≤ys.length) (hz:zs.length=L):zs=((win ys off zs).drop off).take L:=by
 unfold win
 rw [List.drop_append_of_le_length (by simp;omega),List.drop_of_length_le (by simp;omega),Ln,List.take_append_of_le_length om,Ly om]
theorem Qwn {us:List Nat} {j L V:Nat} (hu:∀x∈us,x<4294967296) (hL:j+L+1≤us.length) (hV:V<4294967296^L) (hlt:val us<V*4294967296^(j+1)):
  val us=val (us.take j)+4294967296^j*val ((us.drop j).take (L+1))∧val (us.take j)<4294967296^j∧val (us.drop (j+(L+1)))=0∧val ((us.drop j).take (L+1))<V*4294967296:=by
 have h1:val (us.drop (j+(L+1)))=0:=by
  refine QmI (Ae hlt ?_)
  rw [show j+(L+1)=L+(j+1) from by omega,Nat.pow_add 4294967296 L (j+1)]
  exact Nm _ (Ll hV)
 have h2:=YP us j om
 have h3:=YP (us.drop j) (L+1) (by simp;omega)
 rw [List.drop_drop,h1,Nat.mul_zero,Nat.add_zero] at h3
 rw [h3] at h2
 have h4:=XO us hu j om
 refine⟨h2,h4,h1,?_⟩
 rw [h2,Nat.pow_succ,Nc (4294967296^j) 4294967296,←Na,Nc (V*4294967296)] at hlt
 exact Nat.lt_of_mul_lt_mul_left (a:=4294967296^j) om
theorem QtA {W V v1 v2 vr D w0 w1 w2 wr:Nat} (hV:V=(v1*4294967296+v2)*D+vr) (hv2:v2<4294967296) (hvr:vr<D) (hW:W=((w0*4294967296+w1)*4294967296+w2)*D+wr) (hlt:W<V*4294967296):w0≤v1:=by
 rcases Nat.lt_or_ge v1 w0 with h|h
 ·exfalso
  have h1:V+1≤(v1+1)*4294967296*D:=by
   have:(v1*4294967296+v2+1)*D≤(v1+1)*4294967296*D:=Nm D om
   rw [Nat.add_mul,Nat.one_mul] at this
   omega
  have h2:(v1+1)*4294967296*D*4294967296≤W:=by
   have:(v1+1)*4294967296*4294967296*D≤((w0*4294967296+w1)*4294967296+w2)*D:=Nm D om
   rw [Na _ D,Nc D,←Na]
   omega
  have h3:=Nm 4294967296 h1
  omega
 ·exact h
theorem Qqy {A V U lo W P z q j Q:Nat} (hU:U=lo+P*W) (hlo:lo<P) (hz:z+q*V=W) (hzV:z<V) (hA:A=U+V*(P*4294967296*Q)) (hP:P=4294967296^j):
  lo+P*z<V*P∧A=(lo+P*z)+V*(P*(q+4294967296*Q)):=by
 constructor
 ·have:=Nat.mul_le_mul_left P (show z+1≤V from hzV)
  rw [Nat.mul_add,Ad,Nc P V] at this
  omega
 ·rw [hA,hU,←hz,Nat.mul_add,Nat.mul_add,Nat.mul_add,←Na P 4294967296 Q]
  have:P*(q*V)=V*(P*q):=by rw [←Na,Nc]
  omega
theorem Qqz {W V g z P:Nat} (hV:0<V) (h1:W/V≤g) (h2:g*V<W+V) (h:z+g*V=W+P*0):z+(W/V)*V=W∧z<V∧g=W/V:=by
 have hg:g≤W/V:=(Nat.le_div_iff_mul_le hV).2 om
 have e:g=W/V:=by omega
 subst e
 have:=Nat.div_add_mod W V
 have h3:=Nat.mod_lt W hV
 rw [Nc] at this
 exact⟨by omega,by omega,rfl⟩
theorem Qk3 {W V g z z2 P c:Nat} (hV:0<V) (hVP:V≤P) (h1:W/V≤g) (h2:g*V<W+V) (hz:z<P) (hz2:z2<P) (h:z+g*V=W+P*1) (hb:z2+P*c=z+V):1≤g∧z2+(W/V)*V=W∧z2<V∧g-1=W/V:=by
 have hmod:=Nat.div_add_mod W V
 have hlt:=Nat.mod_lt W hV
 rw [Nc] at hmod
 have hg:W/V+1≤g:=by
  rcases Nat.lt_or_ge (W/V) g with h|h'
  ·exact h
  ·exfalso
   have e:g=W/V:=by omega
   rw [e] at h
   omega
 have hg2:g≤W/V+1:=by
  rcases Nat.lt_or_ge (W/V+1) g with h'|h'
  ·exfalso
   have:=Nm V (show W/V+2≤g from h')
   rw [Nat.add_mul] at this
   omega
  ·exact h'
 have e:g=W/V+1:=by omega
 rw [e,Nat.add_mul,Nat.one_mul] at h
 have hc:z2+P*c=W%V+P:=by omega
 have hc1:c=1:=by
  rcases c with _|_|c
  ·omega
  ·rfl
  ·exfalso
   have:P*(c+1+1)=P*c+P+P:=by rw [Nat.mul_add,Nat.mul_add];omega
   omega
 subst hc1
 exact⟨by rw [e];exact Nat.le_add_left _ _,by omega,by omega,by rw [e];rfl⟩
theorem QtB {a b n U q:Nat} (hb:0<b) (hlt:U<b*2^n) (h:a*2^n=U+b*2^n*q):q=a/b∧U/2^n=a%b:=by
 have hp:=Nat.two_pow_pos n
 have hV:0<b*2^n:=Nat.mul_pos hb hp
 have h1:a*2^n/(b*2^n)=q:=by rw [h,Nat.add_mul_div_left _ _ hV,Nat.div_eq_of_lt hlt,Nz]
 have h2:a*2^n%(b*2^n)=U:=by rw [h,Nat.add_mul_mod_self_left,Nat.mod_eq_of_lt hlt]
 rw [Nat.mul_div_mul_right _ _ hp] at h1
 rw [Nat.mul_mod_mul_right] at h2
 exact⟨h1.symm,by rw [←h2,Nat.mul_div_cancel _ hp]⟩
theorem Qzh (p q B D:Nat):p*q*B*D=p*(q*B*D):=by rw [Na,Na,Na]
theorem QiX {V W D v1 v2 head w2 wr vr:Nat} (hV:V=(v1*4294967296+v2)*D+vr) (hv1:0<v1) (hW:W=(head*4294967296+w2)*D+wr) (hw2:w2<4294967296) (hwr:wr<D):W/V≤head/v1:=by
 have hD:0<D:=by omega
 have hV0:0<V:=by
  have:=Nm D (show 1≤v1*4294967296+v2 from by omega)
  omega
 have h1:head+1≤(head/v1+1)*v1:=by
  have:=Nat.div_add_mod head v1
  have h2:=Nat.mod_lt head hv1
  rw [Nat.add_mul,Nat.one_mul,Nc (head/v1)]
  omega
 have h2:W<(head+1)*4294967296*D:=by
  have:(head*4294967296+w2+1)*D≤(head+1)*4294967296*D:=Nm D om
  rw [Nat.add_mul,Nat.one_mul] at this
  omega
 have h3:(head+1)*4294967296*D≤(head/v1+1)*V:=by
  have e1:(head+1)*4294967296*D≤(head/v1+1)*v1*4294967296*D:=Nm D (Nm _ h1)
  have e0:v1*4294967296*D≤V:=by rw [hV,Nat.add_mul,Nat.add_assoc];exact Nat.le_add_right _ _
  have e2:=Nat.mul_le_mul_left (head/v1+1) e0
  rw [←Qzh] at e2
  exact Lt e1 e2
 have:W/V<head/v1+1:=(Nat.div_lt_iff_lt_mul hV0).2 om
 omega
theorem QqA {bs vs:List Nat} {n k:Nat} (hb:∀x∈bs,x<4294967296) (hl:bs.length=k+2) (hn:n≤32) (h1:2147483648≤bs.getD (k+1) 0*2^n) (h2:bs.getD (k+1) 0*2^n<4294967296) (hv:∀x∈vs,x<4294967296) (hvl:vs.length=k+3) (hvv:val vs=val bs*2^n):
  val (vs.take (k+2))=val bs*2^n∧2147483648≤vs.getD (k+1) 0∧val bs*2^n<4294967296^(k+2):=by
 have hB:=Vu hn
 have hp:=Nat.two_pow_pos n
 have e1:=Qy bs (k+1)
 rw [W4 hl] at e1
 have e2:=XO bs hb (k+1) om
 generalize bs.getD (k+1) 0=t at*
 generalize hP:4294967296^(k+1)=P at*
 have ht:t+1≤2^(32-n):=by
  have:2^n*t<2^n*2^(32-n):=by rw [Nc];omega
  exact Nat.lt_of_mul_lt_mul_left this
 have hlt:val bs*2^n<P*4294967296:=by
  have a1:val bs<P*(t+1):=by rw [Nat.mul_add];omega
  have a2:=Nat.mul_lt_mul_of_pos_right a1 hp
  have a3:P*(t+1)*2^n≤P*4294967296:=by
   rw [Na]
   refine Nat.mul_le_mul_left P ?_
   rw [hB,Nc]
   exact Nat.mul_le_mul_left _ ht
  omega
 have hP2:4294967296^(k+2)=P*4294967296:=by rw [show k+2=(k+1)+1 from rfl,Nat.pow_succ,hP]
 have hs:=YP vs (k+2) om
 rw [QmI (zs:=vs) (m:=k+2) (by rw [hvv,hP2];exact hlt),Nat.mul_zero,Nat.add_zero] at hs
 refine⟨by omega,?_,by rw [hP2];exact hlt⟩
 have e3:val (vs.take (k+2))=val (vs.take (k+1))+4294967296^(k+1)*vs.getD (k+1) 0:=Qy vs (k+1)
 have e4:=XO vs hv (k+1) om
 rw [hP] at e3 e4
 have hge:P*2147483648≤val bs*2^n:=by
  rw [e1,Nat.add_mul,Na]
  have:=Nat.mul_le_mul_left P h1
  omega
 have:P*2147483648<P*(vs.getD (k+1) 0+1):=by
  rw [Nat.mul_add,Ad]
  omega
 have:=Nat.lt_of_mul_lt_mul_left this
 omega
theorem Qos {a b n la lb:Nat} (ha:a<4294967296^la) (hb:4294967296^(lb-1)≤b) (hl:lb≤la) (h0:1≤lb):a*2^n<b*2^n*4294967296^(la+1-lb):=by
 have hp:=Nat.two_pow_pos n
 have h1:4294967296^la=4294967296^(lb-1)*4294967296^(la+1-lb):=by rw [←Nat.pow_add];congr 1;omega
 have h2:=Nm (4294967296^(la+1-lb)) hb
 rw [←h1] at h2
 have h3:=Nat.mul_lt_mul_of_pos_right (Ae ha h2) hp
 rw [Nat.mul_right_comm]
 exact h3
structure RD where
 neg:Bool
 num:List Nat
 den:List Nat
def RD.wf (r:RD) (L:Nat):Prop:=(∀x∈r.num,x<4294967296)∧(∀x∈r.den,x<4294967296)∧r.num.length≤L∧r.den.length≤L
def VP (xs:List Nat):Bool:=decide (0<xs.length)&& !decide (xs.getD (xs.length-1) 0=0)
def RD.valid (r:RD):Bool:=if r.num.length=0∧r.den.length=0 then !r.neg else VP r.num&&VP r.den&&decide (Nat.gcd (val r.num) (val r.den)=1)
def RD.some (r:RD):Bool:=r.valid&&decide (r.num.length≠0)
def RD.pn (r:RD):Nat:=if r.some then val r.num else 0
def RD.pd (r:RD):Nat:=if r.some then val r.den else 1
def RD.ps (r:RD):Bool:=if r.some then r.neg else false
def U5 (neg:Bool) (n:Nat):Int:=if neg then-(n:Int) else n
def sq (neg:Bool) (n d:Nat):Rat:=mkRat (U5 neg n) d
def RD.q (r:RD):Rat:=sq r.ps r.pn r.pd
def rd (q:Rat):RD:=⟨decide (q.num<0),Qc q.num.natAbs,if q.num=0 then [] else Qc q.den⟩
theorem Ju (b:Bool) (n:Nat):(U5 b n).natAbs=n:=by unfold U5;cases b<;>simp
theorem QmJ (b:Bool) (n:Nat):U5 (!b) n= -U5 b n:=by unfold U5;cases b<;>simp
theorem OV {n:Int} {d:Nat} (hd:d≠0):(mkRat n d).num=n/(n.natAbs.gcd d:Nat)∧(mkRat n d).den=d/n.natAbs.gcd d:=by
 rw [←Rat.normalize_eq_mkRat hd,Rat.normalize_eq]
 exact⟨rfl,rfl⟩
theorem Qdm {xs:List Nat} (hx:∀x∈xs,x<4294967296) (hp:VP xs=true):Qc (val xs)=xs∧val xs≠0:=by
 simp only [VP,Ba,Dq,Bool.not_eq_true',decide_eq_false_iff_not] at hp
 have h:=Qoo hx (.inr hp.2)
 refine⟨h,fun e=> ?_⟩
 rw [e,QC] at h
 rw [←h] at hp
 simp at hp
theorem RD.some_spec {r:RD} {L:Nat} (hw:r.wf L) (hs:r.some=true):Qc (val r.num)=r.num∧Qc (val r.den)=r.den∧val r.num≠0∧val r.den≠0∧Nat.gcd (val r.num) (val r.den)=1:=by
 simp only [RD.some,Ba,Dq] at hs
 obtain⟨hv,hn⟩:=hs
 unfold RD.valid at hv
 rw [iN (fun h=>hn h.1)] at hv
 simp only [Ba,Dq] at hv
 obtain⟨⟨h1,h2⟩,h3⟩:=hv
 have p1:=Qdm hw.1 h1
 have p2:=Qdm hw.2.1 h2
 exact⟨p1.1,p2.1,p1.2,p2.2,h3⟩
theorem RD.pd_ne {r:RD} {L:Nat} (hw:r.wf L):r.pd≠0:=by
 unfold RD.pd
 split
 ·rename_i h;exact(RD.some_spec hw h).2.2.2.1
 ·simp
theorem KE:Qc 1=[1]:=by rw [X5 om];simp [QC]
theorem RD.pn_words {r:RD} {L:Nat} (hw:r.wf L) (hs:r.some=true):Qc r.pn=r.num∧Qc r.pd=r.den∧r.ps=r.neg:=by
 obtain⟨h1,h2,_⟩:=RD.some_spec hw hs
 unfold RD.pn RD.pd RD.ps
 simp only [hs,if_true]
 exact⟨h1,h2,trivial⟩
theorem RD.pn_none {r:RD} (hs:r.some=false):Qc r.pn=[]∧Qc r.pd=[1]∧r.ps=false:=by
 unfold RD.pn RD.pd RD.ps
 simp [hs,QC,KE]
theorem RD.p_len {r:RD} {L:Nat} (hw:r.wf L) (hL:1≤L):(Qc r.pn).length≤L∧(Qc r.pd).length≤L:=by
 cases hs:r.some with
 |true=>obtain⟨h1,h2,_⟩:=RD.pn_words hw hs;rw [h1,h2];exact⟨hw.2.2.1,hw.2.2.2⟩
 |false=>obtain⟨h1,h2,_⟩:=RD.pn_none hs;rw [h1,h2];exact⟨by simp,by simpa using hL⟩
theorem QqB {neg:Bool} {n d:Nat} (hn:n≠0) (hd:d≠0):rd (sq neg n d)=⟨neg,Qc (n/Nat.gcd n d),Qc (d/Nat.gcd n d)⟩:=by
 obtain⟨h1,h2⟩:=OV (n:=U5 neg n) hd
 rw [Ju] at h1 h2
 have hg:0<Nat.gcd n d:=Nat.gcd_pos_of_pos_left _ (Nat.pos_of_ne_zero hn)
 have hdv:Nat.gcd n d∣n:=Nat.gcd_dvd_left n d
 have hq:0<n/Nat.gcd n d:=Nat.div_pos (Nat.le_of_dvd (Nat.pos_of_ne_zero hn) hdv) hg
 have hnum:(sq neg n d).num=U5 neg (n/Nat.gcd n d):=by
  unfold sq
  rw [h1]
  unfold U5
  cases neg with
  |false=>simp
  |true=>
   simp only [if_true]
   rw [Int.neg_ediv_of_dvd (Int.ofNat_dvd.2 hdv)]
   simp
 unfold rd
 rw [hnum]
 have h0:U5 neg (n/Nat.gcd n d)≠0:=fun e=>by
  have:=congrArg Int.natAbs e
  rw [Ju] at this
  rw [this] at hq
  simp at hq
 rw [iN h0,Ju]
 have e2:(sq neg n d).den=d/Nat.gcd n d:=h2
 rw [e2]
 congr 1
 generalize n/Nat.gcd n d=m at hq
 unfold U5
 cases neg with
 |false=>simp
 |true=>simp;omega
theorem rd_zero:rd 0=⟨false,[],[]⟩:=by simp [rd,QC]
theorem Qbz (neg:Bool) (d:Nat):sq neg 0 d=0:=by unfold sq U5;cases neg<;>simp [Rat.zero_mkRat]
theorem QbA {n:Nat} (h:n≠0):VP (Qc n)=true:=by
 have hp:=(KY n).resolve_left (fun e=>h (Xl.1 e))
 have hl:(Qc n).length≠0:=fun e=>h (Xl.1 (Lh.1 e))
 simp only [VP,Ba,Dq,Bool.not_eq_true',decide_eq_false_iff_not]
 exact⟨by omega,hp⟩
theorem Qhp {q:Rat} (h:q≠0):(rd q).some=true∧(rd q).valid=true:=by
 have hn:q.num≠0:=fun e=>h (Rat.num_eq_zero.1 e)
 have hl:(Qc q.num.natAbs).length≠0:=fun e=>hn (by have:=Xl.1 (Lh.1 e);omega)
 have hv:(rd q).valid=true:=by
  unfold RD.valid rd
  simp only [hn,if_false]
  rw [iN (fun x=>hl x.1),QbA om,QbA q.den_nz,Qd,Qd]
  have:=q.reduced
  simp only [Bool.and_self,Bool.true_and,Dq]
  exact this
 refine⟨?_,hv⟩
 unfold RD.some
 rw [hv]
 simp only [Bool.true_and,Dq]
 exact hl
theorem Ow (q:Rat):(rd q).q=q:=by
 by_cases h:q=0
 ·subst h
  rw [rd_zero]
  rfl
 ·obtain⟨h1,_⟩:=Qhp h
  have hn:q.num≠0:=fun e=>h (Rat.num_eq_zero.1 e)
  have e:(rd q).q=sq (decide (q.num<0)) q.num.natAbs q.den:=by
   unfold RD.q RD.ps RD.pn RD.pd
   rw [h1]
   simp only [if_true]
   unfold rd
   simp only [hn,if_false,Qd]
  rw [e]
  unfold sq
  have:U5 (decide (q.num<0)) q.num.natAbs=q.num:=by
   unfold U5
   split
   ·rename_i hlt;simp only [Dq] at hlt;omega
   ·rename_i hlt;simp only [Dq] at hlt;omega
  rw [this]
  exact Rat.mkRat_self q
theorem QqC (q:Rat):(rd q).valid=true:=by
 by_cases h:q=0
 ·subst h;rw [rd_zero];rfl
 ·exact(Qhp h).2
def fits (q:Rat) (L:Nat):Prop:=q.num.natAbs<4294967296^L∧q.den<4294967296^L
theorem YF {q:Rat} {L M:Nat} (h:fits q L) (hm:L≤M):fits q M:=
 ⟨Ae h.1 (Nat.pow_le_pow_right om hm),Ae h.2 (Nat.pow_le_pow_right om hm)⟩
theorem UI {q:Rat} {L:Nat} (h:fits q L):(rd q).wf L:=by
 refine⟨Qr _,?_,X6 h.1,?_⟩
 ·unfold rd
  simp only
  split
  ·simp
  ·exact Qr _
 ·unfold rd
  simp only
  split
  ·simp
  ·exact X6 h.2
theorem QmK {neg:Bool} {n d L:Nat} (hd:d≠0) (h1:n<4294967296^L) (h2:d<4294967296^L):fits (sq neg n d) L:=by
 obtain⟨e1,e2⟩:=OV (n:=U5 neg n) hd
 rw [Ju] at e1 e2
 unfold fits sq
 rw [e1,e2]
 refine⟨Nat.lt_of_le_of_lt ?_ h1,Nat.lt_of_le_of_lt (Nat.div_le_self _ _) h2⟩
 have:=Int.natAbs_ediv_le_natAbs (U5 neg n) ((Nat.gcd n d:Nat):Int)
 rw [Ju] at this
 exact this
theorem RD.fits {r:RD} {L:Nat} (hw:r.wf L) (hL:1≤L):fits r.q L:=by
 obtain⟨h1,h2⟩:=RD.p_len hw hL
 have hp:=RD.pd_ne hw
 exact QmK hp (Ae (Ym _) (Nat.pow_le_pow_right om h1)) (Ae (Ym _) (Nat.pow_le_pow_right om h2))
theorem QmL {n:Int} {d L:Nat} (hd:d≠0) (h1:n.natAbs<4294967296^L) (h2:d<4294967296^L):PN.fits (mkRat n d) L:=by
 obtain⟨e1,e2⟩:=OV (n:=n) hd
 unfold PN.fits
 rw [e1,e2]
 exact⟨Nat.lt_of_le_of_lt (Int.natAbs_ediv_le_natAbs _ _) h1,Nat.lt_of_le_of_lt (Nat.div_le_self _ _) h2⟩
theorem KF {a b L M:Nat} (h1:a<4294967296^L) (h2:b<4294967296^M):a*b<4294967296^(L+M):=by
 rw [Nat.pow_add]
 exact Nat.mul_lt_mul'' h1 h2
theorem QqD {a b:Rat} {L M:Nat} (ha:PN.fits a L) (hb:PN.fits b M):PN.fits (a+b) (L+M+1):=by
 rw [Rat.add_def,Rat.normalize_eq_mkRat]
 have h3:=KF ha.1 hb.2
 have h4:=KF hb.1 ha.2
 rw [Nat.add_comm M L] at h4
 refine QmL (Nat.mul_ne_zero a.den_nz b.den_nz) ?_ ?_
 ·refine Nat.lt_of_le_of_lt (Int.natAbs_add_le _ _) ?_
  rw [Int.natAbs_mul,Int.natAbs_mul,Int.natAbs_natCast,Int.natAbs_natCast,Nat.pow_succ]
  omega
 ·have:=KF ha.2 hb.2
  rw [Nat.pow_succ]
  omega
theorem QiY {a:Rat} {L:Nat} (ha:PN.fits a L):PN.fits (-a) L:=by
 unfold PN.fits
 rw [Rat.neg_num,Rat.neg_den,Int.natAbs_neg]
 exact ha
theorem QqE {a b:Rat} {L M:Nat} (ha:PN.fits a L) (hb:PN.fits b M):PN.fits (a-b) (L+M+1):=by
 rw [Rat.sub_eq_add_neg];exact QqD ha (QiY hb)
theorem Qdn (x:Bool) {n m d e:Nat} (hd:d≠0) (he:e≠0):sq x (n*e+m*d) (d*e)=sq x n d+sq x m e:=by
 unfold sq
 rw [Rat.mkRat_add_mkRat _ _ hd he]
 congr 1
 unfold U5
 cases x<;>simp [Int.natCast_mul,Int.neg_add,Int.neg_mul]
theorem QcC (x:Bool) {n m d e:Nat} (hd:d≠0) (he:e≠0) (h:m*d≤n*e):sq x (n*e-m*d) (d*e)=sq x n d+sq (!x) m e:=by
 unfold sq
 rw [Rat.mkRat_add_mkRat _ _ hd he,QmJ]
 congr 1
 unfold U5
 cases x
 ·simp only [Bool.false_eq_true,if_false]
  rw [Int.ofNat_sub h,Int.natCast_mul,Int.natCast_mul,Int.neg_mul];omega
 ·simp only [if_true]
  rw [Int.ofNat_sub h,Int.natCast_mul,Int.natCast_mul,Int.neg_neg,Int.neg_mul];omega
theorem Qgl (x:Bool) {n m d e:Nat} (hd:d≠0) (he:e≠0) (h:n*e≤m*d):sq (!x) (m*d-n*e) (d*e)=sq x n d+sq (!x) m e:=by
 have:=QcC (!x) (n:=m) (m:=n) (d:=e) (e:=d) he hd h
 rw [Bool.not_not,Nc e d] at this
 rw [this]
 exact Rat.add_comm _ _
theorem Qwo (x:Bool) (n d:Nat):sq (!x) n d= -sq x n d:=by
 unfold sq
 rw [Rat.neg_mkRat,QmJ]
def YJ (q:Rat):Int:=if q=0 then 0 else if q<0 then-1 else 1
theorem QvN {neg:Bool} {n d:Nat} (hn:n≠0) (hd:d≠0):sq neg n d≠0:=by
 unfold sq
 rw [Ne,Rat.mkRat_eq_zero hd]
 intro e
 have:=congrArg Int.natAbs e
 rw [Ju] at this
 simp at this
 exact hn this
theorem QvO {neg:Bool} {n d:Nat} (hn:n≠0) (hd:d≠0):sq neg n d<0↔neg=true:=by
 have h:=QqB (neg:=neg) hn hd
 have h1:decide ((sq neg n d).num<0)=neg:=congrArg RD.neg h
 have h2:sq neg n d<0↔(sq neg n d).num<0:=by rw [Rat.lt_iff];simp
 rw [h2]
 constructor
 ·intro h3;rw [←h1];simpa using h3
 ·intro h3;rw [h3] at h1;rw [h3];simpa using h1
end Go.PN
namespace Go.Proofs.YtngjgahldnnapaaGreatDoor
open Go.AI Go.PN Tryz
attribute [local irreducible] aw Fa ZN ZZ Fh YE
theorem Qot {t:Nat} (h0:t≠0) (hl:t<4294967296):32-Q8 t<32∧2147483648≤t*2^(32-Q8 t)∧t*2^(32-Q8 t)<4294967296:=by
 have h1:Q8 t≤32:=Qam (k:=32) hl
 have h2:Q8 t=Nat.log2 t+1:=by unfold Q8;rw [iN h0]
 have h3:=Nat.log2_self_le h0
 have h4:=Nat.lt_log2_self (n:=t)
 have hk:32-Q8 t+Q8 t=32:=by omega
 refine⟨by omega,?_,?_⟩
 ·have:=Nm (2^(32-Q8 t)) h3
  rw [←Nat.pow_add,show t.log2+(32-Q8 t)=31 from by omega] at this
  exact this
 ·have:=Nat.mul_lt_mul_of_pos_right h4 (Nat.two_pow_pos (32-Q8 t))
  rw [←Nat.pow_add,show t.log2+1+(32-Q8 t)=32 from by omega] at this
  exact this
theorem QqF (xs ys:List Nat) (hx:∀x∈xs,x<4294967296) (hy:∀x∈ys,x<4294967296) (hlx:xs.length≤68719476736) (hly:ys.length≤68719476736) (h0:val ys≠0):
  Fa prog 298 [.c (ws false xs),.c (ws false ys)] (.tup [.c (ws true (Qc (val xs/val ys))),.c (ws true (Qc (val xs%val ys))),.c .nilI]):=by
 refine fA func298 fun C hC=>?_
 refine xG ?_
 refine Qu (ZX xs hx om) rfl rfl rfl eL ?_
 refine Z1 ?_
 refine Qu (ZX ys hy om) rfl rfl rfl eL ?_
 refine xS ?_
 have hla:(Qc (val xs)).length≤68719476736:=Lt (QV xs hx) hlx
 have hlb:(Qc (val ys)).length≤68719476736:=Lt (QV ys hy) hly
 generalize val xs=a at hla⊢
 generalize val ys=b at hlb h0⊢
 have hwa:=Qr a
 have hwb:=Qr b
 have hva:=Qd a
 have hvb:=Qd b
 have hbne:(Qc b).length≠0:=fun e=>h0 (Xl.1 (Lh.1 e))
 refine xG ?_
 refine QS eE (fun hb=> ?_) (fun _=> ?_)
 ·have:=eq_of_beq hb;omega
 refine xG ?_
 refine Qu (Qew (Qc a) (Qc b) hwa hwb hla hlb) rfl rfl rfl eL ?_
 refine xS ?_
 rw [hva,hvb]
 refine xG ?_
 refine QS eE (fun hb=> ?_) (fun hb=> ?_)
 ·have hlt:a<b:=by
   have:=of_decide_eq_true hb
   unfold ZQ at this
   split at this
   ·assumption
   ·split at this<;>omega
  refine xGT hC ?_
  rw [Nat.div_eq_of_lt hlt,Nat.mod_eq_of_lt hlt,QC]
  exact .tup ⟨.c .nils,.c Xc,.c .nilI,trivial⟩
 have hge:b≤a:=by
  have:=of_decide_eq_false hb
  unfold ZQ at this
  split at this
  ·omega
  ·omega
 have hlab:(Qc b).length≤(Qc a).length:=QL hge
 refine xG ?_
 refine QS eE (fun hb=> ?_) (fun hb=> ?_)
 ·have hl1:(Qc b).length=1:=by have:=eq_of_beq hb;omega
  have hbw:b=(Qc b).getD 0 0:=by
   match hws:Qc b,hl1 with
   |[w],_=>rw [hws,QmH] at hvb;exact hvb.symm
  have hb32:=QI hwb 0
  refine xG ?_
  refine Qu (QiQ (Qc a) ((Qc b).getD 0 0) hwa hla om hb32) rfl rfl rfl eL ?_
  refine xS ?_
  rw [hva,←hbw]
  have hml:a%b<4294967296:=by have:=Nat.mod_lt a (show 0<b from by omega);omega
  refine xG ?_
  refine Qu (QvM ((a%b:Nat):Int) om om) rfl rfl rfl eL ?_
  refine UW hC ?_
  exact .tup ⟨.c Xc,.c Xc,.c .nilI,trivial⟩
 have hl2:(Qc b).length≠1:=fun e=>by rw [e] at hb;cases hb
 obtain⟨k,hk⟩:∃k,(Qc b).length=k+2:=⟨(Qc b).length-2,by omega⟩
 have htop:(Qc b).getD ((Qc b).length-1) 0≠0:=(KY b).resolve_left (fun e=>by rw [e] at hbne;exact hbne rfl)
 have htl:=QI hwb ((Qc b).length-1)
 obtain⟨hn,hn1,hn2⟩:=Qot htop htl
 refine xG ?_
 refine Qu (Qtx _ htl) rfl rfl rfl eL ?_
 refine xS ?_
 generalize hnn:32-Q8 ((Qc b).getD ((Qc b).length-1) 0)=n at hn hn1 hn2⊢
 refine xG ?_
 refine Ql (QmG (Qc b) n hwb hlb hn) rfl rfl rfl (.refl _) eL ?_
 rintro r h' ⟨gv,vs,rfl,rfl,hvl,hvw,hvv⟩ hfr
 refine Z1 ?_
 have hkk:(Qc b).length-1=k+1:=by omega
 rw [hkk] at hn1 hn2
 obtain⟨hv1,hv2,hv3⟩:=QqA (n:=n) hwb hk om hn1 hn2 hvw om hvv
 refine Qto (t:=10) (ys:=vs.take (k+2)) eE eE om (hC gv) (by simp;omega) (fun j hj=>by rw [Nz,Wm om]) eE eE ?_
 refine QM (σ':=[(0,.c (ws true (Qc a))),(9,.c (.int .i64 n)),(10,.c (ws true (vs.take (k+2)))),(59,.c (ws true (Qc a))),(60,.c (.int .i64 n))]) (h':=[]) (Sl.sub_le eB) zZ ?_
 have hvvl:(vs.take (k+2)).length=k+2:=by simp;omega
 have hvvw:∀x∈vs.take (k+2),x<4294967296:=fun x hx=>hvw x (List.mem_of_mem_take hx)
 rw [←Wm (show k+1<k+2 from by omega)] at hv2
 rw [hvb] at hv1 hv3
 generalize vs.take (k+2)=v at hv1 hv2 hvvl hvvw⊢
 refine Ql (QmG (Qc a) n hwa hla hn) rfl rfl rfl (.refl _) eL ?_
 rintro r h' ⟨gu,us,rfl,rfl,hul,huw,huv⟩ hfr
 refine Z1 ?_
 refine Xv 16 Qg kR ?_
 have hb1:=QI hvvw (v.length-1)
 have hb2:=QI hvvw (v.length-2)
 have e2:((v.length:Int)-2).toNat=v.length-2:=by omega
 refine yI e2 ?_
 have hvm1:v.length-1=k+1:=by omega
 have hvm2:v.length-2=k:=by omega
 rw [hvm1] at hb1
 rw [hvm2] at hb2
 have eq0:(((Qc a).length+1:Nat):Int)-(v.length:Int)=(((Qc a).length+1-(k+2):Nat):Int):=by omega
 rw [hvm1,hvm2,eq0]
 refine Jt (n:=(Qc a).length+1-(k+2)) (c:=(Qc a).length+1-(k+2)) rfl rfl rfl Xy Xt rfl om eE eE rfl rfl om om om fun gq hgq=> ?_
 rw [UD ((Qc a).length+1-(k+2))]
 have hne:¬gq=gu:=fun e=>hgq (by simp [Qa.keys,e])
 have hne2:¬gu=gq:=fun e=>hne e.symm
 refine xS ?_
 refine xI ?_
 have hst:=Qos (n:=n) (Ym a) (Qby h0) hlab om
 rw [hva] at huv
 rw [hk,←hv1] at hst
 rw [←huv] at hst
 rw [←hv1] at hv3
 generalize (Qc a).length=la at hla hlab hul eq0 hst⊢
 apply Zz
 generalize hlq:la+1-(k+2)=lq at hst⊢
 refine Qh (fun x:Nat×List Nat×List Nat=>[(4,.c (.osl gq 1 0 lq)),(9,.c (.int .i64 n)),(10,.c (ws true v)),(11,.c (.osl gu 1 0 (la+1))),(12,.c (.int .u64 (v.getD (k+1) 0:Nat))),(13,.c (.int .u64 (v.getD k 0:Nat))),(14,.c (.int .i64 ((x.1:Int)-1)))])
  (fun x=>[(gq,.cells 193 lq (wf x.2.2)),(gu,.cells 193 (la+1) (wf x.2.1))])
  (fun x=>x.1≤lq∧x.2.1.length=la+1∧(∀y∈x.2.1,y<4294967296)∧x.2.2.length=lq∧(∀y∈x.2.2,y<4294967296)∧val x.2.1<val v*4294967296^x.1∧a*2^n=val x.2.1+val v*(4294967296^x.1*val (x.2.2.drop x.1))) (fun x=>x.1) (lq,us,List.replicate lq 0) eB zZ
  ⟨Ac _,hul,huw,by simp,YS _,hst,by simp [val,huv]⟩ ?_
 clear hst huv huw hul hfr hgq us
 rintro ⟨m,us,qs⟩ ⟨hm,hul,huw,hql,hqw,hlt,hA⟩
 dsimp only at hm hul huw hql hqw hlt hA⊢
 refine xI ?_
 refine QS eE (fun hb=> ?_) (fun hb=> ?_)
 ·have hm1:1≤m:=dT hb
  obtain⟨j,rfl⟩:∃j,m=j+1:=⟨m-1,by omega⟩
  have e14:((j+1:Nat):Int)-1=(j:Int):=by omega
  rw [e14]
  have hLL:j+(k+2)+1≤us.length:=by omega
  obtain⟨w1,w2,w3,w4⟩:=Qwn (V:=val v) huw hLL hv3 hlt
  have hWl:((us.drop j).take (k+2+1)).length=k+3:=by simp;omega
  have hWw:∀x∈(us.drop j).take (k+2+1),x<4294967296:=fun x hx=>huw x (List.mem_of_mem_drop (List.mem_of_mem_take hx))
  have t3:=Qzg hWl
  rw [QcB om,QcB om,QcB om] at t3
  have t3l:=XO _ hWw k om
  have t2:=Qzf hvvl
  have t2l:=XO _ hvvw k om
  have hhead:=QtA t2 hb2 t2l t3 w4
  have hw0:=QI huw (j+(k+2))
  have hw1:=QI huw (j+(k+1))
  have hw2:=QI huw (j+k)
  have hVpos:0<val v:=by rw [hv1];exact Nat.mul_pos (Nat.pos_of_ne_zero h0) (Nat.two_pow_pos n)
  have e3:((j:Int)+((k+2:Nat):Int)-1).toNat=j+(k+1):=by omega
  have e4:((j:Int)+((k+2:Nat):Int)-2).toNat=j+k:=by omega
  have e5:((j:Int)+((k+2:Nat):Int)+1).toNat=j+(k+3):=by omega
  apply QdI
  apply Yd
  apply Zz
  apply Yd
  refine Xv 20 Qg kR ?_
  refine yI (oj hvvl (oj e3 (oj e4 (oj e5 (oj hne (oj hne2 @Nat.add_sub_cancel_left)))))) ?_
  rw [VO _ hw0,Qa2 _ _ hw0 hw1]
  have hhl:j32 (us.getD (j+(k+2)) 0) (us.getD (j+(k+1)) 0)<18446744073709551616:=by unfold j32;omega
  have hhv:j32 (us.getD (j+(k+2)) 0) (us.getD (j+(k+1)) 0)≤v.getD (k+1) 0*4294967296+us.getD (j+(k+1)) 0:=by unfold j32;omega
  replace t3:val ((us.drop j).take (k+2+1))=(j32 (us.getD (j+(k+2)) 0) (us.getD (j+(k+1)) 0)*4294967296+us.getD (j+k) 0)*4294967296^k+val (((us.drop j).take (k+2+1)).take k):=t3
  generalize j32 (us.getD (j+(k+2)) 0) (us.getD (j+(k+1)) 0)=hd at t3 hhl hhv⊢
  have gs:=QiX t2 om t3 hw2 t3l
  generalize hWv:val ((us.drop j).take (k+2+1))=W at t3 gs w1 w4
  have hhq:hd/v.getD (k+1) 0*v.getD (k+1) 0+hd%v.getD (k+1) 0=hd:=by rw [Nc];exact Nat.div_add_mod _ _
  have hhr:hd%v.getD (k+1) 0<v.getD (k+1) 0:=Nat.mod_lt _ om
  refine Xv 8 Qg kR ?_
  have J1:=oj hvvl (oj e3 (oj e4 (oj e5 (oj hne (oj hne2 @Nat.add_sub_cancel_left)))))
  refine yI J1 ?_
  rw [Qhn _ _ hhl,Qho]
  refine QM (σ':=[(4,.c (.osl gq 1 0 lq)),(9,.c (.int .i64 n)),(10,.c (ws true v)),(11,.c (.osl gu 1 0 (la+1))),(12,.c (.int .u64 (v.getD (k+1) 0:Nat))),(13,.c (.int .u64 (v.getD k 0:Nat))),(14,.c (.int .i64 j)),(16,.c (.int .u64 (hd/v.getD (k+1) 0:Nat))),(17,.c (.int .u64 (hd%v.getD (k+1) 0:Nat)))]) (h':=[(gq,.cells 193 lq (wf qs)),(gu,.cells 193 (la+1) (wf us))]) (Sl.sub_le (zB J1)) zZ ?_
  refine Yy (fun g:Nat=>[(4,.c (.osl gq 1 0 lq)),(9,.c (.int .i64 n)),(10,.c (ws true v)),(11,.c (.osl gu 1 0 (la+1))),(12,.c (.int .u64 (v.getD (k+1) 0:Nat))),(13,.c (.int .u64 (v.getD k 0:Nat))),(14,.c (.int .i64 j)),(16,.c (.int .u64 g))]) (fun _=>[(gq,.cells 193 lq (wf qs)),(gu,.cells 193 (la+1) (wf us))]) (fun g=>W/val v≤g∧g*val v<W+val v∧g<4294967296) ?_ ?_
  ·apply Zz
   refine Qh (fun x:Nat×Nat=>[(4,.c (.osl gq 1 0 lq)),(9,.c (.int .i64 n)),(10,.c (ws true v)),(11,.c (.osl gu 1 0 (la+1))),(12,.c (.int .u64 (v.getD (k+1) 0:Nat))),(13,.c (.int .u64 (v.getD k 0:Nat))),(14,.c (.int .i64 j)),(16,.c (.int .u64 x.1)),(17,.c (.int .u64 x.2))]) (fun _=>[(gq,.cells 193 lq (wf qs)),(gu,.cells 193 (la+1) (wf us))])
    (fun x=>W/val v≤x.1∧x.1*v.getD (k+1) 0+x.2=hd∧x.2<4294967296) (fun x=>x.1) (hd/v.getD (k+1) 0,hd%v.getD (k+1) 0) (zB (oj hvvl (oj e3 (oj e4 (oj e5 (oj hne (oj hne2 @Nat.add_sub_cancel_left))))))) zZ ⟨gs,hhq,by dsimp only;omega⟩ ?_
   rintro ⟨g,rest⟩ ⟨hg1,hg2,hg3⟩
   dsimp only at hg1 hg2 hg3⊢
   apply Yd
   apply Yd
   refine Yy (fun tt:Bool=>[(4,.c (.osl gq 1 0 lq)),(9,.c (.int .i64 n)),(10,.c (ws true v)),(11,.c (.osl gu 1 0 (la+1))),(12,.c (.int .u64 (v.getD (k+1) 0:Nat))),(13,.c (.int .u64 (v.getD k 0:Nat))),(14,.c (.int .i64 j)),(16,.c (.int .u64 g)),(17,.c (.int .u64 rest)),(133,.c (.bool tt))]) (fun _=>[(gq,.cells 193 lq (wf qs)),(gu,.cells 193 (la+1) (wf us))])
    (fun tt=>(tt=true→W/val v<g)∧(tt=false→g<4294967296∧g*v.getD k 0≤rest*4294967296+us.getD (j+k) 0)) ?_ ?_
   ·by_cases hgB:g<4294967296
    ·have hdec:decide ((g:Int)≥4294967296)=false:=by simp;omega
     have hmb:=Wn hgB hb2
     have J2:=oj hvvl (oj e3 (oj e4 (oj e5 (oj hne (oj hne2 (oj @Nat.add_sub_cancel_left hdec))))))
     refine yI J2 ?_
     rw [VO _ hg3,Qa2 _ _ hg3 hw2]
     refine Qb ⟨_,(zB J2),zZ,fun h=> ?_,fun h=>⟨hgB,?_⟩⟩
     ·have:=of_decide_eq_true h
      unfold j32 at this
      have hlt2:=Qk0 (D:=4294967296^k) (V:=val v) (v2:=v.getD k 0) (by rw [t2];exact Nat.le_add_right _ _) t3 t3l hg2 (by rw [←Int.natCast_mul] at this;omega)
      exact(Nat.div_lt_iff_lt_mul hVpos).2 hlt2
     ·have:=of_decide_eq_false h
      unfold j32 at this
      rw [←Int.natCast_mul] at this
      omega
    ·have hdec:decide ((g:Int)≥4294967296)=true:=by simp;omega
     have J3:=oj hvvl (oj e3 (oj e4 (oj e5 (oj hne (oj hne2 (oj @Nat.add_sub_cancel_left hdec))))))
     refine yI J3 ?_
     refine Qb ⟨true,(zB J3),zZ,fun _=> ?_,fun h=>by cases h⟩
     have:W/val v<4294967296:=(Nat.div_lt_iff_lt_mul hVpos).2 (by rw [Nc];exact w4)
     omega
   ·rintro tt ⟨htt,htf⟩
    refine QS (zE (oj hvvl (oj e3 (oj e4 (oj e5 (oj hne (oj hne2 @Nat.add_sub_cancel_left))))))) (fun h=> ?_) (fun h=> ?_)
    ·have hgt:=htt h
     have hg0:0<g:=Nat.lt_of_le_of_lt (Lz _) hgt
     have hgle:g≤g*v.getD (k+1) 0:=Nat.le_mul_of_pos_right g om
     have hgm:(g-1)*v.getD (k+1) 0+(rest+v.getD (k+1) 0)=hd:=by
      obtain⟨g',rfl⟩:∃g',g=g'+1:=⟨g-1,by omega⟩
      rw [Nat.add_mul,Nat.one_mul] at hg2
      simp only [Nat.add_sub_cancel]
      omega
     refine yG (oj hvvl (oj e3 (oj e4 (oj e5 (oj hne (oj hne2 @Nat.add_sub_cancel_left)))))) ?_
     have eg:(g:Int)-1=((g-1:Nat):Int):=by omega
     have er:(rest:Int)+((v.getD (k+1) 0:Nat):Int)=((rest+v.getD (k+1) 0:Nat):Int):=by omega
     rw [eg,er]
     refine QS (zE (oj hvvl (oj e3 (oj e4 (oj e5 (oj hne (oj hne2 @Nat.add_sub_cancel_left))))))) (fun h=> ?_) (fun h=> ?_)
     ·have hr:=of_decide_eq_true h
      have J4:=oj hvvl (oj e3 (oj e4 (oj e5 (oj hne (oj hne2 @Nat.add_sub_cancel_left)))))
      refine yI J4 ?_
      have hgs:=QiT hhv hw1 hgm om
      refine Qb ⟨g-1,(zB J4),zZ,by omega,?_,hgs⟩
      refine QiS t2 t2l om t3 hgm hgs ?_
      have m1:=Wn hgs hb2
      have m2:4294967296*4294967296≤(rest+v.getD (k+1) 0)*4294967296:=Nm _ om
      omega
     ·have hr:=of_decide_eq_false h
      have J5:=oj hvvl (oj e3 (oj e4 (oj e5 (oj hne (oj hne2 @Nat.add_sub_cancel_left)))))
      refine yI J5 ?_
      refine Qb ⟨(g-1,rest+v.getD (k+1) 0),by dsimp only;omega,(zB J5),zZ,by dsimp only;omega,hgm,by dsimp only;omega⟩
    ·obtain⟨hf1,hf2⟩:=htf h
     have J6:=oj hvvl (oj e3 (oj e4 (oj e5 (oj hne (oj hne2 @Nat.add_sub_cancel_left)))))
     refine yI J6 ?_
     exact Qb ⟨g,(zB J6),zZ,hg1,QiS t2 t2l om t3 hg2 hf1 hf2,hf1⟩
  ·rintro g ⟨hg1,hg2,hg3⟩
   have hqd:W/val v<4294967296:=(Nat.div_lt_iff_lt_mul hVpos).2 (by rw [Nc];exact w4)
   apply Yd
   refine Yy (fun zs:List Nat=>[(4,.c (.osl gq 1 0 lq)),(9,.c (.int .i64 n)),(10,.c (ws true v)),(11,.c (.osl gu 1 0 (la+1))),(12,.c (.int .u64 (v.getD (k+1) 0:Nat))),(13,.c (.int .u64 (v.getD k 0:Nat))),(14,.c (.int .i64 j)),(16,.c (.int .u64 (W/val v:Nat)))]) (fun zs=>[(gu,.cells 193 (la+1) (wf (win us j zs))),(gq,.cells 193 lq (wf qs))])
    (fun zs=>zs.length=k+3∧(∀y∈zs,y<4294967296)∧val zs+(W/val v)*val v=W∧val zs<val v) ?_ ?_
   ·have J7:=oj hvvl (oj e3 (oj e4 (oj e5 (oj hne (oj hne2 @Nat.add_sub_cancel_left)))))
    refine yI J7 ?_
    have tf:=Qtv gu j (k+3) g us _ v rfl om huw hvvw om hg3 om
    rw [hul] at tf
    refine Ql tf rfl rfl rfl (.swap _ _ []) (zL J7) ?_
    rintro r h' ⟨bb,zs,rfl,rfl,hzl,hzw,hbb,hzv⟩ hfr
    rw [hWv] at hzv
    have hzlt:=Vp zs hzw
    rw [hzl] at hzlt
    refine yS J7 ?_
    refine yI J7 ?_
    refine QS (zE J7) (fun h=> ?_) (fun h=> ?_)
    ·have hb1':bb=1:=by have:=eq_of_beq h;omega
     subst hb1'
     have hg0:1≤g:=by
      rcases Nat.eq_zero_or_pos g with e|e
      ·exfalso;rw [e,Nat.zero_mul] at hzv;omega
      ·exact e
     refine yI (oj hvvl (oj e3 (oj e4 (oj e5 (oj hne (oj hne2 @Nat.add_sub_cancel_left)))))) ?_
     have eg:(g:Int)-1=((g-1:Nat):Int):=by omega
     rw [eg]
     have hwl:(win us j zs).length=la+1:=by rw [W1 om,hul]
     have gf:=Qtw gu j (k+3) (win us j zs) zs v (Qk2 om hzl) om (Qqv huw hzw) hvvw om om
     rw [hwl] at gf
     refine Ql gf rfl rfl rfl (.refl _) (zL (oj hvvl (oj e3 (oj e4 (oj e5 (oj hne (oj hne2 @Nat.add_sub_cancel_left))))))) ?_
     rintro r h' ⟨cc,zs2,rfl,rfl,hzl2,hzw2,hzv2⟩ hfr
     have hzlt2:=Vp zs2 hzw2
     rw [hzl2] at hzlt2
     have hVP:val v≤4294967296^(k+3):=by
      rw [Nat.pow_succ]
      omega
     obtain⟨d1,d2,d3,d4⟩:=Qk3 hVpos hVP hg1 hg2 hzlt hzlt2 hzv hzv2
     rw [Qtz om om,d4]
     have J8:=oj hvvl (oj e3 (oj e4 (oj e5 (oj hne (oj hne2 @Nat.add_sub_cancel_left)))))
     refine yS J8 ?_
     refine yI J8 ?_
     exact Qb ⟨zs2,(zB J8),zZ,hzl2,hzw2,d2,d3⟩
    ·have hb0:bb=0:=by
      have:¬((bb:Int)=1):=fun e=>by rw [e] at h;cases h
      omega
     subst hb0
     obtain⟨d1,d2,d3⟩:=Qqz hVpos hg1 hg2 hzv
     subst d3
     have J9:=oj hvvl (oj e3 (oj e4 (oj e5 (oj hne (oj hne2 @Nat.add_sub_cancel_left)))))
     refine yI J9 ?_
     exact Qb ⟨zs,(zB J9),zZ,hzl,hzw,d1,d2⟩
   ·rintro zs ⟨hzl,hzw,hz1,hz2⟩
    refine yI (oj hvvl (oj e3 (oj e4 (oj e5 (oj hne (oj hne2 @Nat.add_sub_cancel_left)))))) ?_
    rw [QO,Nat.mod_eq_of_lt hqd]
    have J10:=oj hvvl (oj e3 (oj e4 (oj e5 (oj hne (oj hne2 @Nat.add_sub_cancel_left)))))
    refine yW J10 ?_
    refine yS J10 ?_
    rw [Vd om]
    refine Qi (.swap _ _ []) ?_
    refine yI J10 ?_
    have hwv:val (win us j zs)=val (us.take j)+4294967296^j*val zs:=by
     rw [Qtu om,hzl,w3,Nat.mul_zero,Nat.add_zero]
    have hds:=Qev (zs:=qs) (i:=j) (v:=W/val v) om
    have hpw:4294967296^(j+1)=4294967296^j*4294967296:=Nat.pow_succ ..
    rw [hpw] at hA
    obtain⟨s1,s2⟩:=Qqy (A:=a*2^n) w1 w2 hz1 hz2 hA rfl
    refine Qb ⟨(j,win us j zs,qs.set j (W/val v)),by dsimp only;omega,(zB (oj hvvl (oj e3 (oj e4 (oj e5 (oj hne (oj hne2 @Nat.add_sub_cancel_left))))))),zZ,by dsimp only;omega,by rw [W1 om];exact hul,Qqv huw hzw,by simpa using hql,Jc hqw hqd,?_,?_⟩
    ·dsimp only;rw [hwv];exact s1
    ·dsimp only;rw [hwv,hds,val];exact s2
 ·have hm0:m=0:=dF hb
  subst hm0
  simp only [Nat.pow_zero,Ad,Nat.one_mul,List.drop_zero] at hlt hA
  rw [hv1] at hlt hA
  obtain⟨hq,hr⟩:=QtB (Nat.pos_of_ne_zero h0) hlt hA
  have J11:=oj hne hne2
  refine yG J11 ?_
  refine Qu (ZX qs hqw om) rfl rfl rfl (by refine yS J11 ?_;exact .c (Yt (zE J11) om om (fun j _=>by rw [Nz];rfl))) ?_
  refine Xp J11 ?_
  refine Qu (Qqw us n huw om hn) rfl rfl rfl (by refine yS J11 ?_;exact⟨.c (Yt (zE J11) om om (fun j _=>by rw [Nz];rfl)),.c (.refl _)⟩) ?_
  refine Xp J11 ?_
  refine Qu (ZX (rgt n us) (Qqu n us) (by rw [KC];omega)) rfl rfl rfl (zL J11) ?_
  refine Qdy hC J11 ?_
  rw [QmE om us huw,hr,hq]
  exact .tup ⟨.c Xc,.c Xc,.c .nilI,trivial⟩
theorem QqG (xs ys:List Nat) (hx:∀x∈xs,x<4294967296) (hy:∀x∈ys,x<4294967296) (hlx:xs.length≤68719476736) (hly:ys.length≤68719476736):
  Fa prog 297 [.c (ws false xs),.c (ws false ys)] (.c (ws true (Qc (Nat.gcd (val xs) (val ys))))):=by
 refine fA func297 fun C hC=>?_
 refine xG ?_
 refine Qu (ZX xs hx om) rfl rfl rfl eL ?_
 refine Z1 ?_
 refine Qu (ZX ys hy om) rfl rfl rfl eL ?_
 refine xS ?_
 have hla:(Qc (val xs)).length≤68719476736:=Lt (QV xs hx) hlx
 have hlb:(Qc (val ys)).length≤68719476736:=Lt (QV ys hy) hly
 refine xI ?_
 apply Zz
 refine Qh (fun x:Nat×Nat=>[(0,.c (ws true (Qc x.1))),(1,.c (ws true (Qc x.2)))]) (fun _=>[]) (fun x=>(Qc x.1).length≤68719476736∧(Qc x.2).length≤68719476736∧Nat.gcd x.1 x.2=Nat.gcd (val xs) (val ys)) (fun x=>x.2) (val xs,val ys) eB zZ ⟨hla,hlb,rfl⟩ ?_
 rintro ⟨a,b⟩ ⟨hla,hlb,hg⟩
 dsimp only at hla hlb hg⊢
 refine xG ?_
 refine QS eE (fun hb=> ?_) (fun hb=> ?_)
 ·have hb0:b≠0:=fun e=>by have:=of_decide_eq_true hb;rw [e,QC] at this;simp at this
  refine xG ?_
  refine Qu (QqF (Qc a) (Qc b) (Qr a) (Qr b) hla hlb (by rw [Qd];exact hb0)) rfl rfl rfl eL ?_
  rw [Qd,Qd]
  refine Z1 ?_
  have hlt:a%b<b:=Nat.mod_lt _ (Nat.pos_of_ne_zero hb0)
  refine Qb ⟨(b,a%b),hlt,eB,zZ,hlb,Lt (QL (Ll hlt)) hlb,?_⟩
  dsimp only
  rw [←hg,Nat.gcd_comm a b,Nat.gcd_rec b a,Nat.gcd_comm]
 ·have hb0:b=0:=by
   have:=of_decide_eq_false hb
   exact Xl.1 (Lh.1 om)
  subst hb0
  refine xGT hC ?_
  rw [←hg,Nat.gcd_zero_right]
  exact .one (.c Xc)
end Go.Proofs.YtngjgahldnnapaaGreatDoor
namespace Go.Proofs.YtngjgahldnnapaaGreatDoor
open Go.AI Tryz
@[go_sem] theorem QdQ:Qj prog 3=some [.int .i64 0]:=by kernel_rfl
@[go_sem] theorem Zb:Qj prog 9=some [.str ⟨#[]⟩]:=by kernel_rfl
@[go_sem] theorem Qy7:XN prog 2=some (false,1)∧tZI prog 2=some (.i64,0)∧Z4 prog 2=some .i64∧Qj prog 2=some [.int .i64 0]∧XN prog 3=some (false,1)∧tZI prog 3=some (.i64,0)∧Z4 prog 3=some .i64∧XN prog 4=some (false,1)∧Qdf prog 4=true∧Qj prog 4=some [.bool false]∧XN prog 5=some (false,1)∧tZI prog 5=some (.u8,0)∧Z4 prog 5=some .u8∧Qj prog 5=some [.int .u8 0]∧XN prog 6=some (false,1)∧tZI prog 6=some (.u8,0)∧Z4 prog 6=some .u8∧Qj prog 6=some [.int .u8 0]∧XN prog 7=some (true,4)∧Xk prog 7=some [(0,1),(1,1),(2,1),(3,1)]∧Qq prog 7 0=some 0∧Qq prog 7 1=some 1∧Qq prog 7 2=some 2∧Qq prog 7 3=some 3∧Qj prog 7=some [.int .i64 0,.int .i64 0,.bool false,.int .u8 0]∧XN prog 8=some (true,4)∧Xk prog 8=some [(0,1),(1,1),(2,1),(3,1)]∧Qq prog 8 0=some 0∧Qq prog 8 1=some 1∧Qq prog 8 2=some 2∧Qq prog 8 3=some 3∧Qj prog 8=some [.int .i64 0,.int .i64 0,.bool false,.int .u8 0]∧XN prog 9=some (false,1)∧Qcw prog 9=true∧XN prog 10=some (false,1)∧Qcw prog 10=true∧Qj prog 10=some [.str ⟨#[]⟩]∧XN prog 11=some (false,1)∧Qcw prog 11=true∧Qj prog 11=some [.str ⟨#[]⟩]∧XN prog 12=some (false,1)∧tZI prog 12=some (.u64,0)∧Z4 prog 12=some .u64∧Qj prog 12=some [.int .u64 0]∧XN prog 13=some (true,2)∧Xk prog 13=some [(0,1),(1,1)]∧Qq prog 13 0=some 0∧Qq prog 13 1=some 1∧Qj prog 13=some [.str ⟨#[]⟩,.int .u64 0]:=by and_intros<;>kernel_rfl
@[go_sem] theorem QqH:QR prog 23=some (115,2,24):=by kernel_rfl
@[go_sem] theorem Qx2:XN prog 14=some (true,2)∧Xk prog 14=some [(0,1),(1,1)]∧Qq prog 14 0=some 0∧Qq prog 14 1=some 1∧Qj prog 14=some [.str ⟨#[]⟩,.int .u64 0]∧XN prog 15=some (false,1)∧Qj prog 15=some [.raw (.pointer none)]∧XN prog 16=some (false,1)∧Qj prog 16=some [.raw (.pointer none)]∧XN prog 17=some (false,1)∧Qj prog 17=some [.raw (.pointer none)]∧XN prog 18=some (true,1)∧Xk prog 18=some [(0,1)]∧Qq prog 18 0=some 0∧Qj prog 18=some [.raw (.pointer none)]∧XN prog 19=some (true,1)∧Xk prog 19=some [(0,1)]∧Qq prog 19 0=some 0∧Qj prog 19=some [.raw (.pointer none)]∧XN prog 20=some (false,1)∧QaT prog 20=true∧Qj prog 20=some [.nilI]∧XN prog 21=some (false,1)∧tZI prog 21=some (.i32,0)∧Z4 prog 21=some .i32∧Qj prog 21=some [.int .i32 0]∧QR prog 22=some (89,11,192)∧XN prog 22=some (false,1)∧Qj prog 22=some [.nils]∧XN prog 23=some (false,1)∧Qj prog 23=some [.nils]∧QR prog 24=some (79,7,112)∧XN prog 24=some (false,1)∧Qj prog 24=some [.nils]∧QR prog 25=some (91,3,56)∧XN prog 25=some (false,1)∧Qj prog 25=some [.nils]:=by and_intros<;>kernel_rfl
@[go_sem] theorem Qx3:QR prog 26=some (94,4,72)∧XN prog 26=some (false,1)∧Qj prog 26=some [.nils]∧QR prog 27=some (97,3,56)∧XN prog 27=some (false,1)∧Qj prog 27=some [.nils]∧XN prog 28=some (true,8)∧Xk prog 28=some [(0,1),(1,1),(2,1),(3,1),(4,1),(5,1),(6,1),(7,1)]∧Qq prog 28 0=some 0∧Qq prog 28 1=some 1∧Qq prog 28 2=some 2∧Qq prog 28 3=some 3∧Qq prog 28 4=some 4∧Qq prog 28 5=some 5∧Qq prog 28 6=some 6∧Qq prog 28 7=some 7∧Qj prog 28=some [.str ⟨#[]⟩,.str ⟨#[]⟩,.nils,.nils,.nils,.nils,.nils,.nils]∧XN prog 29=some (true,8)∧Xk prog 29=some [(0,1),(1,1),(2,1),(3,1),(4,1),(5,1),(6,1),(7,1)]∧Qq prog 29 0=some 0∧Qq prog 29 1=some 1∧Qq prog 29 2=some 2∧Qq prog 29 3=some 3∧Qq prog 29 4=some 4∧Qq prog 29 5=some 5∧Qq prog 29 6=some 6∧Qq prog 29 7=some 7∧Qj prog 29=some [.str ⟨#[]⟩,.str ⟨#[]⟩,.nils,.nils,.nils,.nils,.nils,.nils]∧XN prog 32=some (false,1)∧QaT prog 32=true∧Qj prog 32=some [.nilI]∧XN prog 33=some (false,1)∧QaT prog 33=true∧Qj prog 33=some [.nilI]∧XN prog 39=some (false,1)∧tZI prog 39=some (.u64,0)∧Z4 prog 39=some .u64∧Qj prog 39=some [.int .u64 0]∧QR prog 42=some (29,8,176)∧XN prog 42=some (false,1)∧Qj prog 42=some [.nils]∧QR prog 43=some (54,4,40)∧XN prog 43=some (false,1)∧Qj prog 43=some [.nils]∧XN prog 45=some (false,1)∧Qj prog 45=some [.raw (.pointer none)]∧XN prog 49=some (false,1)∧tZI prog 49=some (.i64,0)∧Z4 prog 49=some .i64∧Qj prog 49=some [.int .i64 0]∧QR prog 50=some (109,3,48)∧XN prog 50=some (false,1)∧Qj prog 50=some [.nils]:=by and_intros<;>kernel_rfl
@[go_sem] theorem Qx4:QR prog 70=some (39,1,8):=by kernel_rfl
@[go_sem] theorem XL:QR prog 74=some (9,1,16):=by kernel_rfl
@[go_sem] theorem Qx5:XN prog 51=some (true,2)∧Xk prog 51=some [(0,1),(1,1)]∧Qq prog 51 0=some 0∧Qq prog 51 1=some 1∧Qj prog 51=some [.int .i64 0,.nils]∧XN prog 52=some (true,2)∧Xk prog 52=some [(0,1),(1,1)]∧Qq prog 52 0=some 0∧Qq prog 52 1=some 1∧Qj prog 52=some [.int .i64 0,.nils]∧XN prog 53=some (true,4)∧Xk prog 53=some [(0,1),(1,1),(2,1),(3,1)]∧Qq prog 53 0=some 0∧Qq prog 53 1=some 1∧Qq prog 53 2=some 2∧Qq prog 53 3=some 3∧Qj prog 53=some [.int .u8 0,.int .u8 0,.str ⟨#[]⟩,.str ⟨#[]⟩]∧XN prog 54=some (true,4)∧Xk prog 54=some [(0,1),(1,1),(2,1),(3,1)]∧Qq prog 54 0=some 0∧Qq prog 54 1=some 1∧Qq prog 54 2=some 2∧Qq prog 54 3=some 3∧Qj prog 54=some [.int .u8 0,.int .u8 0,.str ⟨#[]⟩,.str ⟨#[]⟩]∧XN prog 70=some (false,1)∧Qj prog 70=some [.nils]∧XN prog 74=some (false,1)∧Qj prog 74=some [.nils]∧QR prog 75=some (193,1,4)∧XN prog 75=some (false,1)∧Qj prog 75=some [.nils]∧XN prog 76=some (true,3)∧Xk prog 76=some [(0,1),(1,1),(2,1)]∧Qq prog 76 0=some 0∧Qq prog 76 1=some 1∧Qq prog 76 2=some 2∧Qj prog 76=some [.bool false,.nils,.nils]∧XN prog 77=some (true,3)∧Xk prog 77=some [(0,1),(1,1),(2,1)]∧Qq prog 77 0=some 0∧Qq prog 77 1=some 1∧Qq prog 77 2=some 2∧Qj prog 77=some [.bool false,.nils,.nils]∧XN prog 78=some (true,7)∧Xk prog 78=some [(0,1),(1,1),(2,1),(3,1),(4,3)]∧Qq prog 78 0=some 0∧Qq prog 78 1=some 1∧Qq prog 78 2=some 2∧Qq prog 78 3=some 3∧Qq prog 78 4=some 4∧Qj prog 78=some [.str ⟨#[]⟩,.int .i64 0,.int .i64 0,.nils,.bool false,.nils,.nils]∧XN prog 79=some (true,7)∧Xk prog 79=some [(0,1),(1,1),(2,1),(3,1),(4,3)]∧Qq prog 79 0=some 0∧Qq prog 79 1=some 1∧Qq prog 79 2=some 2∧Qq prog 79 3=some 3∧Qq prog 79 4=some 4∧Qj prog 79=some [.str ⟨#[]⟩,.int .i64 0,.int .i64 0,.nils,.bool false,.nils,.nils]∧XN prog 88=some (true,11)∧Xk prog 88=some [(0,1),(1,3),(4,3),(7,3),(10,1)]∧Qq prog 88 0=some 0∧Qq prog 88 1=some 1∧Qq prog 88 2=some 4∧Qq prog 88 3=some 7∧Qq prog 88 4=some 10∧Qj prog 88=some [.str ⟨#[]⟩,.bool false,.nils,.nils,.bool false,.nils,.nils,.bool false,.nils,.nils,.int .i64 0]:=by and_intros<;>kernel_rfl
@[go_sem] theorem Qx6:XN prog 89=some (true,11)∧Xk prog 89=some [(0,1),(1,3),(4,3),(7,3),(10,1)]∧Qq prog 89 0=some 0∧Qq prog 89 1=some 1∧Qq prog 89 2=some 4∧Qq prog 89 3=some 7∧Qq prog 89 4=some 10∧Qj prog 89=some [.str ⟨#[]⟩,.bool false,.nils,.nils,.bool false,.nils,.nils,.bool false,.nils,.nils,.int .i64 0]∧XN prog 90=some (true,3)∧Xk prog 90=some [(0,1),(1,1),(2,1)]∧Qq prog 90 0=some 0∧Qq prog 90 1=some 1∧Qq prog 90 2=some 2∧Qj prog 90=some [.str ⟨#[]⟩,.str ⟨#[]⟩,.nils]∧XN prog 91=some (true,3)∧Xk prog 91=some [(0,1),(1,1),(2,1)]∧Qq prog 91 0=some 0∧Qq prog 91 1=some 1∧Qq prog 91 2=some 2∧Qj prog 91=some [.str ⟨#[]⟩,.str ⟨#[]⟩,.nils]∧QR prog 92=some (77,3,56)∧XN prog 92=some (false,1)∧Qj prog 92=some [.nils]∧XN prog 93=some (true,4)∧Xk prog 93=some [(0,1),(1,1),(2,1),(3,1)]∧Qq prog 93 0=some 0∧Qq prog 93 1=some 1∧Qq prog 93 2=some 2∧Qq prog 93 3=some 3∧Qj prog 93=some [.str ⟨#[]⟩,.int .i64 0,.nils,.nils]∧XN prog 94=some (true,4)∧Xk prog 94=some [(0,1),(1,1),(2,1),(3,1)]∧Qq prog 94 0=some 0∧Qq prog 94 1=some 1∧Qq prog 94 2=some 2∧Qq prog 94 3=some 3∧Qj prog 94=some [.str ⟨#[]⟩,.int .i64 0,.nils,.nils]∧QR prog 95=some (99,4,72)∧XN prog 95=some (false,1)∧Qj prog 95=some [.nils]∧XN prog 96=some (true,3)∧Xk prog 96=some [(0,1),(1,1),(2,1)]∧Qq prog 96 0=some 0∧Qq prog 96 1=some 1∧Qq prog 96 2=some 2∧Qj prog 96=some [.str ⟨#[]⟩,.str ⟨#[]⟩,.nils]∧XN prog 97=some (true,3)∧Xk prog 97=some [(0,1),(1,1),(2,1)]∧Qq prog 97 0=some 0∧Qq prog 97 1=some 1∧Qq prog 97 2=some 2∧Qj prog 97=some [.str ⟨#[]⟩,.str ⟨#[]⟩,.nils]∧XN prog 98=some (true,4)∧Xk prog 98=some [(0,1),(1,3)]∧Qq prog 98 0=some 0∧Qq prog 98 1=some 1∧Qj prog 98=some [.str ⟨#[]⟩,.bool false,.nils,.nils]∧XN prog 99=some (true,4)∧Xk prog 99=some [(0,1),(1,3)]∧Qq prog 99 0=some 0∧Qq prog 99 1=some 1∧Qj prog 99=some [.str ⟨#[]⟩,.bool false,.nils,.nils]∧XN prog 101=some (false,1)∧Qj prog 101=some [.raw (.map none)]:=by and_intros<;>kernel_rfl
@[go_sem] theorem VX:QR prog 112=some (3,1,8):=by kernel_rfl
@[go_sem] theorem Qou:Qj prog 115=some [.str ⟨#[]⟩,.bool false]:=by kernel_rfl
@[go_sem] theorem VY:QR prog 123=some (5,1,1):=by kernel_rfl
@[go_sem] theorem QxI:XN prog 102=some (true,2)∧Xk prog 102=some [(0,1),(1,1)]∧Qq prog 102 0=some 0∧Qq prog 102 1=some 1∧Qj prog 102=some [.int .i64 0,.raw (.map none)]∧XN prog 103=some (true,2)∧Xk prog 103=some [(0,1),(1,1)]∧Qq prog 103 0=some 0∧Qq prog 103 1=some 1∧Qj prog 103=some [.int .i64 0,.raw (.map none)]∧XN prog 105=some (true,2)∧Xk prog 105=some [(0,1),(1,1)]∧Qq prog 105 0=some 0∧Qq prog 105 1=some 1∧Qj prog 105=some [.str ⟨#[]⟩,.str ⟨#[]⟩]∧XN prog 106=some (true,2)∧Xk prog 106=some [(0,1),(1,1)]∧Qq prog 106 0=some 0∧Qq prog 106 1=some 1∧Qj prog 106=some [.str ⟨#[]⟩,.str ⟨#[]⟩]∧XN prog 108=some (true,3)∧Xk prog 108=some [(0,1),(1,1),(2,1)]∧Qq prog 108 0=some 0∧Qq prog 108 1=some 1∧Qq prog 108 2=some 2∧Qj prog 108=some [.str ⟨#[]⟩,.str ⟨#[]⟩,.str ⟨#[]⟩]∧XN prog 109=some (true,3)∧Xk prog 109=some [(0,1),(1,1),(2,1)]∧Qq prog 109 0=some 0∧Qq prog 109 1=some 1∧Qq prog 109 2=some 2∧Qj prog 109=some [.str ⟨#[]⟩,.str ⟨#[]⟩,.str ⟨#[]⟩]∧XN prog 112=some (false,1)∧Qj prog 112=some [.nils]∧XN prog 114=some (true,2)∧Xk prog 114=some [(0,1),(1,1)]∧Qq prog 114 0=some 0∧Qq prog 114 1=some 1∧Qj prog 114=some [.str ⟨#[]⟩,.bool false]∧XN prog 115=some (true,2)∧Xk prog 115=some [(0,1),(1,1)]∧Qq prog 115 0=some 0∧Qq prog 115 1=some 1∧XN prog 121=some (false,1)∧Qj prog 121=some [.raw (.pointer none)]∧XN prog 122=some (false,1)∧Qj prog 122=some [.raw (.pointer none)]∧XN prog 123=some (false,1)∧Qj prog 123=some [.nils]:=by and_intros<;>kernel_rfl
@[go_sem] theorem QxJ:XN prog 124=some (true,2)∧Xk prog 124=some [(0,1),(1,1)]∧Qq prog 124 0=some 0∧Qq prog 124 1=some 1∧Qj prog 124=some [.raw (.pointer none),.nils]∧XN prog 125=some (true,2)∧Xk prog 125=some [(0,1),(1,1)]∧Qq prog 125 0=some 0∧Qq prog 125 1=some 1∧Qj prog 125=some [.raw (.pointer none),.nils]∧XN prog 126=some (true,3)∧Xk prog 126=some [(0,2),(2,1)]∧Qq prog 126 0=some 0∧Qq prog 126 1=some 2∧Qj prog 126=some [.raw (.pointer none),.nils,.bool false]∧XN prog 127=some (true,3)∧Xk prog 127=some [(0,2),(2,1)]∧Qq prog 127 0=some 0∧Qq prog 127 1=some 2∧Qj prog 127=some [.raw (.pointer none),.nils,.bool false]∧XN prog 154=some (true,4)∧Qj prog 154=some [.nils,.nils,.nils,.nils]∧QR prog 162=some (112,1,24)∧XN prog 162=some (false,1)∧Qj prog 162=some [.nils]∧QR prog 164=some (4,1,1)∧XN prog 164=some (false,1)∧Qj prog 164=some [.nils]∧XN prog 167=some (false,1)∧tZI prog 167=some (.u64,0)∧Z4 prog 167=some .u64∧Qj prog 167=some [.int .u64 0]∧XN prog 168=some (false,1)∧Qj prog 168=some [.raw (.pointer none)]∧QR prog 171=some (225,5,48)∧XN prog 171=some (false,1)∧Qj prog 171=some [.nils]∧XN prog 172=some (true,3)∧Xk prog 172=some [(0,1),(1,1),(2,1)]∧Qq prog 172 0=some 0∧Qq prog 172 1=some 1∧Qq prog 172 2=some 2∧Qj prog 172=some [.nils,.int .i64 0,.nilI]∧XN prog 173=some (true,3)∧Xk prog 173=some [(0,1),(1,1),(2,1)]∧Qq prog 173 0=some 0∧Qq prog 173 1=some 1∧Qq prog 173 2=some 2∧Qj prog 173=some [.nils,.int .i64 0,.nilI]:=by and_intros<;>kernel_rfl
@[go_sem] theorem QxK:XN prog 175=some (false,1)∧Qj prog 175=some [.raw (.pointer none)]∧XN prog 183=some (true,4)∧Xk prog 183=some [(0,1),(1,3)]∧Qq prog 183 0=some 0∧Qq prog 183 1=some 1∧Qj prog 183=some [.str ⟨#[]⟩,.bool false,.nils,.nils]∧QR prog 185=some (183,4,72)∧XN prog 185=some (false,1)∧Qj prog 185=some [.nils]∧XN prog 187=some (false,1)∧Qj prog 187=some [.raw (.pointer none)]∧XN prog 193=some (false,1)∧tZI prog 193=some (.u32,0)∧Z4 prog 193=some .u32∧Qj prog 193=some [.int .u32 0]∧XN prog 210=some (false,1)∧tZI prog 210=some (.i64,0)∧Z4 prog 210=some .i64∧Qj prog 210=some [.int .i64 0]∧XN prog 224=some (true,5)∧Xk prog 224=some [(0,1),(1,1),(2,1),(3,1),(4,1)]∧Qq prog 224 0=some 0∧Qq prog 224 1=some 1∧Qq prog 224 2=some 2∧Qq prog 224 3=some 3∧Qq prog 224 4=some 4∧Qj prog 224=some [.int .i64 0,.str ⟨#[]⟩,.int .i64 0,.int .i64 0,.int .i64 0]∧XN prog 225=some (true,5)∧Xk prog 225=some [(0,1),(1,1),(2,1),(3,1),(4,1)]∧Qq prog 225 0=some 0∧Qq prog 225 1=some 1∧Qq prog 225 2=some 2∧Qq prog 225 3=some 3∧Qq prog 225 4=some 4∧Qj prog 225=some [.int .i64 0,.str ⟨#[]⟩,.int .i64 0,.int .i64 0,.int .i64 0]∧XN prog 244=some (false,1)∧Qj prog 244=some [.raw (.map none)]∧XN prog 246=some (true,3)∧Xk prog 246=some [(0,1),(1,1),(2,1)]∧Qq prog 246 0=some 0∧Qq prog 246 1=some 1∧Qq prog 246 2=some 2∧Qeo prog 246=some 3∧Qj prog 246=some [.int .i64 0,.int .i64 0,.int .i64 0]∧XN prog 247=some (true,3)∧Xk prog 247=some [(0,1),(1,1),(2,1)]∧Qq prog 247 0=some 0∧Qq prog 247 1=some 1∧Qq prog 247 2=some 2∧Qeo prog 247=some 3∧Qj prog 247=some [.int .i64 0,.int .i64 0,.int .i64 0]∧XN prog 297=some (false,1)∧tZI prog 297=some (.u64,0)∧Z4 prog 297=some .u64∧Qj prog 297=some [.int .u64 0]:=by and_intros<;>kernel_rfl
@[go_sem] theorem QxL:XN prog 301=some (false,1)∧Qj prog 301=some [.raw (.pointer none)]∧XN prog 304=some (false,1)∧Qj prog 304=some [.raw (.map none)]∧XN prog 319=some (false,1)∧Qj prog 319=some [.raw (.pointer none)]∧XN prog 326=some (true,24)∧Qj prog 326=some [.int .u8 0,.int .u8 0,.int .u8 0,.int .u8 0,.int .u8 0,.int .u8 0,.int .u8 0,.int .u8 0,.int .u8 0,.int .u8 0,.int .u8 0,.int .u8 0,.int .u8 0,.int .u8 0,.int .u8 0,.int .u8 0,.int .u8 0,.int .u8 0,.int .u8 0,.int .u8 0,.int .u8 0,.int .u8 0,.int .u8 0,.int .u8 0]∧XN prog 331=some (true,9)∧Qj prog 331=some [.int .u8 0,.int .u8 0,.int .u8 0,.int .u8 0,.int .u8 0,.int .u8 0,.int .u8 0,.int .u8 0,.int .u8 0]∧XN prog 333=some (true,256)∧XN prog 334=some (true,256)∧XN prog 338=some (false,1)∧Qj prog 338=some [.raw (.pointer none)]∧XN prog 357=some (false,1)∧Qj prog 357=some [.raw (.pointer none)]∧XN prog 368=some (true,20)∧Qj prog 368=some [.int .u64 0,.int .u64 0,.int .u64 0,.int .u64 0,.int .u64 0,.int .u64 0,.int .u64 0,.int .u64 0,.int .u64 0,.int .u64 0,.int .u64 0,.int .u64 0,.int .u64 0,.int .u64 0,.int .u64 0,.int .u64 0,.int .u64 0,.int .u64 0,.int .u64 0,.int .u64 0]∧XN prog 369=some (true,65)∧XN prog 388=some (true,32)∧Qj prog 388=some [.int .u8 0,.int .u8 0,.int .u8 0,.int .u8 0,.int .u8 0,.int .u8 0,.int .u8 0,.int .u8 0,.int .u8 0,.int .u8 0,.int .u8 0,.int .u8 0,.int .u8 0,.int .u8 0,.int .u8 0,.int .u8 0,.int .u8 0,.int .u8 0,.int .u8 0,.int .u8 0,.int .u8 0,.int .u8 0,.int .u8 0,.int .u8 0,.int .u8 0,.int .u8 0,.int .u8 0,.int .u8 0,.int .u8 0,.int .u8 0,.int .u8 0,.int .u8 0]:=by and_intros<;>kernel_rfl
@[go_sem] theorem QxM:XN prog 389=some (true,64)∧XN prog 390=some (true,256)∧XN prog 391=some (true,2)∧Xk prog 391=some [(0,1),(1,1)]∧Qq prog 391 0=some 0∧Qq prog 391 1=some 1∧Qeo prog 391=some 2∧Qj prog 391=some [.int .u8 0,.int .u8 0]∧XN prog 392=some (true,2)∧Xk prog 392=some [(0,1),(1,1)]∧Qq prog 392 0=some 0∧Qq prog 392 1=some 1∧Qeo prog 392=some 2∧Qj prog 392=some [.int .u8 0,.int .u8 0]∧XN prog 393=some (true,32)∧Qj prog 393=some [.int .u8 0,.int .u8 0,.int .u8 0,.int .u8 0,.int .u8 0,.int .u8 0,.int .u8 0,.int .u8 0,.int .u8 0,.int .u8 0,.int .u8 0,.int .u8 0,.int .u8 0,.int .u8 0,.int .u8 0,.int .u8 0,.int .u8 0,.int .u8 0,.int .u8 0,.int .u8 0,.int .u8 0,.int .u8 0,.int .u8 0,.int .u8 0,.int .u8 0,.int .u8 0,.int .u8 0,.int .u8 0,.int .u8 0,.int .u8 0,.int .u8 0,.int .u8 0]∧XN prog 399=some (true,4)∧Xk prog 399=some [(0,1),(1,1),(2,1),(3,1)]∧Qq prog 399 0=some 0∧Qq prog 399 1=some 1∧Qq prog 399 2=some 2∧Qq prog 399 3=some 3∧Qj prog 399=some [.raw (.pointer none),.raw (.pointer none),.raw (.pointer none),.str ⟨#[]⟩]∧XN prog 400=some (true,4)∧Xk prog 400=some [(0,1),(1,1),(2,1),(3,1)]∧Qq prog 400 0=some 0∧Qq prog 400 1=some 1∧Qq prog 400 2=some 2∧Qq prog 400 3=some 3∧Qj prog 400=some [.raw (.pointer none),.raw (.pointer none),.raw (.pointer none),.str ⟨#[]⟩]∧XN prog 404=some (false,1)∧tZI prog 404=some (.u8,0)∧Z4 prog 404=some .u8∧Qj prog 404=some [.int .u8 0]∧XN prog 405=some (false,1)∧tZI prog 405=some (.u8,0)∧Z4 prog 405=some .u8∧Qj prog 405=some [.int .u8 0]∧XN prog 407=some (false,1)∧tZI prog 407=some (.i32,0)∧Z4 prog 407=some .i32∧Qj prog 407=some [.int .i32 0]∧XN prog 408=some (false,1)∧tZI prog 408=some (.i32,0)∧Z4 prog 408=some .i32∧Qj prog 408=some [.int .i32 0]∧XN prog 409=some (true,11)∧Xk prog 409=some [(0,1),(1,1),(2,1),(3,1),(4,1),(5,1),(6,1),(7,1),(8,1),(9,1),(10,1)]∧Qq prog 409 0=some 0∧Qq prog 409 1=some 1∧Qq prog 409 2=some 2∧Qq prog 409 3=some 3∧Qq prog 409 4=some 4∧Qq prog 409 5=some 5∧Qq prog 409 6=some 6∧Qq prog 409 7=some 7∧Qq prog 409 8=some 8∧Qq prog 409 9=some 9∧Qq prog 409 10=some 10∧Qj prog 409=some [.int .u64 0,.int .u64 0,.int .u32 0,.int .u8 0,.int .u8 0,.int .u8 0,.int .u8 0,.raw .nilFunc,.raw (.pointer none),.int .i32 0,.int .i32 0]:=by and_intros<;>kernel_rfl
@[go_sem] theorem QxN:XN prog 410=some (true,11)∧Xk prog 410=some [(0,1),(1,1),(2,1),(3,1),(4,1),(5,1),(6,1),(7,1),(8,1),(9,1),(10,1)]∧Qq prog 410 0=some 0∧Qq prog 410 1=some 1∧Qq prog 410 2=some 2∧Qq prog 410 3=some 3∧Qq prog 410 4=some 4∧Qq prog 410 5=some 5∧Qq prog 410 6=some 6∧Qq prog 410 7=some 7∧Qq prog 410 8=some 8∧Qq prog 410 9=some 9∧Qq prog 410 10=some 10∧Qj prog 410=some [.int .u64 0,.int .u64 0,.int .u32 0,.int .u8 0,.int .u8 0,.int .u8 0,.int .u8 0,.raw .nilFunc,.raw (.pointer none),.int .i32 0,.int .i32 0]:=by and_intros<;>kernel_rfl
end Go.Proofs.YtngjgahldnnapaaGreatDoor
namespace Go.Proofs.YtngjgahldnnapaaGreatDoor
open Go.AI Go.PN Tryz
attribute [local irreducible] aw Fa ZN ZZ Fh YE
abbrev Y1 (r:RD):List CV:=[.bool r.neg,ws true r.num,ws true r.den]
theorem QtC {n:Nat}:(ZQ n (val [1])==0)=decide (n=1):=by
 have:val [1]=1:=rfl
 rw [this]
 unfold ZQ
 by_cases h:n=1
 ·subst h;rfl
 ·have:¬(n=1):=h
  simp only [this,decide_false,if_false]
  by_cases h0:n<1<;>simp [h0]
theorem Qez {xs:List Nat} (h0:0<xs.length):VP xs=(((xs.getD (xs.length-1) 0:Nat):Int) !=0):=by
 simp only [VP,h0,decide_true,Bool.true_and,bne]
 congr 1
 rw [Bool.eq_iff_iff];simp
theorem QeA {xs:List Nat} (h0:¬0<xs.length):VP xs=false:=by simp [VP,h0]
theorem QcD:Fa prog 135 [] (.c (ws true [1])):=by
 refine QaV func135 rfl rfl (by simp [ntmps135]) fun C hC=> ?_
 simp only [Y8]
 refine xG ?_
 refine Qn (xs:=[.const (.int .u32 1)]) (cells:=[.int .u32 1]) rfl rfl rfl Xy (by rw [Qdw,Xt];rfl) rfl om om (by intro x hx;simp only [Lb,Lj,or_false] at hx;subst hx;exact⟨rfl,rfl,rfl⟩) rfl fun g hg=> ?_
 refine UW hC ?_
 exact .one (.c (VW eE om rfl (fun j hj=>by match j,hj with|0,_=>rfl)))
theorem QiZ (xs:List Nat) (hlx:xs.length≤68719476738):Fa prog 308 [.c (ws false xs)] (.c (.bool (VP xs))):=by
 refine fA func308 fun C hC=>?_
 refine xG ?_
 refine ZD 6 eE (fun hb=> ?_) (fun hb=> ?_)<;>refine xS ?_
 ·have h0:0<xs.length:=dT hb
  refine xGT hC ?_
  exact .one (.c (Qp (Qez h0).symm))
 ·have h0:¬0<xs.length:=dF hb
  refine xGT hC ?_
  exact .one (.c (Qp (QeA h0).symm))
theorem QeB {r:RD} (h1:((r.num.length:Int)==0)=true) (h2:((r.den.length:Int)==0)=true):(!r.neg)=r.valid:=by
 have h1':r.num.length=0:=by have:=eq_of_beq h1;omega
 have h2':r.den.length=0:=by have:=eq_of_beq h2;omega
 simp [RD.valid,h1',h2']
theorem W5 {r:RD} (h:((r.num.length:Int)==0)=false∨((r.den.length:Int)==0)=false):r.valid=(VP r.num&&VP r.den&&decide (Nat.gcd (val r.num) (val r.den)=1)):=by
 unfold RD.valid
 rw [iN]
 rintro ⟨h1,h2⟩
 rcases h with h|h
 ·rw [h1] at h;cases h
 ·rw [h2] at h;cases h
theorem QcE (r:RD) (hw:r.wf 68719476736):Fa prog 207 [.agg (Y1 r)] (.c (.bool r.valid)):=by
 have hp1:r.num.length≤68719476738:=by have:=hw.2.2.1;omega
 have hp2:r.den.length≤68719476738:=by have:=hw.2.2.2;omega
 have hg:(Qc (Nat.gcd (val r.num) (val r.den))).length≤68719476736:=by
  by_cases h:val r.num=0
  ·rw [h,Nat.gcd_zero_left];exact Lt (QV _ hw.2.1) hw.2.2.2
  ·exact Lt (QL (Nat.gcd_le_left _ (Nat.pos_of_ne_zero h))) (Lt (QV _ hw.1) hw.2.2.1)
 refine fA func207 fun C hC=>?_
 refine xG ?_
 refine xB fun g1 n_1=>?_
 refine yH n_1 ?_
 apply Yd
 refine Yy (fun _:Unit=>[(1,.c (.optr g1 0))]) (fun _=>[(g1,.cells 77 3 (ofL (Y1 r)))]) (fun _=>((r.num.length:Int)==0)=false∨((r.den.length:Int)==0)=false) ?_ ?_
 ·refine yG n_1 ?_
  refine ZD 7 (zE n_1) (fun hb=> ?_) (fun hb=> ?_)<;>refine yS n_1 ?_
  ·refine yG n_1 ?_
   refine yF n_1 (fun hd=>?_) fun hd=>?_
   ·refine yGT hC n_1 ?_
    exact .one (.c (Qp (QeB hb hd)))
   ·refine yG n_1 ?_
    exact Qb ⟨(),(zB n_1),zZ,.inr hd⟩
  ·refine yG n_1 ?_
   refine yN n_1 ?_
   refine yG n_1 ?_
   exact Qb ⟨(),(zB n_1),zZ,.inl hb⟩
 rintro _ hd
 rw [W5 hd]
 refine yG n_1 ?_
 refine yC n_1 (QiZ r.num hp1) ?_
 refine yG n_1 ?_
 refine ZD 19 (zE n_1) (fun h1=> ?_) (fun h1=> ?_)<;>refine yS n_1 ?_
 ·refine yG n_1 ?_
  refine yC n_1 (QiZ r.den hp2) ?_
  refine yG n_1 ?_
  refine ZD 24 (zE n_1) (fun h2=> ?_) (fun h2=> ?_)<;>refine yS n_1 ?_
  ·refine yG n_1 ?_
   refine yC n_1 (QqG _ _ hw.1 hw.2.1 hw.2.2.1 hw.2.2.2) ?_
   refine yG n_1 ?_
   refine yC n_1 (QcD) ?_
   refine yG n_1 ?_
   refine yC n_1 (Qew _ [1] (Qr _) ?_ hg ?_) ?_
   ·simp
   ·simp
   refine yGT hC n_1 ?_
   refine .one (.c (Qp ?_))
   rw [h1,h2,Qd,QtC];rfl
  ·refine yGT hC n_1 ?_
   refine .one (.c (Qp ?_))
   rw [h2,Bool.and_false,Bool.false_and]
 ·refine yGT hC n_1 ?_
  refine .one (.c (Qp ?_))
  rw [h1,Bool.false_and,Bool.false_and]
theorem XR (m n:Nat):(Qc (m*n)).length≤(Qc m).length+(Qc n).length:=X6 (KF (Ym m) (Ym n))
theorem QaK {m n k:Nat} (hm:(Qc m).length≤k) (hn:(Qc n).length≤k):(Qc (m+n)).length≤k+1:=by
 have h1:=Ae (Ym m) (Nat.pow_le_pow_right (show 0<4294967296 by omega) hm)
 have h2:=Ae (Ym n) (Nat.pow_le_pow_right (show 0<4294967296 by omega) hn)
 refine X6 ?_
 rw [Nat.pow_succ]
 omega
theorem QtD (a b:Nat) (ha:(Qc a).length≤68719476736) (hb:(Qc b).length≤68719476736):Fa prog 134 [.c (ws false (Qc a)),.c (ws false (Qc b))] (.c (.int .i64 (ZQ a b))):=by
 have:=Qew (Qc a) (Qc b) (Qr a) (Qr b) ha hb
 rwa [Qd,Qd] at this
theorem Qzi (a b:Nat) (ha:(Qc a).length≤68719476736) (hb:(Qc b).length≤68719476736):Fa prog 297 [.c (ws false (Qc a)),.c (ws false (Qc b))] (.c (ws true (Qc (Nat.gcd a b)))):=by
 have:=QqG (Qc a) (Qc b) (Qr a) (Qr b) ha hb
 rwa [Qd,Qd] at this
theorem Qx7 (a b:Nat) (ha:(Qc a).length≤68719476736) (hb:(Qc b).length≤68719476736) (h:b≠0):Fa prog 298 [.c (ws false (Qc a)),.c (ws false (Qc b))] (.tup [.c (ws true (Qc (a/b))),.c (ws true (Qc (a%b))),.c .nilI]):=by
 have:=QqF (Qc a) (Qc b) (Qr a) (Qr b) ha hb (by rw [Qd];exact h)
 rwa [Qd,Qd] at this
theorem QvP (a:Nat) (ha:(Qc a).length≤68719476736):Fa prog 296 [.c (ws false (Qc a))] (.c (.int .i64 (Q8 a:Nat))):=by
 have:=Qty (Qc a) (Qr a) ha
 rwa [Qd] at this
theorem QmM {r:RD} (h1:r.valid=true) (h2:((r.num.length:Int)==0)=false):r.some=true:=by
 have:r.num.length≠0:=fun e=>by rw [e] at h2;cases h2
 simp [RD.some,h1,this]
theorem QdR {r:RD} (h:r.valid=false∨((r.num.length:Int)==0)=true):r.some=false:=by
 rcases h with h|h
 ·simp [RD.some,h]
 ·have:r.num.length=0:=by have:=eq_of_beq h;omega
  simp [RD.some,this]
theorem Zu {r:RD} {L M:Nat} (h:r.wf L) (hm:L≤M):r.wf M:=⟨h.1,h.2.1,Lt h.2.2.1 hm,Lt h.2.2.2 hm⟩
abbrev Qhq (r:RD):AV:=.tup [.c (.bool r.ps),.c (ws true (Qc r.pn)),.c (ws true (Qc r.pd))]
theorem Zg (r:RD) (hw:r.wf 1073741824):Fa prog 132 [.agg (Y1 r)] (Qhq r):=by
 refine fA func132 fun C hC=>?_
 refine xG ?_
 refine xB fun g1 n_1=>?_
 refine yG n_1 ?_
 refine yC n_1 (QcE r (Zu hw ?_)) ?_
 ·omega
 refine yG n_1 ?_
 refine ZD 8 (zE n_1) (fun hv=> ?_) (fun hv=> ?_)<;>refine yS n_1 ?_
 ·have hs:=RD.pn_none (QdR (r:=r) (.inl (by simpa using hv)))
  refine yG n_1 ?_
  refine yP n_1 ?_
  refine yG n_1 ?_
  refine yC n_1 (QcD) ?_
  refine yGT hC n_1 ?_
  refine .tup ⟨.c (Qp hs.2.2.symm),.c ?_,.c ?_,trivial⟩
  ·rw [hs.1];exact .nils
  ·rw [hs.2.1];exact Xc
 ·have hv':r.valid=true:=by simpa using hv
  refine yG n_1 ?_
  refine yF n_1 (fun hn=>?_) fun hn=>?_
  ·have hs:=RD.pn_none (QdR (r:=r) (.inr hn))
   refine yG n_1 ?_
   refine yC n_1 (QcD) ?_
   refine yGT hC n_1 ?_
   refine .tup ⟨.c (Qp hs.2.2.symm),.c ?_,.c ?_,trivial⟩
   ·rw [hs.1];exact .nils
   ·rw [hs.2.1];exact Xc
  ·have hs:=RD.pn_words hw (QmM hv' hn)
   refine yG n_1 ?_
   refine Xv 9 Qg kR ?_
   refine yGT hC n_1 ?_
   refine .tup ⟨.c (Qp hs.2.2.symm),.c ?_,.c ?_,trivial⟩
   ·rw [hs.1];exact Xc
   ·rw [hs.2.1];exact Xc
theorem UJ {h:Qa} {r:RD}:Qf1 h (Y1 r) (Y1 r):=⟨.bool _,Xc,Xc,trivial⟩
theorem JX {h:Qa} {r s:RD} (e:r=s):Qeg h (.agg (Y1 r)) (.agg (Y1 s)):=by subst e;exact .one (.agg UJ)
theorem Wp (neg:Bool) (n d:Nat) (hn:(Qc n).length≤68719476736) (hd:(Qc d).length≤68719476736) (h0:d≠0):
  Fa prog 200 [.c (.bool neg),.c (ws false (Qc n)),.c (ws false (Qc d))] (.agg (Y1 (rd (sq neg n d)))):=by
 refine fA func200 fun C hC=>?_
 refine xG ?_
 refine xA fun g6 n_6=>?_
 refine yG n_6 ?_
 refine yC n_6 (QvP n hn) ?_
 refine yG n_6 ?_
 refine yF n_6 (fun hb=>?_) fun hb=>?_
 ·have hz:n=0:=UH.1 (by have:=eq_of_beq hb;omega)
  refine Kz hC n_6 ?_
  rw [hz,Qbz,rd_zero]
  exact .one (.agg ⟨.bool _,.nils,.nils,trivial⟩)
 ·have hz:n≠0:=fun e=>by rw [e] at hb;cases hb
  have hg:Nat.gcd n d≠0:=fun e=>h0 (Nat.eq_zero_of_gcd_eq_zero_right e)
  have hgl:(Qc (Nat.gcd n d)).length≤68719476736:=Lt (QL (Nat.gcd_le_left _ (Nat.pos_of_ne_zero hz))) hn
  refine yG n_6 ?_
  refine yC n_6 (Qzi n d hn hd) ?_
  refine yG n_6 ?_
  refine yC n_6 (Qx7 n (Nat.gcd n d) hn hgl hg) ?_
  refine yG n_6 ?_
  refine yC n_6 (Qx7 d (Nat.gcd n d) hd hgl hg) ?_
  refine Kz hC n_6 ?_
  rw [QqB hz h0]
  exact .one (.agg ⟨.bool _,Xc,Xc,trivial⟩)
theorem Qov:Qc 9223372036854775808=[0,2147483648]:=by
 rw [X5 om,X5 om,show(9223372036854775808/4294967296/4294967296:Nat)=0 from rfl,QC]
theorem QmN {n:Int} (h0: -9223372036854775808<n) (h1:n≤9223372036854775807):XE .i64 (0-n)= -n:=by
 rw [QN,XV (k:=.i64) (by simp only [XH];omega)];omega
theorem UK {n:Nat} (h:n≤9223372036854775808):(Qc n).length≤2:=X6 (Nat.lt_of_le_of_lt h Af)
theorem Qi0 (n:Int) (h0: -9223372036854775808≤n) (h1:n≤9223372036854775807):Fa prog 201 [.c (.int .i64 n)] (.c (ws true (Qc n.natAbs))):=by
 refine fA func201 fun C hC=>?_
 refine xG ?_
 refine xF (fun hb=>?_) fun hb=>?_
 ·have hn:n= -9223372036854775808:=eq_of_beq hb
  refine xG ?_
  refine Qn (xs:=[.const (.int .u32 0),.const (.int .u32 2147483648)]) (cells:=[.int .u32 0,.int .u32 2147483648]) rfl rfl rfl Xy (by rw [Qdw,Xt];rfl) rfl om om (by intro x hx;simp only [Lb,Lj,or_false] at hx;rcases hx with rfl|rfl<;>exact⟨rfl,rfl,rfl⟩) rfl fun g hg=> ?_
  refine UW hC ?_
  subst hn
  rw [show((-9223372036854775808:Int).natAbs)=9223372036854775808 from rfl,Qov]
  exact .one (.c (VW eE (by simp) rfl (fun j hj=>by match j,hj with|0,_=>rfl|1,_=>rfl)))
 ·have hn:n≠ -9223372036854775808:=fun e=>by rw [e] at hb;cases hb
  refine xG ?_
  rw [QmN om h1]
  have hm:(if-n>n then-n else n)=(n.natAbs:Int):=by split<;>omega
  rw [hm]
  refine xC (QvM (n.natAbs:Int) ?_ ?_) ?_
  ·omega
  ·omega
  refine xGT hC ?_
  exact .one (.c Xc)
theorem Qwp (n:Int):sq (decide (n<0)) n.natAbs 1=(n:Rat):=by
 unfold sq U5
 rw [Rat.mkRat_one]
 congr 1
 split
 ·rename_i h;simp only [Dq] at h;omega
 ·rename_i h;simp only [Dq] at h;omega
theorem QeC (n:Int) (h0: -9223372036854775808≤n) (h1:n≤9223372036854775807):Fa prog 125 [.c (.int .i64 n)] (.agg (Y1 (rd (n:Rat)))):=by
 have hl:=UK (n:=n.natAbs) om
 refine fA func125 fun C hC=>?_
 refine xG ?_
 refine xA fun g2 n_2=>?_
 refine yG n_2 ?_
 refine yC n_2 (Qi0 n h0 h1) ?_
 refine yG n_2 ?_
 refine yC n_2 (QcD) ?_
 refine yG n_2 ?_
 rw [show([1]:List Nat)=Qc 1 from KE.symm]
 refine yC n_2 (Wp _ n.natAbs 1 ?_ ?_ ?_) ?_
 ·omega
 ·rw [KE];simp
 ·omega
 refine Kz hC n_2 ?_
 exact JX (by rw [Qwp])
theorem sign_zero {r:RD} {L:Nat} (hw:r.wf L) (h:(((Qc r.pn).length:Int)==0)=true):0=YJ r.q:=by
 have h1:r.pn=0:=Xl.1 (Lh.1 (by have:=eq_of_beq h;omega))
 unfold RD.q
 rw [h1,Qbz];rfl
theorem Qan {r:RD} {L:Nat} (hw:r.wf L) (h:(((Qc r.pn).length:Int)==0)=false):YJ r.q=if r.ps then-1 else 1:=by
 have h1:r.pn≠0:=fun e=>by rw [e,QC] at h;cases h
 unfold YJ RD.q
 rw [iN (QvN h1 (RD.pd_ne hw))]
 have:=QvO (neg:=r.ps) h1 (RD.pd_ne hw)
 simp only [this]
theorem Qi1 (r:RD) (hw:r.wf 1073741824):Fa prog 126 [.agg (Y1 r)] (.c (.int .i64 (YJ r.q))):=by
 refine fA func126 fun C hC=>?_
 refine xG ?_
 refine xB fun g1 n_1=>?_
 refine yG n_1 ?_
 refine yC n_1 (Zg r hw) ?_
 refine yG n_1 ?_
 refine yF n_1 (fun hb=>?_) fun hb=>?_
 ·refine yGT hC n_1 ?_
  exact .one (.c (Qo (sign_zero hw hb)))
 ·refine yG n_1 ?_
  refine yF n_1 (fun hp=>?_) fun hp=>?_
  ·refine yGT hC n_1 ?_
   refine .one (.c (Qo ?_))
   rw [Qan hw hb,hp];rfl
  ·refine yGT hC n_1 ?_
   refine .one (.c (Qo ?_))
   rw [Qan hw hb,hp];rfl
theorem QeD {a b:Bool} (h:(a==b)=false):b= !a:=by cases a<;>cases b<;>simp_all
theorem Qwq {r:RD} (hw:r.wf 1073741824):(rd (-r.q)).wf 1073741824:=UI (QiY (RD.fits hw om))
theorem QmO {xs ys:List Nat} (h:∀j,xs.getD j 0=ys.getD j 0):val xs=val ys:=by
 induction xs generalizing ys with
 |nil=>
  refine(JV fun y hy=> ?_).symm
  obtain⟨i,hi,rfl⟩:=List.mem_iff_getElem.1 hy
  have:=h i
  rw [Lg,Lg,Li hi] at this
  simpa using this.symm
 |cons x xs ih=>
  cases ys with
  |nil=>
   refine JV fun y hy=> ?_
   obtain⟨i,hi,rfl⟩:=List.mem_iff_getElem.1 hy
   have:=h i
   rw [Lg,Lg,Li hi] at this
   simpa using this
  |cons y ys=>
   have h0:=h 0
   simp only [List.getD_cons_zero] at h0
   have h1:=ih (ys:=ys) fun j=>by have:=h (j+1);simpa only [List.getD_cons_succ] using this
   simp only [val,h0,h1]
theorem Qow {xs ys:List Nat} {i:Nat} (hx:∀x∈xs,x<4294967296) (hlt:xs.getD i 0<ys.getD i 0) (hz:∀j,i<j→xs.getD j 0=ys.getD j 0):val xs<val ys:=by
 induction xs generalizing ys i with
 |nil=>
  have hy0:val ys≠0:=fun e=>by
   have:∀(l:List Nat) (k:Nat),val l=0→l.getD k 0=0:=by
    intro l
    induction l with
    |nil=>intro k _;simp
    |cons a l ih=>
     intro k hk
     simp only [val] at hk
     cases k with
     |zero=>simp only [List.getD_cons_zero];omega
     |succ k=>simp only [List.getD_cons_succ];exact ih k om
   rw [this ys i e] at hlt
   omega
  simp only [val];omega
 |cons x xs ih=>
  have hxl:x<4294967296:=hx x (by simp)
  cases ys with
  |nil=>simp at hlt
  |cons y ys=>
   cases i with
   |zero=>
    simp only [List.getD_cons_zero] at hlt
    have:=QmO (xs:=xs) (ys:=ys) fun j=>by have:=hz (j+1) om;simpa only [List.getD_cons_succ] using this
    simp only [val,this];omega
   |succ i=>
    simp only [List.getD_cons_succ] at hlt
    have:=ih (ys:=ys) (i:=i) (fun z hz=>hx z (by simp [hz])) hlt (fun j hj=>by have:=hz (j+1) om;simpa only [List.getD_cons_succ] using this)
    simp only [val];omega
theorem Qi2 {xs ys:List Nat} {i:Nat} (hx:∀x∈xs,x<4294967296) (_hy:∀x∈ys,x<4294967296) (hlt:xs.getD i 0<ys.getD i 0) (hz:∀j,i<j→xs.getD j 0=ys.getD j 0):val xs<val ys:=Qow hx hlt hz
theorem YK (xs:List Nat) (i:Nat) (hx:∀x∈xs,x<4294967296):Fa prog 205 [.c (ws false xs),.c (.int .i64 i)] (.c (.int .u64 (xs.getD i 0:Nat))):=by
 have hb:=QI hx i
 refine fA func205 fun C hC=>?_
 refine xG ?_
 refine xF (fun hb=>?_) fun hb=>?_
 ·simp only [Dq] at hb
  refine xGT hC ?_
  exact .one (.c (Qo rfl))
 ·simp only [decide_eq_false_iff_not] at hb
  refine xGT hC ?_
  refine .one (.c (Qo ?_))
  rw [Ve om];rfl
theorem Zh (xs:List Nat) (hx:∀x∈xs,x<4294967296) (hl:xs.length≤1099511627776):Fa prog 202 [.c (ws false xs)] (.c (ws true (Qc (val xs)))):=by
 refine fA func202 fun C hC=>?_
 apply Yd
 apply Zd
 refine xH ?_
 apply Yd
 apply Zd
 refine xH ?_
 apply Yd
 refine Yy (fun m:Nat=>[(0,.c (ws false xs)),(3,.c (.int .i64 m))]) (fun _=>[]) (fun m=>m≤xs.length∧Qc (val xs)=xs.take m) ?_ ?_
 ·apply Zz
  refine Qh (fun m:Nat=>[(0,.c (ws false xs)),(3,.c (.int .i64 m))]) (fun _=>[]) (fun m=>m≤xs.length∧(∀j,m≤j→xs.getD j 0=0)) id xs.length eB zZ ⟨Ac _,fun j hj=>Ve hj⟩ ?_
  rintro m ⟨hm,hz⟩
  have hend:(m=0∨xs.getD (m-1) 0≠0)→Qc (val xs)=xs.take m:=QdO xs m hx hm hz
  refine xG ?_
  refine ZD 8 eE (fun h0=> ?_) (fun h0=> ?_)<;>refine xS ?_
  ·have h0':0<m:=dT h0
   refine xG ?_
   refine xF (fun hb=>?_) fun hb=>?_
   ·have hb':xs.getD (m-1) 0=0:=by have:=eq_of_beq hb;omega
    refine xG ?_
    refine Qb ⟨m-1,by simp only [id];omega,eB,zZ,by omega,fun j hj=> ?_⟩
    by_cases hjm:j=m-1
    ·rw [hjm];exact hb'
    ·exact hz j om
   ·have hb':xs.getD (m-1) 0≠0:=fun e=>by rw [e] at hb;cases hb
    refine xG ?_
    exact Qb ⟨m,eB,zZ,hm,hend (.inr hb')⟩
  ·have h0':m=0:=dF h0
   refine xG ?_
   refine xN ?_
   refine xG ?_
   exact Qb ⟨m,eB,zZ,hm,hend (.inl h0')⟩
 rintro m ⟨hm,hw⟩
 refine xG ?_
 refine Qn (xs:=[]) (cells:=[]) rfl rfl rfl Xy (by rw [Qdw,Xt];rfl) rfl om om (by simp) rfl fun g hg=> ?_
 refine Z1 ?_
 by_cases h0:0<m
 ·refine YC rfl rfl rfl Xy Xt rfl om eE eE om eE .row (fun _ _=>rfl) h0 qc om eE fun g' hg'=> ?_
  refine UW hC ?_
  refine .one (.c ?_)
  rw [hw]
  refine VW eE om (by simp;omega) (fun j hj=> ?_)
  simp only [Xq,Nat.not_lt_zero,if_false,Nat.sub_zero,Nz]
  rw [Wm hj]
 ·have hm0:m=0:=by omega
  subst hm0
  refine VM rfl rfl rfl Xy eE rfl eE .row eE ?_
  refine UW hC ?_
  refine .one (.c ?_)
  rw [hw]
  exact VW eE om rfl (fun j hj=>by omega)
theorem Qhr (xs ys:List Nat) (hx:∀x∈xs,x<4294967296) (hy:∀x∈ys,x<4294967296) (hlx:xs.length≤68719476736) (hly:ys.length≤68719476736):
  Fa prog 130 [.c (ws false xs),.c (ws false ys)] (.c (.int .i64 (ZQ (val xs) (val ys)))):=by
 refine fA func130 fun C hC=>?_
 refine xG ?_
 have hmx:(if(ys.length:Int)>xs.length then(ys.length:Int) else xs.length)=((max xs.length ys.length:Nat):Int):=by split<;>omega
 rw [hmx]
 refine Qh (fun m:Nat=>[(0,.c (ws false xs)),(1,.c (ws false ys)),(5,.c (.int .i64 ((m:Int)-1)))]) (fun _=>[]) (fun m=>m≤max xs.length ys.length∧∀j,m≤j→xs.getD j 0=ys.getD j 0) id (max xs.length ys.length) eB zZ ⟨Ac _,fun j hj=>by rw [Ve om,Ve om]⟩ ?_
 rintro m ⟨hm,hz⟩
 refine xG ?_
 refine xF (fun hb=>?_) fun hb=>?_
 ·obtain⟨i,rfl⟩:∃i,m=i+1:=⟨m-1,dT hb⟩
  have e14:((i+1:Nat):Int)-1=(i:Int):=by omega
  rw [e14]
  refine xG ?_
  refine xC (YK xs i hx) ?_
  refine xG ?_
  refine xC (YK ys i hy) ?_
  refine xG ?_
  refine xF (fun hlt=>?_) fun hlt=>?_
  ·have hlt':xs.getD i 0<ys.getD i 0:=dT hlt
   refine xGT hC ?_
   refine .one (.c (Qo ?_))
   rw [ZQ,iP (Qi2 hx hy hlt' (fun j hj=>hz j om))]
  ·refine xG ?_
   refine xC (YK xs i hx) ?_
   refine xG ?_
   refine xC (YK ys i hy) ?_
   refine xG ?_
   refine xF (fun hgt=>?_) fun hgt=>?_
   ·have hgt':ys.getD i 0<xs.getD i 0:=dT hgt
    have hv:=Qi2 hy hx hgt' (fun j hj=>(hz j om).symm)
    refine xGT hC ?_
    refine .one (.c (Qo ?_))
    rw [ZQ,iN om,iN om]
   ·have heq:xs.getD i 0=ys.getD i 0:=by have:=of_decide_eq_false hgt;have:=of_decide_eq_false hlt;omega
    refine xG ?_
    refine Qb ⟨i,by simp only [id];omega,eB,zZ,by omega,fun j hj=> ?_⟩
    by_cases hji:j=i
    ·rw [hji];exact heq
    ·exact hz j om
 ·have hm0:m=0:=dF hb
  subst hm0
  refine xGT hC ?_
  refine .one (.c (Qo ?_))
  rw [ZQ,QmO (fun j=>hz j om)];simp
theorem Qi3 {zs:List Nat} {i v:Nat} (h:zs.length=i):((zs++[0]).set i v).take (i+1)=zs++[v]:=by
 subst h
 rw [List.set_append_right _ _ (Ac _),Ly (by simp)]
 simp
theorem Qgm {zs:List Nat} {i:Nat} (h:zs.length=i):(zs++[0]).take i=zs:=by subst h;simp
theorem QdS {zs:List Nat} {v:Nat} (hz:∀x∈zs,x<4294967296) (hv:v<4294967296):∀x∈zs++[v],x<4294967296:=fun x hx=>by
 rcases List.mem_append.1 hx with h|h
 ·exact hz x h
 ·rw [Lv.1 h];exact hv
theorem XJ {g:Nat} {n:Nat}:(some g:Option Nat)=none→n=0:=fun e=>by cases e
theorem QtE (xs ys:List Nat) (hx:∀x∈xs,x<4294967296) (hy:∀x∈ys,x<4294967296) (hlx:xs.length≤68719476736) (hly:ys.length≤68719476736):
  Fa prog 371 [.c (ws false xs),.c (ws false ys)] (.c (ws true (Qc (val xs+val ys)))):=by
 refine fA func371 fun C hC=>?_
 refine xG ?_
 have hmx:(if(ys.length:Int)>xs.length then(ys.length:Int) else xs.length)+1=((max xs.length ys.length+1:Nat):Int):=by split<;>omega
 rw [hmx]
 generalize hn:max xs.length ys.length+1=n
 refine Qh (fun x:Option Nat×Nat×Nat×List Nat=>[(0,.c (ws false xs)),(1,.c (ws false ys)),(5,.c (gs x.1 1 x.2.1)),(6,.c (.int .u64 x.2.2.1)),(14,.c (.int .i64 n)),(15,.c (.int .i64 x.2.1))]) (fun x=>gh x.1 193 x.2.1 (wf x.2.2.2))
  (fun x=>(x.1=none→x.2.1=0)∧x.2.1≤n∧x.2.2.1≤1∧x.2.2.2.length=x.2.1∧(∀y∈x.2.2.2,y<4294967296)∧val x.2.2.2+4294967296^x.2.1*x.2.2.1=val (xs.take x.2.1)+val (ys.take x.2.1)) (fun x=>n-x.2.1) (none,0,0,[]) eB zZ
  ⟨fun _=>rfl,Lz _,Lz _,rfl,by simp,by simp [val]⟩ ?_
 rintro ⟨og,i,c,zs⟩ ⟨hog,hi,hc,hzl,hz,hv⟩
 dsimp only at hog hi hc hzl hz hv⊢
 refine xG ?_
 refine xF (fun hb=>?_) fun hb=>?_
 ·have hin:i<n:=dT hb
  have hxi:=QI hx i
  have hyi:=QI hy i
  refine xG ?_
  refine xC (YK xs i hx) ?_
  refine xG ?_
  refine xC (YK ys i hy) ?_
  refine xG ?_
  have ew:XE .u32 ((((xs.getD i 0:Nat):Int)+((ys.getD i 0:Nat):Int))+(c:Int))=(((c+(xs.getD i 0+ys.getD i 0))%4294967296:Nat):Int):=by rw [QN,IntKind.wrap_u32];omega
  rw [ew]
  have hst:=Qeu (zs:=zs++[0]) (i:=i) (c:=c) (xs:=xs) (ys:=ys) (by simp;omega) (by rw [Qgm hzl];exact hv)
  rw [Qi3 hzl] at hst
  refine QX (pre:=[]) rfl rfl rfl rfl rfl rfl rfl eE eE (by rfl) om om eE om (by exact hog) eE (by rfl) (by rfl) qb qc om (by exact Qbw hzl _) fun g n_=> ?_
  replace n_:=Qa.ne_of n_
  first|dsimp only [Qa.ne,gh] at n_|dsimp only [Qa.ne] at n_|skip
  refine Xp n_ ?_
  refine Qb ⟨(some g,i+1,(c+(xs.getD i 0+ys.getD i 0))/4294967296,zs++[(c+(xs.getD i 0+ys.getD i 0))%4294967296]),by dsimp only;omega,(zB n_),zZ,XJ,by dsimp only;omega,by dsimp only;omega,by simp;omega,QdS hz om,hst⟩
 ·have hin:i=n:=dF hb
  subst hin
  refine xG ?_
  refine Qu (Zh zs hz om) rfl rfl rfl ⟨.c (Qhj hog hzl),trivial⟩ ?_
  refine UW hC ?_
  rw [Qmx hx hy om (by rw [hzl,Ly om];exact hv)]
  exact .one (.c Xc)
theorem Qhs (xs ys:List Nat) (hx:∀x∈xs,x<4294967296) (hy:∀x∈ys,x<4294967296) (hlx:xs.length≤68719476736) (hly:ys.length≤68719476736) (hle:val ys≤val xs):
  Fa prog 302 [.c (ws false xs),.c (ws false ys)] (.tup [.c (ws true (Qc (val xs-val ys))),.c (.int .i64 0)]):=by
 refine fA func302 fun C hC=>?_
 refine xG ?_
 refine xC (Qhr xs ys hx hy hlx hly) ?_
 refine xG ?_
 refine xF (fun hb=>?_) fun hb=>?_
 ·have:=of_decide_eq_true hb
  unfold ZQ at this
  split at this
  ·omega
  ·split at this<;>omega
 refine xG ?_
 refine Qh (fun x:Option Nat×Nat×Nat×List Nat=>[(0,.c (ws false xs)),(1,.c (ws false ys)),(6,.c (gs x.1 1 x.2.1)),(7,.c (.int .u64 x.2.2.1)),(15,.c (.int .i64 xs.length)),(16,.c (.int .i64 x.2.1))]) (fun x=>gh x.1 193 x.2.1 (wf x.2.2.2))
  (fun x=>(x.1=none→x.2.1=0)∧x.2.1≤xs.length∧x.2.2.1≤1∧x.2.2.2.length=x.2.1∧(∀y∈x.2.2.2,y<4294967296)∧val x.2.2.2+val (ys.take x.2.1)=val (xs.take x.2.1)+4294967296^x.2.1*x.2.2.1) (fun x=>xs.length-x.2.1) (none,0,0,[]) eB zZ
  ⟨fun _=>rfl,Lz _,Lz _,rfl,by simp,by simp [val]⟩ ?_
 rintro ⟨og,i,b,zs⟩ ⟨hog,hi,hbb,hzl,hz,hv⟩
 dsimp only at hog hi hbb hzl hz hv⊢
 refine xG ?_
 refine xF (fun hb=>?_) fun hb=>?_
 ·have hin:i<xs.length:=dT hb
  have hxi:=QI hx i
  have hyi:=QI hy i
  refine xG ?_
  refine xC (YK xs i hx) ?_
  refine xG ?_
  refine xC (YK ys i hy) ?_
  (refine Qbu false rfl (fun R hR=> ?_);simp only [go_sem];(with_reducible refine hR _ _ ?_ ?_);(focus (((try simp only [XH])<;>and_intros<;>first|exact True.intro|omega|trivial);done));clear hR R)
  refine xG ?_
  (refine Qbu false rfl (fun R hR=> ?_);simp only [go_sem];(with_reducible refine hR _ _ ?_ ?_);(focus (((try simp only [XH])<;>and_intros<;>first|exact True.intro|omega|trivial);done));clear hR R)
  rw [QcA hxi hyi hbb]
  obtain⟨st1,st2⟩:=QiO (zs:=zs++[0]) (i:=i) (by simp;omega) hxi hyi hbb (by rw [Qgm hzl];exact hv)
  rw [Qi3 hzl] at st1
  generalize JW (xs.getD i 0) (ys.getD i 0) b=D at st1 st2⊢
  obtain⟨v,b2,e1,e2,hvl,st⟩:∃v b2:Nat,XE .u32 (D:Int)=(v:Int)∧Qcl .u64 (D:Int) 63=(b2:Int)∧v<4294967296∧(val (zs++[v])+val (ys.take (i+1))=val (xs.take (i+1))+4294967296^(i+1)*b2∧b2≤1):=
   ⟨_,_,QO D,Qct D,Nat.mod_lt _ om,st1,st2⟩
  clear st1 st2
  refine xG ?_
  rw [e1]
  refine QX (pre:=[]) rfl rfl rfl rfl rfl rfl rfl eE eE (by rfl) om om eE om (by exact hog) eE (by rfl) (by rfl) qb qc om (by exact Qbw hzl _) fun g n_=> ?_
  replace n_:=Qa.ne_of n_
  first|dsimp only [Qa.ne,gh] at n_|dsimp only [Qa.ne] at n_|skip
  refine yS n_ ?_
  refine yG (oj n_ e2) ?_
  refine Qb ⟨(some g,i+1,b2,zs++[v]),by dsimp only;omega,(zB (oj n_ e2)),zZ,XJ,by dsimp only;omega,st.2,by simp;omega,QdS hz hvl,st.1⟩
 ·have hin:i=xs.length:=dF hb
  subst hin
  refine xG ?_
  refine Qu (Zh zs hz om) rfl rfl rfl ⟨.c (Qhj hog hzl),trivial⟩ ?_
  refine UW hC ?_
  rw [Qmy hx hz hzl hle (by rw [Ly om];exact hv)]
  exact .tup ⟨.c Xc,.c (.int _ _),trivial⟩
theorem QmP (xs ys:List Nat) (hx:∀x∈xs,x<4294967296) (hy:∀x∈ys,x<4294967296) (hlx:xs.length≤68719476736) (hly:ys.length≤68719476736):
  Fa prog 301 [.c (ws false xs),.c (ws false ys)] (.c (ws true (Qc (val xs*val ys)))):=by
 refine fA func301 fun C hC=>?_
 refine xG ?_
 have hn0:(xs.length:Int)+(ys.length:Int)+1=((xs.length+ys.length+1:Nat):Int):=by omega
 rw [hn0]
 generalize hn:xs.length+ys.length+1=n
 refine Jt (n:=n) (c:=n) rfl rfl rfl Xy Xt rfl om eE eE rfl rfl om om om fun g hg=> ?_
 rw [UD n]
 refine Z1 ?_
 refine Qh (fun x:Nat×List Nat=>[(1,.c (ws false ys)),(5,.c (.osl g 1 0 n)),(18,.c (ws false xs)),(19,.c (.int .i64 xs.length)),(20,.c (.int .i64 x.1))]) (fun x=>[(g,.cells 193 n (wf x.2))])
  (fun x=>x.1≤xs.length∧x.2.length=n∧(∀y∈x.2,y<4294967296)∧val x.2=val (xs.take x.1)*val ys) (fun x=>xs.length-x.1) (0,List.replicate n 0) eB zZ
  ⟨Lz _,by simp,YS _,by simp [val,UX]⟩ ?_
 rintro ⟨i,z0⟩ ⟨hi,hzl0,hz0,hv0⟩
 dsimp only at hi hzl0 hz0 hv0⊢
 refine xG ?_
 refine xF (fun hb=>?_) fun hb=>?_
 ·have hin:i<xs.length:=dT hb
  have hxi:=QI hx i
  have hz0':val z0<4294967296^(i+ys.length):=by
   rw [hv0,Nat.pow_add]
   exact Nat.mul_lt_mul_of_lt_of_lt (XO xs hx i om) (Vp ys hy)
  refine xG ?_
  generalize hxx:xs.getD i 0=x at*
  refine Qh (fun s:Nat×Nat×List Nat=>[(1,.c (ws false ys)),(5,.c (.osl g 1 0 n)),(6,.c (.int .i64 i)),(7,.c (.int .u32 x)),(8,.c (.int .u64 s.2.1)),(18,.c (ws false xs)),(19,.c (.int .i64 xs.length)),(20,.c (.int .i64 i)),(27,.c (.int .i64 ((ys.length:Int)+1))),(28,.c (.int .i64 s.1))]) (fun s=>[(g,.cells 193 n (wf s.2.2))])
   (fun s=>s.1≤ys.length+1∧s.2.1<4294967296∧s.2.2.length=n∧(∀y∈s.2.2,y<4294967296)∧(∀j,i+s.1≤j→s.2.2.getD j 0=z0.getD j 0)∧(s.1=ys.length+1→s.2.1=0)∧val s.2.2+4294967296^(i+s.1)*s.2.1=val z0+4294967296^i*(x*val (ys.take s.1))) (fun s=>ys.length+1-s.1) (0,0,z0) eB zZ
   ⟨Lz _,by simp,hzl0,hz0,fun _ _=>rfl,fun _=>rfl,by simp [val]⟩ ?_
  rintro ⟨k,c,zs⟩ ⟨hk,hc,hzl,hz,hzz,hce,hv⟩
  dsimp only at hk hc hzl hz hzz hce hv⊢
  refine xG ?_
  refine xF (fun hb=>?_) fun hb=>?_
  ·have hkn:k<ys.length+1:=dT hb
   have hyk:=QI hy k
   have hzk:=QI hz (i+k)
   have hst:=QiP (ys:=ys) (x:=x) (zs:=zs) (c:=c) om hv
   have hmb:=Wn hxi hyk
   have hmb2:(0:Int)≤(x:Int)*((ys.getD k 0:Nat):Int)∧(x:Int)*((ys.getD k 0:Nat):Int)≤18446744065119617025:=by rw [←Int.natCast_mul];omega
   have hlast:k=ys.length→(c+(x*ys.getD k 0+zs.getD (i+k) 0))/4294967296=0:=fun e=>by
    subst e
    rw [Ve (Ac _),hzz _ (Ac _),Jd hz0' (Ac _)]
    omega
   refine xG ?_
   refine Xv 17 Qg kR ?_
   refine xG ?_
   refine xD (YK ys k hy) ?_
   refine xG ?_
   have ew:(x:Int)*((ys.getD k 0:Nat):Int)+((zs.getD (i+k) 0:Nat):Int)+(c:Int)=((c+(x*ys.getD k 0+zs.getD (i+k) 0):Nat):Int):=by simp;omega
   rw [ew,QO]
   refine xW ?_
   refine xS ?_
   rw [Vd om]
   refine xG ?_
   refine Qb ⟨(k+1,(c+(x*ys.getD k 0+zs.getD (i+k) 0))/4294967296,zs.set (i+k) ((c+(x*ys.getD k 0+zs.getD (i+k) 0))%4294967296)),by dsimp only;omega,eB,zZ,by dsimp only;omega,by dsimp only;omega,by simpa using hzl,Jc hz om,fun j hj=> ?_,fun e=>hlast (by simpa using e),hst⟩
   dsimp only at hj⊢
   rw [Go.PN.getD_set_ne om]
   exact hzz j om
  ·have hkn:k=ys.length+1:=dF hb
   subst hkn
   refine xG ?_
   rw [hce rfl,Nat.mul_zero,Nat.add_zero,hv0,Ly (l:=ys) om] at hv
   refine Qb ⟨(i+1,zs),by dsimp only;omega,eB,zZ,by dsimp only;omega,hzl,hz,?_⟩
   dsimp only
   rw [hv,Qy,hxx,Nat.add_mul,Na]
 ·have hin:i=xs.length:=dF hb
  subst hin
  refine xG ?_
  refine Qu (Zh z0 hz0 om) rfl rfl rfl (by refine xS ?_;exact .c (Yt eE om om (fun j _=>by rw [Nz];rfl))) ?_
  refine UW hC ?_
  rw [hv0,Lk]
  exact .one (.c Xc)
theorem Qk4 {n m:Nat} (h1:2^m≤n) (h2:n<2^(m+1)):Q8 n=m+1:=by
 have:=KD h1
 have h3:n/2^m=1:=by
  rw [Nat.pow_succ] at h2
  exact Nat.div_eq_of_lt_le om om
 rw [this,h3];rfl
theorem QtF (x n:Nat) (hn:n≤32):Qcl .u32 (x:Int) (n:Int)=((x/2^n:Nat):Int):=by
 rw [UB]
 have h1:min (n:Int).toNat IntKind.u32.bits=n:=by show min (n:Int).toNat 32=n;omega
 rw [h1,Int.fdiv_eq_ediv_of_nonneg _ (by exact Int.le_of_lt (Int.pow_pos om))]
 rw [Int.natCast_ediv,Int.natCast_pow];rfl
theorem Qox (x:Nat) (hx:x<4294967296):Qqf .u32 (x:Int) 1=((x%2:Nat):Int):=by
 rw [Qhc]
 show IntKind.u32.wrap (((BitVec.ofInt 32 (x:Int)&&&BitVec.ofInt 32 1).toNat:Nat):Int)=_
 have:(BitVec.ofInt 32 (x:Int)&&&BitVec.ofInt 32 1).toNat=x%2:=by
  rw [BitVec.toNat_and]
  have e1:(BitVec.ofInt 32 (x:Int)).toNat=x:=by rw [BitVec.ofInt_natCast,BitVec.toNat_ofNat];omega
  have e2:(BitVec.ofInt 32 1).toNat=1:=rfl
  rw [e1,e2,Nat.and_one_is_mod]
 rw [this,IntKind.wrap_u32];omega
theorem Qi4 {x k:Nat}:x%2^(k+1)=x%2^k+2^k*(x/2^k%2):=by
 rw [Nat.pow_succ,Nat.mod_mul]
theorem Qoy {V i x k:Nat} (hV:V<4294967296^i) (hb:x/2^k%2=1):Q8 (V+4294967296^i*(x%2^(k+1)))=32*i+k+1:=by
 have hp:(4294967296:Nat)^i=2^(32*i):=by rw [Nat.pow_mul]
 rw [Qi4,hb,Ad]
 have hm:x%2^k<2^k:=Nat.mod_lt _ (Nat.two_pow_pos k)
 rw [hp] at hV⊢
 have e1:2^(32*i+k)=2^(32*i)*2^k:=Nat.pow_add ..
 refine Qk4 ?_ ?_
 ·rw [e1,Nat.mul_add];omega
 ·rw [Nat.pow_succ,e1,Nat.mul_add]
  have:=Nat.mul_le_mul_left (2^(32*i)) (show x%2^k+1≤2^k from hm)
  rw [Nat.mul_add,Ad] at this
  omega
theorem QeE (xs:List Nat) (hx:∀x∈xs,x<4294967296) (hlx:xs.length≤68719476736):Fa prog 264 [.c (ws false xs)] (.c (.int .i64 (Q8 (val xs):Nat))):=by
 refine fA func264 fun C hC=>?_
 refine xG ?_
 refine Qh (fun i:Nat=>[(3,.c (.int .i64 (Q8 (val (xs.take i)):Nat))),(7,.c (ws false xs)),(8,.c (.int .i64 xs.length)),(9,.c (.int .i64 i))]) (fun _=>[]) (fun i=>i≤xs.length) (fun i=>xs.length-i) 0 eB zZ (Lz _) ?_
 rintro i hi
 refine xG ?_
 refine xF (fun hb=>?_) fun hb=>?_
 ·have hin:i<xs.length:=dT hb
  have hxi:=QI hx i
  have hvt:=XO xs hx i om
  refine xG ?_
  generalize hxx:xs.getD i 0=x at*
  refine Qh (fun k:Nat=>[(3,.c (.int .i64 (Q8 (val (xs.take i)+4294967296^i*(x%2^k)):Nat))),(4,.c (.int .i64 i)),(5,.c (.int .u32 x)),(7,.c (ws false xs)),(8,.c (.int .i64 xs.length)),(9,.c (.int .i64 i)),(14,.c (.int .i64 k))]) (fun _=>[]) (fun k=>k≤32) (fun k=>32-k) 0 (by refine xS ?_;and_intros<;>first|exact True.intro|rfl|(rw [Nat.pow_zero,Nat.mod_one,Nat.mul_zero,Nat.add_zero])) zZ (Lz _) ?_
  rintro k hk
  refine xG ?_
  refine xF (fun hb=>?_) fun hb=>?_
  ·have hk':k<32:=dT hb
   have hd:x/2^k<4294967296:=Nat.lt_of_le_of_lt (Nat.div_le_self _ _) hxi
   have e1:=QtF x k om
   have e2:=Qox (x/2^k) hd
   have J1:=oj e1 e2
   refine yG J1 ?_
   refine yF J1 (fun hc=>?_) fun hc=>?_
   ·have hc':x/2^k%2=1:=by have:=eq_of_beq hc;omega
    refine yG J1 ?_
    refine Qb ⟨k+1,by omega,(by refine yS J1 ?_;and_intros<;>first|exact True.intro|rfl|exact Wh (by rw [Qoy hvt hc'];omega)),zZ,by omega⟩
   ·have hc':x/2^k%2=0:=by
     have h1:¬(((x/2^k%2:Nat):Int)=1):=fun e=>by rw [e] at hc;cases hc
     omega
    refine yG J1 ?_
    refine Qb ⟨k+1,by omega,(by refine yS J1 ?_;and_intros<;>first|exact True.intro|rfl|(rw [Qi4,hc',Nat.mul_zero,Nat.add_zero])),zZ,by omega⟩
  ·have hk':k=32:=dF hb
   subst hk'
   refine xG ?_
   refine Qb ⟨i+1,by omega,(by refine xS ?_;and_intros<;>first|exact True.intro|rfl|(rw [Qy,hxx,Nat.mod_eq_of_lt (show x<2^32 from hxi)])),zZ,by omega⟩
 ·have hin:i=xs.length:=dF hb
  subst hin
  refine xGT hC ?_
  rw [Lk]
  exact .one (.c (.int _ _))
theorem QtG {xs zs:List Nat} {i s c:Nat} (h:val zs+4294967296^i*c=val (xs.take i)*2^s) (hl:zs.length=i):
  val (zs++[(c+xs.getD i 0*2^s)%4294967296])+4294967296^(i+1)*((c+xs.getD i 0*2^s)/4294967296)=val (xs.take (i+1))*2^s:=by
 rw [KA,hl,Qy]
 simp only [val,Nat.mul_zero,Nat.add_zero]
 have e:=Nat.mod_add_div (c+xs.getD i 0*2^s) 4294967296
 generalize (c+xs.getD i 0*2^s)%4294967296=v at*
 generalize (c+xs.getD i 0*2^s)/4294967296=d at*
 rw [Nat.add_mul,←h,Nat.pow_succ,Na,Na,Nat.add_assoc,←Nat.mul_add,e,Nat.mul_add,Nat.add_assoc]
theorem QqI {c x s:Nat} (hc:c<2^s):c|||x*2^s=c+x*2^s:=by
 rw [Nat.or_comm,Nc,←Nat.two_pow_add_eq_or_of_lt hc,Nat.add_comm]
theorem QqJ {c x s:Nat} (hc:c<2^s) (hx:x<4294967296):(c+x*2^s)/4294967296<2^s:=by
 rw [Nat.div_lt_iff_lt_mul om]
 have:=Nm (2^s) (show x+1≤4294967296 from hx)
 rw [Nat.add_mul,Nat.one_mul] at this
 rw [Nc (2^s)]
 omega
theorem Qx8 {c x s:Nat} (hc:c<2^s) (hx:x<4294967296) (hs:s<32):c+x*2^s<18446744073709551616:=by
 have h1:=Nm (2^s) (show x+1≤4294967296 from hx)
 rw [Nat.add_mul,Nat.one_mul] at h1
 have h2:=Nat.mul_le_mul_left 4294967296 (Wo (show s≤32 from by omega))
 omega
theorem QqK (xs:List Nat) (s:Nat) (hx:∀x∈xs,x<4294967296) (hlx:xs.length≤68719476736) (hs:s<32):Fa prog 300 [.c (ws false xs),.c (.int .i64 s)] (.c (ws true (Qc (val xs*2^s)))):=by
 refine fA func300 fun C hC=>?_
 refine xG ?_
 refine Qh (fun x:Option Nat×Nat×Nat×List Nat=>[(1,.c (.int .i64 s)),(5,.c (gs x.1 1 x.2.1)),(6,.c (.int .u64 x.2.2.1)),(9,.c (ws false xs)),(10,.c (.int .i64 xs.length)),(11,.c (.int .i64 x.2.1))]) (fun x=>gh x.1 193 x.2.1 (wf x.2.2.2))
  (fun x=>(x.1=none→x.2.1=0)∧x.2.1≤xs.length∧x.2.2.1<2^s∧x.2.2.2.length=x.2.1∧(∀y∈x.2.2.2,y<4294967296)∧val x.2.2.2+4294967296^x.2.1*x.2.2.1=val (xs.take x.2.1)*2^s) (fun x=>xs.length-x.2.1) (none,0,0,[]) eB zZ
  ⟨fun _=>rfl,Lz _,Nat.two_pow_pos s,rfl,by simp,by simp [val]⟩ ?_
 rintro ⟨og,i,c,zs⟩ ⟨hog,hi,hc,hzl,hz,hv⟩
 dsimp only at hog hi hc hzl hz hv⊢
 have hp:=Wo (show s≤32 from by omega)
 refine xG ?_
 refine xF (fun hb=>?_) fun hb=>?_
 ·have hin:i<xs.length:=dT hb
  have hxi:=QI hx i
  have hlt:=Qx8 hc hxi hs
  have e1:=QmB (xs.getD i 0) s hxi om
  have e2:orZ .u64 (c:Int) ((xs.getD i 0*2^s:Nat):Int)=((c+xs.getD i 0*2^s:Nat):Int):=by
   rw [QkY _ _ om om,QqI hc]
  have e3:=QO (c+xs.getD i 0*2^s)
  have e4:=W0 (c+xs.getD i 0*2^s)
  have hst:=QtG (xs:=xs) hv hzl
  have hcc:=QqJ hc hxi
  have J1:=oj e1 (oj e2 (oj e3 e4))
  refine yG J1 ?_
  refine QX (pre:=[]) rfl rfl rfl rfl rfl rfl rfl (zE J1) (zE J1) (by rfl) om om (zE J1) om (by exact hog) (zE J1) (by rfl) (by rfl) qb qc om (by exact Qbw hzl _) fun g n_=> ?_
  replace n_:=Qa.ne_of n_
  first|dsimp only [Qa.ne,gh] at n_|dsimp only [Qa.ne] at n_|skip
  have J2:=oj e1 (oj e2 (oj e3 (oj e4 n_)))
  refine Xp J2 ?_
  refine Qb ⟨(some g,i+1,(c+xs.getD i 0*2^s)/4294967296,zs++[(c+xs.getD i 0*2^s)%4294967296]),by dsimp only;omega,(zB J2),zZ,XJ,by dsimp only;omega,hcc,by simp;omega,QdS hz om,hst⟩
 ·have hin:i=xs.length:=dF hb
  subst hin
  have e3:XE .u32 (c:Int)=(c:Int):=by rw [QO,Nat.mod_eq_of_lt om]
  refine yG e3 ?_
  refine QX (pre:=[]) rfl rfl rfl rfl rfl rfl rfl (zE e3) (zE e3) (by rfl) om om (zE e3) om (by exact hog) (zE e3) (by rfl) (by rfl) qb qc om (by exact Qbw hzl _) fun g n_=> ?_
  replace n_:=Qa.ne_of n_
  first|dsimp only [Qa.ne,gh] at n_|dsimp only [Qa.ne] at n_|skip
  have J3:=oj e3 n_
  refine Xp J3 ?_
  refine Qu (Zh (zs++[c]) (QdS hz om) (by simp;omega)) rfl rfl rfl ⟨.c (Qhj XJ (by simp;omega)),trivial⟩ ?_
  refine Qdy hC J3 ?_
  rw [KA,hzl]
  simp only [val,Nat.mul_zero,Nat.add_zero]
  rw [hv,Lk]
  exact .one (.c Xc)
theorem QqL {s:Nat} {xs zs:List Nat} {i:Nat} (hi:i<xs.length) (hl:zs=(rgt s xs).take i):zs++[(xs.getD i 0+xs.getD (i+1) 0*4294967296)/2^s%4294967296]=(rgt s xs).take (i+1):=by
 rw [←QiR s xs i hi,hl]
 have hil:i<(rgt s xs).length:=by rw [KC];exact hi
 rw [List.take_succ_eq_append_getElem hil]
 congr 2
 rw [Lg,Li hil];rfl
theorem QqM (xs:List Nat) (s:Nat) (hx:∀x∈xs,x<4294967296) (hlx:xs.length≤68719476736) (hs:s<32):Fa prog 303 [.c (ws false xs),.c (.int .i64 s)] (.c (ws true (Qc (val xs/2^s)))):=by
 refine fA func303 fun C hC=>?_
 refine xG ?_
 refine Qh (fun x:Option Nat×Nat×List Nat=>[(0,.c (ws false xs)),(1,.c (.int .i64 s)),(5,.c (gs x.1 1 x.2.1)),(7,.c (ws false xs)),(8,.c (.int .i64 xs.length)),(9,.c (.int .i64 x.2.1))]) (fun x=>gh x.1 193 x.2.1 (wf x.2.2))
  (fun x=>(x.1=none→x.2.1=0)∧x.2.1≤xs.length∧x.2.2=(rgt s xs).take x.2.1) (fun x=>xs.length-x.2.1) (none,0,[]) eB zZ
  ⟨fun _=>rfl,Lz _,by simp⟩ ?_
 rintro ⟨og,i,zs⟩ ⟨hog,hi,hzs⟩
 dsimp only at hog hi hzs⊢
 have hzl:zs.length=i:=by rw [hzs,List.length_take,KC];omega
 refine xG ?_
 refine xF (fun hb=>?_) fun hb=>?_
 ·have hin:i<xs.length:=dT hb
  have hxi:=QI hx i
  have hxj:=QI hx (i+1)
  refine xG ?_
  refine xC (YK xs i hx) ?_
  refine xG ?_
  refine xC (YK xs (i+1) hx) ?_
  have e1:=VO (xs.getD (i+1) 0) hxj
  have e2:=WZ (xs.getD (i+1) 0) (xs.getD i 0) hxj hxi
  have e3:=QmC (xs.getD (i+1) 0*4294967296+xs.getD i 0) s om
  have e4:=QO ((xs.getD (i+1) 0*4294967296+xs.getD i 0)/2^s)
  have e5:=QqL (s:=s) hin hzs
  rw [Nat.add_comm (xs.getD i 0)] at e5
  have J1:=oj e1 (oj e2 (oj e3 e4))
  refine yG J1 ?_
  refine QX (pre:=[]) rfl rfl rfl rfl rfl rfl rfl (zE J1) (zE J1) (by rfl) om om (zE J1) om (by exact hog) (zE J1) (by rfl) (by rfl) qb qc om (by exact Qbw hzl _) fun g n_=> ?_
  replace n_:=Qa.ne_of n_
  first|dsimp only [Qa.ne,gh] at n_|dsimp only [Qa.ne] at n_|skip
  have J2:=oj e1 (oj e2 (oj e3 (oj e4 n_)))
  refine Xp J2 ?_
  refine Qb ⟨(some g,i+1,zs++[(xs.getD (i+1) 0*4294967296+xs.getD i 0)/2^s%4294967296]),by dsimp only;omega,(zB J2),zZ,XJ,by dsimp only;omega,e5⟩
 ·have hin:i=xs.length:=dF hb
  subst hin
  rw [Ly (by rw [KC];omega)] at hzs
  refine xG ?_
  refine Qu (Zh zs (by rw [hzs];exact Qqu s xs) om) rfl rfl rfl ⟨.c (Qhj hog hzl),trivial⟩ ?_
  refine UW hC ?_
  rw [hzs,QmE om xs hx]
  exact .one (.c Xc)
end Go.Proofs.YtngjgahldnnapaaGreatDoor
namespace Go.PN
theorem QqN (k:Nat):(0:Nat)<4294967296^k:=Nat.pow_pos om
theorem Qoz {R V rt bt D:Nat} (hR:R<(rt+1)*D) (hV:bt*D≤V) (hb:0<bt) (hV0:0<V):R/V≤rt/bt:=by
 rw [Nat.le_div_iff_mul_le hb]
 have h1:R/V*V≤R:=Nat.div_mul_le_self R V
 have h2:R/V*bt*D<(rt+1)*D:=by
  refine Nat.lt_of_le_of_lt ?_ hR
  refine Lt ?_ h1
  rw [Na]
  exact Nat.mul_le_mul_left _ hV
 have h3:R/V*bt<rt+1:=Nat.lt_of_mul_lt_mul_right h2
 omega
theorem Qwr (xs:List Nat) (hx:∀x∈xs,x<4294967296) (n:Nat) (hl:xs.length≤n+2):val xs<(xs.getD (n+1) 0*4294967296+xs.getD n 0+1)*4294967296^n:=by
 have h1:val xs=val (xs.take (n+2)):=by rw [Ly hl]
 have h2:=Qy xs (n+1)
 have h3:=Qy xs n
 have h4:val (xs.take n)<4294967296^n:=by
  by_cases hc:n≤xs.length
  ·exact XO xs hx n hc
  ·rw [Ly om]
   exact Ae (Vp xs hx) (Nat.pow_le_pow_right om om)
 rw [h1,show n+2=n+1+1 from rfl,h2,h3,Nat.pow_succ]
 generalize 4294967296^n=D at*
 generalize xs.getD (n+1) 0=a
 generalize xs.getD n 0=b
 rw [Nat.add_mul,Nat.add_mul,Nat.one_mul,Na a,Nc D b,Nc (D*4294967296) a,Nc D 4294967296]
 omega
theorem Qws (ys:List Nat) (n:Nat):ys.getD n 0*4294967296^n≤val (ys.take (n+1)):=by
 rw [Qy,Nc];omega
theorem QqO {A V m r:Nat} (hV:0<V) (hr:r=A/4294967296^(m+1)%V):(A/4294967296^m%4294967296+4294967296*r)%V=A/4294967296^m%V∧A/4294967296^m/V=(A/4294967296^m%4294967296+4294967296*r)/V+4294967296*(A/4294967296^(m+1)/V):=by
 have e:A/4294967296^(m+1)=A/4294967296^m/4294967296:=by rw [Nat.pow_succ,Nat.div_div_eq_div_mul]
 rw [e] at hr⊢
 generalize A/4294967296^m=T at*
 have h1:=Nat.div_add_mod T 4294967296
 have h2:=Nat.div_add_mod (T/4294967296) V
 rw [←hr] at h2
 generalize T/4294967296/V=q at*
 have h3:T=(T%4294967296+4294967296*r)+V*(4294967296*q):=by
  have:4294967296*(V*q+r)=4294967296*(T/4294967296):=by rw [h2]
  rw [Nat.mul_add,←Na,Nc 4294967296 V,Na] at this
  omega
 constructor
 ·conv=>rhs;rw [h3]
  rw [Nat.add_mul_mod_self_left]
 ·conv=>lhs;rw [h3]
  rw [Nat.add_mul_div_left _ _ hV]
theorem QtH (xs:List Nat) (hx:∀x∈xs,x<4294967296) (m:Nat):val xs/4294967296^m%4294967296=xs.getD m 0:=by
 by_cases hm:m<xs.length
 ·have h1:=YP xs m om
  have h2:=XO xs hx m om
  rw [h1,Nat.add_mul_div_left _ _ (QqN m),Nat.div_eq_of_lt h2,Nz,KZ,Nat.add_mul_mod_self_left]
  exact Nat.mod_eq_of_lt (QI hx m)
 ·have h1:=Ae (Vp xs hx) (Nat.pow_le_pow_right (show 0<4294967296 by omega) (show xs.length≤m by omega))
  rw [Nat.div_eq_of_lt h1,Ve om]
theorem QqP (xs:List Nat) (hx:∀x∈xs,x<4294967296) (m:Nat) (hm:m≤xs.length):val (xs.drop m)=val xs/4294967296^m:=by
 have h1:=YP xs m hm
 have h2:=XO xs hx m hm
 rw [h1,Nat.add_mul_div_left _ _ (QqN m),Nat.div_eq_of_lt h2,Nz]
theorem Qht {qs:List Nat} {m v:Nat} (hm:m<qs.length):val ((qs.set m v).drop m)=v+4294967296*val (qs.drop (m+1)):=by
 rw [Qev hm];rfl
theorem QoA {b n s:Nat} (hl:(Qc b).length=n+1) (hs:(Qc b).getD n 0*2^s<4294967296):(Qc (b*2^s)).length=n+1:=by
 have hb0:b≠0:=fun e=>by rw [e,QC] at hl;cases hl
 have hv:=Qd b
 have h1:val ((Qc b).take (n+1))=b:=by rw [Ly om,hv]
 rw [Qy] at h1
 have h2:=XO (Qc b) (Qr b) n om
 have hle:b*2^s<4294967296^(n+1):=by
  have h3:b<4294967296^n*((Qc b).getD n 0+1):=by rw [Nat.mul_add,Ad];omega
  have h4:b*2^s<4294967296^n*((Qc b).getD n 0+1)*2^s:=Nat.mul_lt_mul_of_pos_right h3 (Nat.two_pow_pos s)
  refine Ae h4 ?_
  rw [Na,Nat.pow_succ]
  refine Nat.mul_le_mul_left _ ?_
  have h5:((Qc b).getD n 0+1)*2^s≤4294967296:=by
   by_cases hs32:s≤32
   ·have h6:=Vu hs32
    rw [h6] at hs⊢
    rw [Nc (2^s) (2^(32-s))] at hs⊢
    have:=Nat.lt_of_mul_lt_mul_right hs
    exact Nm _ this
   ·have h7:(Qc b).getD n 0≠0:=by
     have:=(KY b).resolve_left (fun e=>hb0 (Xl.1 e))
     rwa [hl] at this
    exfalso
    have h8:(2:Nat)^32≤2^s:=Nat.pow_le_pow_right om om
    have h9:=Nat.mul_le_mul (show 1≤(Qc b).getD n 0 by omega) h8
    omega
  exact h5
 have hge:b≤b*2^s:=Nat.le_mul_of_pos_right _ (Nat.two_pow_pos s)
 have:=QL hge
 have:=X6 hle
 omega
theorem Qhu {y:Nat} (hy:y<4294967296) (h:y&&&2147483648=0):y<2147483648:=by
 have h1:(y&&&2147483648).testBit 31=false:=by rw [h];simp
 rw [Nat.testBit_and,show(2147483648:Nat).testBit 31=true from by decide,Bool.and_true,Nat.testBit_eq_decide_div_mod_eq] at h1
 simp at h1
 omega
end Go.PN
namespace Go.Proofs.YtngjgahldnnapaaGreatDoor
open Go.AI Go.PN Tryz
attribute [local irreducible] aw Fa ZN ZZ Fh YE
attribute [local irreducible] DrB
theorem QtI (x s:Nat) (hs:s≤32):Qod .u32 (x:Int) (s:Int)=((x*2^s%4294967296:Nat):Int):=by
 rw [QdK]
 have h1:min (s:Int).toNat IntKind.u32.bits=s:=by show min (s:Int).toNat 32=s;omega
 rw [h1,IntKind.wrap_u32,Int.natCast_emod,Int.natCast_mul,Int.natCast_pow];rfl
theorem QtJ (x y:Nat) (hx:x<4294967296) (hy:y<4294967296):Qqf .u32 (x:Int) (y:Int)=((x&&&y:Nat):Int):=by
 rw [Qhc]
 show IntKind.u32.wrap (((BitVec.ofInt 32 (x:Int)&&&BitVec.ofInt 32 (y:Int)).toNat:Nat):Int)=_
 have:(BitVec.ofInt 32 (x:Int)&&&BitVec.ofInt 32 (y:Int)).toNat=x&&&y:=by
  rw [BitVec.toNat_and]
  have e1:∀z:Nat,z<4294967296→(BitVec.ofInt 32 (z:Int)).toNat=z:=fun z hz=>by rw [BitVec.ofInt_natCast,BitVec.toNat_ofNat];omega
  rw [e1 x hx,e1 y hy]
 have hlt:x&&&y<4294967296:=Nat.lt_of_le_of_lt Nat.and_le_left hx
 rw [this,IntKind.wrap_u32];omega
theorem Qi5 (x:Nat) (hx:x<4294967296):Qqf .u32 (x:Int) 2147483648=((x&&&2147483648:Nat):Int):=QtJ x 2147483648 hx om
theorem Qwt (xs:List Nat) (m j:Nat):xs.getD (m+j) 0=(xs.drop m).getD j 0:=by
 rw [Lg,Lg,List.getElem?_drop]
theorem Qi6 (a b s:Nat):a*2^s/(b*2^s)=a/b:=Nat.mul_div_mul_right a b (Nat.two_pow_pos s)
theorem Qi7 (a b s:Nat):a*2^s%(b*2^s)/2^s=a%b:=by
 rw [Nat.mul_mod_mul_right,Nat.mul_div_cancel _ (Nat.two_pow_pos s)]
theorem QqQ (n:Nat):(fun j=>([CV.int .u32 0][j%1]?).getD .any)=wf (List.replicate n 0):=by
 funext j
 show _=CV.int .u32 ((List.replicate n 0).getD j 0:Nat)
 rw [Nat.mod_one,Lg,List.getElem?_replicate]
 split<;>rfl
theorem QqR (xs:List Nat) (m:Nat):(CV.row true 1 (xs.length-m) fun j=>.int .u32 ((xs.getD (m+j) 0:Nat):Int))=ws true (xs.drop m):=by
 simp only [Qwt]
 show _=CV.row true 1 (xs.drop m).length _
 rw [List.length_drop]
theorem Qwu (x:Nat) (rs:List Nat):∀j,Xq (ofL [.int .u32 (x:Int)]) 1 (fun j=>.int .u32 ((rs.getD j 0:Nat):Int)) j=CV.int .u32 (((x::rs).getD j 0:Nat):Int)
 |0=>rfl
 |j+1=>by simp [Xq]
theorem QdT (xs ys:List Nat) (hx:∀x∈xs,x<4294967296) (hy:∀x∈ys,x<4294967296) (hlx:xs.length≤34359738368) (hly:ys.length≤34359738368) (h0:val ys≠0):
  Fa prog 203 [.c (ws false xs),.c (ws false ys)] (.tup [.c (ws true (Qc (val xs/val ys))),.c (ws true (Qc (val xs%val ys))),.c (.int .i64 0)]):=by
 refine fA func203 fun C hC=>?_
 refine xG ?_
 refine xC (Zh ys hy ?_) ?_
 ·omega
 generalize hb0:val ys=b at h0
 have hbl:(Qc b).length≤34359738368:=by rw [←hb0];exact Lt (QV ys hy) hly
 have hbw:=Qr b
 obtain⟨n,hn⟩:∃n,(Qc b).length=n+1:=⟨(Qc b).length-1,by have:(Qc b).length≠0:=fun e=>h0 (Xl.1 (Lh.1 e));omega⟩
 have htop:(Qc b).getD n 0≠0:=by
  have:=(KY b).resolve_left (fun e=>h0 (Xl.1 e))
  rwa [hn] at this
 have htl:=QI hbw n
 refine xG ?_
 refine xF (fun hb=>?_) fun hb=>?_
 ·have:=eq_of_beq hb;omega
 refine xH ?_
 apply QdI
 apply Yd
 apply Zd
 refine xH ?_
 apply Yd
 refine Yy (fun s:Nat=>[(0,.c (ws false xs)),(1,.c (ws true (Qc b))),(7,.c (.int .i64 ((n+1:Nat):Int))),(8,.c (.int .i64 s))]) (fun _=>[]) (fun s=>(Qc b).getD n 0*2^s<4294967296∧s<32) ?_ ?_
 ·as_aux_lemma=>
  apply Zz
  have hnl:((Qc b).length:Int)=((n+1:Nat):Int):=by rw [hn]
  refine Qh (fun s:Nat=>[(0,.c (ws false xs)),(1,.c (ws true (Qc b))),(7,.c (.int .i64 ((n+1:Nat):Int))),(8,.c (.int .i64 s))]) (fun _=>[]) (fun s=>(Qc b).getD n 0*2^s<4294967296∧s<32) (fun s=>32-s) 0 (zB hnl) zZ ⟨by simpa using htl,by omega⟩ ?_
  rintro s ⟨hs1,hs2⟩
  have e1:=QtI ((Qc b).getD n 0) s om
  rw [Nat.mod_eq_of_lt hs1] at e1
  have e2:=Qi5 _ hs1
  have e3:(((n+1:Nat):Int)-1).toNat=n:=by omega
  have J1:=oj hnl (oj e1 (oj e2 e3))
  refine yG J1 ?_
  refine yF J1 (fun hc=>?_) fun hc=>?_
  ·have hc':(Qc b).getD n 0*2^s&&&2147483648=0:=by have:=eq_of_beq hc;omega
   have hlt:=Qhu hs1 hc'
   have hs3:s<31:=by
    rcases Nat.lt_or_ge s 31 with h|h
    ·exact h
    ·exfalso
     have h8:(2:Nat)^31≤2^s:=Nat.pow_le_pow_right om h
     have h9:=Nat.mul_le_mul (show 1≤(Qc b).getD n 0 by omega) h8
     omega
   refine yG J1 ?_
   refine Qb ⟨s+1,by omega,(zB J1),zZ,?_,by omega⟩
   rw [Nat.pow_succ,←Na];omega
  ·refine yG J1 ?_
   exact Qb ⟨s,(zB J1),zZ,hs1,hs2⟩
 as_aux_lemma=>
 rintro s ⟨hs1,hs2⟩
 have hVl:=QoA hn hs1
 refine xG ?_
 refine xC (QqK xs s hx ?_ hs2) ?_
 ·omega
 refine xG ?_
 refine xC (QqK (Qc b) s hbw ?_ hs2) ?_
 ·omega
 rw [Qd]
 have hq1:=(Qi6 (val xs) b s).symm
 have hq2:=(Qi7 (val xs) b s).symm
 have hV0:b*2^s≠0:=Nat.mul_ne_zero h0 (Nat.pos_iff_ne_zero.1 (Nat.two_pow_pos s))
 have hAl:(Qc (val xs*2^s)).length≤34359738369:=by
  have h0:(Qc (val xs*2^s)).length≤xs.length+1:=by
   refine X6 ?_
   rw [Nat.pow_succ]
   have h2:2^s≤4294967296:=Wo om
   exact Ae (Nat.mul_lt_mul_of_pos_right (Vp xs hx) (Nat.two_pow_pos s)) (Nat.mul_le_mul_left _ h2)
  omega
 rw [hq1,hq2]
 clear hq1 hq2
 generalize hA:val xs*2^s=A at hAl⊢
 generalize hV:b*2^s=V at hVl hV0⊢
 have hn9:n≤34359738368:=by omega
 clear htop htl hbl hbw hs1 hA hV hb0 hb h0 hn
 have hVpos:0<V:=Nat.pos_of_ne_zero hV0
 have hAw:=Qr A
 have hVw:=Qr V
 have hVlo:4294967296^n≤V:=by have:=Qby hV0;rwa [hVl] at this
 have hVhi:V<4294967296^(n+1):=by have:=Ym V;rwa [hVl] at this
 have hAhi:=Ym A
 generalize hla:(Qc A).length=la at hAl hAhi
 refine xH ?_
 apply Yd
 refine Qwj 13 Qg kR ?_
 repeat first|(refine Qqr true rfl (fun R hR=> ?_);simp only [go_sem];(with_reducible refine hR _ _ ?_ ?_);(focus (((try simp only [XH])<;>and_intros<;>first|exact True.intro|omega|trivial);done));clear hR R)|fail
 refine Qtr rfl (Ov.make (n:=la) (c:=la) rfl rfl rfl Xy Xt rfl om eE eE (by rw [hla]) (by rw [hla]) om om om) kR ?_
 refine xS ?_
 refine Qbx (Vt.empty rfl rfl rfl Xy) ?_
 refine xS ?_
 have hmx:(if((Qc A).length:Int)-((n+1:Nat):Int)+1>0 then((Qc A).length:Int)-((n+1:Nat):Int)+1 else 0)=((la-n:Nat):Int):=by rw [hla];split<;>omega
 repeat first|(refine Qqr true rfl (fun R hR=> ?_);simp only [go_sem,hmx];(with_reducible refine hR _ _ ?_ ?_);(focus (((try simp only [XH])<;>and_intros<;>first|exact True.intro|omega|trivial);done));clear hR R)|fail
 refine Qbx (Vt.copy rfl rfl rfl Xy Xt rfl om (zE hmx) (zE hmx) .row qc om) ?_
 refine yS hmx ?_
 refine Qtq fun γ=> ?_
 refine yS hmx ?_
 rw [QqQ la]
 generalize γ 2=gq
 rw [QqR]
 have hr0:=QqP (Qc A) hAw (la-n) om
 rw [Qd] at hr0
 have hrV:A/4294967296^(la-n)<V:=by
  refine Ae ((Nat.div_lt_iff_lt_mul (QqN _)).2 ?_) hVlo
  rw [←Nat.pow_add]
  exact Ae hAhi (Nat.pow_le_pow_right om om)
 have hrw:∀x∈(Qc A).drop (la-n),x<4294967296:=fun x hx=>hAw x (List.mem_of_mem_drop hx)
 have hrl:((Qc A).drop (la-n)).length≤n+1:=by rw [List.length_drop];omega
 generalize (Qc A).drop (la-n)=rs0 at hr0 hrw hrl⊢
 refine yG hmx ?_
 refine Qh (fun x:Int×Nat×List Nat×List Nat=>[(0,.c (ws true (Qc A))),(1,.c (ws true (Qc V))),(7,.c (.int .i64 ((n+1:Nat):Int))),(8,.c (.int .i64 s)),(9,.c (.osl gq 1 0 la)),(10,.c (ws true x.2.2.1)),(11,.c (.int .i64 x.1))]) (fun x=>[(gq,.cells 193 la (wf x.2.2.2))])
  (fun x=>x.2.1=(x.1+1).toNat∧x.1<34359738370∧ -34359738370<x.1∧x.2.1≤la∧val x.2.2.1=A/4294967296^x.2.1%V∧(∀y∈x.2.2.1,y<4294967296)∧x.2.2.1.length≤n+1∧x.2.2.2.length=la∧(∀y∈x.2.2.2,y<4294967296)∧val (x.2.2.2.drop x.2.1)=A/4294967296^x.2.1/V) (fun x=>x.2.1) ((la:Int)-((n+1:Nat):Int),la-n,rs0,List.replicate la 0) (zB hmx) zZ
  ⟨by dsimp only;omega,by dsimp only;omega,by dsimp only;omega,by dsimp only;omega,by dsimp only;rw [hr0,Nat.mod_eq_of_lt hrV],hrw,hrl,by simp,YS _,by dsimp only;rw [Nat.div_eq_of_lt hrV];exact JV fun x hx=>(List.mem_replicate.1 (List.mem_of_mem_drop hx)).2⟩ ?_
 clear hr0 hrV hrw hrl
 clear rs0
 as_aux_lemma=>
 rintro ⟨v,m,rs,qs⟩ ⟨hm,hv1,hv2,hml,hrs,hrw,hrl,hql,hqw,hqs⟩
 dsimp only at hm hv1 hv2 hml hrs hrw hrl hql hqw hqs⊢
 refine yG hmx ?_
 refine yF hmx (fun hb=>?_) fun hb=>?_
 ·have hv0:0≤v:=of_decide_eq_true hb
  obtain⟨k,rfl⟩:∃k:Nat,v=k:=⟨v.toNat,by omega⟩
  have hmk:m=k+1:=by omega
  subst hmk
  have hwk:=QtH (Qc A) hAw k
  rw [Qd] at hwk
  have hak:=QI hAw k
  obtain⟨nx1,nx2⟩:=QqO (A:=A) (m:=k) hVpos hrs
  rw [hwk] at nx1 nx2
  apply QdI
  apply Yd
  apply Zz
  apply Yd
  have hRl:((Qc A).getD k 0::rs).length≤n+2:=by simp;omega
  have hRw:∀x∈(Qc A).getD k 0::rs,x<4294967296:=fun x hx=>by
   rcases Lb.1 hx with rfl|hx
   ·exact hak
   ·exact hrw x hx
  refine Yy (fun _:Unit=>[(0,.c (ws true (Qc A))),(1,.c (ws true (Qc V))),(7,.c (.int .i64 ((n+1:Nat):Int))),(8,.c (.int .i64 s)),(9,.c (.osl gq 1 0 la)),(10,.c (ws true (Qc ((Qc A).getD k 0+4294967296*val rs)))),(11,.c (.int .i64 k))]) (fun _=>[(gq,.cells 193 la (wf qs))]) (fun _=>k<la) ?_ ?_
  ·as_aux_lemma=>
   apply Zd
   refine yH hmx ?_
   refine Qn (xs:=[.tmp 61]) (cells:=[.int .u32 ((Qc A).getD k 0:Nat)]) rfl rfl rfl Xy (by rw [Qdw,Xt];rfl) rfl om om qd (zE hmx) fun g hg=> ?_
   replace hg:=Qa.ne_of hg
   dsimp only [Qa.ne] at hg
   have J2:=oj hmx hg
   refine yS J2 ?_
   refine yH J2 ?_
   by_cases hr0:0<rs.length
   ·refine YC rfl rfl rfl Xy Xt rfl om (zE J2) (zE J2) om (zE J2) .row (fun _ _=>rfl) hr0 qc om (zE J2) fun g' hg'=> ?_
    replace hg':=Qa.ne_of hg'
    dsimp only [Qa.ne] at hg'
    have J3:=oj hmx (oj hg hg')
    refine yS J3 ?_
    refine yH J3 ?_
    refine Qu (Zh ((Qc A).getD k 0::rs) hRw om) rfl rfl rfl (by refine yS J3 ?_;exact .c (Yt (zE J3) om (by simp;omega) (fun j _=>by rw [Nz];exact Qwu _ _ j))) ?_
    refine yS J3 ?_
    refine yH J3 ?_
    exact Qb ⟨(),(zB J3),List.Sublist.cons _ (Lr _),by omega⟩
   ·have hrn:rs=[]:=Lh.1 om
    subst hrn
    refine VM rfl rfl rfl Xy (zE J2) rfl (zE J2) .row (zE J2) ?_
    refine yS J2 ?_
    refine yH J2 ?_
    refine Qu (Zh ((Qc A).getD k 0::[]) hRw om) rfl rfl rfl (by refine yS J2 ?_;exact .c (Yt (zE J2) om rfl (fun j hj=>by match j,hj with|0,_=>rfl))) ?_
    refine yS J2 ?_
    refine yH J2 ?_
    exact Qb ⟨(),(zB J2),List.Sublist.cons _ (Lr _),by omega⟩
  as_aux_lemma=>
  rintro _ hkl
  have hRV:val ((Qc A).getD k 0::rs)<V*4294967296:=by
   simp only [val]
   rw [hrs]
   have:=Nat.mod_lt (A/4294967296^(k+1)) hVpos
   omega
  have hRv:val ((Qc A).getD k 0::rs)=(Qc A).getD k 0+4294967296*val rs:=rfl
  rw [hRv] at hRV
  generalize hR:(Qc A).getD k 0+4294967296*val rs=R at nx1 nx2 hRV⊢
  have hRwl:(Qc R).length≤n+2:=by
   rw [←hR,←hRv];exact Lt (QV _ hRw) hRl
  have hRww:=Qr R
  have hw1:=QI hRww (n+1)
  have hw2:=QI hRww n
  have hw3:=QI hVw n
  have hVtop:(Qc V).getD n 0≠0:=by
   have:=(KY V).resolve_left (fun e=>hV0 (Xl.1 e))
   rwa [hVl] at this
  have hg0:R/V≤((Qc R).getD (n+1) 0*4294967296+(Qc R).getD n 0)/(Qc V).getD n 0:=by
   refine Qoz (D:=4294967296^n) ?_ ?_ om hVpos
   ·have:=Qwr (Qc R) hRww n hRwl
    rwa [Qd] at this
   ·have:=Qws (Qc V) n
    rwa [Ly om,Qd] at this
  have hg1:R/V≤4294967295:=by
   have:R/V<4294967296:=(Nat.div_lt_iff_lt_mul hVpos).2 (by rw [Nc];exact hRV)
   omega
  have e3:(((n+1:Nat):Int)-1)=(n:Int):=by omega
  refine yG hmx ?_
  refine yC hmx (YK (Qc R) (n+1) hRww) ?_
  refine yG (oj hmx e3) ?_
  refine yC (oj hmx e3) (YK (Qc R) n hRww) ?_
  as_aux_lemma=>
  have e4:=VO ((Qc R).getD (n+1) 0) hw1
  have e5:=Qa2 ((Qc R).getD (n+1) 0) ((Qc R).getD n 0) hw1 hw2
  have J4:=oj hmx (oj e3 (oj e4 e5))
  refine yG J4 ?_
  as_aux_lemma=>
  refine yC J4 (YK (Qc V) n hVw) ?_
  have hjl:j32 ((Qc R).getD (n+1) 0) ((Qc R).getD n 0)<18446744073709551616:=by unfold j32;omega
  have e6:=Qhn (j32 ((Qc R).getD (n+1) 0) ((Qc R).getD n 0)) ((Qc V).getD n 0) hjl
  replace hg0:R/V≤j32 ((Qc R).getD (n+1) 0) ((Qc R).getD n 0)/(Qc V).getD n 0:=hg0
  have J5:=oj hmx (oj e3 (oj e4 (oj e5 e6)))
  refine yO J5 ?_
  generalize j32 ((Qc R).getD (n+1) 0) ((Qc R).getD n 0)/(Qc V).getD n 0=G at hg0⊢
  have e7:(if(4294967295:Int)<(G:Int) then(4294967295:Int) else(G:Int))=((min G 4294967295:Nat):Int):=by split<;>omega
  as_aux_lemma=>
  refine yO J5 ?_
  rw [e7]
  have hgl:min G 4294967295<4294967296:=by omega
  replace hg0:R/V≤min G 4294967295:=by omega
  generalize min G 4294967295=g0 at hgl hg0⊢
  have e8:XE .u32 (g0:Int)=(g0:Int):=by rw [QO,Nat.mod_eq_of_lt hgl]
  as_aux_lemma=>
  have J6:=oj hmx (oj e3 (oj e4 (oj e5 (oj e6 e8))))
  refine yG J6 ?_
  as_aux_lemma=>
  refine Qn (xs:=[.tmp 83]) (cells:=[.int .u32 (g0:Nat)]) rfl rfl rfl Xy (by rw [Qdw,Xt];rfl) rfl om om qd (zE J6) fun g hg=> ?_
  replace hg:=Qa.ne_of hg
  dsimp only [Qa.ne] at hg
  have J7:=oj hmx (oj e3 (oj e4 (oj e5 (oj e6 (oj e8 hg)))))
  refine Xp J7 ?_
  as_aux_lemma=>
  refine Qu (QmP (Qc V) [g0] hVw (by intro x hx;simp only [Lv] at hx;subst hx;exact hgl) om (by simp)) rfl rfl rfl (by refine yS J7 ?_;exact⟨.c (QxS (by simp)),.c (Yt (zE J7) (by simp) rfl (fun j hj=>by match j,hj with|0,_=>rfl))⟩) ?_
  rw [Qd,QmH]
  refine yS J7 ?_
  refine yH J7 ?_
  apply Yd
  refine Yy (fun _:Unit=>[(0,.c (ws true (Qc A))),(1,.c (ws true (Qc V))),(7,.c (.int .i64 ((n+1:Nat):Int))),(8,.c (.int .i64 s)),(9,.c (.osl gq 1 0 la)),(10,.c (ws true (Qc R))),(11,.c (.int .i64 k)),(12,.c (.int .u64 (R/V:Nat))),(13,.c (ws true (Qc (V*(R/V)))))]) (fun _=>[(gq,.cells 193 la (wf qs))]) (fun _=>k<la) ?_ ?_
  ·as_aux_lemma=>
   apply Zz
   refine Qh (fun q:Nat=>[(0,.c (ws true (Qc A))),(1,.c (ws true (Qc V))),(7,.c (.int .i64 ((n+1:Nat):Int))),(8,.c (.int .i64 s)),(9,.c (.osl gq 1 0 la)),(10,.c (ws true (Qc R))),(11,.c (.int .i64 k)),(12,.c (.int .u64 q)),(13,.c (ws true (Qc (V*q))))]) (fun _=>[(gq,.cells 193 la (wf qs))]) (fun q=>R/V≤q∧q<4294967296) (fun q=>q) g0 (zB J7) (List.Sublist.cons _ (Lr _)) ⟨hg0,hgl⟩ ?_
   rintro q ⟨hq1,hq2⟩
   have hpl:(Qc (V*q)).length≤34359738380:=by
    have h1:=XR V q
    have h2:(Qc q).length≤2:=UK om
    omega
   refine yG J7 ?_
   refine yC J7 (Qhr (Qc (V*q)) (Qc R) (Qr _) hRww ?_ ?_) ?_
   ·omega
   ·omega
   rw [Qd,Qd]
   refine yG J7 ?_
   refine yF J7 (fun hc=>?_) fun hc=>?_
   ·have hgt:R<V*q:=by
     have:=of_decide_eq_true hc
     unfold ZQ at this
     split at this
     ·omega
     ·split at this<;>omega
    have hq0:R/V<q:=(Nat.div_lt_iff_lt_mul hVpos).2 (by rw [Nc];exact hgt)
    have hsub:V*q-V=V*(q-1):=by rw [Nat.mul_sub,Ad]
    have hq9:0<q:=Nat.lt_of_le_of_lt (Lz _) hq0
    have hge:V≤V*q:=Nat.le_mul_of_pos_right _ hq9
    have e9:((q:Int)-1)=((q-1:Nat):Int):=by omega
    have J8:=oj hmx (oj e3 (oj e4 (oj e5 (oj e6 (oj e8 (oj hg e9))))))
    refine yG J8 ?_
    refine yC J8 (Qhs (Qc (V*q)) (Qc V) (Qr _) hVw ?_ ?_ ?_) ?_
    ·omega
    ·omega
    ·rw [Qd,Qd];exact hge
    rw [Qd,Qd,hsub]
    refine yG J8 ?_
    exact Qb ⟨q-1,by omega,(zB J8),zZ,Nat.le_sub_one_of_lt hq0,by omega⟩
   ·have hle:V*q≤R:=by
     have:=of_decide_eq_false hc
     unfold ZQ at this
     split at this
     ·omega
     ·split at this<;>omega
    have hqe:q=R/V:=Nat.le_antisymm ((Nat.le_div_iff_mul_le hVpos).2 (by rw [Nc];exact hle)) hq1
    subst hqe
    refine yG J7 ?_
    exact Qb ⟨(),(zB J7),zZ,hkl⟩
  as_aux_lemma=>
  rintro _ _
  have hmd:=Nat.div_add_mod R V
  have hml2:=Nat.mod_lt R hVpos
  have hpl:(Qc (V*(R/V))).length≤n+2:=Lt (QL (Nat.mul_div_le R V)) hRwl
  refine yG J7 ?_
  refine yC J7 (Qhs (Qc R) (Qc (V*(R/V))) hRww (Qr _) ?_ ?_ ?_) ?_
  ·omega
  ·omega
  ·rw [Qd,Qd];omega
  rw [Qd,Qd,show R-V*(R/V)=R%V from by omega]
  have e8:XE .u32 ((R/V:Nat):Int)=((R/V:Nat):Int):=by rw [QO,Nat.mod_eq_of_lt om]
  have J9:=oj hmx (oj e3 (oj e4 (oj e5 (oj e6 (oj e8 (oj hg e8))))))
  refine yG J9 ?_
  refine yW J9 ?_
  refine yS J9 ?_
  rw [Vd om]
  refine yG J9 ?_
  have hrm:(Qc (R%V)).length≤n+1:=X6 (Nat.lt_trans hml2 hVhi)
  refine Qb ⟨((k:Int)-1,k,Qc (R%V),qs.set k (R/V)),by dsimp only;omega,(zB J9),zZ,by dsimp only;omega,by dsimp only;omega,by dsimp only;omega,by dsimp only;omega,by dsimp only;rw [Qd,nx1],Qr _,hrm,by simpa using hql,Jc hqw om,?_⟩
  dsimp only
  rw [Qht om,hqs,nx2]
 ·have hm0:m=0:=dF hb
  subst hm0
  rw [List.drop_zero,Nat.pow_zero,Nat.div_one] at hqs
  rw [Nat.pow_zero,Nat.div_one] at hrs
  refine yG hmx ?_
  refine Qu (Zh qs hqw om) rfl rfl rfl (by refine yS hmx ?_;exact .c (Yt (zE hmx) om om (fun j _=>by rw [Nz];rfl))) ?_
  refine Xp hmx ?_
  refine yC hmx (QqM rs s hrw ?_ hs2) ?_
  ·omega
  refine yGT hC hmx ?_
  rw [hqs,hrs]
  exact .tup ⟨.c Xc,.c Xc,.c (.int _ _),trivial⟩
theorem QmQ (xs ys:List Nat) (hx:∀x∈xs,x<4294967296) (hy:∀x∈ys,x<4294967296) (hlx:xs.length≤34359738368) (hly:ys.length≤34359738368):
  Fa prog 265 [.c (ws false xs),.c (ws false ys)] (.c (ws true (Qc (Nat.gcd (val xs) (val ys))))):=by
 refine fA func265 fun C hC=>?_
 refine xG ?_
 refine xC (Zh xs hx ?_) ?_
 ·omega
 refine xG ?_
 refine xC (Zh ys hy ?_) ?_
 ·omega
 have hla:(Qc (val xs)).length≤34359738368:=Lt (QV xs hx) hlx
 have hlb:(Qc (val ys)).length≤34359738368:=Lt (QV ys hy) hly
 refine xI ?_
 apply Zz
 refine Qh (fun x:Nat×Nat=>[(0,.c (ws true (Qc x.1))),(1,.c (ws true (Qc x.2)))]) (fun _=>[]) (fun x=>(Qc x.1).length≤34359738368∧(Qc x.2).length≤34359738368∧Nat.gcd x.1 x.2=Nat.gcd (val xs) (val ys)) (fun x=>x.2) (val xs,val ys) eB zZ ⟨hla,hlb,rfl⟩ ?_
 rintro ⟨a,b⟩ ⟨hla,hlb,hg⟩
 dsimp only at hla hlb hg⊢
 refine xG ?_
 refine xF (fun hb=>?_) fun hb=>?_
 ·have hb0:b≠0:=fun e=>by have:=of_decide_eq_true hb;rw [e,QC] at this;simp at this
  refine xG ?_
  refine xC (QdT (Qc a) (Qc b) (Qr a) (Qr b) hla hlb ?_) ?_
  ·rw [Qd];exact hb0
  rw [Qd,Qd]
  refine xG ?_
  have hlt:a%b<b:=Nat.mod_lt _ (Nat.pos_of_ne_zero hb0)
  refine Qb ⟨(b,a%b),hlt,eB,zZ,hlb,Lt (QL (Ll hlt)) hlb,?_⟩
  dsimp only
  rw [←hg,Nat.gcd_comm a b,Nat.gcd_rec b a,Nat.gcd_comm]
 ·have hb0:b=0:=by
   have:=of_decide_eq_false hb
   exact Xl.1 (Lh.1 om)
  subst hb0
  refine xGT hC ?_
  rw [←hg,Nat.gcd_zero_right]
  exact .one (.c Xc)
end Go.Proofs.YtngjgahldnnapaaGreatDoor
