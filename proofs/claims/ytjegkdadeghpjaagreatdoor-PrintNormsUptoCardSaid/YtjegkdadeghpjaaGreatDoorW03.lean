/- Parts of one proof, laid by a program. -/
import Derived.Test.YtjegkdadeghpjaaGreatDoorW00
import Derived.Test.YtjegkdadeghpjaaGreatDoorW02
import Derived.Test.YtjegkdadeghpjaaGreatDoorProg
import Derived.KernelRfl
set_option linter.unusedSimpArgs false
set_option linter.unusedVariables false
set_option maxRecDepth 100000
set_option maxHeartbeats 12800000
namespace Go.Proofs.YtjegkdadeghpjaaGreatDoor
open Go.AI Go.PN Tryz
attribute [local irreducible] aw Fa VA Vk Fh YO
theorem HT (xs:List Nat) (b:Nat) (hx:∀x∈xs,x<4294967296) (dp:xs.length≤68719476736) (cQ:0<b) (hb:b<4294967296):
  Fa prog 176 [.c (ws false xs),.c (.int .u32 b)] (.aF [.c (ws true (Qc (val xs/b))),.c (.int .u32 (val xs%b:Nat))]):=by
 refine fA func176 fun C hC=>?_
 refine xG ?_
 refine KP (n:=xs.length) (c:=xs.length) rfl rfl rfl Xp Xf rfl om eE eE rfl rfl om om om fun g hg=> ?_
 rw [JC xs.length]
 refine ZA ?_
 refine Qh (fun x:Nat×Nat×List Nat=>[(0,.c (ws false xs)),(1,.c (.int .u32 b)),(6,.c (.aO g 1 0 xs.length)),(7,.c (.int .u64 x.2.1)),(8,.c (.int .i64 ((x.1:Int)-1)))]) (fun x=>[(g,.cells 180 xs.length (wf x.2.2))])
  (fun x=>x.1≤xs.length∧x.2.1<b∧x.2.2.length=xs.length∧(∀y∈x.2.2,y<4294967296)∧val (xs.drop x.1)=b*val (x.2.2.drop x.1)+x.2.1) (fun x=>x.1) (xs.length,0,List.replicate xs.length 0) eB zZ
  ⟨Ac _,cQ,by simp,YG _,by simp [val]⟩ ?_
 rintro ⟨m,r,zs⟩ ⟨hm,hr,aY,hz,hv⟩
 dsimp only at hm hr aY hz hv⊢
 refine xG ?_
 refine QQ eE (fun fD=> ?_) (fun fD=> ?_)
 ·have tu:1≤m:=dT fD
  have e1:((m:Int)-1).toNat=m-1:=by omega
  have dL:=QI hx (m-1)
  have bP:=TE (xs:=xs) (zs:=zs) (m:=m-1) (r:=r) cQ om (by rw [show m-1+1=m from by omega];exact hv)
  refine xG ?_
  rw [Vo r om,FA r _ om dL]
  have hs:r*4294967296+xs.getD (m-1) 0<b*4294967296:=by
   have:(r+1)*4294967296≤b*4294967296:=Nm _ hr
   omega
  have hq:(r*4294967296+xs.getD (m-1) 0)/b<4294967296:=Nat.div_lt_of_lt_mul hs
  have zz:(r*4294967296+xs.getD (m-1) 0)%b<b:=Nat.mod_lt _ cQ
  have cq:r*4294967296+xs.getD (m-1) 0<18446744073709551616:=by omega
  generalize r*4294967296+xs.getD (m-1) 0=s at hs hq zz cq bP⊢
  refine xG ?_
  rw [Ca s b cq,QL,Nat.mod_eq_of_lt hq]
  refine xW ?_
  refine xS ?_
  rw [ZO om]
  refine xG ?_
  rw [Cb]
  refine Qb ⟨(m-1,s%b,zs.set (m-1) (s/b)),by dsimp only;omega,eB,zZ,by dsimp only;omega,zz,by simpa using aY,KD hz hq,bP⟩
 ·have ie:m=0:=dF fD
  subst ie
  refine xG ?_
  refine Qr (Zx zs hz om) rfl rfl rfl (by refine xS ?_;exact .c (Yi eE om om (fun j _=>by rw [Nz];rfl))) ?_
  refine JW hC ?_
  simp only [List.drop_zero] at hv
  have e1:val xs/b=val zs:=by rw [hv,Nat.mul_add_div cQ,Nat.div_eq_of_lt hr,Nat.add_zero]
  have e2:val xs%b=r:=by rw [hv,Nat.mul_add_mod,Nat.mod_eq_of_lt hr]
  rw [e1,e2,QL,Nat.mod_eq_of_lt om]
  exact .aF ⟨.c QZ,.c (.int _ _),trivial⟩
end Go.Proofs.YtjegkdadeghpjaaGreatDoor
namespace Go.PN
theorem WQ (n j:Nat):(List.replicate n 0).getD j 0=0:=by
 rw [Lg,List.getElem?_replicate];split<;>rfl
theorem Z5 {n:Nat} (hn:n≤32):(4294967296:Nat)=2^n*2^(32-n):=by
 rw [←Nat.pow_add,show n+(32-n)=32 from by omega]
theorem LD (x n:Nat) (hn:n≤32):x*2^n%4294967296=2^n*(x%2^(32-n)):=by
 rw [Z5 hn,Nc x,Nat.mul_mod_mul_left]
theorem QtS {z x n:Nat} (hn:n≤32) (hz:z<2^n):z|||x*2^n%4294967296=z+x*2^n%4294967296:=by
 rw [LD x n hn,Nat.or_comm,←Nat.two_pow_add_eq_or_of_lt hz,Nat.add_comm]
theorem Qmx {z x n:Nat} (hn:n≤32) (hz:z<2^n):z+x*2^n%4294967296<4294967296:=by
 rw [LD x n hn]
 have h1:x%2^(32-n)+1≤2^(32-n):=Nat.mod_lt _ (Nat.two_pow_pos _)
 have h2:=Nat.mul_le_mul_left (2^n) h1
 rw [←Z5 hn,Nat.mul_add] at h2
 omega
theorem QtT {x n:Nat} (hx:x<4294967296):x*2^n/4294967296<2^n:=by
 rw [Nat.div_lt_iff_lt_mul om,Nc (2^n)]
 exact Nat.mul_lt_mul_of_pos_right hx (Nat.two_pow_pos _)
theorem Qmy {xs zs:List Nat} {i n:Nat} (hi:i+1<zs.length) (h0:zs.getD (i+1) 0=0) (h:val zs=val (xs.take i)*2^n):
  val ((zs.set i (zs.getD i 0+xs.getD i 0*2^n%4294967296)).set (i+1) (xs.getD i 0*2^n/4294967296))=val (xs.take (i+1))*2^n:=by
 have h1:=wW (zs:=zs) (j:=i) (v:=zs.getD i 0+xs.getD i 0*2^n%4294967296) om
 have h2:=wW (zs:=zs.set i (zs.getD i 0+xs.getD i 0*2^n%4294967296)) (j:=i+1) (v:=xs.getD i 0*2^n/4294967296) (by simpa using hi)
 rw [getD_set_ne om,h0] at h2
 rw [Qx,Nat.add_mul,←h]
 generalize hy:xs.getD i 0*2^n=y at h1 h2⊢
 have h3:4294967296^i*xs.getD i 0*2^n=4294967296^i*y:=by rw [Na,hy]
 have h4:4294967296^i*y=4294967296^i*(y%4294967296)+4294967296^(i+1)*(y/4294967296):=by
  rw [Nat.pow_succ,Na,←Nat.mul_add];congr 1;omega
 rw [Nat.mul_add] at h1
 rw [h3,h4]
 omega
def jf (n:Nat):List Nat→List Nat
 |[]=>[]
 |x::xs=>(x+xs.getD 0 0*4294967296)/2^n%4294967296::jf n xs
theorem Ka (n:Nat):∀xs,(jf n xs).length=xs.length
 |[]=>rfl
 |_::xs=>by simp [jf,Ka n xs]
theorem HU (n:Nat) (xs:List Nat):∀(i:Nat),i<xs.length→(jf n xs).getD i 0=(xs.getD i 0+xs.getD (i+1) 0*4294967296)/2^n%4294967296:=by
 induction xs with
 |nil=>intro i h;simp at h
 |cons x xs ih=>
  intro i h
  cases i with
  |zero=>simp only [jf,List.getD_cons_zero,List.getD_cons_succ]
  |succ i=>
   simp only [jf,List.getD_cons_succ]
   exact ih i (by simpa using h)
theorem Nf (n:Nat) (xs:List Nat):∀x∈jf n xs,x<4294967296:=by
 induction xs with
 |nil=>intro x h;simp [jf] at h
 |cons y xs ih=>
  intro x h
  simp only [jf,Lb] at h
  rcases h with h|h
  ·rw [h];exact Nat.mod_lt _ om
  ·exact ih x h
theorem LF {n:Nat} (hn:n≤32) (xs:List Nat):(∀x∈xs,x<4294967296)→val (jf n xs)=val xs/2^n:=by
 induction xs with
 |nil=>intro _;simp [jf,val]
 |cons x xs ih0=>
  intro hx
  have ih:=ih0 (fun y hy=>hx y (Lm _ hy))
  have mY:=hx x (by simp)
  have hV:val xs=xs.getD 0 0+4294967296*val (xs.drop 1):=by have:=Ks xs 0;simpa using this
  simp only [jf,val,ih]
  generalize kz:xs.getD 0 0=x' at hV⊢
  generalize val (xs.drop 1)=r at hV
  generalize hVv:val xs=V at hV⊢
  have hN:0<2^n:=Nat.two_pow_pos n
  have hB:=Z5 hn
  have hM:0<2^(32-n):=Nat.two_pow_pos _
  generalize 2^n=N at hN hB⊢
  generalize 2^(32-n)=M at hB hM
  have e1:x'%N=V%N:=by rw [hV,hB,Na,Nat.add_mul_mod_self_left]
  have e2:(x+x'*4294967296)/N=(x+x'%N*4294967296)/N+x'/N*4294967296:=by
   have hq:x'=N*(x'/N)+x'%N:=(Nat.div_add_mod x' N).symm
   have:x+x'*4294967296=(x+x'%N*4294967296)+N*(x'/N*4294967296):=by
    conv=>lhs;rw [hq]
    rw [Nat.add_mul,Na];omega
   rw [this,Nat.add_mul_div_left _ _ hN]
  have e3:(x+4294967296*V)/N=(x+V%N*4294967296)/N+V/N*4294967296:=by
   have hq:V=N*(V/N)+V%N:=(Nat.div_add_mod V N).symm
   have:x+4294967296*V=(x+V%N*4294967296)+N*(V/N*4294967296):=by
    conv=>lhs;rw [hq]
    rw [Nat.mul_add,←Na,Nc 4294967296 N,Na,Nc 4294967296 (V/N),Nc 4294967296 (V%N)];omega
   rw [this,Nat.add_mul_div_left _ _ hN]
  have hs:(x+x'%N*4294967296)/N<4294967296:=by
   rw [Nat.div_lt_iff_lt_mul hN]
   have h1:x'%N+1≤N:=Nat.mod_lt _ hN
   have h2:=Nm 4294967296 h1
   rw [Nc 4294967296 N]
   omega
  rw [e2,Nat.add_mul_mod_self_right,Nat.mod_eq_of_lt hs,e3,e1]
  omega
theorem Qmz {us vs zs:List Nat} {i c b n:Nat} (hi:i<zs.length) (hu:us.getD i 0<4294967296) (hb:b≤1) (h:val (zs.take i)+n*val (vs.take i)=val (us.take i)+4294967296^i*(c+b)):
  val ((zs.set i (Jf (us.getD i 0) ((c+n*vs.getD i 0)%4294967296) b%4294967296)).take (i+1))+n*val (vs.take (i+1))=
   val (us.take (i+1))+4294967296^(i+1)*((c+n*vs.getD i 0)/4294967296+Jf (us.getD i 0) ((c+n*vs.getD i 0)%4294967296) b/9223372036854775808)∧
   Jf (us.getD i 0) ((c+n*vs.getD i 0)%4294967296) b/9223372036854775808≤1:=by
 rw [U1 hi,Qx vs,Qx us,Nat.mul_add,Nat.pow_succ]
 have e0:n*(4294967296^i*vs.getD i 0)=4294967296^i*(n*vs.getD i 0):=by rw [←Na,Nc n,Na]
 rw [e0]
 generalize hU:us.getD i 0=u at*
 generalize hV:n*vs.getD i 0=p at*
 generalize hP:4294967296^i=P at*
 have hm:(c+p)%4294967296<4294967296:=Nat.mod_lt _ om
 have hdm:=Nat.div_add_mod (c+p) 4294967296
 generalize (c+p)%4294967296=l at*
 generalize (c+p)/4294967296=q at*
 refine⟨?_,by unfold Jf;omega⟩
 have key:u+4294967296*(Jf u l b/9223372036854775808)=Jf u l b%4294967296+l+b:=by unfold Jf;omega
 generalize Jf u l b%4294967296=d at*
 generalize Jf u l b/9223372036854775808=b' at*
 have k2:=congrArg (P* ·) key
 simp only [Nat.mul_add] at k2
 have k3:=congrArg (P* ·) hdm
 simp only [Nat.mul_add] at k3
 simp only [Nat.mul_add] at h⊢
 rw [Na P 4294967296 q,Na P 4294967296 b']
 omega
theorem TF {c n y:Nat} (hc:c<4294967296) (hn:n<4294967296) (hy:y<4294967296):c+n*y<18446744073709551616∧(c+n*y)/4294967296<4294967296:=by
 have:=Ut hn hy
 omega
theorem TG {V W D v1 v2 head w2 wr g rest:Nat} (hV:(v1*4294967296+v2)*D≤V) (hW:W=(head*4294967296+w2)*D+wr) (hr:wr<D) (hg:g*v1+rest=head) (hc:rest*4294967296+w2<g*v2):W<g*V:=by
 have h1:head*4294967296+w2+1≤g*(v1*4294967296+v2):=by
  rw [←hg,Nat.mul_add,←Na,Nat.add_mul];omega
 have h2:(head*4294967296+w2+1)*D≤g*V:=by
  refine Lt (Nm D h1) ?_
  rw [Na]
  exact Nat.mul_le_mul_left g hV
 rw [Nat.add_mul,Nat.one_mul] at h2
 omega
theorem HV {V W D v1 v2 head w2 wr g rest vr:Nat} (hV:V=(v1*4294967296+v2)*D+vr) (tD:vr<D) (fJ:1≤v1) (hW:W=(head*4294967296+w2)*D+wr) (hg:g*v1+rest=head) (aD:g<4294967296) (hc:g*v2≤rest*4294967296+w2):g*V<W+V:=by
 have h1:g*(v1*4294967296+v2)≤head*4294967296+w2:=by
  rw [←hg,Nat.mul_add,←Na,Nat.add_mul];omega
 have h2:g*((v1*4294967296+v2)*D)≤(head*4294967296+w2)*D:=by
  rw [←Na];exact Nm D h1
 have h3:g*vr≤4294967296*D:=Nat.mul_le_mul (Ll aD) (Ll tD)
 have h4:4294967296*D≤(v1*4294967296+v2)*D:=Nm D om
 have hD:0<D:=by omega
 have h5:g*vr<4294967296*D∨D=0:=by
  rcases Nat.eq_zero_or_pos g with h|h
  ·subst h;left;omega
  ·left
   have:g*vr<g*D:=Nat.mul_lt_mul_of_pos_left tD h
   have h6:g*D≤4294967296*D:=Nm D (Ll aD)
   omega
 have h7:g*V=g*((v1*4294967296+v2)*D)+g*vr:=by rw [hV,Nat.mul_add]
 omega
theorem SL {v1 head u1 g rest:Nat} (hh:head≤v1*4294967296+u1) (hu:u1<4294967296) (hg:g*v1+rest=head) (hr:4294967296≤rest):g<4294967296:=by
 rcases Nat.lt_or_ge g 4294967296 with h|h
 ·exact h
 ·have h2:=Nm v1 h
  rw [Nc 4294967296 v1] at h2
  omega
def OF (ys:List Nat) (off:Nat) (zs:List Nat):List Nat:=ys.take off++(zs++ys.drop (off+zs.length))
theorem U4 {ys zs:List Nat} {off:Nat} (h:off+zs.length≤ys.length):(OF ys off zs).length=ys.length:=by
 simp [OF];omega
theorem HW {ys zs:List Nat} {off i:Nat} (h:off≤ys.length) (hi:i<zs.length):(OF ys off zs).getD (off+i) 0=zs.getD i 0:=by
 unfold OF
 rw [Lg,List.getElem?_append_right (by simp;omega),List.getElem?_append_left (by simp;omega),Lg]
 congr 2;simp;omega
theorem LG {ys zs:List Nat} {off i v:Nat} (h:off≤ys.length) (hi:i<zs.length):(OF ys off zs).set (off+i) v=OF ys off (zs.set i v):=by
 unfold OF
 rw [List.set_append,iN (by simp;omega),List.set_append,iP (by simp;omega)]
 simp only [List.length_set,List.length_take]
 rw [show off+i-min off ys.length=i from by omega]
theorem HX {ys:List Nat} {off L:Nat} (h:off+L≤ys.length):OF ys off ((ys.drop off).take L)=ys:=by
 unfold OF
 rw [show off+((ys.drop off).take L).length=off+L from by simp;omega,←List.drop_drop,List.take_append_drop,List.take_append_drop]
theorem Qrg {ys zs:List Nat} {off:Nat} (h:off≤ys.length):val (OF ys off zs)=val (ys.take off)+4294967296^off*(val zs+4294967296^zs.length*val (ys.drop (off+zs.length))):=by
 unfold OF
 rw [V9,V9,List.length_take,Nat.min_eq_left h]
theorem Ng {ys zs:List Nat} {off:Nat} (hy:∀x∈ys,x<4294967296) (hz:∀x∈zs,x<4294967296):∀x∈OF ys off zs,x<4294967296:=fun x hx=>by
 unfold OF at hx
 simp only [List.mem_append] at hx
 rcases hx with h|h|h
 ·exact hy x (List.mem_of_mem_take h)
 ·exact hz x h
 ·exact hy x (List.mem_of_mem_drop h)
end Go.PN
namespace Go.Proofs.YtjegkdadeghpjaaGreatDoor
open Go.AI Go.PN Tryz
attribute [local irreducible] aw Fa VA Vk Fh YO
theorem LH (xs:List Nat) (n:Nat) (hx:∀x∈xs,x<4294967296) (dp:xs.length≤68719476736) (hn:n<32):
  Fh prog 372 [] [.c (ws false xs),.c (.int .i64 n)] (fun r h=>∃g zs,r=.c (.aO g 1 0 (xs.length+1))∧h=[(g,.cells 180 (xs.length+1) (wf zs))]∧zs.length=xs.length+1∧(∀y∈zs,y<4294967296)∧val zs=val xs*2^n):=by
 refine fH func372 fun C hC=>?_
 refine xG ?_
 refine KP (n:=xs.length+1) (c:=xs.length+1) rfl rfl rfl Xp Xf rfl om eE eE rfl rfl om om om fun g hg=> ?_
 rw [JC (xs.length+1)]
 refine ZA ?_
 refine Qh (fun x:Nat×List Nat=>[(0,.c (ws false xs)),(1,.c (.int .i64 n)),(5,.c (.aO g 1 0 (xs.length+1))),(13,.c (ws false xs)),(14,.c (.int .i64 xs.length)),(15,.c (.int .i64 x.1))]) (fun x=>[(g,.cells 180 (xs.length+1) (wf x.2))])
  (fun x=>x.1≤xs.length∧x.2.length=xs.length+1∧(∀y∈x.2,y<4294967296)∧x.2.getD x.1 0<2^n∧(∀j,x.1<j→x.2.getD j 0=0)∧val x.2=val (xs.take x.1)*2^n) (fun x=>xs.length-x.1) (0,List.replicate (xs.length+1) 0) eB zZ
  ⟨by omega,by simp,YG _,by rw [WQ];exact Nat.two_pow_pos n,fun j _=>WQ _ _,by simp [JX,val]⟩ ?_
 rintro ⟨i,zs⟩ ⟨hi,aY,hz,rH,fF,hv⟩
 dsimp only at hi aY hz rH fF hv⊢
 refine xG ?_
 refine QQ eE (fun fD=> ?_) (fun fD=> ?_)
 ·have kh:i<xs.length:=dT fD
  have dL:=QI hx i
  refine xG ?_
  rw [LB _ n dL om]
  refine xG ?_
  have tv:xs.getD i 0*2^n%4294967296<4294967296:=Nat.mod_lt _ om
  rw [QL,QtQ _ _ (by have:=QI hz i;omega) tv,QtS om rH]
  have js:=Qmx (x:=xs.getD i 0) om rH
  have bP:=Qmy (xs:=xs) (zs:=zs) (i:=i) (n:=n) om (fF _ om) hv
  have zq:=QtT (n:=n) dL
  have hp32:2^n≤4294967296:=Uu om
  refine xW ?_
  refine xS ?_
  rw [ZO om]
  refine xG ?_
  rw [U3,QL,Nat.mod_eq_of_lt (show xs.getD i 0*2^n/4294967296<4294967296 from by omega)]
  refine xW ?_
  refine xS ?_
  rw [ZO (by simp;omega)]
  refine xG ?_
  refine Qb ⟨(i+1,_),by dsimp only;omega,eB,zZ,by dsimp only;omega,by simpa using aY,KD (KD hz js) om,?_,fun j hj=> ?_,bP⟩
  ·dsimp only
   rw [PN.aA (by simp;omega)];exact zq
  ·dsimp only at hj⊢
   rw [PN.getD_set_ne om,PN.getD_set_ne om];exact fF j om
 ·have kh:i=xs.length:=dF fD
  subst kh
  refine xG ?_
  refine xU ?_
  exact⟨g,zs,rfl,rfl,aY,hz,by rw [hv,Lk]⟩
theorem Qov (xs:List Nat) (n:Nat) (hx:∀x∈xs,x<4294967296) (dp:xs.length≤68719476738) (hn:n<32):
  Fa prog 375 [.c (ws false xs),.c (.int .i64 n)] (.c (ws true (jf n xs))):=by
 refine fA func375 fun C hC=>?_
 refine xG ?_
 refine KP (n:=xs.length) (c:=xs.length) rfl rfl rfl Xp Xf rfl om eE eE rfl rfl om om om fun g hg=> ?_
 rw [JC xs.length]
 refine ZA ?_
 refine Qh (fun x:Nat×List Nat=>[(0,.c (ws false xs)),(1,.c (.int .i64 n)),(5,.c (.aO g 1 0 xs.length)),(11,.c (.int .i64 xs.length)),(12,.c (.int .i64 x.1))]) (fun x=>[(g,.cells 180 xs.length (wf x.2))])
  (fun x=>x.1≤xs.length∧x.2.length=xs.length∧(∀j,j<x.1→x.2.getD j 0=(jf n xs).getD j 0)) (fun x=>xs.length-x.1) (0,List.replicate xs.length 0) eB zZ
  ⟨by omega,by simp,fun j hj=>by dsimp only at hj;omega⟩ ?_
 rintro ⟨i,zs⟩ ⟨hi,aY,hv⟩
 dsimp only at hi aY hv⊢
 refine xG ?_
 refine QQ eE (fun fD=> ?_) (fun fD=> ?_)
 ·have kh:i<xs.length:=dT fD
  have dL:=QI hx i
  have vP:=QI hx (i+1)
  refine xG ?_
  refine Qr (Kl xs i hx) rfl rfl rfl eL ?_
  refine ZA ?_
  refine Qr (Kl xs (i+1) hx) rfl rfl rfl eL ?_
  refine ZA ?_
  rw [Vo _ vP,U2 _ _ vP dL]
  refine xG ?_
  rw [LC _ n om,QL]
  have hr:=HU n xs i kh
  rw [Nat.add_comm (xs.getD i 0)] at hr
  refine xW ?_
  refine xS ?_
  rw [ZO om]
  refine xG ?_
  refine Qb ⟨(i+1,_),by dsimp only;omega,eB,zZ,by dsimp only;omega,by simpa using aY,fun j hj=> ?_⟩
  dsimp only at hj⊢
  by_cases e:j=i
  ·rw [e,PN.aA om,hr]
  ·rw [PN.getD_set_ne om];exact hv j om
 ·have kh:i=xs.length:=dF fD
  subst kh
  refine eS hC ?_
  refine .one (.c (VC eE om (Ka n xs).symm (fun j hj=> ?_)))
  rw [Nz,NH,hv j hj]
theorem uk (xs ys:List Nat) (hx:∀x∈xs,x<4294967296) (hy:∀x∈ys,x<4294967296) (dp:xs.length≤68719476736) (dU:ys.length≤68719476736):
  Fa prog 111 [.c (ws false xs),.c (ws false ys)] (.c (.int .i64 (Zs (val xs) (val ys)))):=by
 refine fA func111 fun C hC=>?_
 refine xG ?_
 refine Qr (Zx xs hx om) rfl rfl rfl eL ?_
 refine ZA ?_
 refine Qr (Zx ys hy om) rfl rfl rfl eL ?_
 refine xS ?_
 generalize hvx:val xs=a
 generalize hvy:val ys=b
 have ia:(Qc a).length≤68719476736:=by rw [←hvx];exact Lt (QR xs hx) dp
 have iI:(Qc b).length≤68719476736:=by rw [←hvy];exact Lt (QR ys hy) dU
 refine xG ?_
 refine QQ eE (fun hb=> ?_) (fun hb=> ?_)
 ·have aK:(Qc a).length≠(Qc b).length:=by simp at hb;omega
  refine xG ?_
  refine QQ eE (fun hb=> ?_) (fun hb=> ?_)
  ·have aD:(Qc a).length<(Qc b).length:=by simpa using hb
   refine eS hC ?_
   exact .one (.c (Qn (SJ aD).symm))
  ·have eu:¬((Qc a).length:Int)<(Qc b).length:=by simpa using hb
   refine eS hC ?_
   exact .one (.c (Qn (SK om).symm))
 ·have hlen:(Qc a).length=(Qc b).length:=by simp at hb;omega
  refine xG ?_
  refine Qh (fun m:Nat=>[(0,.c (ws true (Qc a))),(1,.c (ws true (Qc b))),(5,.c (.int .i64 ((m:Int)-1)))]) (fun _=>[]) (fun m=>m≤(Qc a).length∧(Qc a).drop m=(Qc b).drop m) id (Qc a).length eB zZ
   ⟨Ac _,by rw [List.drop_eq_nil_of_le (Ac _),List.drop_eq_nil_of_le om]⟩ ?_
  rintro m ⟨hm,hd⟩
  refine xG ?_
  refine QQ eE (fun hb=> ?_) (fun hb=> ?_)
  ·have tu:1≤m:=dT hb
   have e1:((m:Int)-1).toNat=m-1:=by omega
   refine xG ?_
   refine Xl 9 Qg kR ?_
   refine xG ?_
   refine QQ eE (fun hb=> ?_) (fun fD=> ?_)
   ·have aD:(Qc a).getD (m-1) 0<(Qc b).getD (m-1) 0:=dT hb
    refine eS hC ?_
    have:=I6 (Qp a) (Qp b) om om (by rw [show m-1+1=m from by omega];exact hd) aD
    rw [Qd,Qd] at this
    exact .one (.c (Qn (by simp [Zs,this])))
   ·have eu:¬((Qc a).getD (m-1) 0<(Qc b).getD (m-1) 0):=dF fD
    refine xG ?_
    refine Xl 9 Qg kR ?_
    refine xG ?_
    refine QQ eE (fun hb=> ?_) (fun iE=> ?_)
    ·have fV:(Qc b).getD (m-1) 0<(Qc a).getD (m-1) 0:=dT hb
     refine eS hC ?_
     have:=I6 (Qp b) (Qp a) om om (by rw [show m-1+1=m from by omega];exact hd.symm) fV
     rw [Qd,Qd] at this
     exact .one (.c (Qn (by unfold Zs;rw [iN om,iN om])))
    ·have hle:¬((Qc b).getD (m-1) 0<(Qc a).getD (m-1) 0):=dF iE
     refine xG ?_
     refine Qb ⟨m-1,by simp only [id];omega,eB,zZ,by omega,?_⟩
     rw [Be (Qc a) (i:=m-1) om,Be (Qc b) (i:=m-1) om,show m-1+1=m from by omega,hd]
     congr 1
     omega
  ·have ie:m=0:=dF hb
   subst ie
   refine eS hC ?_
   have:a=b:=Qmv (by simpa using hd)
   exact .one (.c (Qn (by simp [Zs,this])))
theorem NJ (n:Int) (h0: -9223372036854775808≤n) (h1:n≤9223372036854775807):Fa prog 346 [.c (.int .i64 n)] (.c (ws true (Qc n.toNat))):=by
 refine fA func346 fun C hC=>?_
 refine xG ?_
 refine QQ eE (fun hb=> ?_) (fun hb=> ?_)
 ·have hn:n≤0:=of_decide_eq_true hb
  refine eS hC ?_
  rw [show n.toNat=0 from by omega,QA]
  exact .one (.c .ab)
 ·have hn:¬n≤0:=of_decide_eq_false hb
  refine xG ?_
  have e1:Xz .u32 n=((n.toNat%4294967296:Nat):Int):=by rw [QM,IntKind.wrap_u32];omega
  have e2:Xz .u32 (n/4294967296)=((n.toNat/4294967296:Nat):Int):=by rw [QM,IntKind.wrap_u32];omega
  rw [e1,e2]
  refine Qw (xs:=[.tmp 6,.tmp 9]) (cells:=[.int .u32 ((n.toNat%4294967296:Nat):Int),.int .u32 ((n.toNat/4294967296:Nat):Int)]) rfl rfl rfl Xp (by rw [l9,Xf];rfl) rfl om om (by intro x hx;simp only [Lb,Lj,or_false] at hx;rcases hx with rfl|rfl<;>exact⟨rfl,rfl,rfl⟩) eE fun g hg=> ?_
  refine xS ?_
  refine Qr (Zx [n.toNat%4294967296,n.toNat/4294967296] (by intro x hx;simp only [Lb,Lj,or_false] at hx;rcases hx with rfl|rfl<;>omega) (by simp)) rfl rfl rfl
   (by refine xS ?_;exact .c (Yi eE om rfl (fun j hj=>by match j,hj with|0,_=>rfl|1,_=>rfl))) ?_
  refine JW hC ?_
  rw [show val [n.toNat%4294967296,n.toNat/4294967296]=n.toNat from by simp [val];omega]
  exact .one (.c QZ)
theorem Bf {x y b:Nat} (hx:x<4294967296) (hy:y<4294967296) (hb:b≤1):Xz .u64 (Xz .u64 ((x:Int)-(y:Int))-(b:Int))=((Jf x y b:Nat):Int):=by
 rw [QM,QM,IntKind.wrap_u64,IntKind.wrap_u64];unfold Jf
 rcases Nat.lt_or_ge x y with h|h
 ·have e:((x:Int)-y)%18446744073709551616=x-y+18446744073709551616:=by omega
  rw [e];omega
 ·have e:((x:Int)-y)%18446744073709551616=x-y:=by omega
  rw [e];omega
theorem QtU (xs ys:List Nat) (hx:∀x∈xs,x<4294967296) (hy:∀x∈ys,x<4294967296) (dp:xs.length≤68719476736) (dU:ys.length≤68719476736) (hle:val ys≤val xs):
  Fa prog 391 [.c (ws false xs),.c (ws false ys)] (.aF [.c (ws true (Qc (val xs-val ys))),.c .aN]):=by
 refine fA func391 fun C hC=>?_
 refine xG ?_
 refine Qr (uk xs ys hx hy dp dU) rfl rfl rfl eL ?_
 refine ZA ?_
 refine QQ eE (fun hb=> ?_) (fun _=> ?_)
 ·have:=of_decide_eq_true hb
  unfold Zs at this
  split at this
  ·omega
  ·split at this<;>omega
 refine xG ?_
 refine KP (n:=xs.length) (c:=xs.length) rfl rfl rfl Xp Xf rfl om eE eE rfl rfl om om om fun g hg=> ?_
 rw [JC xs.length]
 refine ZA ?_
 refine Qh (fun x:Nat×Nat×List Nat=>[(0,.c (ws false xs)),(1,.c (ws false ys)),(6,.c (.aO g 1 0 xs.length)),(7,.c (.int .u64 x.2.1)),(19,.c (.int .i64 xs.length)),(20,.c (.int .i64 x.1))]) (fun x=>[(g,.cells 180 xs.length (wf x.2.2))])
  (fun x=>x.1≤xs.length∧x.2.1≤1∧x.2.2.length=xs.length∧(∀y∈x.2.2,y<4294967296)∧val (x.2.2.take x.1)+val (ys.take x.1)=val (xs.take x.1)+4294967296^x.1*x.2.1) (fun x=>xs.length-x.1) (0,0,List.replicate xs.length 0) eB zZ
  ⟨Lz _,Lz _,by simp,YG _,by simp [val]⟩ ?_
 rintro ⟨i,b,zs⟩ ⟨hi,cY,aY,hz,hv⟩
 dsimp only at hi cY aY hz hv⊢
 refine xG ?_
 refine QQ eE (fun hb=> ?_) (fun hb=> ?_)
 ·have bV:i<xs.length:=dT hb
  have dL:=QI hx i
  have lU:=QI hy i
  refine xG ?_
  refine Qr (Kl xs i hx) rfl rfl rfl eL ?_
  refine ZA ?_
  refine Qr (Kl ys i hy) rfl rfl rfl eL ?_
  refine xS ?_
  (refine qE false rfl (fun R hR=> ?_);simp only [go_sem];(with_reducible refine hR _ _ ?_ ?_);(focus (((try simp only [XM])<;>and_intros<;>first|exact True.intro|omega|trivial);done));clear hR R)
  refine xG ?_
  (refine qE false rfl (fun R hR=> ?_);simp only [go_sem];(with_reducible refine hR _ _ ?_ ?_);(focus (((try simp only [XM])<;>and_intros<;>first|exact True.intro|omega|trivial);done));clear hR R)
  rw [Bf dL lU cY]
  obtain⟨st1,st2⟩:=HR (zs:=zs) om dL lU cY hv
  generalize Jf (xs.getD i 0) (ys.getD i 0) b=D at st1 st2⊢
  obtain⟨v,b2,e1,e2,js,st⟩:∃v b2:Nat,Xz .u32 (D:Int)=(v:Int)∧ly .u64 (D:Int) 63=(b2:Int)∧v<4294967296∧(val ((zs.set i v).take (i+1))+val (ys.take (i+1))=val (xs.take (i+1))+4294967296^(i+1)*b2∧b2≤1):=
   ⟨_,_,QL D,A8 D,Nat.mod_lt _ om,st1,st2⟩
  clear st1 st2
  refine xG ?_
  rw [e1]
  refine xW ?_
  refine xS ?_
  rw [ZO om]
  apply XP
  apply YW
  refine xO ?_
  refine xO ?_
  rw [e2]
  refine xG ?_
  refine Qb ⟨(i+1,b2,zs.set i v),by dsimp only;omega,eB,zZ,by dsimp only;omega,st.2,by simpa using aY,KD hz js,st.1⟩
 ·have bV:i=xs.length:=dF hb
  subst bV
  refine xG ?_
  refine Qr (Zx zs hz om) rfl rfl rfl (by refine xS ?_;exact .c (Yi eE om om (fun j _=>by rw [Nz];rfl))) ?_
  refine JW hC ?_
  rw [I8 hx hz aY hle hv]
  exact .aF ⟨.c QZ,.c .aN,trivial⟩
theorem QtV (xs ys:List Nat) (hx:∀x∈xs,x<4294967296) (hy:∀x∈ys,x<4294967296) (dp:xs.length≤68719476736) (dU:ys.length≤68719476736):
  Fa prog 383 [.c (ws false xs),.c (ws false ys)] (.c (ws true (Qc (val xs*val ys)))):=by
 refine fA func383 fun C hC=>?_
 refine xG ?_
 have jo:(xs.length:Int)+(ys.length:Int)=((xs.length+ys.length:Nat):Int):=by omega
 rw [jo]
 generalize hn:xs.length+ys.length=n
 refine KP (n:=n) (c:=n) rfl rfl rfl Xp Xf rfl om eE eE rfl rfl om om om fun g hg=> ?_
 rw [JC n]
 refine ZA ?_
 refine Qh (fun x:Nat×List Nat=>[(0,.c (ws false xs)),(1,.c (ws false ys)),(5,.c (.aO g 1 0 n)),(17,.c (ws false xs)),(18,.c (.int .i64 xs.length)),(19,.c (.int .i64 x.1))]) (fun x=>[(g,.cells 180 n (wf x.2))])
  (fun x=>x.1≤xs.length∧x.2.length=n∧(∀y∈x.2,y<4294967296)∧val x.2=val (xs.take x.1)*val ys) (fun x=>xs.length-x.1) (0,List.replicate n 0) eB zZ
  ⟨Lz _,by simp,YG _,by simp [val,JX]⟩ ?_
 rintro ⟨i,z0⟩ ⟨hi,na,sc,nM⟩
 dsimp only at hi na sc nM⊢
 refine xG ?_
 refine QQ eE (fun hb=> ?_) (fun hb=> ?_)
 ·have bV:i<xs.length:=dT hb
  have dL:=QI hx i
  have sd:val z0<4294967296^(i+ys.length):=by
   rw [nM,Nat.pow_add]
   exact Nat.mul_lt_mul_of_lt_of_lt (XF xs hx i om) (Z0 ys hy)
  refine xG ?_
  generalize mY:xs.getD i 0=x at*
  refine Qh (fun s:Nat×Nat×List Nat=>[(0,.c (ws false xs)),(1,.c (ws false ys)),(5,.c (.aO g 1 0 n)),(6,.c (.int .i64 i)),(7,.c (.int .u32 x)),(8,.c (.int .u64 s.2.1)),(17,.c (ws false xs)),(18,.c (.int .i64 xs.length)),(19,.c (.int .i64 i)),(24,.c (ws false ys)),(25,.c (.int .i64 ys.length)),(26,.c (.int .i64 s.1))]) (fun s=>[(g,.cells 180 n (wf s.2.2))])
   (fun s=>s.1≤ys.length∧s.2.1<4294967296∧s.2.2.length=n∧(∀y∈s.2.2,y<4294967296)∧(∀j,i+s.1≤j→s.2.2.getD j 0=z0.getD j 0)∧val s.2.2+4294967296^(i+s.1)*s.2.1=val z0+4294967296^i*(x*val (ys.take s.1))) (fun s=>ys.length-s.1) (0,0,z0) eB zZ
   ⟨Lz _,by simp,na,sc,fun _ _=>rfl,by simp [val]⟩ ?_
  rintro ⟨k,c,zs⟩ ⟨hk,hc,aY,hz,se,hv⟩
  dsimp only at hk hc aY hz se hv⊢
  refine xG ?_
  refine QQ eE (fun hb=> ?_) (fun hb=> ?_)
  ·have fI:k<ys.length:=dT hb
   have EW:=QI hy k
   have hzk:=QI hz (i+k)
   have bP:=HS (ys:=ys) (x:=x) (zs:=zs) (c:=c) om hv
   have P7:=Ut dL EW
   have En:(0:Int)≤(x:Int)*((ys.getD k 0:Nat):Int)∧(x:Int)*((ys.getD k 0:Nat):Int)≤18446744065119617025:=by rw [←Int.natCast_mul];omega
   refine xG ?_
   have ew:(c:Int)+((x:Int)*((ys.getD k 0:Nat):Int)+((zs.getD (i+k) 0:Nat):Int))=((c+(x*ys.getD k 0+zs.getD (i+k) 0):Nat):Int):=by simp
   rw [ew,QL]
   refine xW ?_
   refine xS ?_
   rw [ZO om]
   refine xG ?_
   refine Qb ⟨(k+1,(c+(x*ys.getD k 0+zs.getD (i+k) 0))/4294967296,zs.set (i+k) ((c+(x*ys.getD k 0+zs.getD (i+k) 0))%4294967296)),by dsimp only;omega,eB,zZ,by dsimp only;omega,by dsimp only;omega,by simpa using aY,KD hz om,fun j hj=> ?_,bP⟩
   dsimp only at hj⊢
   rw [Go.PN.getD_set_ne om]
   exact se j om
  ·have fI:k=ys.length:=dF hb
   subst fI
   refine xG ?_
   rw [QL,Nat.mod_eq_of_lt hc]
   refine xW ?_
   refine xS ?_
   rw [ZO om]
   refine xG ?_
   have h0:zs.getD (i+ys.length) 0=0:=by rw [se _ (Ac _)];exact KE sd (Ac _)
   have h1:=wW (zs:=zs) (j:=i+ys.length) (v:=c) om
   rw [h0,Nat.mul_zero,Nat.add_zero,hv,Lk,nM] at h1
   refine Qb ⟨(i+1,zs.set (i+ys.length) c),by dsimp only;omega,eB,zZ,by dsimp only;omega,by simpa using aY,KD hz hc,?_⟩
   dsimp only
   rw [h1,Qx,mY,Nat.add_mul,Na]
 ·have bV:i=xs.length:=dF hb
  subst bV
  refine xG ?_
  refine Qr (Zx z0 sc om) rfl rfl rfl (by refine xS ?_;exact .c (Yi eE om om (fun j _=>by rw [Nz];rfl))) ?_
  refine JW hC ?_
  rw [nM,Lk]
  exact .one (.c QZ)
theorem Qrh (g off L n:Nat) (ys us vs:List Nat) (gW:us=(ys.drop off).take L) (hL:off+L≤ys.length) (hy:∀x∈ys,x<4294967296) (hv:∀x∈vs,x<4294967296) (dU:ys.length≤68719476738) (hn:n<4294967296) (js:vs.length<L):
  Fh prog 373 [(g,.cells 180 ys.length (wf ys))] [.c (.aO g 1 off L),.c (ws false vs),.c (.int .u64 n)]
   (fun r h=>∃(b:Nat) (zs:List Nat),r=.c (.bool ((b:Int)==1))∧h=[(g,.cells 180 ys.length (wf (OF ys off zs)))]∧zs.length=L∧(∀y∈zs,y<4294967296)∧b≤1∧val zs+n*val vs=val us+4294967296^L*b):=by
 refine OU func373 rfl rfl (by simp [ntmps373]) fun C hC=> ?_
 have hu:∀x∈us,x<4294967296:=fun x hx=>hy x (List.mem_of_mem_drop (List.mem_of_mem_take (gW▸hx)))
 have il:us.length=L:=by rw [gW];simp;omega
 have mV:OF ys off us=ys:=by rw [gW];exact HX hL
 simp only [ZD,Nat.reduceAdd]
 refine xG ?_
 refine Qh (fun x:Nat×Nat×Nat×List Nat=>[(0,.c (.aO g 1 off L)),(1,.c (ws false vs)),(2,.c (.int .u64 n)),(7,.c (.int .u64 x.2.1)),(8,.c (.int .u64 x.2.2.1)),(12,.c (.int .i64 L)),(13,.c (.int .i64 x.1))]) (fun x=>[(g,.cells 180 ys.length (wf (OF ys off x.2.2.2)))])
  (fun x=>x.1≤L∧x.2.1<4294967296∧x.2.2.1≤1∧x.2.2.2.length=L∧(∀y∈x.2.2.2,y<4294967296)∧(∀j,x.1≤j→x.2.2.2.getD j 0=us.getD j 0)∧(vs.length<x.1→x.2.1=0)∧val (x.2.2.2.take x.1)+n*val (vs.take x.1)=val (us.take x.1)+4294967296^x.1*(x.2.1+x.2.2.1)) (fun x=>L-x.1) (0,0,0,us) eB (by rw [mV];exact zZ)
  ⟨Lz _,by simp,Lz _,il,hu,fun _ _=>rfl,fun _=>rfl,by simp [val]⟩ ?_
 rintro ⟨i,c,b,zs⟩ ⟨hi,hc,cY,aY,hz,bW,lG,eh⟩
 dsimp only at hi hc cY aY hz bW lG eh⊢
 refine xG ?_
 refine QQ eE (fun hb=> ?_) (fun hb=> ?_)
 ·have bV:i<L:=dT hb
  have EO:=QI hu i
  have Rk:=QI hv i
  have ES:(OF ys off zs).getD (off+i) 0=us.getD i 0:=by rw [HW om om,bW i (Ac _)]
  obtain⟨bS,D3⟩:=TF hc hn Rk
  refine xG ?_
  refine Qr (Kl vs i hv) rfl rfl rfl eL ?_
  refine ZA ?_
  obtain⟨st1,st2⟩:=Qmz (zs:=zs) (n:=n) (vs:=vs) om EO cY eh
  have hT:(c:Int)+(n:Int)*((vs.getD i 0:Nat):Int)=((c+n*vs.getD i 0:Nat):Int):=by rw [Int.natCast_add,Int.natCast_mul]
  have kb:vs.length<i+1→(c+n*vs.getD i 0)/4294967296=0:=fun aD=>by rw [ZR om];omega
  rw [ES,hT]
  generalize c+n*vs.getD i 0=T at bS D3 st1 st2 kb⊢
  have hTm:T%4294967296<4294967296:=Nat.mod_lt _ om
  rw [QL]
  refine xO ?_
  (refine qE false rfl (fun R hR=> ?_);simp only [go_sem];(with_reducible refine hR _ _ ?_ ?_);(focus (((try simp only [XM])<;>and_intros<;>first|exact True.intro|omega|trivial);done));clear hR R)
  refine xO ?_
  (refine qE false rfl (fun R hR=> ?_);simp only [go_sem];(with_reducible refine hR _ _ ?_ ?_);(focus (((try simp only [XM])<;>and_intros<;>first|exact True.intro|omega|trivial);done));clear hR R)
  rw [Bf EO hTm cY]
  generalize Jf (us.getD i 0) (T%4294967296) b=D at st1 st2⊢
  obtain⟨v,b2,e1,e2,js,st⟩:∃v b2:Nat,Xz .u32 (D:Int)=(v:Int)∧ly .u64 (D:Int) 63=(b2:Int)∧v<4294967296∧(val ((zs.set i v).take (i+1))+n*val (vs.take (i+1))=val (us.take (i+1))+4294967296^(i+1)*(T/4294967296+b2)∧b2≤1):=
   ⟨_,_,QL D,A8 D,Nat.mod_lt _ om,st1,st2⟩
  clear st1 st2
  refine xG ?_
  rw [e1]
  refine xW ?_
  refine xS ?_
  rw [ZO (by rw [U4 om];omega),LG om om]
  refine xG ?_
  rw [e2,U3]
  refine Qb ⟨(i+1,T/4294967296,b2,zs.set i v),by dsimp only;omega,eB,zZ,by dsimp only;omega,D3,st.2,by simpa using aY,KD hz js,fun j hj=> ?_,kb,st.1⟩
  dsimp only at hj⊢
  rw [PN.getD_set_ne om];exact bW j om
 ·have bV:i=L:=dF hb
  subst bV
  refine xG ?_
  refine xU ?_
  rw [lG js,Ly (show zs.length≤i from by omega),Ly (show vs.length≤i from by omega),Ly (show us.length≤i from by omega),Nz] at eh
  exact⟨b,zs,rfl,rfl,aY,hz,cY,eh⟩
theorem Qri (g off L:Nat) (ys us vs:List Nat) (gW:us=(ys.drop off).take L) (hL:off+L≤ys.length) (hy:∀x∈ys,x<4294967296) (hv:∀x∈vs,x<4294967296) (dU:ys.length≤68719476738) (js:vs.length<L):
  Fh prog 374 [(g,.cells 180 ys.length (wf ys))] [.c (.aO g 1 off L),.c (ws false vs)]
   (fun r h=>∃(c:Nat) (zs:List Nat),r=.aF []∧h=[(g,.cells 180 ys.length (wf (OF ys off zs)))]∧zs.length=L∧(∀y∈zs,y<4294967296)∧val zs+4294967296^L*c=val us+val vs):=by
 refine OU func374 rfl rfl (by simp [ntmps374]) fun C hC=> ?_
 have hu:∀x∈us,x<4294967296:=fun x hx=>hy x (List.mem_of_mem_drop (List.mem_of_mem_take (gW▸hx)))
 have il:us.length=L:=by rw [gW];simp;omega
 have mV:OF ys off us=ys:=by rw [gW];exact HX hL
 simp only [ZD,Nat.reduceAdd]
 refine xG ?_
 refine Qh (fun x:Nat×Nat×List Nat=>[(0,.c (.aO g 1 off L)),(1,.c (ws false vs)),(4,.c (.int .u64 x.2.1)),(7,.c (.int .i64 L)),(8,.c (.int .i64 x.1))]) (fun x=>[(g,.cells 180 ys.length (wf (OF ys off x.2.2)))])
  (fun x=>x.1≤L∧x.2.1≤1∧x.2.2.length=L∧(∀y∈x.2.2,y<4294967296)∧(∀j,x.1≤j→x.2.2.getD j 0=us.getD j 0)∧val (x.2.2.take x.1)+4294967296^x.1*x.2.1=val (us.take x.1)+val (vs.take x.1)) (fun x=>L-x.1) (0,0,us) eB (by rw [mV];exact zZ)
  ⟨Lz _,Lz _,il,hu,fun _ _=>rfl,by simp [val]⟩ ?_
 rintro ⟨i,c,zs⟩ ⟨hi,hc,aY,hz,bW,eh⟩
 dsimp only at hi hc aY hz bW eh⊢
 refine xG ?_
 refine QQ eE (fun hb=> ?_) (fun hb=> ?_)
 ·have bV:i<L:=dT hb
  have EO:=QI hu i
  have Rk:=QI hv i
  have ES:(OF ys off zs).getD (off+i) 0=us.getD i 0:=by rw [HW om om,bW i (Ac _)]
  refine xG ?_
  refine Xl 12 Qg kR ?_
  refine xO ?_
  refine xO ?_
  refine xO ?_
  refine xO ?_
  refine xO ?_
  rw [ES]
  refine xG ?_
  refine wP (Kl vs i hv) rfl rfl rfl eL ?_
  refine ZA ?_
  have ew:Xz .u32 ((c:Int)+(((us.getD i 0:Nat):Int)+((vs.getD i 0:Nat):Int)))=(((c+(us.getD i 0+vs.getD i 0))%4294967296:Nat):Int):=by rw [QM,IntKind.wrap_u32];omega
  rw [ew]
  refine xW ?_
  refine xS ?_
  rw [ZO (by rw [U4 om];omega),LG om om]
  refine xG ?_
  refine Qb ⟨(i+1,(c+(us.getD i 0+vs.getD i 0))/4294967296,zs.set i ((c+(us.getD i 0+vs.getD i 0))%4294967296)),by dsimp only;omega,eB,zZ,by dsimp only;omega,by dsimp only;omega,by simpa using aY,KD hz om,fun j hj=> ?_,BL om eh⟩
  dsimp only at hj⊢
  rw [PN.getD_set_ne om];exact bW j om
 ·have bV:i=L:=dF hb
  subst bV
  refine xG ?_
  refine xV ?_
  rw [Ly (show zs.length≤i from by omega),Ly (show vs.length≤i from by omega),Ly (show us.length≤i from by omega)] at eh
  exact⟨c,zs,rfl,rfl,aY,hz,eh⟩
end Go.Proofs.YtjegkdadeghpjaaGreatDoor
namespace Go.AI
def QX (n:Nat):Nat:=if n=0 then 0 else Nat.log2 n+1
theorem QB.nb {P:Program} {h:Qa} {ρ:Operand→AV} {t:TypeId} {x ix:Operand} {s:ByteArray} {k:IntKind} {i:Nat} {b:UInt8} (ht:P.underlying t=some .string) (hx:ρ x=.c (.str s)) (hi:ρ ix=.c (.int k (i:Int))) (hb:s[i]?=some b):
  QB P h ρ (.index t x ix) (.c (.int .u8 (b.toNat:Nat))):=fun S w e _ ho _=>by
 have h1:e x=.string s:=by have:=ho x Ag;rw [hx] at this;exact this
 have h2:e ix=.int k i:=by have:=ho ix Ag;rw [hi] at this;exact this
 refine⟨.int .u8 (b.toNat:Nat),fun o au=> ?_,rfl⟩
 simp [execOp,au,h1,h2,Instr.index,asIntOf,run_underlying ht,hb]
theorem um {E:Vj} {K:List It} {σ:Sl} {h:Qa} {all rest:List Oper} {o:Oper} {t:TypeId} {x ix:Operand} {s:ByteArray} {k:IntKind} {i:Nat} (au:o.op=.index t x ix) (hw:Qu all σ o=some true) (hd:Qs E.N o.dst=true) (ht:E.P.underlying t=some .string)
  (hx:ev σ x=.c (.str s)) (hi:ev σ ix=.c (.int k (i:Int))) (EN:∀j,j<256→(s[j]?).map UInt8.toNat=some (QX j)) (aD:i<256) (kk:aw E (.ops all rest::K) (σ.az o.dst (.c (.int .u8 (QX i:Nat)))) h):aw E (.ops all (o::rest)::K) σ h:=by
 have h1:=EN i aD
 cases hs:s[i]? with
 |none=>rw [hs] at h1;cases h1
 |some b=>
  rw [hs] at h1
  injection h1 with h1
  rw [←h1] at kk
  exact xK hw (by rw [au];exact QB.nb ht hx hi hs) hd rfl kk
theorem TH (x:Nat):ly .u32 (x:Int) 16=((x/65536:Nat):Int):=by
 rw [JA]
 show(x:Int).fdiv 65536=_
 rw [Int.fdiv_eq_ediv_of_nonneg _ om];omega
theorem Gi (x:Nat):ly .u32 (x:Int) 8=((x/256:Nat):Int):=by
 rw [JA]
 show(x:Int).fdiv 256=_
 rw [Int.fdiv_eq_ediv_of_nonneg _ om];omega
theorem Kb {x k:Nat} (hx:2^k≤x):QX x=k+QX (x/2^k):=by
 have hp:=Nat.two_pow_pos k
 have h0:x≠0:=by omega
 have h1:x/2^k≠0:=by have:=Nat.div_pos hx hp;omega
 unfold QX
 rw [iN h0,iN h1]
 have:Nat.log2 x=Nat.log2 (x/2^k)+k:=by
  clear h1
  induction k generalizing x with
  |zero=>simp
  |succ k ih=>
   have e2:2≤x:=by have:2^1≤2^(k+1):=Nat.pow_le_pow_right om om;omega
   rw [Nat.log2_def,iP e2]
   have hk:2^k≤x/2:=by rw [Nat.pow_succ] at hx;omega
   rw [ih hk (Nat.two_pow_pos k) (by have:=Nat.two_pow_pos k;omega),Nat.div_div_eq_div_mul,Nat.pow_succ,Nc 2]
   omega
 omega
end Go.AI
namespace Go.Proofs.YtjegkdadeghpjaaGreatDoor
open Go.AI Go.PN Tryz
attribute [local irreducible] aw Fa VA Vk Fh YO
theorem uo:prog.underlying 9=some .string:=by kernel_rfl
@[go_sem] theorem Qwo:ZC prog 5=some .u8:=by kernel_rfl
theorem JF {n:Nat} (h:n<256):Xz .u8 (n:Int)=(n:Int):=by
 rw [QM];exact XN (k:=.u8) ⟨by omega,by omega⟩
theorem U5:∀j,j<256→QX j≤8:=by decide+kernel
theorem HY (x:Nat) (hx:x<4294967296):Fa prog 157 [.c (.int .u32 x)] (.c (.int .i64 (QX x:Nat))):=by
 refine fA func157 fun C hC=>?_
 refine xG ?_
 refine QQ eE (fun hb=> ?_) (fun hb=> ?_)
 ·have mr:65536≤x:=dT hb
  have e1:QX x=16+QX (x/65536):=Kb (k:=16) mr
  refine xG ?_
  rw [TH]
  refine xG ?_
  refine QQ eE (fun hb=> ?_) (fun hb=> ?_)
  ·have kQ:256≤x/65536:=dT hb
   have e2:QX (x/65536)=8+QX (x/65536/256):=Kb (k:=8) kQ
   have DW:=U5 (x/65536/256) om
   refine xG ?_
   rw [Gi]
   refine xG ?_
   rw [JF (n:=x/65536/256) om]
   refine um (i:=x/65536/256) rfl rfl rfl uo rfl eE (by decide+kernel) om ?_
   refine JW hC ?_
   exact .one (.c (Qn om))
  ·have kQ:x/65536<256:=dF hb
   have DW:=U5 (x/65536) om
   refine xG ?_
   rw [JF (n:=x/65536) om]
   refine um (i:=x/65536) rfl rfl rfl uo rfl eE (by decide+kernel) om ?_
   refine JW hC ?_
   exact .one (.c (Qn om))
 ·have mr:x<65536:=dF hb
  refine xG ?_
  refine QQ eE (fun hb=> ?_) (fun hb=> ?_)
  ·have kQ:256≤x:=dT hb
   have e2:QX x=8+QX (x/256):=Kb (k:=8) kQ
   have DW:=U5 (x/256) om
   refine xG ?_
   rw [Gi]
   refine xG ?_
   rw [JF (n:=x/256) om]
   refine um (i:=x/256) rfl rfl rfl uo rfl eE (by decide+kernel) om ?_
   refine JW hC ?_
   exact .one (.c (Qn om))
  ·have kQ:x<256:=dF hb
   have DW:=U5 x om
   refine xG ?_
   rw [JF (n:=x) om]
   refine um (i:=x) rfl rfl rfl uo rfl eE (by decide+kernel) om ?_
   refine JW hC ?_
   exact .one (.c (Qn om))
theorem Oi {x k:Nat} (h:x<2^k):QX x≤k:=by
 unfold QX
 split
 ·omega
 ·rename_i h0
  have:=(Nat.log2_lt h0).2 h
  omega
theorem Qrj (x:Nat) (hx:x<4294967296):Fa prog 371 [.c (.int .u32 x)] (.c (.int .i64 (32-QX x:Nat))):=by
 refine fA func371 fun C hC=>?_
 have hb:QX x≤32:=Oi hx
 refine xG ?_
 refine Qr (HY x hx) rfl rfl rfl eL ?_
 refine JW hC ?_
 exact .one (.c (Qn om))
theorem drop_zero {xs:List Nat} {m:Nat} (h:∀j,m≤j→xs.getD j 0=0):val (xs.drop m)=0:=by
 refine Je fun x hx=> ?_
 obtain⟨i,hi,rfl⟩:=List.getElem_of_mem hx
 have:=h (m+i) om
 rw [Lg] at this
 simp only [List.length_drop] at hi
 simpa [show m+i<xs.length from by omega] using this
theorem Qow {xs:List Nat} {m:Nat} (hx:∀x∈xs,x<4294967296) (hm:m<xs.length) (hz:∀j,m+1≤j→xs.getD j 0=0) (h0:xs.getD m 0≠0):QX (val xs)=32*m+QX (xs.getD m 0):=by
 have h1:=YB xs (m+1) om
 rw [drop_zero hz,Nat.mul_zero,Nat.add_zero,Qx] at h1
 have h2:=XF xs hx m om
 have hp:4294967296^m=2^(32*m):=by rw [Nat.pow_mul]
 rw [hp] at h1 h2
 have hle:2^(32*m)≤val xs:=by
  rw [h1]
  have:=Nat.mul_le_mul_left (2^(32*m)) (show 1≤xs.getD m 0 from by omega)
  omega
 rw [Kb hle,h1,Nat.add_mul_div_left _ _ (Nat.two_pow_pos _),Nat.div_eq_of_lt h2,Nz]
theorem Qrk (xs:List Nat) (hx:∀x∈xs,x<4294967296) (dp:xs.length≤68719476736):Fa prog 344 [.c (ws false xs)] (.c (.int .i64 (QX (val xs):Nat))):=by
 refine fA func344 fun C hC=>?_
 refine xG ?_
 refine Qh (fun m:Nat=>[(0,.c (ws false xs)),(3,.c (.int .i64 ((m:Int)-1)))]) (fun _=>[]) (fun m=>m≤xs.length∧(∀j,m≤j→xs.getD j 0=0)) id xs.length eB zZ ⟨Ac _,fun j hj=>ZR hj⟩ ?_
 rintro m ⟨hm,hz⟩
 refine xG ?_
 refine QQ eE (fun hb=> ?_) (fun hb=> ?_)
 ·have tu:1≤m:=dT hb
  have e1:((m:Int)-1).toNat=m-1:=by omega
  have dL:=QI hx (m-1)
  refine xG ?_
  refine QQ eE (fun hb=> ?_) (fun hb=> ?_)
  ·have h0:xs.getD (m-1) 0≠0:=by simpa using hb
   have DY:=Qow hx (m:=m-1) om (by rw [show m-1+1=m from by omega];exact hz) h0
   have kJ:QX (xs.getD (m-1) 0)≤32:=Oi dL
   refine xG ?_
   refine Qr (HY _ dL) rfl rfl rfl eL ?_
   refine JW hC ?_
   exact .one (.c (Qn om))
  ·have h0:xs.getD (m-1) 0=0:=by simpa using hb
   refine xG ?_
   refine Qb ⟨m-1,by simp only [id];omega,eB,zZ,by omega,fun j hj=> ?_⟩
   by_cases e:j=m-1
   ·rw [e];exact h0
   ·exact hz j om
 ·have ie:m=0:=dF hb
  subst ie
  refine eS hC ?_
  have:=drop_zero hz
  rw [List.drop_zero] at this
  exact .one (.c (Qn (by rw [this];rfl)))
theorem JG {n:Nat}:QX n=0↔n=0:=by
 unfold QX;split<;>simp [*]
end Go.Proofs.YtjegkdadeghpjaaGreatDoor
namespace Go.PN
theorem LI (x:Nat):val [x]=x:=by simp [val]
theorem LJ {zs:List Nat} {m:Nat} (h:val zs<4294967296^m):val (zs.drop m)=0:=by
 refine Je fun x hx=> ?_
 obtain⟨i,hi,rfl⟩:=List.getElem_of_mem hx
 have:=KE h (show m≤m+i from by omega)
 rw [Lg] at this
 simp only [List.length_drop] at hi
 simpa [show m+i<zs.length from by omega] using this
theorem U6 {zs:List Nat} {k:Nat} (h:zs.length=k):val (zs.take k)=val zs:=by rw [Ly om]
theorem Qwx {zs:List Nat} {k:Nat} (hl:zs.length=k+2):val zs=(zs.getD (k+1) 0*4294967296+zs.getD k 0)*4294967296^k+val (zs.take k):=by
 rw [←U6 hl,Qx,Qx,Nat.pow_succ,Nat.add_mul,Na,Nc (4294967296^k) (4294967296*zs.getD (k+1) 0),Nc (4294967296^k) (zs.getD k 0),Nc 4294967296 (zs.getD (k+1) 0)]
 omega
theorem Qwy {zs:List Nat} {k:Nat} (hl:zs.length=k+3):val zs=((zs.getD (k+2) 0*4294967296+zs.getD (k+1) 0)*4294967296+zs.getD k 0)*4294967296^k+val (zs.take k):=by
 rw [←U6 hl,Qx,Qx,Qx]
 generalize zs.getD (k+2) 0=a
 generalize zs.getD (k+1) 0=b
 generalize zs.getD k 0=c
 simp only [Nat.pow_succ]
 generalize 4294967296^k=D
 simp only [Nat.add_mul]
 have e1:a*4294967296*4294967296*D=D*4294967296*4294967296*a:=by rw [Nc (D*4294967296*4294967296) a,Nc D,Nc (4294967296*D),←Na 4294967296 4294967296 D,←Na,←Na]
 have e2:b*4294967296*D=D*4294967296*b:=by rw [Nc (D*4294967296) b,Nc D,←Na]
 have e3:c*D=D*c:=Nc _ _
 rw [e1,e2,e3]
 omega
theorem Bg {us:List Nat} {j L i:Nat} (hi:i<L):((us.drop j).take L).getD i 0=us.getD (j+i) 0:=by
 rw [Us hi,Lg,Lg,List.getElem?_drop]
theorem Qrl {ys zs qo:List Nat} {off:Nat} (h:off+zs.length≤ys.length) (he:qo.length=zs.length):OF (OF ys off zs) off qo=OF ys off qo:=by
 unfold OF
 have h1:(ys.take off++(zs++ys.drop (off+zs.length))).take off=ys.take off:=by
  rw [List.take_append_of_le_length (by simp;omega),List.take_take,Nat.min_self]
 have h2:(ys.take off++(zs++ys.drop (off+zs.length))).drop (off+qo.length)=ys.drop (off+qo.length):=by
  rw [he,←Lo,List.drop_append_of_le_length (by simp;omega),List.drop_of_length_le (by simp;omega),Ln]
 rw [h1,h2]
theorem TI {ys zs:List Nat} {off L:Nat} (h:off+L≤ys.length) (hz:zs.length=L):zs=((OF ys off zs).drop off).take L:=by
 unfold OF
 rw [List.drop_append_of_le_length (by simp;omega),List.drop_of_length_le (by simp;omega),Ln,List.take_append_of_le_length om,Ly om]
theorem QtW {us:List Nat} {j L V:Nat} (hu:∀x∈us,x<4294967296) (hL:j+L+1≤us.length) (hV:V<4294967296^L) (aD:val us<V*4294967296^(j+1)):
  val us=val (us.take j)+4294967296^j*val ((us.drop j).take (L+1))∧val (us.take j)<4294967296^j∧val (us.drop (j+(L+1)))=0∧val ((us.drop j).take (L+1))<V*4294967296:=by
 have h1:val (us.drop (j+(L+1)))=0:=by
  refine LJ (Ae aD ?_)
  rw [show j+(L+1)=L+(j+1) from by omega,Nat.pow_add 4294967296 L (j+1)]
  exact Nm _ (Ll hV)
 have h2:=YB us j om
 have h3:=YB (us.drop j) (L+1) (by simp;omega)
 rw [List.drop_drop,h1,Nat.mul_zero,Nat.add_zero] at h3
 rw [h3] at h2
 have h4:=XF us hu j om
 refine⟨h2,h4,h1,?_⟩
 rw [h2,Nat.pow_succ,Nc (4294967296^j) 4294967296,←Na,Nc (V*4294967296)] at aD
 exact Nat.lt_of_mul_lt_mul_left (a:=4294967296^j) om
theorem Qrm {W V v1 v2 vr D w0 w1 w2 wr:Nat} (hV:V=(v1*4294967296+v2)*D+vr) (jr:v2<4294967296) (tD:vr<D) (hW:W=((w0*4294967296+w1)*4294967296+w2)*D+wr) (aD:W<V*4294967296):w0≤v1:=by
 rcases Nat.lt_or_ge v1 w0 with h|h
 ·exfalso
  have h1:V+1≤(v1+1)*4294967296*D:=by
   have:(v1*4294967296+v2+1)*D≤(v1+1)*4294967296*D:=Nm D om
   rw [Nat.add_mul,Nat.one_mul] at this
   omega
  have h2:(v1+1)*4294967296*D*4294967296≤W:=by
   have:(v1+1)*4294967296*4294967296*D≤((w0*4294967296+w1)*4294967296+w2)*D:=Nm D om
   rw [Na _ D,Nc D,←Na]
   omega
  have h3:=Nm 4294967296 h1
  omega
 ·exact h
theorem Qox {A V U lo W P z q j Q:Nat} (hU:U=lo+P*W) (ic:lo<P) (hz:z+q*V=W) (hzV:z<V) (hA:A=U+V*(P*4294967296*Q)) (hP:P=4294967296^j):
  lo+P*z<V*P∧A=(lo+P*z)+V*(P*(q+4294967296*Q)):=by
 constructor
 ·have:=Nat.mul_le_mul_left P (show z+1≤V from hzV)
  rw [Nat.mul_add,Ad,Nc P V] at this
  omega
 ·rw [hA,hU,←hz,Nat.mul_add,Nat.mul_add,Nat.mul_add,←Na P 4294967296 Q]
  have:P*(q*V)=V*(P*q):=by rw [←Na,Nc]
  omega
theorem Qoy {W V g z P:Nat} (hV:0<V) (h1:W/V≤g) (h2:g*V<W+V) (h:z+g*V=W+P*0):z+(W/V)*V=W∧z<V∧g=W/V:=by
 have hg:g≤W/V:=(Nat.le_div_iff_mul_le hV).2 om
 have e:g=W/V:=by omega
 subst e
 have:=Nat.div_add_mod W V
 have h3:=Nat.mod_lt W hV
 rw [Nc] at this
 exact⟨by omega,by omega,rfl⟩
theorem TJ {W V g z z2 P c:Nat} (hV:0<V) (PC:V≤P) (h1:W/V≤g) (h2:g*V<W+V) (hz:z<P) (Rt:z2<P) (h:z+g*V=W+P*1) (hb:z2+P*c=z+V):1≤g∧z2+(W/V)*V=W∧z2<V∧g-1=W/V:=by
 have rK:=Nat.div_add_mod W V
 have aD:=Nat.mod_lt W hV
 rw [Nc] at rK
 have hg:W/V+1≤g:=by
  rcases Nat.lt_or_ge (W/V) g with h|h'
  ·exact h
  ·exfalso
   have e:g=W/V:=by omega
   rw [e] at h
   omega
 have kg:g≤W/V+1:=by
  rcases Nat.lt_or_ge (W/V+1) g with h'|h'
  ·exfalso
   have:=Nm V (show W/V+2≤g from h')
   rw [Nat.add_mul] at this
   omega
  ·exact h'
 have e:g=W/V+1:=by omega
 rw [e,Nat.add_mul,Nat.one_mul] at h
 have hc:z2+P*c=W%V+P:=by omega
 have oA:c=1:=by
  rcases c with _|_|c
  ·omega
  ·rfl
  ·exfalso
   have:P*(c+1+1)=P*c+P+P:=by rw [Nat.mul_add,Nat.mul_add];omega
   omega
 subst oA
 exact⟨by rw [e];exact Nat.le_add_left _ _,by omega,by omega,by rw [e];rfl⟩
theorem Qrn {a b n U q:Nat} (hb:0<b) (aD:U<b*2^n) (h:a*2^n=U+b*2^n*q):q=a/b∧U/2^n=a%b:=by
 have hp:=Nat.two_pow_pos n
 have hV:0<b*2^n:=Nat.mul_pos hb hp
 have h1:a*2^n/(b*2^n)=q:=by rw [h,Nat.add_mul_div_left _ _ hV,Nat.div_eq_of_lt aD,Nz]
 have h2:a*2^n%(b*2^n)=U:=by rw [h,Nat.add_mul_mod_self_left,Nat.mod_eq_of_lt aD]
 rw [Nat.mul_div_mul_right _ _ hp] at h1
 rw [Nat.mul_mod_mul_right] at h2
 exact⟨h1.symm,by rw [←h2,Nat.mul_div_cancel _ hp]⟩
theorem Qwz (p q B D:Nat):p*q*B*D=p*(q*B*D):=by rw [Na,Na,Na]
theorem SM {V W D v1 v2 head w2 wr vr:Nat} (hV:V=(v1*4294967296+v2)*D+vr) (fJ:0<v1) (hW:W=(head*4294967296+w2)*D+wr) (cZ:w2<4294967296) (hwr:wr<D):W/V≤head/v1:=by
 have hD:0<D:=by omega
 have rm:0<V:=by
  have:=Nm D (show 1≤v1*4294967296+v2 from by omega)
  omega
 have h1:head+1≤(head/v1+1)*v1:=by
  have:=Nat.div_add_mod head v1
  have h2:=Nat.mod_lt head fJ
  rw [Nat.add_mul,Nat.one_mul,Nc (head/v1)]
  omega
 have h2:W<(head+1)*4294967296*D:=by
  have:(head*4294967296+w2+1)*D≤(head+1)*4294967296*D:=Nm D om
  rw [Nat.add_mul,Nat.one_mul] at this
  omega
 have h3:(head+1)*4294967296*D≤(head/v1+1)*V:=by
  have e1:(head+1)*4294967296*D≤(head/v1+1)*v1*4294967296*D:=Nm D (Nm _ h1)
  have e0:v1*4294967296*D≤V:=by rw [hV,Nat.add_mul,Nat.add_assoc];exact Nat.le_add_right _ _
  have e2:=Nat.mul_le_mul_left (head/v1+1) e0
  rw [←Qwz] at e2
  exact Lt e1 e2
 have:W/V<head/v1+1:=(Nat.div_lt_iff_lt_mul rm).2 om
 omega
theorem Qoz {bs vs:List Nat} {n k:Nat} (hb:∀x∈bs,x<4294967296) (hl:bs.length=k+2) (hn:n≤32) (h1:2147483648≤bs.getD (k+1) 0*2^n) (h2:bs.getD (k+1) 0*2^n<4294967296) (hv:∀x∈vs,x<4294967296) (js:vs.length=k+3) (EP:val vs=val bs*2^n):
  val (vs.take (k+2))=val bs*2^n∧2147483648≤vs.getD (k+1) 0∧val bs*2^n<4294967296^(k+2):=by
 have hB:=Z5 hn
 have hp:=Nat.two_pow_pos n
 have e1:=Qx bs (k+1)
 rw [U6 hl] at e1
 have e2:=XF bs hb (k+1) om
 generalize bs.getD (k+1) 0=t at*
 generalize hP:4294967296^(k+1)=P at*
 have ht:t+1≤2^(32-n):=by
  have:2^n*t<2^n*2^(32-n):=by rw [Nc];omega
  exact Nat.lt_of_mul_lt_mul_left this
 have aD:val bs*2^n<P*4294967296:=by
  have a1:val bs<P*(t+1):=by rw [Nat.mul_add];omega
  have a2:=Nat.mul_lt_mul_of_pos_right a1 hp
  have a3:P*(t+1)*2^n≤P*4294967296:=by
   rw [Na]
   refine Nat.mul_le_mul_left P ?_
   rw [hB,Nc]
   exact Nat.mul_le_mul_left _ ht
  omega
 have zd:4294967296^(k+2)=P*4294967296:=by rw [show k+2=(k+1)+1 from rfl,Nat.pow_succ,hP]
 have hs:=YB vs (k+2) om
 rw [LJ (zs:=vs) (m:=k+2) (by rw [EP,zd];exact aD),Nat.mul_zero,Nat.add_zero] at hs
 refine⟨by omega,?_,by rw [zd];exact aD⟩
 have e3:val (vs.take (k+2))=val (vs.take (k+1))+4294967296^(k+1)*vs.getD (k+1) 0:=Qx vs (k+1)
 have e4:=XF vs hv (k+1) om
 rw [hP] at e3 e4
 have eu:P*2147483648≤val bs*2^n:=by
  rw [e1,Nat.add_mul,Na]
  have:=Nat.mul_le_mul_left P h1
  omega
 have:P*2147483648<P*(vs.getD (k+1) 0+1):=by
  rw [Nat.mul_add,Ad]
  omega
 have:=Nat.lt_of_mul_lt_mul_left this
 omega
theorem QmA {a b n la lb:Nat} (ha:a<4294967296^la) (hb:4294967296^(lb-1)≤b) (hl:lb≤la) (h0:1≤lb):a*2^n<b*2^n*4294967296^(la+1-lb):=by
 have hp:=Nat.two_pow_pos n
 have h1:4294967296^la=4294967296^(lb-1)*4294967296^(la+1-lb):=by rw [←Nat.pow_add];congr 1;omega
 have h2:=Nm (4294967296^(la+1-lb)) hb
 rw [←h1] at h2
 have h3:=Nat.mul_lt_mul_of_pos_right (Ae ha h2) hp
 rw [Nat.mul_right_comm]
 exact h3
structure RD where
 neg:Bool
 num:List Nat
 den:List Nat
def RD.wf (r:RD) (L:Nat):Prop:=(∀x∈r.num,x<4294967296)∧(∀x∈r.den,x<4294967296)∧r.num.length≤L∧r.den.length≤L
def Vp (xs:List Nat):Bool:=decide (0<xs.length)&& !decide (xs.getD (xs.length-1) 0=0)
def RD.valid (r:RD):Bool:=if r.num.length=0∧r.den.length=0 then !r.neg else Vp r.num&&Vp r.den&&decide (Nat.gcd (val r.num) (val r.den)=1)
def RD.some (r:RD):Bool:=r.valid&&decide (r.num.length≠0)
def RD.pn (r:RD):Nat:=if r.some then val r.num else 0
def RD.pd (r:RD):Nat:=if r.some then val r.den else 1
def RD.ps (r:RD):Bool:=if r.some then r.neg else false
def Uc (neg:Bool) (n:Nat):Int:=if neg then-(n:Int) else n
def sq (neg:Bool) (n d:Nat):Rat:=mkRat (Uc neg n) d
def RD.q (r:RD):Rat:=sq r.ps r.pn r.pd
def rd (q:Rat):RD:=⟨decide (q.num<0),Qc q.num.natAbs,if q.num=0 then [] else Qc q.den⟩
theorem KQ (b:Bool) (n:Nat):(Uc b n).natAbs=n:=by unfold Uc;cases b<;>simp
theorem IM (b:Bool) (n:Nat):Uc (!b) n= -Uc b n:=by unfold Uc;cases b<;>simp
theorem Qro (a b:Bool) (n m:Nat):Uc (a !=b) (n*m)=Uc a n*Uc b m:=by unfold Uc;cases a<;>cases b<;>simp [Int.natCast_mul,Int.neg_mul,Int.mul_neg]
theorem WR {n:Int} {d:Nat} (hd:d≠0):(mkRat n d).num=n/(n.natAbs.gcd d:Nat)∧(mkRat n d).den=d/n.natAbs.gcd d:=by
 rw [←Rat.normalize_eq_mkRat hd,Rat.normalize_eq]
 exact⟨rfl,rfl⟩
theorem FB {xs:List Nat} (hx:∀x∈xs,x<4294967296) (hp:Vp xs=true):Qc (val xs)=xs∧val xs≠0:=by
 simp only [Vp,Ba,Dq,Bool.not_eq_true',decide_eq_false_iff_not] at hp
 have h:=Qmw hx (.inr hp.2)
 refine⟨h,fun e=> ?_⟩
 rw [e,QA] at h
 rw [←h] at hp
 simp at hp
theorem RD.cX {r:RD} {L:Nat} (hw:r.wf L) (hs:r.some=true):Qc (val r.num)=r.num∧Qc (val r.den)=r.den∧val r.num≠0∧val r.den≠0∧Nat.gcd (val r.num) (val r.den)=1:=by
 simp only [RD.some,Ba,Dq] at hs
 obtain⟨hv,hn⟩:=hs
 unfold RD.valid at hv
 rw [iN (fun h=>hn h.1)] at hv
 simp only [Ba,Dq] at hv
 obtain⟨⟨h1,h2⟩,h3⟩:=hv
 have p1:=FB hw.1 h1
 have p2:=FB hw.2.1 h2
 exact⟨p1.1,p2.1,p1.2,p2.2,h3⟩
theorem RD.cM {r:RD} {L:Nat} (hw:r.wf L):r.pd≠0:=by
 unfold RD.pd
 split
 ·rename_i h;exact(RD.cX hw h).2.2.2.1
 ·simp
theorem Kc:Qc 1=[1]:=by rw [XW om];simp [QA]
theorem RD.gJ {r:RD} {L:Nat} (hw:r.wf L) (hs:r.some=true):Qc r.pn=r.num∧Qc r.pd=r.den∧r.ps=r.neg:=by
 obtain⟨h1,h2,_⟩:=RD.cX hw hs
 unfold RD.pn RD.pd RD.ps
 simp only [hs,if_true]
 exact⟨h1,h2,trivial⟩
theorem RD.eQ {r:RD} (hs:r.some=false):Qc r.pn=[]∧Qc r.pd=[1]∧r.ps=false:=by
 unfold RD.pn RD.pd RD.ps
 simp [hs,QA,Kc]
theorem RD.cL {r:RD} {L:Nat} (hw:r.wf L) (hL:1≤L):(Qc r.pn).length≤L∧(Qc r.pd).length≤L:=by
 cases hs:r.some with
 |true=>obtain⟨h1,h2,_⟩:=RD.gJ hw hs;rw [h1,h2];exact⟨hw.2.2.1,hw.2.2.2⟩
 |false=>obtain⟨h1,h2,_⟩:=RD.eQ hs;rw [h1,h2];exact⟨by simp,by simpa using hL⟩
theorem CT {neg:Bool} {n d:Nat} (hn:n≠0) (hd:d≠0):rd (sq neg n d)=⟨neg,Qc (n/Nat.gcd n d),Qc (d/Nat.gcd n d)⟩:=by
 obtain⟨h1,h2⟩:=WR (n:=Uc neg n) hd
 rw [KQ] at h1 h2
 have hg:0<Nat.gcd n d:=Nat.gcd_pos_of_pos_left _ (Nat.pos_of_ne_zero hn)
 have PJ:Nat.gcd n d∣n:=Nat.gcd_dvd_left n d
 have hq:0<n/Nat.gcd n d:=Nat.div_pos (Nat.le_of_dvd (Nat.pos_of_ne_zero hn) PJ) hg
 have Eu:(sq neg n d).num=Uc neg (n/Nat.gcd n d):=by
  unfold sq
  rw [h1]
  unfold Uc
  cases neg with
  |false=>simp
  |true=>
   simp only [if_true]
   rw [Int.neg_ediv_of_dvd (Int.ofNat_dvd.2 PJ)]
   simp
 unfold rd
 rw [Eu]
 have h0:Uc neg (n/Nat.gcd n d)≠0:=fun e=>by
  have:=congrArg Int.natAbs e
  rw [KQ] at this
  rw [this] at hq
  simp at hq
 rw [iN h0,KQ]
 have e2:(sq neg n d).den=d/Nat.gcd n d:=h2
 rw [e2]
 congr 1
 generalize n/Nat.gcd n d=m at hq
 unfold Uc
 cases neg with
 |false=>simp
 |true=>simp;omega
theorem dQ:rd 0=⟨false,[],[]⟩:=by simp [rd,QA]
theorem ui (neg:Bool) (d:Nat):sq neg 0 d=0:=by unfold sq Uc;cases neg<;>simp [Rat.zero_mkRat]
theorem Fo {n:Nat} (h:n≠0):Vp (Qc n)=true:=by
 have hp:=(Kr n).resolve_left (fun e=>h (Xb.1 e))
 have hl:(Qc n).length≠0:=fun e=>h (Xb.1 (Lh.1 e))
 simp only [Vp,Ba,Dq,Bool.not_eq_true',decide_eq_false_iff_not]
 exact⟨by omega,hp⟩
theorem Cc {q:Rat} (h:q≠0):(rd q).some=true∧(rd q).valid=true:=by
 have hn:q.num≠0:=fun e=>h (Rat.num_eq_zero.1 e)
 have hl:(Qc q.num.natAbs).length≠0:=fun e=>hn (by have:=Xb.1 (Lh.1 e);omega)
 have hv:(rd q).valid=true:=by
  unfold RD.valid rd
  simp only [hn,if_false]
  rw [iN (fun x=>hl x.1),Fo om,Fo q.den_nz,Qd,Qd]
  have:=q.reduced
  simp only [Bool.and_self,Bool.true_and,Dq]
  exact this
 refine⟨?_,hv⟩
 unfold RD.some
 rw [hv]
 simp only [Bool.true_and,Dq]
 exact hl
theorem Wv (q:Rat):(rd q).q=q:=by
 by_cases h:q=0
 ·subst h
  rw [dQ]
  rfl
 ·obtain⟨h1,_⟩:=Cc h
  have hn:q.num≠0:=fun e=>h (Rat.num_eq_zero.1 e)
  have e:(rd q).q=sq (decide (q.num<0)) q.num.natAbs q.den:=by
   unfold RD.q RD.ps RD.pn RD.pd
   rw [h1]
   simp only [if_true]
   unfold rd
   simp only [hn,if_false,Qd]
  rw [e]
  unfold sq
  have:Uc (decide (q.num<0)) q.num.natAbs=q.num:=by
   unfold Uc
   split
   ·rename_i aD;simp only [Dq] at aD;omega
   ·rename_i aD;simp only [Dq] at aD;omega
  rw [this]
  exact Rat.mkRat_self q
theorem QoB (q:Rat):(rd q).valid=true:=by
 by_cases h:q=0
 ·subst h;rw [dQ];rfl
 ·exact(Cc h).2
def fits (q:Rat) (L:Nat):Prop:=q.num.natAbs<4294967296^L∧q.den<4294967296^L
theorem Yp {q:Rat} {L M:Nat} (h:fits q L) (hm:L≤M):fits q M:=
 ⟨Ae h.1 (Nat.pow_le_pow_right om hm),Ae h.2 (Nat.pow_le_pow_right om hm)⟩
theorem JH {q:Rat} {L:Nat} (h:fits q L):(rd q).wf L:=by
 refine⟨Qp _,?_,XX h.1,?_⟩
 ·unfold rd
  simp only
  split
  ·simp
  ·exact Qp _
 ·unfold rd
  simp only
  split
  ·simp
  ·exact XX h.2
theorem IN {neg:Bool} {n d L:Nat} (hd:d≠0) (h1:n<4294967296^L) (h2:d<4294967296^L):fits (sq neg n d) L:=by
 obtain⟨e1,e2⟩:=WR (n:=Uc neg n) hd
 rw [KQ] at e1 e2
 unfold fits sq
 rw [e1,e2]
 refine⟨Nat.lt_of_le_of_lt ?_ h1,Nat.lt_of_le_of_lt (Nat.div_le_self _ _) h2⟩
 have:=Int.natAbs_ediv_le_natAbs (Uc neg n) ((Nat.gcd n d:Nat):Int)
 rw [KQ] at this
 exact this
theorem RD.fits {r:RD} {L:Nat} (hw:r.wf L) (hL:1≤L):fits r.q L:=by
 obtain⟨h1,h2⟩:=RD.cL hw hL
 have hp:=RD.cM hw
 exact IN hp (Ae (Yd _) (Nat.pow_le_pow_right om h1)) (Ae (Yd _) (Nat.pow_le_pow_right om h2))
theorem IP {n:Int} {d L:Nat} (hd:d≠0) (h1:n.natAbs<4294967296^L) (h2:d<4294967296^L):PN.fits (mkRat n d) L:=by
 obtain⟨e1,e2⟩:=WR (n:=n) hd
 unfold PN.fits
 rw [e1,e2]
 exact⟨Nat.lt_of_le_of_lt (Int.natAbs_ediv_le_natAbs _ _) h1,Nat.lt_of_le_of_lt (Nat.div_le_self _ _) h2⟩
theorem Kd {a b L M:Nat} (h1:a<4294967296^L) (h2:b<4294967296^M):a*b<4294967296^(L+M):=by
 rw [Nat.pow_add]
 exact Nat.mul_lt_mul'' h1 h2
theorem QoC {a b:Rat} {L M:Nat} (ha:PN.fits a L) (hb:PN.fits b M):PN.fits (a+b) (L+M+1):=by
 rw [Rat.add_def,Rat.normalize_eq_mkRat]
 have h3:=Kd ha.1 hb.2
 have h4:=Kd hb.1 ha.2
 rw [Nat.add_comm M L] at h4
 refine IP (Nat.mul_ne_zero a.den_nz b.den_nz) ?_ ?_
 ·refine Nat.lt_of_le_of_lt (Int.natAbs_add_le _ _) ?_
  rw [Int.natAbs_mul,Int.natAbs_mul,Int.natAbs_natCast,Int.natAbs_natCast,Nat.pow_succ]
  omega
 ·have:=Kd ha.2 hb.2
  rw [Nat.pow_succ]
  omega
theorem HZ {a b:Rat} {L M:Nat} (ha:PN.fits a L) (hb:PN.fits b M):PN.fits (a*b) (L+M):=by
 rw [Rat.mul_def,Rat.normalize_eq_mkRat]
 refine IP (Nat.mul_ne_zero a.den_nz b.den_nz) ?_ (Kd ha.2 hb.2)
 rw [Int.natAbs_mul]
 exact Kd ha.1 hb.1
theorem H0 {a:Rat} {L:Nat} (ha:PN.fits a L):PN.fits (-a) L:=by
 unfold PN.fits
 rw [Rat.neg_num,Rat.neg_den,Int.natAbs_neg]
 exact ha
theorem QoD {a b:Rat} {L M:Nat} (ha:PN.fits a L) (hb:PN.fits b M):PN.fits (a-b) (L+M+1):=by
 rw [Rat.sub_eq_add_neg];exact QoC ha (H0 hb)
theorem FC (x:Bool) {n m d e:Nat} (hd:d≠0) (he:e≠0):sq x (n*e+m*d) (d*e)=sq x n d+sq x m e:=by
 unfold sq
 rw [Rat.mkRat_add_mkRat _ _ hd he]
 congr 1
 unfold Uc
 cases x<;>simp [Int.natCast_mul,Int.neg_add,Int.neg_mul]
theorem Bh (x:Bool) {n m d e:Nat} (hd:d≠0) (he:e≠0) (h:m*d≤n*e):sq x (n*e-m*d) (d*e)=sq x n d+sq (!x) m e:=by
 unfold sq
 rw [Rat.mkRat_add_mkRat _ _ hd he,IM]
 congr 1
 unfold Uc
 cases x
 ·simp only [Bool.false_eq_true,if_false]
  rw [Int.ofNat_sub h,Int.natCast_mul,Int.natCast_mul,Int.neg_mul];omega
 ·simp only [if_true]
  rw [Int.ofNat_sub h,Int.natCast_mul,Int.natCast_mul,Int.neg_neg,Int.neg_mul];omega
theorem Gj (x:Bool) {n m d e:Nat} (hd:d≠0) (he:e≠0) (h:n*e≤m*d):sq (!x) (m*d-n*e) (d*e)=sq x n d+sq (!x) m e:=by
 have:=Bh (!x) (n:=m) (m:=n) (d:=e) (e:=d) he hd h
 rw [Bool.not_not,Nc e d] at this
 rw [this]
 exact Rat.add_comm _ _
theorem CO (x y:Bool) (n m d e:Nat):sq (x !=y) (n*m) (d*e)=sq x n d*sq y m e:=by
 unfold sq
 rw [Rat.mkRat_mul_mkRat,Qro]
theorem QtX (x:Bool) (n d:Nat):sq (!x) n d= -sq x n d:=by
 unfold sq
 rw [Rat.neg_mkRat,IM]
def YZ (q:Rat):Int:=if q=0 then 0 else if q<0 then-1 else 1
theorem NK {neg:Bool} {n d:Nat} (hn:n≠0) (hd:d≠0):sq neg n d≠0:=by
 unfold sq
 rw [Ne,Rat.mkRat_eq_zero hd]
 intro e
 have:=congrArg Int.natAbs e
 rw [KQ] at this
 simp at this
 exact hn this
theorem NL {neg:Bool} {n d:Nat} (hn:n≠0) (hd:d≠0):sq neg n d<0↔neg=true:=by
 have h:=CT (neg:=neg) hn hd
 have h1:decide ((sq neg n d).num<0)=neg:=congrArg RD.neg h
 have h2:sq neg n d<0↔(sq neg n d).num<0:=by rw [Rat.lt_iff];simp
 rw [h2]
 constructor
 ·intro h3;rw [←h1];simpa using h3
 ·intro h3;rw [h3] at h1;rw [h3];simpa using h1
end Go.PN
namespace Go.Proofs.YtjegkdadeghpjaaGreatDoor
open Go.AI Go.PN Tryz
attribute [local irreducible] aw Fa VA Vk Fh YO
theorem QmB {t:Nat} (h0:t≠0) (hl:t<4294967296):32-QX t<32∧2147483648≤t*2^(32-QX t)∧t*2^(32-QX t)<4294967296:=by
 have h1:QX t≤32:=Oi (k:=32) hl
 have h2:QX t=Nat.log2 t+1:=by unfold QX;rw [iN h0]
 have h3:=Nat.log2_self_le h0
 have h4:=Nat.lt_log2_self (n:=t)
 have hk:32-QX t+QX t=32:=by omega
 refine⟨by omega,?_,?_⟩
 ·have:=Nm (2^(32-QX t)) h3
  rw [←Nat.pow_add,show t.log2+(32-QX t)=31 from by omega] at this
  exact this
 ·have:=Nat.mul_lt_mul_of_pos_right h4 (Nat.two_pow_pos (32-QX t))
  rw [←Nat.pow_add,show t.log2+1+(32-QX t)=32 from by omega] at this
  exact this
theorem M3 (xs ys:List Nat) (hx:∀x∈xs,x<4294967296) (hy:∀x∈ys,x<4294967296) (dp:xs.length≤68719476736) (dU:ys.length≤68719476736) (h0:val ys≠0):
  Fa prog 345 [.c (ws false xs),.c (ws false ys)] (.aF [.c (ws true (Qc (val xs/val ys))),.c (ws true (Qc (val xs%val ys))),.c .aN]):=by
 refine fA func345 fun C hC=>?_
 refine xG ?_
 refine Qr (Zx xs hx om) rfl rfl rfl eL ?_
 refine ZA ?_
 refine Qr (Zx ys hy om) rfl rfl rfl eL ?_
 refine xS ?_
 have ia:(Qc (val xs)).length≤68719476736:=Lt (QR xs hx) dp
 have iI:(Qc (val ys)).length≤68719476736:=Lt (QR ys hy) dU
 generalize val xs=a at ia⊢
 generalize val ys=b at iI h0⊢
 have ER:=Qp a
 have vO:=Qp b
 have rZ:=Qd a
 have zJ:=Qd b
 have vd:(Qc b).length≠0:=fun e=>h0 (Xb.1 (Lh.1 e))
 refine xG ?_
 refine QQ eE (fun hb=> ?_) (fun _=> ?_)
 ·have:=eq_of_beq hb;omega
 refine xG ?_
 refine Qr (uk (Qc a) (Qc b) ER vO ia iI) rfl rfl rfl eL ?_
 refine xS ?_
 rw [rZ,zJ]
 refine xG ?_
 refine QQ eE (fun hb=> ?_) (fun hb=> ?_)
 ·have aD:a<b:=by
   have:=of_decide_eq_true hb
   unfold Zs at this
   split at this
   ·assumption
   ·split at this<;>omega
  refine eS hC ?_
  rw [Nat.div_eq_of_lt aD,Nat.mod_eq_of_lt aD,QA]
  exact .aF ⟨.c .ab,.c QZ,.c .aN,trivial⟩
 have eu:b≤a:=by
  have:=of_decide_eq_false hb
  unfold Zs at this
  split at this
  ·omega
  ·omega
 have vv:(Qc b).length≤(Qc a).length:=QK eu
 refine xG ?_
 refine QQ eE (fun hb=> ?_) (fun hb=> ?_)
 ·have jW:(Qc b).length=1:=by have:=eq_of_beq hb;omega
  have ve:b=(Qc b).getD 0 0:=by
   match hws:Qc b,jW with
   |[w],_=>rw [hws,LI] at zJ;exact zJ.symm
  have DV:=QI vO 0
  refine xG ?_
  refine Qr (HT (Qc a) ((Qc b).getD 0 0) ER ia om DV) rfl rfl rfl eL ?_
  refine xS ?_
  rw [rZ,←ve]
  have tv:a%b<4294967296:=by have:=Nat.mod_lt a (show 0<b from by omega);omega
  refine xG ?_
  refine Qr (NJ ((a%b:Nat):Int) om om) rfl rfl rfl eL ?_
  refine JW hC ?_
  exact .aF ⟨.c QZ,.c QZ,.c .aN,trivial⟩
 have gV:(Qc b).length≠1:=fun e=>by rw [e] at hb;cases hb
 obtain⟨k,hk⟩:∃k,(Qc b).length=k+2:=⟨(Qc b).length-2,by omega⟩
 have rY:(Qc b).getD ((Qc b).length-1) 0≠0:=(Kr b).resolve_left (fun e=>by rw [e] at vd;exact vd rfl)
 have fO:=QI vO ((Qc b).length-1)
 obtain⟨hn,fW,km⟩:=QmB rY fO
 refine xG ?_
 refine Qr (Qrj _ fO) rfl rfl rfl eL ?_
 refine xS ?_
 generalize P9:32-QX ((Qc b).getD ((Qc b).length-1) 0)=n at hn fW km⊢
 refine xG ?_
 refine Qq (LH (Qc b) n vO iI hn) rfl rfl rfl (.refl _) eL ?_
 rintro r h' ⟨gv,vs,rfl,rfl,js,Rl,EP⟩ bd
 refine ZA ?_
 have eV:(Qc b).length-1=k+1:=by omega
 rw [eV] at fW km
 obtain⟨fJ,jr,eY⟩:=Qoz (n:=n) vO hk om fW km Rl om EP
 refine Qra (t:=10) (ys:=vs.take (k+2)) eE eE om (hC gv) (by simp;omega) (fun j hj=>by rw [Nz,Us om]) eE eE ?_
 refine Xa (σ':=[(0,.c (ws true (Qc a))),(9,.c (.int .i64 n)),(10,.c (ws true (vs.take (k+2)))),(59,.c (ws true (Qc a))),(60,.c (.int .i64 n))]) (h':=[]) (Sl.sub_le eB) zZ ?_
 have cS:(vs.take (k+2)).length=k+2:=by simp;omega
 have lT:∀x∈vs.take (k+2),x<4294967296:=fun x hx=>Rl x (List.mem_of_mem_take hx)
 rw [←Us (show k+1<k+2 from by omega)] at jr
 rw [zJ] at fJ eY
 generalize vs.take (k+2)=v at fJ jr cS lT⊢
 refine Qq (LH (Qc a) n ER ia hn) rfl rfl rfl (.refl _) eL ?_
 rintro r h' ⟨gu,us,rfl,rfl,il,kO,zI⟩ bd
 refine ZA ?_
 refine Xl 16 Qg kR ?_
 have fD:=QI lT (v.length-1)
 have iE:=QI lT (v.length-2)
 have e2:((v.length:Int)-2).toNat=v.length-2:=by omega
 refine yI e2 ?_
 have vM:v.length-1=k+1:=by omega
 have vN:v.length-2=k:=by omega
 rw [vM] at fD
 rw [vN] at iE
 have Pc:(((Qc a).length+1:Nat):Int)-(v.length:Int)=(((Qc a).length+1-(k+2):Nat):Int):=by omega
 rw [vM,vN,Pc]
 refine KP (n:=(Qc a).length+1-(k+2)) (c:=(Qc a).length+1-(k+2)) rfl rfl rfl Xp Xf rfl om eE eE rfl rfl om om om fun gq PW=> ?_
 rw [JC ((Qc a).length+1-(k+2))]
 have aK:¬gq=gu:=fun e=>PW (by simp [Qa.keys,e])
 have cF:¬gu=gq:=fun e=>aK e.symm
 refine xS ?_
 refine xI ?_
 have bP:=QmA (n:=n) (Yd a) (Fm h0) vv om
 rw [rZ] at zI
 rw [hk,←fJ] at bP
 rw [←zI] at bP
 rw [←fJ] at eY
 generalize (Qc a).length=la at ia vv il Pc bP⊢
 apply Zc
 generalize bT:la+1-(k+2)=lq at bP⊢
 refine Qh (fun x:Nat×List Nat×List Nat=>[(4,.c (.aO gq 1 0 lq)),(9,.c (.int .i64 n)),(10,.c (ws true v)),(11,.c (.aO gu 1 0 (la+1))),(12,.c (.int .u64 (v.getD (k+1) 0:Nat))),(13,.c (.int .u64 (v.getD k 0:Nat))),(14,.c (.int .i64 ((x.1:Int)-1)))])
  (fun x=>[(gq,.cells 180 lq (wf x.2.2)),(gu,.cells 180 (la+1) (wf x.2.1))])
  (fun x=>x.1≤lq∧x.2.1.length=la+1∧(∀y∈x.2.1,y<4294967296)∧x.2.2.length=lq∧(∀y∈x.2.2,y<4294967296)∧val x.2.1<val v*4294967296^x.1∧a*2^n=val x.2.1+val v*(4294967296^x.1*val (x.2.2.drop x.1))) (fun x=>x.1) (lq,us,List.replicate lq 0) eB zZ
  ⟨Ac _,il,kO,by simp,YG _,bP,by simp [val,zI]⟩ ?_
 clear bP zI kO il bd PW us
 rintro ⟨m,us,qs⟩ ⟨hm,il,kO,fk,rR,aD,hA⟩
 dsimp only at hm il kO fk rR aD hA⊢
 refine xI ?_
 refine QQ eE (fun hb=> ?_) (fun hb=> ?_)
 ·have tu:1≤m:=dT hb
  obtain⟨j,rfl⟩:∃j,m=j+1:=⟨m-1,by omega⟩
  have Dv:((j+1:Nat):Int)-1=(j:Int):=by omega
  rw [Dv]
  have th:j+(k+2)+1≤us.length:=by omega
  obtain⟨w1,w2,w3,w4⟩:=QtW (V:=val v) kO th eY aD
  have hWl:((us.drop j).take (k+2+1)).length=k+3:=by simp;omega
  have hWw:∀x∈(us.drop j).take (k+2+1),x<4294967296:=fun x hx=>kO x (List.mem_of_mem_drop (List.mem_of_mem_take hx))
  have t3:=Qwy hWl
  rw [Bg om,Bg om,Bg om] at t3
  have RO:=XF _ hWw k om
  have t2:=Qwx cS
  have E9:=XF _ lT k om
  have PX:=Qrm t2 iE E9 t3 w4
  have Rn:=QI kO (j+(k+2))
  have r8:=QI kO (j+(k+1))
  have cZ:=QI kO (j+k)
  have cV:0<val v:=by rw [fJ];exact Nat.mul_pos (Nat.pos_of_ne_zero h0) (Nat.two_pow_pos n)
  have e3:((j:Int)+((k+2:Nat):Int)-1).toNat=j+(k+1):=by omega
  have e4:((j:Int)+((k+2:Nat):Int)-2).toNat=j+k:=by omega
  have e5:((j:Int)+((k+2:Nat):Int)+1).toNat=j+(k+3):=by omega
  apply xz
  apply X5
  apply Zc
  apply X5
  refine Xl 20 Qg kR ?_
  refine yI (oj cS (oj e3 (oj e4 (oj e5 (oj aK (oj cF @Nat.add_sub_cancel_left)))))) ?_
  rw [Vo _ Rn,O0 _ _ Rn r8]
  have zq:kS (us.getD (j+(k+2)) 0) (us.getD (j+(k+1)) 0)<18446744073709551616:=by unfold kS;omega
  have PY:kS (us.getD (j+(k+2)) 0) (us.getD (j+(k+1)) 0)≤v.getD (k+1) 0*4294967296+us.getD (j+(k+1)) 0:=by unfold kS;omega
  replace t3:val ((us.drop j).take (k+2+1))=(kS (us.getD (j+(k+2)) 0) (us.getD (j+(k+1)) 0)*4294967296+us.getD (j+k) 0)*4294967296^k+val (((us.drop j).take (k+2+1)).take k):=t3
  generalize kS (us.getD (j+(k+2)) 0) (us.getD (j+(k+1)) 0)=hd at t3 zq PY⊢
  have gs:=SM t2 om t3 cZ RO
  generalize hWv:val ((us.drop j).take (k+2+1))=W at t3 gs w1 w4
  have hhq:hd/v.getD (k+1) 0*v.getD (k+1) 0+hd%v.getD (k+1) 0=hd:=by rw [Nc];exact Nat.div_add_mod _ _
  have hhr:hd%v.getD (k+1) 0<v.getD (k+1) 0:=Nat.mod_lt _ om
  refine Xl 8 Qg kR ?_
  have J1:=oj cS (oj e3 (oj e4 (oj e5 (oj aK (oj cF @Nat.add_sub_cancel_left)))))
  refine yI J1 ?_
  rw [Ca _ _ zq,Cb]
  refine Xa (σ':=[(4,.c (.aO gq 1 0 lq)),(9,.c (.int .i64 n)),(10,.c (ws true v)),(11,.c (.aO gu 1 0 (la+1))),(12,.c (.int .u64 (v.getD (k+1) 0:Nat))),(13,.c (.int .u64 (v.getD k 0:Nat))),(14,.c (.int .i64 j)),(16,.c (.int .u64 (hd/v.getD (k+1) 0:Nat))),(17,.c (.int .u64 (hd%v.getD (k+1) 0:Nat)))]) (h':=[(gq,.cells 180 lq (wf qs)),(gu,.cells 180 (la+1) (wf us))]) (Sl.sub_le (zB J1)) zZ ?_
  refine Ym (fun g:Nat=>[(4,.c (.aO gq 1 0 lq)),(9,.c (.int .i64 n)),(10,.c (ws true v)),(11,.c (.aO gu 1 0 (la+1))),(12,.c (.int .u64 (v.getD (k+1) 0:Nat))),(13,.c (.int .u64 (v.getD k 0:Nat))),(14,.c (.int .i64 j)),(16,.c (.int .u64 g))]) (fun _=>[(gq,.cells 180 lq (wf qs)),(gu,.cells 180 (la+1) (wf us))]) (fun g=>W/val v≤g∧g*val v<W+val v∧g<4294967296) ?_ ?_
  ·apply Zc
   refine Qh (fun x:Nat×Nat=>[(4,.c (.aO gq 1 0 lq)),(9,.c (.int .i64 n)),(10,.c (ws true v)),(11,.c (.aO gu 1 0 (la+1))),(12,.c (.int .u64 (v.getD (k+1) 0:Nat))),(13,.c (.int .u64 (v.getD k 0:Nat))),(14,.c (.int .i64 j)),(16,.c (.int .u64 x.1)),(17,.c (.int .u64 x.2))]) (fun _=>[(gq,.cells 180 lq (wf qs)),(gu,.cells 180 (la+1) (wf us))])
    (fun x=>W/val v≤x.1∧x.1*v.getD (k+1) 0+x.2=hd∧x.2<4294967296) (fun x=>x.1) (hd/v.getD (k+1) 0,hd%v.getD (k+1) 0) (zB (oj cS (oj e3 (oj e4 (oj e5 (oj aK (oj cF @Nat.add_sub_cancel_left))))))) zZ ⟨gs,hhq,by dsimp only;omega⟩ ?_
   rintro ⟨g,rest⟩ ⟨jU,kg,vn⟩
   dsimp only at jU kg vn⊢
   apply X5
   apply X5
   refine Ym (fun tt:Bool=>[(4,.c (.aO gq 1 0 lq)),(9,.c (.int .i64 n)),(10,.c (ws true v)),(11,.c (.aO gu 1 0 (la+1))),(12,.c (.int .u64 (v.getD (k+1) 0:Nat))),(13,.c (.int .u64 (v.getD k 0:Nat))),(14,.c (.int .i64 j)),(16,.c (.int .u64 g)),(17,.c (.int .u64 rest)),(133,.c (.bool tt))]) (fun _=>[(gq,.cells 180 lq (wf qs)),(gu,.cells 180 (la+1) (wf us))])
    (fun tt=>(tt=true→W/val v<g)∧(tt=false→g<4294967296∧g*v.getD k 0≤rest*4294967296+us.getD (j+k) 0)) ?_ ?_
   ·by_cases PT:g<4294967296
    ·have rr:decide ((g:Int)≥4294967296)=false:=by simp;omega
     have P7:=Ut PT iE
     have J2:=oj cS (oj e3 (oj e4 (oj e5 (oj aK (oj cF (oj @Nat.add_sub_cancel_left rr))))))
     refine yI J2 ?_
     rw [Vo _ vn,O0 _ _ vn cZ]
     refine Qb ⟨_,(zB J2),zZ,fun h=> ?_,fun h=>⟨PT,?_⟩⟩
     ·have:=of_decide_eq_true h
      unfold kS at this
      have El:=TG (D:=4294967296^k) (V:=val v) (v2:=v.getD k 0) (by rw [t2];exact Nat.le_add_right _ _) t3 RO kg (by rw [←Int.natCast_mul] at this;omega)
      exact(Nat.div_lt_iff_lt_mul cV).2 El
     ·have:=of_decide_eq_false h
      unfold kS at this
      rw [←Int.natCast_mul] at this
      omega
    ·have rr:decide ((g:Int)≥4294967296)=true:=by simp;omega
     have J3:=oj cS (oj e3 (oj e4 (oj e5 (oj aK (oj cF (oj @Nat.add_sub_cancel_left rr))))))
     refine yI J3 ?_
     refine Qb ⟨true,(zB J3),zZ,fun _=> ?_,fun h=>by cases h⟩
     have:W/val v<4294967296:=(Nat.div_lt_iff_lt_mul cV).2 (by rw [Nc];exact w4)
     omega
   ·rintro tt ⟨htt,htf⟩
    refine QQ (zE (oj cS (oj e3 (oj e4 (oj e5 (oj aK (oj cF @Nat.add_sub_cancel_left))))))) (fun h=> ?_) (fun h=> ?_)
    ·have fV:=htt h
     have pQ:0<g:=Nat.lt_of_le_of_lt (Lz _) fV
     have hgle:g≤g*v.getD (k+1) 0:=Nat.le_mul_of_pos_right g om
     have gU:(g-1)*v.getD (k+1) 0+(rest+v.getD (k+1) 0)=hd:=by
      obtain⟨g',rfl⟩:∃g',g=g'+1:=⟨g-1,by omega⟩
      rw [Nat.add_mul,Nat.one_mul] at kg
      simp only [Nat.add_sub_cancel]
      omega
     refine yG (oj cS (oj e3 (oj e4 (oj e5 (oj aK (oj cF @Nat.add_sub_cancel_left)))))) ?_
     have eg:(g:Int)-1=((g-1:Nat):Int):=by omega
     have er:(rest:Int)+((v.getD (k+1) 0:Nat):Int)=((rest+v.getD (k+1) 0:Nat):Int):=by omega
     rw [eg,er]
     refine QQ (zE (oj cS (oj e3 (oj e4 (oj e5 (oj aK (oj cF @Nat.add_sub_cancel_left))))))) (fun h=> ?_) (fun h=> ?_)
     ·have hr:=of_decide_eq_true h
      have J4:=oj cS (oj e3 (oj e4 (oj e5 (oj aK (oj cF @Nat.add_sub_cancel_left)))))
      refine yI J4 ?_
      have vp:=SL PY r8 gU om
      refine Qb ⟨g-1,(zB J4),zZ,by omega,?_,vp⟩
      refine HV t2 E9 om t3 gU vp ?_
      have m1:=Ut vp iE
      have m2:4294967296*4294967296≤(rest+v.getD (k+1) 0)*4294967296:=Nm _ om
      omega
     ·have hr:=of_decide_eq_false h
      have J5:=oj cS (oj e3 (oj e4 (oj e5 (oj aK (oj cF @Nat.add_sub_cancel_left)))))
      refine yI J5 ?_
      refine Qb ⟨(g-1,rest+v.getD (k+1) 0),by dsimp only;omega,(zB J5),zZ,by dsimp only;omega,gU,by dsimp only;omega⟩
    ·obtain⟨vk,tk⟩:=htf h
     have J6:=oj cS (oj e3 (oj e4 (oj e5 (oj aK (oj cF @Nat.add_sub_cancel_left)))))
     refine yI J6 ?_
     exact Qb ⟨g,(zB J6),zZ,jU,HV t2 E9 om t3 kg vk tk,vk⟩
  ·rintro g ⟨jU,kg,vn⟩
   have mT:W/val v<4294967296:=(Nat.div_lt_iff_lt_mul cV).2 (by rw [Nc];exact w4)
   apply X5
   refine Ym (fun zs:List Nat=>[(4,.c (.aO gq 1 0 lq)),(9,.c (.int .i64 n)),(10,.c (ws true v)),(11,.c (.aO gu 1 0 (la+1))),(12,.c (.int .u64 (v.getD (k+1) 0:Nat))),(13,.c (.int .u64 (v.getD k 0:Nat))),(14,.c (.int .i64 j)),(16,.c (.int .u64 (W/val v:Nat)))]) (fun zs=>[(gu,.cells 180 (la+1) (wf (OF us j zs))),(gq,.cells 180 lq (wf qs))])
    (fun zs=>zs.length=k+3∧(∀y∈zs,y<4294967296)∧val zs+(W/val v)*val v=W∧val zs<val v) ?_ ?_
   ·have J7:=oj cS (oj e3 (oj e4 (oj e5 (oj aK (oj cF @Nat.add_sub_cancel_left)))))
    refine yI J7 ?_
    have tf:=Qrh gu j (k+3) g us _ v rfl om kO lT om vn om
    rw [il] at tf
    refine Qq tf rfl rfl rfl (.swap _ _ []) (zL J7) ?_
    rintro r h' ⟨bb,zs,rfl,rfl,aY,vT,cY,fQ⟩ bd
    rw [hWv] at fQ
    have vS:=Z0 zs vT
    rw [aY] at vS
    refine yS J7 ?_
    refine yI J7 ?_
    refine QQ (zE J7) (fun h=> ?_) (fun h=> ?_)
    ·have DU:bb=1:=by have:=eq_of_beq h;omega
     subst DU
     have pQ:1≤g:=by
      rcases Nat.eq_zero_or_pos g with e|e
      ·exfalso;rw [e,Nat.zero_mul] at fQ;omega
      ·exact e
     refine yI (oj cS (oj e3 (oj e4 (oj e5 (oj aK (oj cF @Nat.add_sub_cancel_left)))))) ?_
     have eg:(g:Int)-1=((g-1:Nat):Int):=by omega
     rw [eg]
     have ET:(OF us j zs).length=la+1:=by rw [U4 om,il]
     have gf:=Qri gu j (k+3) (OF us j zs) zs v (TI om aY) om (Ng kO vT) lT om om
     rw [ET] at gf
     refine Qq gf rfl rfl rfl (.refl _) (zL (oj cS (oj e3 (oj e4 (oj e5 (oj aK (oj cF @Nat.add_sub_cancel_left))))))) ?_
     rintro r h' ⟨cc,qo,rfl,rfl,vR,vU,EZ⟩ bd
     have qf:=Z0 qo vU
     rw [vR] at qf
     have PC:val v≤4294967296^(k+3):=by
      rw [Nat.pow_succ]
      omega
     obtain⟨d1,d2,d3,d4⟩:=TJ cV PC jU kg vS qf fQ EZ
     rw [Qrl om om,d4]
     have J8:=oj cS (oj e3 (oj e4 (oj e5 (oj aK (oj cF @Nat.add_sub_cancel_left)))))
     refine yS J8 ?_
     refine yI J8 ?_
     exact Qb ⟨qo,(zB J8),zZ,vR,vU,d2,d3⟩
    ·have cQ:bb=0:=by
      have:¬((bb:Int)=1):=fun e=>by rw [e] at h;cases h
      omega
     subst cQ
     obtain⟨d1,d2,d3⟩:=Qoy cV jU kg fQ
     subst d3
     have J9:=oj cS (oj e3 (oj e4 (oj e5 (oj aK (oj cF @Nat.add_sub_cancel_left)))))
     refine yI J9 ?_
     exact Qb ⟨zs,(zB J9),zZ,aY,vT,d1,d2⟩
   ·rintro zs ⟨aY,vT,hz1,Rt⟩
    refine yI (oj cS (oj e3 (oj e4 (oj e5 (oj aK (oj cF @Nat.add_sub_cancel_left)))))) ?_
    rw [QL,Nat.mod_eq_of_lt mT]
    have dB:=oj cS (oj e3 (oj e4 (oj e5 (oj aK (oj cF @Nat.add_sub_cancel_left)))))
    refine yW dB ?_
    refine yS dB ?_
    rw [ZO om]
    refine Qj (.swap _ _ []) ?_
    refine yI dB ?_
    have Rp:val (OF us j zs)=val (us.take j)+4294967296^j*val zs:=by
     rw [Qrg om,aY,w3,Nat.mul_zero,Nat.add_zero]
    have mK:=BM (zs:=qs) (i:=j) (v:=W/val v) om
    have hpw:4294967296^(j+1)=4294967296^j*4294967296:=Nat.pow_succ ..
    rw [hpw] at hA
    obtain⟨s1,s2⟩:=Qox (A:=a*2^n) w1 w2 hz1 Rt hA rfl
    refine Qb ⟨(j,OF us j zs,qs.set j (W/val v)),by dsimp only;omega,(zB (oj cS (oj e3 (oj e4 (oj e5 (oj aK (oj cF @Nat.add_sub_cancel_left))))))),zZ,by dsimp only;omega,by rw [U4 om];exact il,Ng kO vT,by simpa using fk,KD rR mT,?_,?_⟩
    ·dsimp only;rw [Rp];exact s1
    ·dsimp only;rw [Rp,mK,val];exact s2
 ·have ie:m=0:=dF hb
  subst ie
  simp only [Nat.pow_zero,Ad,Nat.one_mul,List.drop_zero] at aD hA
  rw [fJ] at aD hA
  obtain⟨hq,hr⟩:=Qrn (Nat.pos_of_ne_zero h0) aD hA
  have cD:=oj aK cF
  refine yG cD ?_
  refine Qr (Zx qs rR om) rfl rfl rfl (by refine yS cD ?_;exact .c (Yi (zE cD) om om (fun j _=>by rw [Nz];rfl))) ?_
  refine Xw cD ?_
  refine Qr (Qov us n kO om hn) rfl rfl rfl (by refine yS cD ?_;exact⟨.c (Yi (zE cD) om om (fun j _=>by rw [Nz];rfl)),.c (.refl _)⟩) ?_
  refine Xw cD ?_
  refine Qr (Zx (jf n us) (Nf n us) (by rw [Ka];omega)) rfl rfl rfl (zL cD) ?_
  refine mc hC cD ?_
  rw [LF om us kO,hr,hq]
  exact .aF ⟨.c QZ,.c QZ,.c .aN,trivial⟩
theorem M4 (xs ys:List Nat) (hx:∀x∈xs,x<4294967296) (hy:∀x∈ys,x<4294967296) (dp:xs.length≤68719476736) (dU:ys.length≤68719476736):
  Fa prog 284 [.c (ws false xs),.c (ws false ys)] (.c (ws true (Qc (Nat.gcd (val xs) (val ys))))):=by
 refine fA func284 fun C hC=>?_
 refine xG ?_
 refine Qr (Zx xs hx om) rfl rfl rfl eL ?_
 refine ZA ?_
 refine Qr (Zx ys hy om) rfl rfl rfl eL ?_
 refine xS ?_
 have ia:(Qc (val xs)).length≤68719476736:=Lt (QR xs hx) dp
 have iI:(Qc (val ys)).length≤68719476736:=Lt (QR ys hy) dU
 refine xI ?_
 apply Zc
 refine Qh (fun x:Nat×Nat=>[(0,.c (ws true (Qc x.1))),(1,.c (ws true (Qc x.2)))]) (fun _=>[]) (fun x=>(Qc x.1).length≤68719476736∧(Qc x.2).length≤68719476736∧Nat.gcd x.1 x.2=Nat.gcd (val xs) (val ys)) (fun x=>x.2) (val xs,val ys) eB zZ ⟨ia,iI,rfl⟩ ?_
 rintro ⟨a,b⟩ ⟨ia,iI,hg⟩
 dsimp only at ia iI hg⊢
 refine xG ?_
 refine QQ eE (fun hb=> ?_) (fun hb=> ?_)
 ·have cQ:b≠0:=fun e=>by have:=of_decide_eq_true hb;rw [e,QA] at this;simp at this
  refine xG ?_
  refine Qr (M3 (Qc a) (Qc b) (Qp a) (Qp b) ia iI (by rw [Qd];exact cQ)) rfl rfl rfl eL ?_
  rw [Qd,Qd]
  refine ZA ?_
  have aD:a%b<b:=Nat.mod_lt _ (Nat.pos_of_ne_zero cQ)
  refine Qb ⟨(b,a%b),aD,eB,zZ,iI,Lt (QK (Ll aD)) iI,?_⟩
  dsimp only
  rw [←hg,Nat.gcd_comm a b,Nat.gcd_rec b a,Nat.gcd_comm]
 ·have cQ:b=0:=by
   have:=of_decide_eq_false hb
   exact Xb.1 (Lh.1 om)
  subst cQ
  refine eS hC ?_
  rw [←hg,Nat.gcd_zero_right]
  exact .one (.c QZ)
end Go.Proofs.YtjegkdadeghpjaaGreatDoor
namespace Go.Proofs.YtjegkdadeghpjaaGreatDoor
open Go.AI Tryz
@[go_sem] theorem wX:Qk prog 3=some [.int .i64 0]:=by kernel_rfl
@[go_sem] theorem ZS:Qk prog 9=some [.str ⟨#[]⟩]:=by kernel_rfl
@[go_sem] theorem Qwp:XC prog 2=some (false,1)∧ji prog 2=some (.i64,0)∧ZC prog 2=some .i64∧Qk prog 2=some [.int .i64 0]∧XC prog 3=some (false,1)∧ji prog 3=some (.i64,0)∧ZC prog 3=some .i64∧XC prog 4=some (false,1)∧o8 prog 4=true∧Qk prog 4=some [.bool false]∧XC prog 5=some (false,1)∧ji prog 5=some (.u8,0)∧ZC prog 5=some .u8∧Qk prog 5=some [.int .u8 0]∧XC prog 6=some (false,1)∧ji prog 6=some (.u8,0)∧ZC prog 6=some .u8∧Qk prog 6=some [.int .u8 0]∧XC prog 7=some (true,4)∧Q8 prog 7=some [(0,1),(1,1),(2,1),(3,1)]∧Qo prog 7 0=some 0∧Qo prog 7 1=some 1∧Qo prog 7 2=some 2∧Qo prog 7 3=some 3∧Qk prog 7=some [.int .i64 0,.int .i64 0,.bool false,.int .u8 0]∧XC prog 8=some (true,4)∧Q8 prog 8=some [(0,1),(1,1),(2,1),(3,1)]∧Qo prog 8 0=some 0∧Qo prog 8 1=some 1∧Qo prog 8 2=some 2∧Qo prog 8 3=some 3∧Qk prog 8=some [.int .i64 0,.int .i64 0,.bool false,.int .u8 0]∧XC prog 9=some (false,1)∧lA prog 9=true∧XC prog 10=some (false,1)∧lA prog 10=true∧Qk prog 10=some [.str ⟨#[]⟩]∧XC prog 11=some (false,1)∧lA prog 11=true∧Qk prog 11=some [.str ⟨#[]⟩]∧XC prog 12=some (false,1)∧ji prog 12=some (.u64,0)∧ZC prog 12=some .u64∧Qk prog 12=some [.int .u64 0]∧XC prog 13=some (true,2)∧Q8 prog 13=some [(0,1),(1,1)]∧Qo prog 13 0=some 0∧Qo prog 13 1=some 1∧Qk prog 13=some [.str ⟨#[]⟩,.int .u64 0]:=by and_intros<;>kernel_rfl
@[go_sem] theorem Qvo:XC prog 14=some (true,2)∧Q8 prog 14=some [(0,1),(1,1)]∧Qo prog 14 0=some 0∧Qo prog 14 1=some 1∧Qk prog 14=some [.str ⟨#[]⟩,.int .u64 0]∧XC prog 15=some (false,1)∧Qk prog 15=some [.raw (.pointer none)]∧XC prog 16=some (false,1)∧Qk prog 16=some [.raw (.pointer none)]∧XC prog 17=some (false,1)∧Qk prog 17=some [.raw (.pointer none)]∧XC prog 18=some (true,1)∧Q8 prog 18=some [(0,1)]∧Qo prog 18 0=some 0∧Qk prog 18=some [.raw (.pointer none)]∧XC prog 19=some (true,1)∧Q8 prog 19=some [(0,1)]∧Qo prog 19 0=some 0∧Qk prog 19=some [.raw (.pointer none)]∧XC prog 20=some (false,1)∧OQ prog 20=true∧Qk prog 20=some [.aN]∧XC prog 21=some (false,1)∧ji prog 21=some (.i32,0)∧ZC prog 21=some .i32∧Qk prog 21=some [.int .i32 0]∧QP prog 22=some (45,8,176)∧XC prog 22=some (false,1)∧Qk prog 22=some [.ab]∧QP prog 23=some (37,4,40)∧XC prog 23=some (false,1)∧Qk prog 23=some [.ab]∧XC prog 26=some (false,1)∧Qk prog 26=some [.raw (.pointer none)]∧XC prog 27=some (false,1)∧OQ prog 27=true∧Qk prog 27=some [.aN]:=by and_intros<;>kernel_rfl
@[go_sem] theorem QoG:QP prog 39=some (103,2,24):=by kernel_rfl
@[go_sem] theorem Qvp:XC prog 28=some (false,1)∧OQ prog 28=true∧Qk prog 28=some [.aN]∧XC prog 32=some (false,1)∧ji prog 32=some (.i64,0)∧ZC prog 32=some .i64∧Qk prog 32=some [.int .i64 0]∧QP prog 33=some (95,3,48)∧XC prog 33=some (false,1)∧Qk prog 33=some [.ab]∧XC prog 34=some (true,2)∧Q8 prog 34=some [(0,1),(1,1)]∧Qo prog 34 0=some 0∧Qo prog 34 1=some 1∧Qk prog 34=some [.int .i64 0,.ab]∧XC prog 35=some (true,2)∧Q8 prog 35=some [(0,1),(1,1)]∧Qo prog 35 0=some 0∧Qo prog 35 1=some 1∧Qk prog 35=some [.int .i64 0,.ab]∧XC prog 36=some (true,4)∧Q8 prog 36=some [(0,1),(1,1),(2,1),(3,1)]∧Qo prog 36 0=some 0∧Qo prog 36 1=some 1∧Qo prog 36 2=some 2∧Qo prog 36 3=some 3∧Qk prog 36=some [.int .u8 0,.int .u8 0,.str ⟨#[]⟩,.str ⟨#[]⟩]∧XC prog 37=some (true,4)∧Q8 prog 37=some [(0,1),(1,1),(2,1),(3,1)]∧Qo prog 37 0=some 0∧Qo prog 37 1=some 1∧Qo prog 37 2=some 2∧Qo prog 37 3=some 3∧Qk prog 37=some [.int .u8 0,.int .u8 0,.str ⟨#[]⟩,.str ⟨#[]⟩]∧QP prog 38=some (101,11,192)∧XC prog 38=some (false,1)∧Qk prog 38=some [.ab]∧XC prog 39=some (false,1)∧Qk prog 39=some [.ab]∧QP prog 40=some (71,7,112)∧XC prog 40=some (false,1)∧Qk prog 40=some [.ab]∧QP prog 41=some (105,3,56)∧XC prog 41=some (false,1)∧Qk prog 41=some [.ab]∧QP prog 42=some (108,4,72)∧XC prog 42=some (false,1)∧Qk prog 42=some [.ab]:=by and_intros<;>kernel_rfl
@[go_sem] theorem Qvq:QP prog 62=some (80,1,8):=by kernel_rfl
@[go_sem] theorem XY:QP prog 66=some (9,1,16):=by kernel_rfl
@[go_sem] theorem Qvr:Qk prog 80=some [.int .u64 0]:=by kernel_rfl
@[go_sem] theorem Qvs:QP prog 43=some (112,3,56)∧XC prog 43=some (false,1)∧Qk prog 43=some [.ab]∧XC prog 44=some (true,8)∧Q8 prog 44=some [(0,1),(1,1),(2,1),(3,1),(4,1),(5,1),(6,1),(7,1)]∧Qo prog 44 0=some 0∧Qo prog 44 1=some 1∧Qo prog 44 2=some 2∧Qo prog 44 3=some 3∧Qo prog 44 4=some 4∧Qo prog 44 5=some 5∧Qo prog 44 6=some 6∧Qo prog 44 7=some 7∧Qk prog 44=some [.str ⟨#[]⟩,.str ⟨#[]⟩,.ab,.ab,.ab,.ab,.ab,.ab]∧XC prog 45=some (true,8)∧Q8 prog 45=some [(0,1),(1,1),(2,1),(3,1),(4,1),(5,1),(6,1),(7,1)]∧Qo prog 45 0=some 0∧Qo prog 45 1=some 1∧Qo prog 45 2=some 2∧Qo prog 45 3=some 3∧Qo prog 45 4=some 4∧Qo prog 45 5=some 5∧Qo prog 45 6=some 6∧Qo prog 45 7=some 7∧Qk prog 45=some [.str ⟨#[]⟩,.str ⟨#[]⟩,.ab,.ab,.ab,.ab,.ab,.ab]∧XC prog 62=some (false,1)∧Qk prog 62=some [.ab]∧XC prog 66=some (false,1)∧Qk prog 66=some [.ab]∧QP prog 67=some (180,1,4)∧XC prog 67=some (false,1)∧Qk prog 67=some [.ab]∧XC prog 68=some (true,3)∧Q8 prog 68=some [(0,1),(1,1),(2,1)]∧Qo prog 68 0=some 0∧Qo prog 68 1=some 1∧Qo prog 68 2=some 2∧Qk prog 68=some [.bool false,.ab,.ab]∧XC prog 69=some (true,3)∧Q8 prog 69=some [(0,1),(1,1),(2,1)]∧Qo prog 69 0=some 0∧Qo prog 69 1=some 1∧Qo prog 69 2=some 2∧Qk prog 69=some [.bool false,.ab,.ab]∧XC prog 70=some (true,7)∧Q8 prog 70=some [(0,1),(1,1),(2,1),(3,1),(4,3)]∧Qo prog 70 0=some 0∧Qo prog 70 1=some 1∧Qo prog 70 2=some 2∧Qo prog 70 3=some 3∧Qo prog 70 4=some 4∧Qk prog 70=some [.str ⟨#[]⟩,.int .i64 0,.int .i64 0,.ab,.bool false,.ab,.ab]∧XC prog 71=some (true,7)∧Q8 prog 71=some [(0,1),(1,1),(2,1),(3,1),(4,3)]∧Qo prog 71 0=some 0∧Qo prog 71 1=some 1∧Qo prog 71 2=some 2∧Qo prog 71 3=some 3∧Qo prog 71 4=some 4∧Qk prog 71=some [.str ⟨#[]⟩,.int .i64 0,.int .i64 0,.ab,.bool false,.ab,.ab]∧XC prog 80=some (false,1)∧ji prog 80=some (.u64,0)∧ZC prog 80=some .u64∧XC prog 82=some (false,1)∧Qk prog 82=some [.raw (.map none)]:=by and_intros<;>kernel_rfl
@[go_sem] theorem Kt:QP prog 98=some (3,1,8):=by kernel_rfl
@[go_sem] theorem QmC:Qk prog 103=some [.str ⟨#[]⟩,.bool false]:=by kernel_rfl
@[go_sem] theorem Qvt:XC prog 83=some (true,2)∧Q8 prog 83=some [(0,1),(1,1)]∧Qo prog 83 0=some 0∧Qo prog 83 1=some 1∧Qk prog 83=some [.int .i64 0,.raw (.map none)]∧XC prog 84=some (true,2)∧Q8 prog 84=some [(0,1),(1,1)]∧Qo prog 84 0=some 0∧Qo prog 84 1=some 1∧Qk prog 84=some [.int .i64 0,.raw (.map none)]∧XC prog 89=some (true,2)∧Q8 prog 89=some [(0,1),(1,1)]∧Qo prog 89 0=some 0∧Qo prog 89 1=some 1∧Qk prog 89=some [.str ⟨#[]⟩,.str ⟨#[]⟩]∧XC prog 90=some (true,2)∧Q8 prog 90=some [(0,1),(1,1)]∧Qo prog 90 0=some 0∧Qo prog 90 1=some 1∧Qk prog 90=some [.str ⟨#[]⟩,.str ⟨#[]⟩]∧XC prog 94=some (true,3)∧Q8 prog 94=some [(0,1),(1,1),(2,1)]∧Qo prog 94 0=some 0∧Qo prog 94 1=some 1∧Qo prog 94 2=some 2∧Qk prog 94=some [.str ⟨#[]⟩,.str ⟨#[]⟩,.str ⟨#[]⟩]∧XC prog 95=some (true,3)∧Q8 prog 95=some [(0,1),(1,1),(2,1)]∧Qo prog 95 0=some 0∧Qo prog 95 1=some 1∧Qo prog 95 2=some 2∧Qk prog 95=some [.str ⟨#[]⟩,.str ⟨#[]⟩,.str ⟨#[]⟩]∧XC prog 98=some (false,1)∧Qk prog 98=some [.ab]∧XC prog 100=some (true,11)∧Q8 prog 100=some [(0,1),(1,3),(4,3),(7,3),(10,1)]∧Qo prog 100 0=some 0∧Qo prog 100 1=some 1∧Qo prog 100 2=some 4∧Qo prog 100 3=some 7∧Qo prog 100 4=some 10∧Qk prog 100=some [.str ⟨#[]⟩,.bool false,.ab,.ab,.bool false,.ab,.ab,.bool false,.ab,.ab,.int .i64 0]∧XC prog 101=some (true,11)∧Q8 prog 101=some [(0,1),(1,3),(4,3),(7,3),(10,1)]∧Qo prog 101 0=some 0∧Qo prog 101 1=some 1∧Qo prog 101 2=some 4∧Qo prog 101 3=some 7∧Qo prog 101 4=some 10∧Qk prog 101=some [.str ⟨#[]⟩,.bool false,.ab,.ab,.bool false,.ab,.ab,.bool false,.ab,.ab,.int .i64 0]∧XC prog 102=some (true,2)∧Q8 prog 102=some [(0,1),(1,1)]∧Qo prog 102 0=some 0∧Qo prog 102 1=some 1∧Qk prog 102=some [.str ⟨#[]⟩,.bool false]∧XC prog 103=some (true,2)∧Q8 prog 103=some [(0,1),(1,1)]∧Qo prog 103 0=some 0∧Qo prog 103 1=some 1∧XC prog 104=some (true,3)∧Q8 prog 104=some [(0,1),(1,1),(2,1)]∧Qo prog 104 0=some 0∧Qo prog 104 1=some 1∧Qo prog 104 2=some 2∧Qk prog 104=some [.str ⟨#[]⟩,.str ⟨#[]⟩,.ab]:=by and_intros<;>kernel_rfl
@[go_sem] theorem Qu3:XC prog 105=some (true,3)∧Q8 prog 105=some [(0,1),(1,1),(2,1)]∧Qo prog 105 0=some 0∧Qo prog 105 1=some 1∧Qo prog 105 2=some 2∧Qk prog 105=some [.str ⟨#[]⟩,.str ⟨#[]⟩,.ab]∧QP prog 106=some (69,3,56)∧XC prog 106=some (false,1)∧Qk prog 106=some [.ab]∧XC prog 107=some (true,4)∧Q8 prog 107=some [(0,1),(1,1),(2,1),(3,1)]∧Qo prog 107 0=some 0∧Qo prog 107 1=some 1∧Qo prog 107 2=some 2∧Qo prog 107 3=some 3∧Qk prog 107=some [.str ⟨#[]⟩,.int .i64 0,.ab,.ab]∧XC prog 108=some (true,4)∧Q8 prog 108=some [(0,1),(1,1),(2,1),(3,1)]∧Qo prog 108 0=some 0∧Qo prog 108 1=some 1∧Qo prog 108 2=some 2∧Qo prog 108 3=some 3∧Qk prog 108=some [.str ⟨#[]⟩,.int .i64 0,.ab,.ab]∧QP prog 110=some (114,4,72)∧XC prog 110=some (false,1)∧Qk prog 110=some [.ab]∧XC prog 111=some (true,3)∧Q8 prog 111=some [(0,1),(1,1),(2,1)]∧Qo prog 111 0=some 0∧Qo prog 111 1=some 1∧Qo prog 111 2=some 2∧Qk prog 111=some [.str ⟨#[]⟩,.str ⟨#[]⟩,.ab]∧XC prog 112=some (true,3)∧Q8 prog 112=some [(0,1),(1,1),(2,1)]∧Qo prog 112 0=some 0∧Qo prog 112 1=some 1∧Qo prog 112 2=some 2∧Qk prog 112=some [.str ⟨#[]⟩,.str ⟨#[]⟩,.ab]∧XC prog 113=some (true,4)∧Q8 prog 113=some [(0,1),(1,3)]∧Qo prog 113 0=some 0∧Qo prog 113 1=some 1∧Qk prog 113=some [.str ⟨#[]⟩,.bool false,.ab,.ab]∧XC prog 114=some (true,4)∧Q8 prog 114=some [(0,1),(1,3)]∧Qo prog 114 0=some 0∧Qo prog 114 1=some 1∧Qk prog 114=some [.str ⟨#[]⟩,.bool false,.ab,.ab]∧XC prog 141=some (true,4)∧Qk prog 141=some [.ab,.ab,.ab,.ab]∧QP prog 149=some (98,1,24)∧XC prog 149=some (false,1)∧Qk prog 149=some [.ab]∧QP prog 151=some (4,1,1)∧XC prog 151=some (false,1)∧Qk prog 151=some [.ab]:=by and_intros<;>kernel_rfl
@[go_sem] theorem VD:QP prog 168=some (5,1,1):=by kernel_rfl
@[go_sem] theorem Qu4:XC prog 154=some (false,1)∧ji prog 154=some (.u64,0)∧ZC prog 154=some .u64∧Qk prog 154=some [.int .u64 0]∧XC prog 155=some (false,1)∧Qk prog 155=some [.raw (.pointer none)]∧QP prog 160=some (218,5,48)∧XC prog 160=some (false,1)∧Qk prog 160=some [.ab]∧XC prog 161=some (true,3)∧Q8 prog 161=some [(0,1),(1,1),(2,1)]∧Qo prog 161 0=some 0∧Qo prog 161 1=some 1∧Qo prog 161 2=some 2∧Qk prog 161=some [.ab,.int .i64 0,.aN]∧XC prog 162=some (true,3)∧Q8 prog 162=some [(0,1),(1,1),(2,1)]∧Qo prog 162 0=some 0∧Qo prog 162 1=some 1∧Qo prog 162 2=some 2∧Qk prog 162=some [.ab,.int .i64 0,.aN]∧XC prog 164=some (false,1)∧Qk prog 164=some [.raw (.pointer none)]∧XC prog 166=some (false,1)∧Qk prog 166=some [.raw (.pointer none)]∧XC prog 167=some (false,1)∧Qk prog 167=some [.raw (.pointer none)]∧XC prog 168=some (false,1)∧Qk prog 168=some [.ab]∧XC prog 169=some (true,2)∧Q8 prog 169=some [(0,1),(1,1)]∧Qo prog 169 0=some 0∧Qo prog 169 1=some 1∧Qk prog 169=some [.raw (.pointer none),.ab]∧XC prog 170=some (true,2)∧Q8 prog 170=some [(0,1),(1,1)]∧Qo prog 170 0=some 0∧Qo prog 170 1=some 1∧Qk prog 170=some [.raw (.pointer none),.ab]∧XC prog 171=some (true,3)∧Q8 prog 171=some [(0,2),(2,1)]∧Qo prog 171 0=some 0∧Qo prog 171 1=some 2∧Qk prog 171=some [.raw (.pointer none),.ab,.bool false]:=by and_intros<;>kernel_rfl
@[go_sem] theorem Qu5:XC prog 172=some (true,3)∧Q8 prog 172=some [(0,2),(2,1)]∧Qo prog 172 0=some 0∧Qo prog 172 1=some 2∧Qk prog 172=some [.raw (.pointer none),.ab,.bool false]∧XC prog 180=some (false,1)∧ji prog 180=some (.u32,0)∧ZC prog 180=some .u32∧Qk prog 180=some [.int .u32 0]∧XC prog 203=some (false,1)∧ji prog 203=some (.i64,0)∧ZC prog 203=some .i64∧Qk prog 203=some [.int .i64 0]∧XC prog 217=some (true,5)∧Q8 prog 217=some [(0,1),(1,1),(2,1),(3,1),(4,1)]∧Qo prog 217 0=some 0∧Qo prog 217 1=some 1∧Qo prog 217 2=some 2∧Qo prog 217 3=some 3∧Qo prog 217 4=some 4∧Qk prog 217=some [.int .i64 0,.str ⟨#[]⟩,.int .i64 0,.int .i64 0,.int .i64 0]∧XC prog 218=some (true,5)∧Q8 prog 218=some [(0,1),(1,1),(2,1),(3,1),(4,1)]∧Qo prog 218 0=some 0∧Qo prog 218 1=some 1∧Qo prog 218 2=some 2∧Qo prog 218 3=some 3∧Qo prog 218 4=some 4∧Qk prog 218=some [.int .i64 0,.str ⟨#[]⟩,.int .i64 0,.int .i64 0,.int .i64 0]∧XC prog 228=some (true,4)∧Q8 prog 228=some [(0,1),(1,3)]∧Qo prog 228 0=some 0∧Qo prog 228 1=some 1∧Qk prog 228=some [.str ⟨#[]⟩,.bool false,.ab,.ab]∧QP prog 229=some (228,4,72)∧XC prog 229=some (false,1)∧Qk prog 229=some [.ab]∧XC prog 230=some (false,1)∧Qk prog 230=some [.raw (.pointer none)]∧XC prog 252=some (false,1)∧Qk prog 252=some [.raw (.map none)]∧XC prog 254=some (true,3)∧Q8 prog 254=some [(0,1),(1,1),(2,1)]∧Qo prog 254 0=some 0∧Qo prog 254 1=some 1∧Qo prog 254 2=some 2∧mz prog 254=some 3∧Qk prog 254=some [.int .i64 0,.int .i64 0,.int .i64 0]∧XC prog 255=some (true,3)∧Q8 prog 255=some [(0,1),(1,1),(2,1)]∧Qo prog 255 0=some 0∧Qo prog 255 1=some 1∧Qo prog 255 2=some 2∧mz prog 255=some 3∧Qk prog 255=some [.int .i64 0,.int .i64 0,.int .i64 0]∧XC prog 295=some (false,1)∧ji prog 295=some (.u64,0)∧ZC prog 295=some .u64∧Qk prog 295=some [.int .u64 0]:=by and_intros<;>kernel_rfl
@[go_sem] theorem Qu6:XC prog 299=some (false,1)∧Qk prog 299=some [.raw (.pointer none)]∧XC prog 302=some (false,1)∧Qk prog 302=some [.raw (.map none)]∧XC prog 306=some (true,24)∧Qk prog 306=some [.int .u8 0,.int .u8 0,.int .u8 0,.int .u8 0,.int .u8 0,.int .u8 0,.int .u8 0,.int .u8 0,.int .u8 0,.int .u8 0,.int .u8 0,.int .u8 0,.int .u8 0,.int .u8 0,.int .u8 0,.int .u8 0,.int .u8 0,.int .u8 0,.int .u8 0,.int .u8 0,.int .u8 0,.int .u8 0,.int .u8 0,.int .u8 0]∧XC prog 311=some (true,9)∧Qk prog 311=some [.int .u8 0,.int .u8 0,.int .u8 0,.int .u8 0,.int .u8 0,.int .u8 0,.int .u8 0,.int .u8 0,.int .u8 0]∧XC prog 313=some (true,256)∧XC prog 314=some (true,256)∧XC prog 318=some (false,1)∧Qk prog 318=some [.raw (.pointer none)]∧XC prog 352=some (false,1)∧Qk prog 352=some [.raw (.pointer none)]∧XC prog 358=some (false,1)∧Qk prog 358=some [.raw (.pointer none)]∧XC prog 364=some (true,20)∧Qk prog 364=some [.int .u64 0,.int .u64 0,.int .u64 0,.int .u64 0,.int .u64 0,.int .u64 0,.int .u64 0,.int .u64 0,.int .u64 0,.int .u64 0,.int .u64 0,.int .u64 0,.int .u64 0,.int .u64 0,.int .u64 0,.int .u64 0,.int .u64 0,.int .u64 0,.int .u64 0,.int .u64 0]∧XC prog 365=some (true,65)∧XC prog 387=some (true,32)∧Qk prog 387=some [.int .u8 0,.int .u8 0,.int .u8 0,.int .u8 0,.int .u8 0,.int .u8 0,.int .u8 0,.int .u8 0,.int .u8 0,.int .u8 0,.int .u8 0,.int .u8 0,.int .u8 0,.int .u8 0,.int .u8 0,.int .u8 0,.int .u8 0,.int .u8 0,.int .u8 0,.int .u8 0,.int .u8 0,.int .u8 0,.int .u8 0,.int .u8 0,.int .u8 0,.int .u8 0,.int .u8 0,.int .u8 0,.int .u8 0,.int .u8 0,.int .u8 0,.int .u8 0]:=by and_intros<;>kernel_rfl
@[go_sem] theorem Qu7:XC prog 388=some (true,64)∧XC prog 389=some (true,256)∧XC prog 390=some (true,2)∧Q8 prog 390=some [(0,1),(1,1)]∧Qo prog 390 0=some 0∧Qo prog 390 1=some 1∧mz prog 390=some 2∧Qk prog 390=some [.int .u8 0,.int .u8 0]∧XC prog 391=some (true,2)∧Q8 prog 391=some [(0,1),(1,1)]∧Qo prog 391 0=some 0∧Qo prog 391 1=some 1∧mz prog 391=some 2∧Qk prog 391=some [.int .u8 0,.int .u8 0]∧XC prog 392=some (true,32)∧Qk prog 392=some [.int .u8 0,.int .u8 0,.int .u8 0,.int .u8 0,.int .u8 0,.int .u8 0,.int .u8 0,.int .u8 0,.int .u8 0,.int .u8 0,.int .u8 0,.int .u8 0,.int .u8 0,.int .u8 0,.int .u8 0,.int .u8 0,.int .u8 0,.int .u8 0,.int .u8 0,.int .u8 0,.int .u8 0,.int .u8 0,.int .u8 0,.int .u8 0,.int .u8 0,.int .u8 0,.int .u8 0,.int .u8 0,.int .u8 0,.int .u8 0,.int .u8 0,.int .u8 0]∧XC prog 398=some (true,4)∧Q8 prog 398=some [(0,1),(1,1),(2,1),(3,1)]∧Qo prog 398 0=some 0∧Qo prog 398 1=some 1∧Qo prog 398 2=some 2∧Qo prog 398 3=some 3∧Qk prog 398=some [.raw (.pointer none),.raw (.pointer none),.raw (.pointer none),.str ⟨#[]⟩]∧XC prog 399=some (true,4)∧Q8 prog 399=some [(0,1),(1,1),(2,1),(3,1)]∧Qo prog 399 0=some 0∧Qo prog 399 1=some 1∧Qo prog 399 2=some 2∧Qo prog 399 3=some 3∧Qk prog 399=some [.raw (.pointer none),.raw (.pointer none),.raw (.pointer none),.str ⟨#[]⟩]∧XC prog 403=some (false,1)∧ji prog 403=some (.u8,0)∧ZC prog 403=some .u8∧Qk prog 403=some [.int .u8 0]∧XC prog 404=some (false,1)∧ji prog 404=some (.u8,0)∧ZC prog 404=some .u8∧Qk prog 404=some [.int .u8 0]∧XC prog 406=some (false,1)∧ji prog 406=some (.i32,0)∧ZC prog 406=some .i32∧Qk prog 406=some [.int .i32 0]∧XC prog 407=some (false,1)∧ji prog 407=some (.i32,0)∧ZC prog 407=some .i32∧Qk prog 407=some [.int .i32 0]∧XC prog 408=some (true,11)∧Q8 prog 408=some [(0,1),(1,1),(2,1),(3,1),(4,1),(5,1),(6,1),(7,1),(8,1),(9,1),(10,1)]∧Qo prog 408 0=some 0∧Qo prog 408 1=some 1∧Qo prog 408 2=some 2∧Qo prog 408 3=some 3∧Qo prog 408 4=some 4∧Qo prog 408 5=some 5∧Qo prog 408 6=some 6∧Qo prog 408 7=some 7∧Qo prog 408 8=some 8∧Qo prog 408 9=some 9∧Qo prog 408 10=some 10∧Qk prog 408=some [.int .u64 0,.int .u64 0,.int .u32 0,.int .u8 0,.int .u8 0,.int .u8 0,.int .u8 0,.raw .nilFunc,.raw (.pointer none),.int .i32 0,.int .i32 0]:=by and_intros<;>kernel_rfl
@[go_sem] theorem Qu8:XC prog 409=some (true,11)∧Q8 prog 409=some [(0,1),(1,1),(2,1),(3,1),(4,1),(5,1),(6,1),(7,1),(8,1),(9,1),(10,1)]∧Qo prog 409 0=some 0∧Qo prog 409 1=some 1∧Qo prog 409 2=some 2∧Qo prog 409 3=some 3∧Qo prog 409 4=some 4∧Qo prog 409 5=some 5∧Qo prog 409 6=some 6∧Qo prog 409 7=some 7∧Qo prog 409 8=some 8∧Qo prog 409 9=some 9∧Qo prog 409 10=some 10∧Qk prog 409=some [.int .u64 0,.int .u64 0,.int .u32 0,.int .u8 0,.int .u8 0,.int .u8 0,.int .u8 0,.raw .nilFunc,.raw (.pointer none),.int .i32 0,.int .i32 0]:=by and_intros<;>kernel_rfl
end Go.Proofs.YtjegkdadeghpjaaGreatDoor
namespace Go.Proofs.YtjegkdadeghpjaaGreatDoor
open Go.AI Go.PN Tryz
attribute [local irreducible] aw Fa VA Vk Fh YO
abbrev YS (r:RD):List CV:=[.bool r.neg,ws true r.num,ws true r.den]
theorem Qrp {n:Nat}:(Zs n (val [1])==0)=decide (n=1):=by
 have:val [1]=1:=rfl
 rw [this]
 unfold Zs
 by_cases h:n=1
 ·subst h;rfl
 ·have:¬(n=1):=h
  simp only [this,decide_false,if_false]
  by_cases h0:n<1<;>simp [h0]
theorem BN {xs:List Nat} (h0:0<xs.length):Vp xs=(((xs.getD (xs.length-1) 0:Nat):Int) !=0):=by
 simp only [Vp,h0,decide_true,Bool.true_and,bne]
 congr 1
 rw [Bool.eq_iff_iff];simp
theorem BO {xs:List Nat} (h0:¬0<xs.length):Vp xs=false:=by simp [Vp,h0]
theorem sK:Fa prog 112 [] (.c (ws true [1])):=by
 refine OS func112 rfl rfl (by simp [ntmps112]) fun C hC=> ?_
 simp only [ZD]
 refine xG ?_
 refine Qw (xs:=[.const (.int .u32 1)]) (cells:=[.int .u32 1]) rfl rfl rfl Xp (by rw [l9,Xf];rfl) rfl om om (by intro x hx;simp only [Lb,Lj,or_false] at hx;subst hx;exact⟨rfl,rfl,rfl⟩) rfl fun g hg=> ?_
 refine JW hC ?_
 exact .one (.c (VC eE om rfl (fun j hj=>by match j,hj with|0,_=>rfl)))
theorem H2 (xs:List Nat) (dp:xs.length≤68719476738):Fa prog 283 [.c (ws false xs)] (.c (.bool (Vp xs))):=by
 refine fA func283 fun C hC=>?_
 refine xG ?_
 refine YF 6 eE (fun hb=> ?_) (fun hb=> ?_)<;>refine xS ?_
 ·have h0:0<xs.length:=dT hb
  refine eS hC ?_
  exact .one (.c (Qe (BN h0).symm))
 ·have h0:¬0<xs.length:=dF hb
  refine eS hC ?_
  exact .one (.c (Qe (BO h0).symm))
theorem FV {r:RD} (h1:((r.num.length:Int)==0)=true) (h2:((r.den.length:Int)==0)=true):(!r.neg)=r.valid:=by
 have cU:r.num.length=0:=by have:=eq_of_beq h1;omega
 have jB:r.den.length=0:=by have:=eq_of_beq h2;omega
 simp [RD.valid,cU,jB]
theorem U7 {r:RD} (h:((r.num.length:Int)==0)=false∨((r.den.length:Int)==0)=false):r.valid=(Vp r.num&&Vp r.den&&decide (Nat.gcd (val r.num) (val r.den)=1)):=by
 unfold RD.valid
 rw [iN]
 rintro ⟨h1,h2⟩
 rcases h with h|h
 ·rw [h1] at h;cases h
 ·rw [h2] at h;cases h
theorem Bi (r:RD) (hw:r.wf 68719476736):Fa prog 174 [.agg (YS r)] (.c (.bool r.valid)):=by
 have ig:r.num.length≤68719476738:=by have:=hw.2.2.1;omega
 have rN:r.den.length≤68719476738:=by have:=hw.2.2.2;omega
 have hg:(Qc (Nat.gcd (val r.num) (val r.den))).length≤68719476736:=by
  by_cases h:val r.num=0
  ·rw [h,Nat.gcd_zero_left];exact Lt (QR _ hw.2.1) hw.2.2.2
  ·exact Lt (QK (Nat.gcd_le_left _ (Nat.pos_of_ne_zero h))) (Lt (QR _ hw.1) hw.2.2.1)
 refine fA func174 fun C hC=>?_
 refine xG ?_
 refine xB fun g1 ah=>?_
 refine yH ah ?_
 apply X5
 refine Ym (fun _:Unit=>[(1,.c (.aj g1 0))]) (fun _=>[(g1,.cells 69 3 (ao (YS r)))]) (fun _=>((r.num.length:Int)==0)=false∨((r.den.length:Int)==0)=false) ?_ ?_
 ·refine yG ah ?_
  refine YF 7 (zE ah) (fun hb=> ?_) (fun hb=> ?_)<;>refine yS ah ?_
  ·refine yG ah ?_
   refine yF ah (fun hd=>?_) fun hd=>?_
   ·refine OZ hC ah ?_
    exact .one (.c (Qe (FV hb hd)))
   ·refine yG ah ?_
    exact Qb ⟨(),(zB ah),zZ,.inr hd⟩
  ·refine yG ah ?_
   refine yN ah ?_
   refine yG ah ?_
   exact Qb ⟨(),(zB ah),zZ,.inl hb⟩
 rintro _ hd
 rw [U7 hd]
 refine yG ah ?_
 refine yC ah (H2 r.num ig) ?_
 refine yG ah ?_
 refine YF 19 (zE ah) (fun h1=> ?_) (fun h1=> ?_)<;>refine yS ah ?_
 ·refine yG ah ?_
  refine yC ah (H2 r.den rN) ?_
  refine yG ah ?_
  refine YF 24 (zE ah) (fun h2=> ?_) (fun h2=> ?_)<;>refine yS ah ?_
  ·refine yG ah ?_
   refine yC ah (M4 _ _ hw.1 hw.2.1 hw.2.2.1 hw.2.2.2) ?_
   refine yG ah ?_
   refine yC ah (sK) ?_
   refine yG ah ?_
   refine yC ah (uk _ [1] (Qp _) ?_ hg ?_) ?_
   ·simp
   ·simp
   refine OZ hC ah ?_
   refine .one (.c (Qe ?_))
   rw [h1,h2,Qd,Qrp];rfl
  ·refine OZ hC ah ?_
   refine .one (.c (Qe ?_))
   rw [h2,Bool.and_false,Bool.false_and]
 ·refine OZ hC ah ?_
  refine .one (.c (Qe ?_))
  rw [h1,Bool.false_and,Bool.false_and]
theorem XJ (m n:Nat):(Qc (m*n)).length≤(Qc m).length+(Qc n).length:=XX (Kd (Yd m) (Yd n))
theorem OG {m n k:Nat} (hm:(Qc m).length≤k) (hn:(Qc n).length≤k):(Qc (m+n)).length≤k+1:=by
 have h1:=Ae (Yd m) (Nat.pow_le_pow_right (show 0<4294967296 by omega) hm)
 have h2:=Ae (Yd n) (Nat.pow_le_pow_right (show 0<4294967296 by omega) hn)
 refine XX ?_
 rw [Nat.pow_succ]
 omega
theorem qP (a b:Nat) (ha:(Qc a).length≤68719476736) (hb:(Qc b).length≤68719476736):Fa prog 383 [.c (ws false (Qc a)),.c (ws false (Qc b))] (.c (ws true (Qc (a*b)))):=by
 have:=QtV (Qc a) (Qc b) (Qp a) (Qp b) ha hb
 rwa [Qd,Qd] at this
theorem QwA (a b:Nat) (ha:(Qc a).length≤68719476736) (hb:(Qc b).length≤68719476736):Fa prog 390 [.c (ws false (Qc a)),.c (ws false (Qc b))] (.c (ws true (Qc (a+b)))):=by
 have:=QtR (Qc a) (Qc b) (Qp a) (Qp b) ha hb
 rwa [Qd,Qd] at this
theorem NZ (a b:Nat) (ha:(Qc a).length≤68719476736) (hb:(Qc b).length≤68719476736) (h:b≤a):Fa prog 391 [.c (ws false (Qc a)),.c (ws false (Qc b))] (.aF [.c (ws true (Qc (a-b))),.c .aN]):=by
 have:=QtU (Qc a) (Qc b) (Qp a) (Qp b) ha hb (by rw [Qd,Qd];exact h)
 rwa [Qd,Qd] at this
theorem y4 (a b:Nat) (ha:(Qc a).length≤68719476736) (hb:(Qc b).length≤68719476736):Fa prog 111 [.c (ws false (Qc a)),.c (ws false (Qc b))] (.c (.int .i64 (Zs a b))):=by
 have:=uk (Qc a) (Qc b) (Qp a) (Qp b) ha hb
 rwa [Qd,Qd] at this
theorem QwB (a b:Nat) (ha:(Qc a).length≤68719476736) (hb:(Qc b).length≤68719476736):Fa prog 284 [.c (ws false (Qc a)),.c (ws false (Qc b))] (.c (ws true (Qc (Nat.gcd a b)))):=by
 have:=M4 (Qc a) (Qc b) (Qp a) (Qp b) ha hb
 rwa [Qd,Qd] at this
theorem N5 (a b:Nat) (ha:(Qc a).length≤68719476736) (hb:(Qc b).length≤68719476736) (h:b≠0):Fa prog 345 [.c (ws false (Qc a)),.c (ws false (Qc b))] (.aF [.c (ws true (Qc (a/b))),.c (ws true (Qc (a%b))),.c .aN]):=by
 have:=M3 (Qc a) (Qc b) (Qp a) (Qp b) ha hb (by rw [Qd];exact h)
 rwa [Qd,Qd] at this
theorem NM (a:Nat) (ha:(Qc a).length≤68719476736):Fa prog 344 [.c (ws false (Qc a))] (.c (.int .i64 (QX a:Nat))):=by
 have:=Qrk (Qc a) (Qp a) ha
 rwa [Qd] at this
theorem IQ {r:RD} (h1:r.valid=true) (h2:((r.num.length:Int)==0)=false):r.some=true:=by
 have:r.num.length≠0:=fun e=>by rw [e] at h2;cases h2
 simp [RD.some,h1,this]
theorem wY {r:RD} (h:r.valid=false∨((r.num.length:Int)==0)=true):r.some=false:=by
 rcases h with h|h
 ·simp [RD.some,h]
 ·have:r.num.length=0:=by have:=eq_of_beq h;omega
  simp [RD.some,this]
theorem XZ {r:RD} {L M:Nat} (h:r.wf L) (hm:L≤M):r.wf M:=⟨h.1,h.2.1,Lt h.2.2.1 hm,Lt h.2.2.2 hm⟩
abbrev Cd (r:RD):AV:=.aF [.c (.bool r.ps),.c (ws true (Qc r.pn)),.c (ws true (Qc r.pd))]
theorem Y0 (r:RD) (hw:r.wf 1073741824):Fa prog 109 [.agg (YS r)] (Cd r):=by
 refine fA func109 fun C hC=>?_
 refine xG ?_
 refine xB fun g1 ah=>?_
 refine yG ah ?_
 refine yC ah (Bi r (XZ hw ?_)) ?_
 ·omega
 refine yG ah ?_
 refine YF 8 (zE ah) (fun hv=> ?_) (fun hv=> ?_)<;>refine yS ah ?_
 ·have hs:=RD.eQ (wY (r:=r) (.inl (by simpa using hv)))
  refine yG ah ?_
  refine yP ah ?_
  refine yG ah ?_
  refine yC ah (sK) ?_
  refine OZ hC ah ?_
  refine .aF ⟨.c (Qe hs.2.2.symm),.c ?_,.c ?_,trivial⟩
  ·rw [hs.1];exact .ab
  ·rw [hs.2.1];exact QZ
 ·have kx:r.valid=true:=by simpa using hv
  refine yG ah ?_
  refine yF ah (fun hn=>?_) fun hn=>?_
  ·have hs:=RD.eQ (wY (r:=r) (.inr hn))
   refine yG ah ?_
   refine yC ah (sK) ?_
   refine OZ hC ah ?_
   refine .aF ⟨.c (Qe hs.2.2.symm),.c ?_,.c ?_,trivial⟩
   ·rw [hs.1];exact .ab
   ·rw [hs.2.1];exact QZ
  ·have hs:=RD.gJ hw (IQ kx hn)
   refine yG ah ?_
   refine Xl 9 Qg kR ?_
   refine OZ hC ah ?_
   refine .aF ⟨.c (Qe hs.2.2.symm),.c ?_,.c ?_,trivial⟩
   ·rw [hs.1];exact QZ
   ·rw [hs.2.1];exact QZ
theorem JI {h:Qa} {r:RD}:pk h (YS r) (YS r):=⟨.bool _,QZ,QZ,trivial⟩
theorem Jg {h:Qa} {r s:RD} (e:r=s):mx h (.agg (YS r)) (.agg (YS s)):=by subst e;exact .one (.agg JI)
theorem Uv (neg:Bool) (n d:Nat) (hn:(Qc n).length≤68719476736) (hd:(Qc d).length≤68719476736) (h0:d≠0):
  Fa prog 277 [.c (.bool neg),.c (ws false (Qc n)),.c (ws false (Qc d))] (.agg (YS (rd (sq neg n d)))):=by
 refine fA func277 fun C hC=>?_
 refine xG ?_
 refine xA fun g6 aJ=>?_
 refine yG aJ ?_
 refine yC aJ (NM n hn) ?_
 refine yG aJ ?_
 refine yF aJ (fun hb=>?_) fun hb=>?_
 ·have hz:n=0:=JG.1 (by have:=eq_of_beq hb;omega)
  refine V8 hC aJ ?_
  rw [hz,ui,dQ]
  exact .one (.agg ⟨.bool _,.ab,.ab,trivial⟩)
 ·have hz:n≠0:=fun e=>by rw [e] at hb;cases hb
  have hg:Nat.gcd n d≠0:=fun e=>h0 (Nat.eq_zero_of_gcd_eq_zero_right e)
  have bY:(Qc (Nat.gcd n d)).length≤68719476736:=Lt (QK (Nat.gcd_le_left _ (Nat.pos_of_ne_zero hz))) hn
  refine yG aJ ?_
  refine yC aJ (QwB n d hn hd) ?_
  refine yG aJ ?_
  refine yC aJ (N5 n (Nat.gcd n d) hn bY hg) ?_
  refine yG aJ ?_
  refine yC aJ (N5 d (Nat.gcd n d) hd bY hg) ?_
  refine V8 hC aJ ?_
  rw [CT hz h0]
  exact .one (.agg ⟨.bool _,QZ,QZ,trivial⟩)
theorem QmD:Qc 9223372036854775808=[0,2147483648]:=by
 rw [XW om,XW om,show(9223372036854775808/4294967296/4294967296:Nat)=0 from rfl,QA]
theorem IS {n:Int} (h0: -9223372036854775808<n) (h1:n≤9223372036854775807):Xz .i64 (0-n)= -n:=by
 rw [QM,XN (k:=.i64) (by simp only [XM];omega)];omega
theorem JJ {n:Nat} (h:n≤9223372036854775808):(Qc n).length≤2:=XX (Nat.lt_of_le_of_lt h Af)
theorem H3 (n:Int) (h0: -9223372036854775808≤n) (h1:n≤9223372036854775807):Fa prog 278 [.c (.int .i64 n)] (.c (ws true (Qc n.natAbs))):=by
 refine fA func278 fun C hC=>?_
 refine xG ?_
 refine xF (fun hb=>?_) fun hb=>?_
 ·have hn:n= -9223372036854775808:=eq_of_beq hb
  refine xG ?_
  refine Qw (xs:=[.const (.int .u32 0),.const (.int .u32 2147483648)]) (cells:=[.int .u32 0,.int .u32 2147483648]) rfl rfl rfl Xp (by rw [l9,Xf];rfl) rfl om om (by intro x hx;simp only [Lb,Lj,or_false] at hx;rcases hx with rfl|rfl<;>exact⟨rfl,rfl,rfl⟩) rfl fun g hg=> ?_
  refine JW hC ?_
  subst hn
  rw [show((-9223372036854775808:Int).natAbs)=9223372036854775808 from rfl,QmD]
  exact .one (.c (VC eE (by simp) rfl (fun j hj=>by match j,hj with|0,_=>rfl|1,_=>rfl)))
 ·have hn:n≠ -9223372036854775808:=fun e=>by rw [e] at hb;cases hb
  refine xG ?_
  rw [IS om h1]
  have hm:(if-n>n then-n else n)=(n.natAbs:Int):=by split<;>omega
  rw [hm]
  refine xC (NJ (n.natAbs:Int) ?_ ?_) ?_
  ·omega
  ·omega
  refine eS hC ?_
  exact .one (.c QZ)
theorem QtY (n:Int):sq (decide (n<0)) n.natAbs 1=(n:Rat):=by
 unfold sq Uc
 rw [Rat.mkRat_one]
 congr 1
 split
 ·rename_i h;simp only [Dq] at h;omega
 ·rename_i h;simp only [Dq] at h;omega
theorem uq (n:Int) (h0: -9223372036854775808≤n) (h1:n≤9223372036854775807):Fa prog 171 [.c (.int .i64 n)] (.agg (YS (rd (n:Rat)))):=by
 have hl:=JJ (n:=n.natAbs) om
 refine fA func171 fun C hC=>?_
 refine xG ?_
 refine xA fun g2 aq=>?_
 refine yG aq ?_
 refine yC aq (H3 n h0 h1) ?_
 refine yG aq ?_
 refine yC aq (sK) ?_
 refine yG aq ?_
 rw [show([1]:List Nat)=Qc 1 from Kc.symm]
 refine yC aq (Uv _ n.natAbs 1 ?_ ?_ ?_) ?_
 ·omega
 ·rw [Kc];simp
 ·omega
 refine V8 hC aq ?_
 exact Jg (by rw [QtY])
theorem sign_zero {r:RD} {L:Nat} (hw:r.wf L) (h:(((Qc r.pn).length:Int)==0)=true):0=YZ r.q:=by
 have h1:r.pn=0:=Xb.1 (Lh.1 (by have:=eq_of_beq h;omega))
 unfold RD.q
 rw [h1,ui];rfl
theorem Oj {r:RD} {L:Nat} (hw:r.wf L) (h:(((Qc r.pn).length:Int)==0)=false):YZ r.q=if r.ps then-1 else 1:=by
 have h1:r.pn≠0:=fun e=>by rw [e,QA] at h;cases h
 unfold YZ RD.q
 rw [iN (NK h1 (RD.cM hw))]
 have:=NL (neg:=r.ps) h1 (RD.cM hw)
 simp only [this]
theorem H4 (r:RD) (hw:r.wf 1073741824):Fa prog 172 [.agg (YS r)] (.c (.int .i64 (YZ r.q))):=by
 refine fA func172 fun C hC=>?_
 refine xG ?_
 refine xB fun g1 ah=>?_
 refine yG ah ?_
 refine yC ah (Y0 r hw) ?_
 refine yG ah ?_
 refine yF ah (fun hb=>?_) fun hb=>?_
 ·refine OZ hC ah ?_
  exact .one (.c (Qn (sign_zero hw hb)))
 ·refine yG ah ?_
  refine yF ah (fun hp=>?_) fun hp=>?_
  ·refine OZ hC ah ?_
   refine .one (.c (Qn ?_))
   rw [Oj hw hb,hp];rfl
  ·refine OZ hC ah ?_
   refine .one (.c (Qn ?_))
   rw [Oj hw hb,hp];rfl
theorem FW {a b:Bool} (h:(a==b)=false):b= !a:=by cases a<;>cases b<;>simp_all
theorem Qrr (a b:RD) (ha:a.wf 1073741824) (hb:b.wf 1073741824):Fa prog 384 [.agg (YS a),.agg (YS b)] (.agg (YS (rd (a.q+b.q)))):=by
 obtain⟨l1,l2⟩:=RD.cL ha om
 obtain⟨l3,l4⟩:=RD.cL hb om
 have d1:=RD.cM ha
 have d2:=RD.cM hb
 have dd:a.pd*b.pd≠0:=Nat.mul_ne_zero d1 d2
 have m1:=XJ a.pn b.pd
 have m2:=XJ b.pn a.pd
 have m3:=XJ a.pd b.pd
 have m4:=OG (m:=a.pn*b.pd) (n:=b.pn*a.pd) (k:=2147483648) om om
 refine fA func384 fun C hC=>?_
 refine xG ?_
 refine xB fun g2 aq=>?_
 refine yB aq fun g3 av=>?_
 refine yA (oj aq av) fun g4 aC=>?_
 have J1:=oj aq (oj av aC)
 refine yG J1 ?_
 refine yC J1 (Y0 a ha) ?_
 refine yG J1 ?_
 refine yC J1 (Y0 b hb) ?_
 refine yG J1 ?_
 refine yC J1 (qP a.pn b.pd ?_ ?_) ?_
 ·omega
 ·omega
 refine yG J1 ?_
 refine yC J1 (qP b.pn a.pd ?_ ?_) ?_
 ·omega
 ·omega
 refine yG J1 ?_
 refine yC J1 (qP a.pd b.pd ?_ ?_) ?_
 ·omega
 ·omega
 refine yG J1 ?_
 refine yF J1 (fun hs=>?_) fun hs=>?_
 ·have eM:a.ps=b.ps:=eq_of_beq hs
  refine yG J1 ?_
  refine yC J1 (QwA _ _ ?_ ?_) ?_
  ·omega
  ·omega
  refine yG J1 ?_
  refine yC J1 (Uv _ _ _ ?_ ?_ dd) ?_
  ·omega
  ·omega
  refine V8 hC J1 ?_
  refine Jg ?_
  rw [FC _ d1 d2]
  unfold RD.q;rw [eM]
 ·have eM:b.ps= !a.ps:=FW hs
  refine yG J1 ?_
  refine yC J1 (y4 _ _ ?_ ?_) ?_
  ·omega
  ·omega
  refine yG J1 ?_
  refine yF J1 (fun hc=>?_) fun hc=>?_
  ·have hle:b.pn*a.pd≤a.pn*b.pd:=by
    have:=of_decide_eq_true hc
    unfold Zs at this
    split at this
    ·omega
    ·omega
   have Ei:=QK (Nat.sub_le (a.pn*b.pd) (b.pn*a.pd))
   refine yG J1 ?_
   refine yC J1 (NZ _ _ ?_ ?_ hle) ?_
   ·omega
   ·omega
   refine yG J1 ?_
   refine yC J1 (Uv _ _ _ ?_ ?_ dd) ?_
   ·omega
   ·omega
   refine V8 hC J1 ?_
   refine Jg ?_
   rw [Bh _ d1 d2 hle]
   unfold RD.q;rw [eM]
  ·have hle:a.pn*b.pd≤b.pn*a.pd:=by
    have:=of_decide_eq_false hc
    unfold Zs at this
    split at this
    ·omega
    ·split at this<;>omega
   have Ei:=QK (Nat.sub_le (b.pn*a.pd) (a.pn*b.pd))
   refine yG J1 ?_
   refine yC J1 (NZ _ _ ?_ ?_ hle) ?_
   ·omega
   ·omega
   refine yG J1 ?_
   refine yC J1 (Uv _ _ _ ?_ ?_ dd) ?_
   ·omega
   ·omega
   refine V8 hC J1 ?_
   refine Jg ?_
   rw [eM,Gj _ d1 d2 hle]
   unfold RD.q;rw [eM]
theorem IT (a b:RD) (ha:a.wf 1073741824) (hb:b.wf 1073741824):Fa prog 369 [.agg (YS a),.agg (YS b)] (.agg (YS (rd (a.q*b.q)))):=by
 obtain⟨l1,l2⟩:=RD.cL ha om
 obtain⟨l3,l4⟩:=RD.cL hb om
 have d1:=RD.cM ha
 have d2:=RD.cM hb
 have dd:a.pd*b.pd≠0:=Nat.mul_ne_zero d1 d2
 have m1:=XJ a.pn b.pn
 have m3:=XJ a.pd b.pd
 refine fA func369 fun C hC=>?_
 refine xG ?_
 refine xB fun g2 aq=>?_
 refine yB aq fun g3 av=>?_
 refine yA (oj aq av) fun g4 aC=>?_
 have J1:=oj aq (oj av aC)
 refine yG J1 ?_
 refine yC J1 (Y0 a ha) ?_
 refine yG J1 ?_
 refine yC J1 (Y0 b hb) ?_
 refine yG J1 ?_
 refine yC J1 (qP _ _ ?_ ?_) ?_
 ·omega
 ·omega
 refine yG J1 ?_
 refine yC J1 (qP _ _ ?_ ?_) ?_
 ·omega
 ·omega
 refine yG J1 ?_
 refine yC J1 (Uv _ _ _ ?_ ?_ dd) ?_
 ·omega
 ·omega
 refine V8 hC J1 ?_
 exact Jg (by rw [CO];rfl)
theorem QtZ {r:RD} (hw:r.wf 1073741824):(rd (-r.q)).wf 1073741824:=JH (H0 (RD.fits hw om))
theorem IU {xs ys:List Nat} (h:∀j,xs.getD j 0=ys.getD j 0):val xs=val ys:=by
 induction xs generalizing ys with
 |nil=>
  refine(Je fun y hy=> ?_).symm
  obtain⟨i,hi,rfl⟩:=List.mem_iff_getElem.1 hy
  have:=h i
  rw [Lg,Lg,Li hi] at this
  simpa using this.symm
 |cons x xs ih=>
  cases ys with
  |nil=>
   refine Je fun y hy=> ?_
   obtain⟨i,hi,rfl⟩:=List.mem_iff_getElem.1 hy
   have:=h i
   rw [Lg,Lg,Li hi] at this
   simpa using this
  |cons y ys=>
   have h0:=h 0
   simp only [List.getD_cons_zero] at h0
   have h1:=ih (ys:=ys) fun j=>by have:=h (j+1);simpa only [List.getD_cons_succ] using this
   simp only [val,h0,h1]
theorem QmE {xs ys:List Nat} {i:Nat} (hx:∀x∈xs,x<4294967296) (aD:xs.getD i 0<ys.getD i 0) (hz:∀j,i<j→xs.getD j 0=ys.getD j 0):val xs<val ys:=by
 induction xs generalizing ys i with
 |nil=>
  have hy0:val ys≠0:=fun e=>by
   have:∀(l:List Nat) (k:Nat),val l=0→l.getD k 0=0:=by
    intro l
    induction l with
    |nil=>intro k _;simp
    |cons a l ih=>
     intro k hk
     simp only [val] at hk
     cases k with
     |zero=>simp only [List.getD_cons_zero];omega
     |succ k=>simp only [List.getD_cons_succ];exact ih k om
   rw [this ys i e] at aD
   omega
  simp only [val];omega
 |cons x xs ih=>
  have EU:x<4294967296:=hx x (by simp)
  cases ys with
  |nil=>simp at aD
  |cons y ys=>
   cases i with
   |zero=>
    simp only [List.getD_cons_zero] at aD
    have:=IU (xs:=xs) (ys:=ys) fun j=>by have:=hz (j+1) om;simpa only [List.getD_cons_succ] using this
    simp only [val,this];omega
   |succ i=>
    simp only [List.getD_cons_succ] at aD
    have:=ih (ys:=ys) (i:=i) (fun z hz=>hx z (by simp [hz])) aD (fun j hj=>by have:=hz (j+1) om;simpa only [List.getD_cons_succ] using this)
    simp only [val];omega
theorem H5 {xs ys:List Nat} {i:Nat} (hx:∀x∈xs,x<4294967296) (_hy:∀x∈ys,x<4294967296) (aD:xs.getD i 0<ys.getD i 0) (hz:∀j,i<j→xs.getD j 0=ys.getD j 0):val xs<val ys:=QmE hx aD hz
theorem Yu (xs:List Nat) (i:Nat) (hx:∀x∈xs,x<4294967296):Fa prog 183 [.c (ws false xs),.c (.int .i64 i)] (.c (.int .u64 (xs.getD i 0:Nat))):=by
 have hb:=QI hx i
 refine fA func183 fun C hC=>?_
 refine xG ?_
 refine xF (fun hb=>?_) fun hb=>?_
 ·simp only [Dq] at hb
  refine eS hC ?_
  exact .one (.c (Qn rfl))
 ·simp only [decide_eq_false_iff_not] at hb
  refine eS hC ?_
  refine .one (.c (Qn ?_))
  rw [ZR om];rfl
theorem Y1 (xs:List Nat) (hx:∀x∈xs,x<4294967296) (hl:xs.length≤1099511627776):Fa prog 180 [.c (ws false xs)] (.c (ws true (Qc (val xs)))):=by
 refine fA func180 fun C hC=>?_
 apply X5
 apply YW
 refine xH ?_
 apply X5
 apply YW
 refine xH ?_
 apply X5
 refine Ym (fun m:Nat=>[(0,.c (ws false xs)),(3,.c (.int .i64 m))]) (fun _=>[]) (fun m=>m≤xs.length∧Qc (val xs)=xs.take m) ?_ ?_
 ·apply Zc
  refine Qh (fun m:Nat=>[(0,.c (ws false xs)),(3,.c (.int .i64 m))]) (fun _=>[]) (fun m=>m≤xs.length∧(∀j,m≤j→xs.getD j 0=0)) id xs.length eB zZ ⟨Ac _,fun j hj=>ZR hj⟩ ?_
  rintro m ⟨hm,hz⟩
  have jE:(m=0∨xs.getD (m-1) 0≠0)→Qc (val xs)=xs.take m:=wV xs m hx hm hz
  refine xG ?_
  refine YF 8 eE (fun h0=> ?_) (fun h0=> ?_)<;>refine xS ?_
  ·have DE:0<m:=dT h0
   refine xG ?_
   refine xF (fun hb=>?_) fun hb=>?_
   ·have cm:xs.getD (m-1) 0=0:=by have:=eq_of_beq hb;omega
    refine xG ?_
    refine Qb ⟨m-1,by simp only [id];omega,eB,zZ,by omega,fun j hj=> ?_⟩
    by_cases pT:j=m-1
    ·rw [pT];exact cm
    ·exact hz j om
   ·have cm:xs.getD (m-1) 0≠0:=fun e=>by rw [e] at hb;cases hb
    refine xG ?_
    exact Qb ⟨m,eB,zZ,hm,jE (.inr cm)⟩
  ·have DE:m=0:=dF h0
   refine xG ?_
   refine xN ?_
   refine xG ?_
   exact Qb ⟨m,eB,zZ,hm,jE (.inl DE)⟩
 rintro m ⟨hm,hw⟩
 refine xG ?_
 refine Qw (xs:=[]) (cells:=[]) rfl rfl rfl Xp (by rw [l9,Xf];rfl) rfl om om (by simp) rfl fun g hg=> ?_
 refine ZA ?_
 by_cases h0:0<m
 ·refine YA rfl rfl rfl Xp Xf rfl om eE eE om eE .row (fun _ _=>rfl) h0 qc om eE fun g' ch=> ?_
  refine JW hC ?_
  refine .one (.c ?_)
  rw [hw]
  refine VC eE om (by simp;omega) (fun j hj=> ?_)
  simp only [Xs,Nat.not_lt_zero,if_false,Nat.sub_zero,Nz]
  rw [Us hj]
 ·have ie:m=0:=by omega
  subst ie
  refine Vm rfl rfl rfl Xp eE rfl eE .row eE ?_
  refine JW hC ?_
  refine .one (.c ?_)
  rw [hw]
  exact VC eE om rfl (fun j hj=>by omega)
theorem Ce (xs ys:List Nat) (hx:∀x∈xs,x<4294967296) (hy:∀x∈ys,x<4294967296) (dp:xs.length≤68719476736) (dU:ys.length≤68719476736):
  Fa prog 116 [.c (ws false xs),.c (ws false ys)] (.c (.int .i64 (Zs (val xs) (val ys)))):=by
 refine fA func116 fun C hC=>?_
 refine xG ?_
 have dH:(if(ys.length:Int)>xs.length then(ys.length:Int) else xs.length)=((max xs.length ys.length:Nat):Int):=by split<;>omega
 rw [dH]
 refine Qh (fun m:Nat=>[(0,.c (ws false xs)),(1,.c (ws false ys)),(5,.c (.int .i64 ((m:Int)-1)))]) (fun _=>[]) (fun m=>m≤max xs.length ys.length∧∀j,m≤j→xs.getD j 0=ys.getD j 0) id (max xs.length ys.length) eB zZ ⟨Ac _,fun j hj=>by rw [ZR om,ZR om]⟩ ?_
 rintro m ⟨hm,hz⟩
 refine xG ?_
 refine xF (fun hb=>?_) fun hb=>?_
 ·obtain⟨i,rfl⟩:∃i,m=i+1:=⟨m-1,dT hb⟩
  have Dv:((i+1:Nat):Int)-1=(i:Int):=by omega
  rw [Dv]
  refine xG ?_
  refine xC (Yu xs i hx) ?_
  refine xG ?_
  refine xC (Yu ys i hy) ?_
  refine xG ?_
  refine xF (fun aD=>?_) fun aD=>?_
  ·have jH:xs.getD i 0<ys.getD i 0:=dT aD
   refine eS hC ?_
   refine .one (.c (Qn ?_))
   rw [Zs,iP (H5 hx hy jH (fun j hj=>hz j om))]
  ·refine xG ?_
   refine xC (Yu xs i hx) ?_
   refine xG ?_
   refine xC (Yu ys i hy) ?_
   refine xG ?_
   refine xF (fun fV=>?_) fun fV=>?_
   ·have Ed:ys.getD i 0<xs.getD i 0:=dT fV
    have hv:=H5 hy hx Ed (fun j hj=>(hz j om).symm)
    refine eS hC ?_
    refine .one (.c (Qn ?_))
    rw [Zs,iN om,iN om]
   ·have heq:xs.getD i 0=ys.getD i 0:=by have:=of_decide_eq_false fV;have:=of_decide_eq_false aD;omega
    refine xG ?_
    refine Qb ⟨i,by simp only [id];omega,eB,zZ,by omega,fun j hj=> ?_⟩
    by_cases dw:j=i
    ·rw [dw];exact heq
    ·exact hz j om
 ·have ie:m=0:=dF hb
  subst ie
  refine eS hC ?_
  refine .one (.c (Qn ?_))
  rw [Zs,IU (fun j=>hz j om)];simp
theorem H6 {zs:List Nat} {i v:Nat} (h:zs.length=i):((zs++[0]).set i v).take (i+1)=zs++[v]:=by
 subst h
 rw [List.set_append_right _ _ (Ac _),Ly (by simp)]
 simp
theorem Gk {zs:List Nat} {i:Nat} (h:zs.length=i):(zs++[0]).take i=zs:=by subst h;simp
theorem wZ {zs:List Nat} {v:Nat} (hz:∀x∈zs,x<4294967296) (hv:v<4294967296):∀x∈zs++[v],x<4294967296:=fun x hx=>by
 rcases List.mem_append.1 hx with h|h
 ·exact hz x h
 ·rw [Lv.1 h];exact hv
theorem Xx {g:Nat} {n:Nat}:(some g:Option Nat)=none→n=0:=fun e=>by cases e
theorem Qrs (xs ys:List Nat) (hx:∀x∈xs,x<4294967296) (hy:∀x∈ys,x<4294967296) (dp:xs.length≤68719476736) (dU:ys.length≤68719476736):
  Fa prog 364 [.c (ws false xs),.c (ws false ys)] (.c (ws true (Qc (val xs+val ys)))):=by
 refine fA func364 fun C hC=>?_
 refine xG ?_
 have dH:(if(ys.length:Int)>xs.length then(ys.length:Int) else xs.length)+1=((max xs.length ys.length+1:Nat):Int):=by split<;>omega
 rw [dH]
 generalize hn:max xs.length ys.length+1=n
 refine Qh (fun x:Option Nat×Nat×Nat×List Nat=>[(0,.c (ws false xs)),(1,.c (ws false ys)),(5,.c (gs x.1 1 x.2.1)),(6,.c (.int .u64 x.2.2.1)),(14,.c (.int .i64 n)),(15,.c (.int .i64 x.2.1))]) (fun x=>gh x.1 180 x.2.1 (wf x.2.2.2))
  (fun x=>(x.1=none→x.2.1=0)∧x.2.1≤n∧x.2.2.1≤1∧x.2.2.2.length=x.2.1∧(∀y∈x.2.2.2,y<4294967296)∧val x.2.2.2+4294967296^x.2.1*x.2.2.1=val (xs.take x.2.1)+val (ys.take x.2.1)) (fun x=>n-x.2.1) (none,0,0,[]) eB zZ
  ⟨fun _=>rfl,Lz _,Lz _,rfl,by simp,by simp [val]⟩ ?_
 rintro ⟨og,i,c,zs⟩ ⟨ax,hi,hc,aY,hz,hv⟩
 dsimp only at ax hi hc aY hz hv⊢
 refine xG ?_
 refine xF (fun hb=>?_) fun hb=>?_
 ·have bV:i<n:=dT hb
  have dL:=QI hx i
  have lU:=QI hy i
  refine xG ?_
  refine xC (Yu xs i hx) ?_
  refine xG ?_
  refine xC (Yu ys i hy) ?_
  refine xG ?_
  have ew:Xz .u32 ((((xs.getD i 0:Nat):Int)+((ys.getD i 0:Nat):Int))+(c:Int))=(((c+(xs.getD i 0+ys.getD i 0))%4294967296:Nat):Int):=by rw [QM,IntKind.wrap_u32];omega
  rw [ew]
  have bP:=BL (zs:=zs++[0]) (i:=i) (c:=c) (xs:=xs) (ys:=ys) (by simp;omega) (by rw [Gk aY];exact hv)
  rw [H6 aY] at bP
  refine QT (pre:=[]) rfl rfl rfl rfl rfl rfl rfl eE eE (by rfl) om om eE om (by exact ax) eE (by rfl) (by rfl) qb qc om (by exact uh aY _) fun g n_=> ?_
  replace n_:=Qa.ay n_
  first|dsimp only [Qa.ne,gh] at n_|dsimp only [Qa.ne] at n_|skip
  refine Xw n_ ?_
  refine Qb ⟨(some g,i+1,(c+(xs.getD i 0+ys.getD i 0))/4294967296,zs++[(c+(xs.getD i 0+ys.getD i 0))%4294967296]),by dsimp only;omega,(zB n_),zZ,Xx,by dsimp only;omega,by dsimp only;omega,by simp;omega,wZ hz om,bP⟩
 ·have bV:i=n:=dF hb
  subst bV
  refine xG ?_
  refine Qr (Y1 zs hz om) rfl rfl rfl ⟨.c (xY ax aY),trivial⟩ ?_
  refine JW hC ?_
  rw [I7 hx hy om (by rw [aY,Ly om];exact hv)]
  exact .one (.c QZ)
theorem Cf (xs ys:List Nat) (hx:∀x∈xs,x<4294967296) (hy:∀x∈ys,x<4294967296) (dp:xs.length≤68719476736) (dU:ys.length≤68719476736) (hle:val ys≤val xs):
  Fa prog 292 [.c (ws false xs),.c (ws false ys)] (.aF [.c (ws true (Qc (val xs-val ys))),.c (.int .i64 0)]):=by
 refine fA func292 fun C hC=>?_
 refine xG ?_
 refine xC (Ce xs ys hx hy dp dU) ?_
 refine xG ?_
 refine xF (fun hb=>?_) fun hb=>?_
 ·have:=of_decide_eq_true hb
  unfold Zs at this
  split at this
  ·omega
  ·split at this<;>omega
 refine xG ?_
 refine Qh (fun x:Option Nat×Nat×Nat×List Nat=>[(0,.c (ws false xs)),(1,.c (ws false ys)),(6,.c (gs x.1 1 x.2.1)),(7,.c (.int .u64 x.2.2.1)),(15,.c (.int .i64 xs.length)),(16,.c (.int .i64 x.2.1))]) (fun x=>gh x.1 180 x.2.1 (wf x.2.2.2))
  (fun x=>(x.1=none→x.2.1=0)∧x.2.1≤xs.length∧x.2.2.1≤1∧x.2.2.2.length=x.2.1∧(∀y∈x.2.2.2,y<4294967296)∧val x.2.2.2+val (ys.take x.2.1)=val (xs.take x.2.1)+4294967296^x.2.1*x.2.2.1) (fun x=>xs.length-x.2.1) (none,0,0,[]) eB zZ
  ⟨fun _=>rfl,Lz _,Lz _,rfl,by simp,by simp [val]⟩ ?_
 rintro ⟨og,i,b,zs⟩ ⟨ax,hi,cY,aY,hz,hv⟩
 dsimp only at ax hi cY aY hz hv⊢
 refine xG ?_
 refine xF (fun hb=>?_) fun hb=>?_
 ·have bV:i<xs.length:=dT hb
  have dL:=QI hx i
  have lU:=QI hy i
  refine xG ?_
  refine xC (Yu xs i hx) ?_
  refine xG ?_
  refine xC (Yu ys i hy) ?_
  (refine qE false rfl (fun R hR=> ?_);simp only [go_sem];(with_reducible refine hR _ _ ?_ ?_);(focus (((try simp only [XM])<;>and_intros<;>first|exact True.intro|omega|trivial);done));clear hR R)
  refine xG ?_
  (refine qE false rfl (fun R hR=> ?_);simp only [go_sem];(with_reducible refine hR _ _ ?_ ?_);(focus (((try simp only [XM])<;>and_intros<;>first|exact True.intro|omega|trivial);done));clear hR R)
  rw [Bf dL lU cY]
  obtain⟨st1,st2⟩:=HR (zs:=zs++[0]) (i:=i) (by simp;omega) dL lU cY (by rw [Gk aY];exact hv)
  rw [H6 aY] at st1
  generalize Jf (xs.getD i 0) (ys.getD i 0) b=D at st1 st2⊢
  obtain⟨v,b2,e1,e2,js,st⟩:∃v b2:Nat,Xz .u32 (D:Int)=(v:Int)∧ly .u64 (D:Int) 63=(b2:Int)∧v<4294967296∧(val (zs++[v])+val (ys.take (i+1))=val (xs.take (i+1))+4294967296^(i+1)*b2∧b2≤1):=
   ⟨_,_,QL D,A8 D,Nat.mod_lt _ om,st1,st2⟩
  clear st1 st2
  refine xG ?_
  rw [e1]
  refine QT (pre:=[]) rfl rfl rfl rfl rfl rfl rfl eE eE (by rfl) om om eE om (by exact ax) eE (by rfl) (by rfl) qb qc om (by exact uh aY _) fun g n_=> ?_
  replace n_:=Qa.ay n_
  first|dsimp only [Qa.ne,gh] at n_|dsimp only [Qa.ne] at n_|skip
  refine yS n_ ?_
  refine yG (oj n_ e2) ?_
  refine Qb ⟨(some g,i+1,b2,zs++[v]),by dsimp only;omega,(zB (oj n_ e2)),zZ,Xx,by dsimp only;omega,st.2,by simp;omega,wZ hz js,st.1⟩
 ·have bV:i=xs.length:=dF hb
  subst bV
  refine xG ?_
  refine Qr (Y1 zs hz om) rfl rfl rfl ⟨.c (xY ax aY),trivial⟩ ?_
  refine JW hC ?_
  rw [I8 hx hz aY hle (by rw [Ly om];exact hv)]
  exact .aF ⟨.c QZ,.c (.int _ _),trivial⟩
theorem IV (xs ys:List Nat) (hx:∀x∈xs,x<4294967296) (hy:∀x∈ys,x<4294967296) (dp:xs.length≤68719476736) (dU:ys.length≤68719476736):
  Fa prog 291 [.c (ws false xs),.c (ws false ys)] (.c (ws true (Qc (val xs*val ys)))):=by
 refine fA func291 fun C hC=>?_
 refine xG ?_
 have jo:(xs.length:Int)+(ys.length:Int)+1=((xs.length+ys.length+1:Nat):Int):=by omega
 rw [jo]
 generalize hn:xs.length+ys.length+1=n
 refine KP (n:=n) (c:=n) rfl rfl rfl Xp Xf rfl om eE eE rfl rfl om om om fun g hg=> ?_
 rw [JC n]
 refine ZA ?_
 refine Qh (fun x:Nat×List Nat=>[(1,.c (ws false ys)),(5,.c (.aO g 1 0 n)),(18,.c (ws false xs)),(19,.c (.int .i64 xs.length)),(20,.c (.int .i64 x.1))]) (fun x=>[(g,.cells 180 n (wf x.2))])
  (fun x=>x.1≤xs.length∧x.2.length=n∧(∀y∈x.2,y<4294967296)∧val x.2=val (xs.take x.1)*val ys) (fun x=>xs.length-x.1) (0,List.replicate n 0) eB zZ
  ⟨Lz _,by simp,YG _,by simp [val,JX]⟩ ?_
 rintro ⟨i,z0⟩ ⟨hi,na,sc,nM⟩
 dsimp only at hi na sc nM⊢
 refine xG ?_
 refine xF (fun hb=>?_) fun hb=>?_
 ·have bV:i<xs.length:=dT hb
  have dL:=QI hx i
  have sd:val z0<4294967296^(i+ys.length):=by
   rw [nM,Nat.pow_add]
   exact Nat.mul_lt_mul_of_lt_of_lt (XF xs hx i om) (Z0 ys hy)
  refine xG ?_
  generalize mY:xs.getD i 0=x at*
  refine Qh (fun s:Nat×Nat×List Nat=>[(1,.c (ws false ys)),(5,.c (.aO g 1 0 n)),(6,.c (.int .i64 i)),(7,.c (.int .u32 x)),(8,.c (.int .u64 s.2.1)),(18,.c (ws false xs)),(19,.c (.int .i64 xs.length)),(20,.c (.int .i64 i)),(27,.c (.int .i64 ((ys.length:Int)+1))),(28,.c (.int .i64 s.1))]) (fun s=>[(g,.cells 180 n (wf s.2.2))])
   (fun s=>s.1≤ys.length+1∧s.2.1<4294967296∧s.2.2.length=n∧(∀y∈s.2.2,y<4294967296)∧(∀j,i+s.1≤j→s.2.2.getD j 0=z0.getD j 0)∧(s.1=ys.length+1→s.2.1=0)∧val s.2.2+4294967296^(i+s.1)*s.2.1=val z0+4294967296^i*(x*val (ys.take s.1))) (fun s=>ys.length+1-s.1) (0,0,z0) eB zZ
   ⟨Lz _,by simp,na,sc,fun _ _=>rfl,fun _=>rfl,by simp [val]⟩ ?_
  rintro ⟨k,c,zs⟩ ⟨hk,hc,aY,hz,se,PF,hv⟩
  dsimp only at hk hc aY hz se PF hv⊢
  refine xG ?_
  refine xF (fun hb=>?_) fun hb=>?_
  ·have fI:k<ys.length+1:=dT hb
   have EW:=QI hy k
   have hzk:=QI hz (i+k)
   have bP:=HS (ys:=ys) (x:=x) (zs:=zs) (c:=c) om hv
   have P7:=Ut dL EW
   have En:(0:Int)≤(x:Int)*((ys.getD k 0:Nat):Int)∧(x:Int)*((ys.getD k 0:Nat):Int)≤18446744065119617025:=by rw [←Int.natCast_mul];omega
   have pV:k=ys.length→(c+(x*ys.getD k 0+zs.getD (i+k) 0))/4294967296=0:=fun e=>by
    subst e
    rw [ZR (Ac _),se _ (Ac _),KE sd (Ac _)]
    omega
   refine xG ?_
   refine Xl 17 Qg kR ?_
   refine xG ?_
   refine xD (Yu ys k hy) ?_
   refine xG ?_
   have ew:(x:Int)*((ys.getD k 0:Nat):Int)+((zs.getD (i+k) 0:Nat):Int)+(c:Int)=((c+(x*ys.getD k 0+zs.getD (i+k) 0):Nat):Int):=by simp;omega
   rw [ew,QL]
   refine xW ?_
   refine xS ?_
   rw [ZO om]
   refine xG ?_
   refine Qb ⟨(k+1,(c+(x*ys.getD k 0+zs.getD (i+k) 0))/4294967296,zs.set (i+k) ((c+(x*ys.getD k 0+zs.getD (i+k) 0))%4294967296)),by dsimp only;omega,eB,zZ,by dsimp only;omega,by dsimp only;omega,by simpa using aY,KD hz om,fun j hj=> ?_,fun e=>pV (by simpa using e),bP⟩
   dsimp only at hj⊢
   rw [Go.PN.getD_set_ne om]
   exact se j om
  ·have fI:k=ys.length+1:=dF hb
   subst fI
   refine xG ?_
   rw [PF rfl,Nat.mul_zero,Nat.add_zero,nM,Ly (l:=ys) om] at hv
   refine Qb ⟨(i+1,zs),by dsimp only;omega,eB,zZ,by dsimp only;omega,aY,hz,?_⟩
   dsimp only
   rw [hv,Qx,mY,Nat.add_mul,Na]
 ·have bV:i=xs.length:=dF hb
  subst bV
  refine xG ?_
  refine Qr (Y1 z0 sc om) rfl rfl rfl (by refine xS ?_;exact .c (Yi eE om om (fun j _=>by rw [Nz];rfl))) ?_
  refine JW hC ?_
  rw [nM,Lk]
  exact .one (.c QZ)
theorem TL {n m:Nat} (h1:2^m≤n) (h2:n<2^(m+1)):QX n=m+1:=by
 have:=Kb h1
 have h3:n/2^m=1:=by
  rw [Nat.pow_succ] at h2
  exact Nat.div_eq_of_lt_le om om
 rw [this,h3];rfl
theorem Qrt (x n:Nat) (hn:n≤32):ly .u32 (x:Int) (n:Int)=((x/2^n:Nat):Int):=by
 rw [JA]
 have h1:min (n:Int).toNat IntKind.u32.bits=n:=by show min (n:Int).toNat 32=n;omega
 rw [h1,Int.fdiv_eq_ediv_of_nonneg _ (by exact Int.le_of_lt (Int.pow_pos om))]
 rw [Int.natCast_ediv,Int.natCast_pow];rfl
theorem QmF (x:Nat) (hx:x<4294967296):uD .u32 (x:Int) 1=((x%2:Nat):Int):=by
 rw [B7]
 show IntKind.u32.wrap (((BitVec.ofInt 32 (x:Int)&&&BitVec.ofInt 32 1).toNat:Nat):Int)=_
 have:(BitVec.ofInt 32 (x:Int)&&&BitVec.ofInt 32 1).toNat=x%2:=by
  rw [BitVec.toNat_and]
  have e1:(BitVec.ofInt 32 (x:Int)).toNat=x:=by rw [BitVec.ofInt_natCast,BitVec.toNat_ofNat];omega
  have e2:(BitVec.ofInt 32 1).toNat=1:=rfl
  rw [e1,e2,Nat.and_one_is_mod]
 rw [this,IntKind.wrap_u32];omega
theorem H7 {x k:Nat}:x%2^(k+1)=x%2^k+2^k*(x/2^k%2):=by
 rw [Nat.pow_succ,Nat.mod_mul]
theorem QmG {V i x k:Nat} (hV:V<4294967296^i) (hb:x/2^k%2=1):QX (V+4294967296^i*(x%2^(k+1)))=32*i+k+1:=by
 have hp:(4294967296:Nat)^i=2^(32*i):=by rw [Nat.pow_mul]
 rw [H7,hb,Ad]
 have hm:x%2^k<2^k:=Nat.mod_lt _ (Nat.two_pow_pos k)
 rw [hp] at hV⊢
 have e1:2^(32*i+k)=2^(32*i)*2^k:=Nat.pow_add ..
 refine TL ?_ ?_
 ·rw [e1,Nat.mul_add];omega
 ·rw [Nat.pow_succ,e1,Nat.mul_add]
  have:=Nat.mul_le_mul_left (2^(32*i)) (show x%2^k+1≤2^k from hm)
  rw [Nat.mul_add,Ad] at this
  omega
theorem BP (xs:List Nat) (hx:∀x∈xs,x<4294967296) (dp:xs.length≤68719476736):Fa prog 259 [.c (ws false xs)] (.c (.int .i64 (QX (val xs):Nat))):=by
 refine fA func259 fun C hC=>?_
 refine xG ?_
 refine Qh (fun i:Nat=>[(3,.c (.int .i64 (QX (val (xs.take i)):Nat))),(7,.c (ws false xs)),(8,.c (.int .i64 xs.length)),(9,.c (.int .i64 i))]) (fun _=>[]) (fun i=>i≤xs.length) (fun i=>xs.length-i) 0 eB zZ (Lz _) ?_
 rintro i hi
 refine xG ?_
 refine xF (fun hb=>?_) fun hb=>?_
 ·have bV:i<xs.length:=dT hb
  have dL:=QI hx i
  have hvt:=XF xs hx i om
  refine xG ?_
  generalize mY:xs.getD i 0=x at*
  refine Qh (fun k:Nat=>[(3,.c (.int .i64 (QX (val (xs.take i)+4294967296^i*(x%2^k)):Nat))),(4,.c (.int .i64 i)),(5,.c (.int .u32 x)),(7,.c (ws false xs)),(8,.c (.int .i64 xs.length)),(9,.c (.int .i64 i)),(14,.c (.int .i64 k))]) (fun _=>[]) (fun k=>k≤32) (fun k=>32-k) 0 (by refine xS ?_;and_intros<;>first|exact True.intro|rfl|(rw [Nat.pow_zero,Nat.mod_one,Nat.mul_zero,Nat.add_zero])) zZ (Lz _) ?_
  rintro k hk
  refine xG ?_
  refine xF (fun hb=>?_) fun hb=>?_
  ·have dC:k<32:=dT hb
   have hd:x/2^k<4294967296:=Nat.lt_of_le_of_lt (Nat.div_le_self _ _) dL
   have e1:=Qrt x k om
   have e2:=QmF (x/2^k) hd
   have J1:=oj e1 e2
   refine yG J1 ?_
   refine yF J1 (fun hc=>?_) fun hc=>?_
   ·have dv:x/2^k%2=1:=by have:=eq_of_beq hc;omega
    refine yG J1 ?_
    refine Qb ⟨k+1,by omega,(by refine yS J1 ?_;and_intros<;>first|exact True.intro|rfl|exact Ul (by rw [QmG hvt dv];omega)),zZ,by omega⟩
   ·have dv:x/2^k%2=0:=by
     have h1:¬(((x/2^k%2:Nat):Int)=1):=fun e=>by rw [e] at hc;cases hc
     omega
    refine yG J1 ?_
    refine Qb ⟨k+1,by omega,(by refine yS J1 ?_;and_intros<;>first|exact True.intro|rfl|(rw [H7,dv,Nat.mul_zero,Nat.add_zero])),zZ,by omega⟩
  ·have dC:k=32:=dF hb
   subst dC
   refine xG ?_
   refine Qb ⟨i+1,by omega,(by refine xS ?_;and_intros<;>first|exact True.intro|rfl|(rw [Qx,mY,Nat.mod_eq_of_lt (show x<2^32 from dL)])),zZ,by omega⟩
 ·have bV:i=xs.length:=dF hb
  subst bV
  refine eS hC ?_
  rw [Lk]
  exact .one (.c (.int _ _))
theorem Qru {xs zs:List Nat} {i s c:Nat} (h:val zs+4294967296^i*c=val (xs.take i)*2^s) (hl:zs.length=i):
  val (zs++[(c+xs.getD i 0*2^s)%4294967296])+4294967296^(i+1)*((c+xs.getD i 0*2^s)/4294967296)=val (xs.take (i+1))*2^s:=by
 rw [V9,hl,Qx]
 simp only [val,Nat.mul_zero,Nat.add_zero]
 have e:=Nat.mod_add_div (c+xs.getD i 0*2^s) 4294967296
 generalize (c+xs.getD i 0*2^s)%4294967296=v at*
 generalize (c+xs.getD i 0*2^s)/4294967296=d at*
 rw [Nat.add_mul,←h,Nat.pow_succ,Na,Na,Nat.add_assoc,←Nat.mul_add,e,Nat.mul_add,Nat.add_assoc]
theorem QoH {c x s:Nat} (hc:c<2^s):c|||x*2^s=c+x*2^s:=by
 rw [Nat.or_comm,Nc,←Nat.two_pow_add_eq_or_of_lt hc,Nat.add_comm]
theorem QoI {c x s:Nat} (hc:c<2^s) (hx:x<4294967296):(c+x*2^s)/4294967296<2^s:=by
 rw [Nat.div_lt_iff_lt_mul om]
 have:=Nm (2^s) (show x+1≤4294967296 from hx)
 rw [Nat.add_mul,Nat.one_mul] at this
 rw [Nc (2^s)]
 omega
theorem Qvw {c x s:Nat} (hc:c<2^s) (hx:x<4294967296) (hs:s<32):c+x*2^s<18446744073709551616:=by
 have h1:=Nm (2^s) (show x+1≤4294967296 from hx)
 rw [Nat.add_mul,Nat.one_mul] at h1
 have h2:=Nat.mul_le_mul_left 4294967296 (Uu (show s≤32 from by omega))
 omega
theorem M5 (xs:List Nat) (s:Nat) (hx:∀x∈xs,x<4294967296) (dp:xs.length≤68719476736) (hs:s<32):Fa prog 290 [.c (ws false xs),.c (.int .i64 s)] (.c (ws true (Qc (val xs*2^s)))):=by
 refine fA func290 fun C hC=>?_
 refine xG ?_
 refine Qh (fun x:Option Nat×Nat×Nat×List Nat=>[(1,.c (.int .i64 s)),(5,.c (gs x.1 1 x.2.1)),(6,.c (.int .u64 x.2.2.1)),(9,.c (ws false xs)),(10,.c (.int .i64 xs.length)),(11,.c (.int .i64 x.2.1))]) (fun x=>gh x.1 180 x.2.1 (wf x.2.2.2))
  (fun x=>(x.1=none→x.2.1=0)∧x.2.1≤xs.length∧x.2.2.1<2^s∧x.2.2.2.length=x.2.1∧(∀y∈x.2.2.2,y<4294967296)∧val x.2.2.2+4294967296^x.2.1*x.2.2.1=val (xs.take x.2.1)*2^s) (fun x=>xs.length-x.2.1) (none,0,0,[]) eB zZ
  ⟨fun _=>rfl,Lz _,Nat.two_pow_pos s,rfl,by simp,by simp [val]⟩ ?_
 rintro ⟨og,i,c,zs⟩ ⟨ax,hi,hc,aY,hz,hv⟩
 dsimp only at ax hi hc aY hz hv⊢
 have hp:=Uu (show s≤32 from by omega)
 refine xG ?_
 refine xF (fun hb=>?_) fun hb=>?_
 ·have bV:i<xs.length:=dT hb
  have dL:=QI hx i
  have aD:=Qvw hc dL hs
  have e1:=LB (xs.getD i 0) s dL om
  have e2:oY .u64 (c:Int) ((xs.getD i 0*2^s:Nat):Int)=((c+xs.getD i 0*2^s:Nat):Int):=by
   rw [CN _ _ om om,QoH hc]
  have e3:=QL (c+xs.getD i 0*2^s)
  have e4:=U3 (c+xs.getD i 0*2^s)
  have bP:=Qru (xs:=xs) hv aY
  have ke:=QoI hc dL
  have J1:=oj e1 (oj e2 (oj e3 e4))
  refine yG J1 ?_
  refine QT (pre:=[]) rfl rfl rfl rfl rfl rfl rfl (zE J1) (zE J1) (by rfl) om om (zE J1) om (by exact ax) (zE J1) (by rfl) (by rfl) qb qc om (by exact uh aY _) fun g n_=> ?_
  replace n_:=Qa.ay n_
  first|dsimp only [Qa.ne,gh] at n_|dsimp only [Qa.ne] at n_|skip
  have J2:=oj e1 (oj e2 (oj e3 (oj e4 n_)))
  refine Xw J2 ?_
  refine Qb ⟨(some g,i+1,(c+xs.getD i 0*2^s)/4294967296,zs++[(c+xs.getD i 0*2^s)%4294967296]),by dsimp only;omega,(zB J2),zZ,Xx,by dsimp only;omega,ke,by simp;omega,wZ hz om,bP⟩
 ·have bV:i=xs.length:=dF hb
  subst bV
  have e3:Xz .u32 (c:Int)=(c:Int):=by rw [QL,Nat.mod_eq_of_lt om]
  refine yG e3 ?_
  refine QT (pre:=[]) rfl rfl rfl rfl rfl rfl rfl (zE e3) (zE e3) (by rfl) om om (zE e3) om (by exact ax) (zE e3) (by rfl) (by rfl) qb qc om (by exact uh aY _) fun g n_=> ?_
  replace n_:=Qa.ay n_
  first|dsimp only [Qa.ne,gh] at n_|dsimp only [Qa.ne] at n_|skip
  have J3:=oj e3 n_
  refine Xw J3 ?_
  refine Qr (Y1 (zs++[c]) (wZ hz om) (by simp;omega)) rfl rfl rfl ⟨.c (xY Xx (by simp;omega)),trivial⟩ ?_
  refine mc hC J3 ?_
  rw [V9,aY]
  simp only [val,Nat.mul_zero,Nat.add_zero]
  rw [hv,Lk]
  exact .one (.c QZ)
theorem QoK {s:Nat} {xs zs:List Nat} {i:Nat} (hi:i<xs.length) (hl:zs=(jf s xs).take i):zs++[(xs.getD i 0+xs.getD (i+1) 0*4294967296)/2^s%4294967296]=(jf s xs).take (i+1):=by
 rw [←HU s xs i hi,hl]
 have eH:i<(jf s xs).length:=by rw [Ka];exact hi
 rw [List.take_succ_eq_append_getElem eH]
 congr 2
 rw [Lg,Li eH];rfl
theorem QoL (xs:List Nat) (s:Nat) (hx:∀x∈xs,x<4294967296) (dp:xs.length≤68719476736) (hs:s<32):Fa prog 293 [.c (ws false xs),.c (.int .i64 s)] (.c (ws true (Qc (val xs/2^s)))):=by
 refine fA func293 fun C hC=>?_
 refine xG ?_
 refine Qh (fun x:Option Nat×Nat×List Nat=>[(0,.c (ws false xs)),(1,.c (.int .i64 s)),(5,.c (gs x.1 1 x.2.1)),(7,.c (ws false xs)),(8,.c (.int .i64 xs.length)),(9,.c (.int .i64 x.2.1))]) (fun x=>gh x.1 180 x.2.1 (wf x.2.2))
  (fun x=>(x.1=none→x.2.1=0)∧x.2.1≤xs.length∧x.2.2=(jf s xs).take x.2.1) (fun x=>xs.length-x.2.1) (none,0,[]) eB zZ
  ⟨fun _=>rfl,Lz _,by simp⟩ ?_
 rintro ⟨og,i,zs⟩ ⟨ax,hi,im⟩
 dsimp only at ax hi im⊢
 have aY:zs.length=i:=by rw [im,List.length_take,Ka];omega
 refine xG ?_
 refine xF (fun hb=>?_) fun hb=>?_
 ·have bV:i<xs.length:=dT hb
  have dL:=QI hx i
  have vP:=QI hx (i+1)
  refine xG ?_
  refine xC (Yu xs i hx) ?_
  refine xG ?_
  refine xC (Yu xs (i+1) hx) ?_
  have e1:=Vo (xs.getD (i+1) 0) vP
  have e2:=U2 (xs.getD (i+1) 0) (xs.getD i 0) vP dL
  have e3:=LC (xs.getD (i+1) 0*4294967296+xs.getD i 0) s om
  have e4:=QL ((xs.getD (i+1) 0*4294967296+xs.getD i 0)/2^s)
  have e5:=QoK (s:=s) bV im
  rw [Nat.add_comm (xs.getD i 0)] at e5
  have J1:=oj e1 (oj e2 (oj e3 e4))
  refine yG J1 ?_
  refine QT (pre:=[]) rfl rfl rfl rfl rfl rfl rfl (zE J1) (zE J1) (by rfl) om om (zE J1) om (by exact ax) (zE J1) (by rfl) (by rfl) qb qc om (by exact uh aY _) fun g n_=> ?_
  replace n_:=Qa.ay n_
  first|dsimp only [Qa.ne,gh] at n_|dsimp only [Qa.ne] at n_|skip
  have J2:=oj e1 (oj e2 (oj e3 (oj e4 n_)))
  refine Xw J2 ?_
  refine Qb ⟨(some g,i+1,zs++[(xs.getD (i+1) 0*4294967296+xs.getD i 0)/2^s%4294967296]),by dsimp only;omega,(zB J2),zZ,Xx,by dsimp only;omega,e5⟩
 ·have bV:i=xs.length:=dF hb
  subst bV
  rw [Ly (by rw [Ka];omega)] at im
  refine xG ?_
  refine Qr (Y1 zs (by rw [im];exact Nf s xs) om) rfl rfl rfl ⟨.c (xY ax aY),trivial⟩ ?_
  refine JW hC ?_
  rw [im,LF om xs hx]
  exact .one (.c QZ)
end Go.Proofs.YtjegkdadeghpjaaGreatDoor
namespace Go.PN
theorem CU (k:Nat):(0:Nat)<4294967296^k:=Nat.pow_pos om
theorem QmH {R V rt bt D:Nat} (hR:R<(rt+1)*D) (hV:bt*D≤V) (hb:0<bt) (rm:0<V):R/V≤rt/bt:=by
 rw [Nat.le_div_iff_mul_le hb]
 have h1:R/V*V≤R:=Nat.div_mul_le_self R V
 have h2:R/V*bt*D<(rt+1)*D:=by
  refine Nat.lt_of_le_of_lt ?_ hR
  refine Lt ?_ h1
  rw [Na]
  exact Nat.mul_le_mul_left _ hV
 have h3:R/V*bt<rt+1:=Nat.lt_of_mul_lt_mul_right h2
 omega
theorem Qt0 (xs:List Nat) (hx:∀x∈xs,x<4294967296) (n:Nat) (hl:xs.length≤n+2):val xs<(xs.getD (n+1) 0*4294967296+xs.getD n 0+1)*4294967296^n:=by
 have h1:val xs=val (xs.take (n+2)):=by rw [Ly hl]
 have h2:=Qx xs (n+1)
 have h3:=Qx xs n
 have h4:val (xs.take n)<4294967296^n:=by
  by_cases hc:n≤xs.length
  ·exact XF xs hx n hc
  ·rw [Ly om]
   exact Ae (Z0 xs hx) (Nat.pow_le_pow_right om om)
 rw [h1,show n+2=n+1+1 from rfl,h2,h3,Nat.pow_succ]
 generalize 4294967296^n=D at*
 generalize xs.getD (n+1) 0=a
 generalize xs.getD n 0=b
 rw [Nat.add_mul,Nat.add_mul,Nat.one_mul,Na a,Nc D b,Nc (D*4294967296) a,Nc D 4294967296]
 omega
theorem Qt1 (ys:List Nat) (n:Nat):ys.getD n 0*4294967296^n≤val (ys.take (n+1)):=by
 rw [Qx,Nc];omega
theorem QoN {A V m r:Nat} (hV:0<V) (hr:r=A/4294967296^(m+1)%V):(A/4294967296^m%4294967296+4294967296*r)%V=A/4294967296^m%V∧A/4294967296^m/V=(A/4294967296^m%4294967296+4294967296*r)/V+4294967296*(A/4294967296^(m+1)/V):=by
 have e:A/4294967296^(m+1)=A/4294967296^m/4294967296:=by rw [Nat.pow_succ,Nat.div_div_eq_div_mul]
 rw [e] at hr⊢
 generalize A/4294967296^m=T at*
 have h1:=Nat.div_add_mod T 4294967296
 have h2:=Nat.div_add_mod (T/4294967296) V
 rw [←hr] at h2
 generalize T/4294967296/V=q at*
 have h3:T=(T%4294967296+4294967296*r)+V*(4294967296*q):=by
  have:4294967296*(V*q+r)=4294967296*(T/4294967296):=by rw [h2]
  rw [Nat.mul_add,←Na,Nc 4294967296 V,Na] at this
  omega
 constructor
 ·conv=>rhs;rw [h3]
  rw [Nat.add_mul_mod_self_left]
 ·conv=>lhs;rw [h3]
  rw [Nat.add_mul_div_left _ _ hV]
theorem Qrv (xs:List Nat) (hx:∀x∈xs,x<4294967296) (m:Nat):val xs/4294967296^m%4294967296=xs.getD m 0:=by
 by_cases hm:m<xs.length
 ·have h1:=YB xs m om
  have h2:=XF xs hx m om
  rw [h1,Nat.add_mul_div_left _ _ (CU m),Nat.div_eq_of_lt h2,Nz,Ks,Nat.add_mul_mod_self_left]
  exact Nat.mod_eq_of_lt (QI hx m)
 ·have h1:=Ae (Z0 xs hx) (Nat.pow_le_pow_right (show 0<4294967296 by omega) (show xs.length≤m by omega))
  rw [Nat.div_eq_of_lt h1,ZR om]
theorem QoO (xs:List Nat) (hx:∀x∈xs,x<4294967296) (m:Nat) (hm:m≤xs.length):val (xs.drop m)=val xs/4294967296^m:=by
 have h1:=YB xs m hm
 have h2:=XF xs hx m hm
 rw [h1,Nat.add_mul_div_left _ _ (CU m),Nat.div_eq_of_lt h2,Nz]
theorem Sj {qs:List Nat} {m v:Nat} (hm:m<qs.length):val ((qs.set m v).drop m)=v+4294967296*val (qs.drop (m+1)):=by
 rw [BM hm];rfl
theorem QmI {b n s:Nat} (hl:(Qc b).length=n+1) (hs:(Qc b).getD n 0*2^s<4294967296):(Qc (b*2^s)).length=n+1:=by
 have cQ:b≠0:=fun e=>by rw [e,QA] at hl;cases hl
 have hv:=Qd b
 have h1:val ((Qc b).take (n+1))=b:=by rw [Ly om,hv]
 rw [Qx] at h1
 have h2:=XF (Qc b) (Qp b) n om
 have hle:b*2^s<4294967296^(n+1):=by
  have h3:b<4294967296^n*((Qc b).getD n 0+1):=by rw [Nat.mul_add,Ad];omega
  have h4:b*2^s<4294967296^n*((Qc b).getD n 0+1)*2^s:=Nat.mul_lt_mul_of_pos_right h3 (Nat.two_pow_pos s)
  refine Ae h4 ?_
  rw [Na,Nat.pow_succ]
  refine Nat.mul_le_mul_left _ ?_
  have h5:((Qc b).getD n 0+1)*2^s≤4294967296:=by
   by_cases EG:s≤32
   ·have h6:=Z5 EG
    rw [h6] at hs⊢
    rw [Nc (2^s) (2^(32-s))] at hs⊢
    have:=Nat.lt_of_mul_lt_mul_right hs
    exact Nm _ this
   ·have h7:(Qc b).getD n 0≠0:=by
     have:=(Kr b).resolve_left (fun e=>cQ (Xb.1 e))
     rwa [hl] at this
    exfalso
    have h8:(2:Nat)^32≤2^s:=Nat.pow_le_pow_right om om
    have h9:=Nat.mul_le_mul (show 1≤(Qc b).getD n 0 by omega) h8
    omega
  exact h5
 have eu:b≤b*2^s:=Nat.le_mul_of_pos_right _ (Nat.two_pow_pos s)
 have:=QK eu
 have:=XX hle
 omega
theorem Sk {y:Nat} (hy:y<4294967296) (h:y&&&2147483648=0):y<2147483648:=by
 have h1:(y&&&2147483648).testBit 31=false:=by rw [h];simp
 rw [Nat.testBit_and,show(2147483648:Nat).testBit 31=true from by decide,Bool.and_true,Nat.testBit_eq_decide_div_mod_eq] at h1
 simp at h1
 omega
end Go.PN
