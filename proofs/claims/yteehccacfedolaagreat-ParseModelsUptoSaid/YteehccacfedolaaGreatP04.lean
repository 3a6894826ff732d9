/- Parts of one proof, laid by a program. -/
import Derived.Test.YteehccacfedolaaGreatP00
import Derived.Test.YteehccacfedolaaGreatP03
set_option linter.unusedSimpArgs false
set_option linter.unusedVariables false
set_option maxRecDepth 100000
set_option maxHeartbeats 12800000
namespace Go.AI
theorem ofInt64 (a:Nat):(BitVec.ofInt 64 (a:Int)).toNat=a%18446744073709551616:=by
 rw [BitVec.ofInt_natCast,BitVec.toNat_ofNat]
theorem or_u64 (a b:Nat) (ha:a<18446744073709551616) (hb:b<18446744073709551616):orZ .u64 (a:Int) (b:Int)=((a|||b:Nat):Int):=by
 have hx:a|||b<2^64:=Nat.or_lt_two_pow om om
 rw [orZ_eq]
 show IntKind.u64.wrap (((BitVec.ofInt 64 (a:Int))|||(BitVec.ofInt 64 (b:Int))).toNat:Int)=_
 rw [BitVec.toNat_or,ofInt64,ofInt64,Nat.mod_eq_of_lt ha,Nat.mod_eq_of_lt hb,IntKind.wrap_u64]
 omega
theorem or_join (x y:Nat) (hy:y<4294967296):x*4294967296|||y=x*4294967296+y:=by
 have:=Nat.two_pow_add_eq_or_of_lt (i:=32) (b:=y) om x
 rw [Nat.mul_comm x,←this]
theorem or_u64_join (x y:Nat) (hx:x<4294967296) (hy:y<4294967296):orZ .u64 ((x*4294967296:Nat):Int) (y:Int)=((x*4294967296+y:Nat):Int):=by
 rw [or_u64 _ _ om om,or_join x y hy]
def j32 (x y:Nat):Nat:=x*4294967296+y
theorem or_u64_j32 (x y:Nat) (hx:x<4294967296) (hy:y<4294967296):orZ .u64 ((x*4294967296:Nat):Int) (y:Int)=((j32 x y:Nat):Int):=or_u64_join x y hx hy
theorem or_u64_join' (x y:Nat) (hx:x<4294967296) (hy:y<4294967296):orZ .u64 (y:Int) ((x*4294967296:Nat):Int)=((x*4294967296+y:Nat):Int):=by
 rw [or_u64 _ _ om om,Nat.or_comm,or_join x y hy]
theorem or_u32 (a b:Nat) (ha:a<4294967296) (hb:b<4294967296):orZ .u32 (a:Int) (b:Int)=((a|||b:Nat):Int):=by
 have hx:a|||b<2^32:=Nat.or_lt_two_pow om om
 rw [orZ_eq]
 show IntKind.u32.wrap (((BitVec.ofInt 32 (a:Int))|||(BitVec.ofInt 32 (b:Int))).toNat:Int)=_
 rw [BitVec.toNat_or,BitVec.ofInt_natCast,BitVec.ofInt_natCast,BitVec.toNat_ofNat,BitVec.toNat_ofNat,Nat.mod_eq_of_lt om,Nat.mod_eq_of_lt om,IntKind.wrap_u32]
 omega
theorem shl_u64_32 (x:Nat) (hx:x<4294967296):shlZ .u64 (x:Int) 32=((x*4294967296:Nat):Int):=by
 rw [shlZ_eq]
 show IntKind.u64.wrap ((x:Int)*4294967296)=_
 rw [IntKind.wrap_u64];omega
theorem nat_div_32 (y:Nat):(y:Int)/4294967296=((y/4294967296:Nat):Int):=by omega
theorem pow_lt_32 {n:Nat} (hn:n≤32):2^n≤4294967296:=Nat.pow_le_pow_right (n:=2) om hn
theorem shl_u64 (x n:Nat) (hx:x<4294967296) (hn:n≤32):shlZ .u64 (x:Int) (n:Int)=((x*2^n:Nat):Int):=by
 have h1:=pow_lt_32 hn
 have h2:x*2^n≤4294967295*4294967296:=Nat.mul_le_mul om h1
 rw [shlZ_eq]
 show IntKind.u64.wrap ((x:Int)*2^(min (n:Int).toNat 64))=_
 rw [Int.toNat_natCast,Nat.min_eq_left om,IntKind.wrap_u64]
 have e:(x:Int)*2^n=((x*2^n:Nat):Int):=by simp
 rw [e]
 omega
theorem shr_u64 (x n:Nat) (hn:n≤64):shrZ .u64 (x:Int) (n:Int)=((x/2^n:Nat):Int):=by
 rw [shrZ_eq]
 show(x:Int).fdiv (2^(min (n:Int).toNat 64))=_
 rw [Int.toNat_natCast,Nat.min_eq_left hn]
 have e:(2:Int)^n=((2^n:Nat):Int):=by simp
 rw [e,Int.fdiv_eq_ediv_of_nonneg _ (Int.natCast_nonneg _)]
 rfl
theorem quo_u64 (a b:Nat) (ha:a<18446744073709551616):quoZ .u64 (a:Int) (b:Int)=((a/b:Nat):Int):=by
 rw [quoZ_eq]
 show IntKind.u64.wrap ((a:Int).tdiv b)=_
 have h:=Nat.div_le_self a b
 have e:(a:Int).tdiv (b:Int)=((a/b:Nat):Int):=rfl
 rw [e,IntKind.wrap_u64]
 generalize a/b=q at*
 omega
theorem rem_nat (a b:Nat):remZ (a:Int) (b:Int)=((a%b:Nat):Int):=by rw [remZ_eq];exact Int.ofNat_tmod a b
end Go.AI
namespace Go.Proofs.YteehccacfedolaaGreat
open Go.AI Go.PN
attribute [local irreducible] aw Fa Fh DrK
theorem small_fa (xs:List Nat) (b:Nat) (hx:∀x∈xs,x<4294967296) (hlx:xs.length≤68719476736) (hb0:0<b) (hb:b<4294967296):
  Fa Tryz.prog 189 [.c (ws false xs),.c (.int .u32 b)] (.tup [.c (ws true (words (val xs/b))),.c (.int .u32 (val xs%b:Nat))]):=by
 refine fa_of_body Tryz.func189 rfl rfl (by simp [Tryz.ntmps189]) fun C hC=> ?_
 simp only [initS,Nat.reduceAdd]
 refine xG ?_
 refine aw_make (n:=xs.length) (c:=xs.length) rfl rfl rfl ty_e_ws ty_z_u32 rfl om eE eE rfl rfl om om om fun g hg=> ?_
 rw [make_wf xs.length]
 refine xSG ?_
 refine aw_lp (fun x:Nat×Nat×List Nat=>[(0,.c (ws false xs)),(1,.c (.int .u32 b)),(6,.c (.osl g 1 0 xs.length)),(7,.c (.int .u64 x.2.1)),(8,.c (.int .i64 ((x.1:Int)-1)))]) (fun x=>[(g,.cells 166 xs.length (wf x.2.2))])
  (fun x=>x.1≤xs.length∧x.2.1<b∧x.2.2.length=xs.length∧(∀y∈x.2.2,y<4294967296)∧val (xs.drop x.1)=b*val (x.2.2.drop x.1)+x.2.1) (fun x=>x.1) (xs.length,0,List.replicate xs.length 0) eB zZ
  ⟨Nat.le_refl _,hb0,by simp,replicate_lt _,by simp [val]⟩ ?_
 rintro ⟨m,r,zs⟩ ⟨hm,hr,hzl,hz,hv⟩
 dsimp only at hm hr hzl hz hv⊢
 refine xG ?_
 refine aw_cond eE (fun hb1=> ?_) (fun hb1=> ?_)
 ·have hm1:1≤m:=dT hb1
  have e1:((m:Int)-1).toNat=m-1:=by omega
  have hxi:=getD_lt hx (m-1)
  have hst:=small_step (xs:=xs) (zs:=zs) (m:=m-1) (r:=r) hb0 om (by rw [show m-1+1=m from by omega];exact hv)
  refine xG ?_
  rw [shl_u64_32 r om,or_u64_join r _ om hxi]
  have hs:r*4294967296+xs.getD (m-1) 0<b*4294967296:=by
   have:(r+1)*4294967296≤b*4294967296:=Nat.mul_le_mul_right _ hr
   omega
  have hq:(r*4294967296+xs.getD (m-1) 0)/b<4294967296:=Nat.div_lt_of_lt_mul hs
  have hrm:(r*4294967296+xs.getD (m-1) 0)%b<b:=Nat.mod_lt _ hb0
  have hsl:r*4294967296+xs.getD (m-1) 0<18446744073709551616:=by omega
  generalize r*4294967296+xs.getD (m-1) 0=s at hs hq hrm hsl hst⊢
  refine xG ?_
  rw [quo_u64 s b hsl,wrap_u32_nat,Nat.mod_eq_of_lt hq]
  refine xW ?_
  refine xS ?_
  rw [updF_wf om]
  refine xG ?_
  rw [rem_nat]
  refine aw_stop ⟨(m-1,s%b,zs.set (m-1) (s/b)),by dsimp only;omega,eB,zZ,by dsimp only;omega,hrm,by simpa using hzl,set_lt hz hq,hst⟩
 ·have hm0:m=0:=dF hb1
  subst hm0
  refine xG ?_
  refine aw_callq (trim_fa zs hz om) rfl rfl rfl (by refine xS ?_;exact .c (lec_oslws eE om om (fun j _=>by rw [Nat.zero_add];rfl))) ?_
  refine xSGT hC ?_
  simp only [List.drop_zero] at hv
  have e1:val xs/b=val zs:=by rw [hv,Nat.mul_add_div hb0,Nat.div_eq_of_lt hr,Nat.add_zero]
  have e2:val xs%b=r:=by rw [hv,Nat.mul_add_mod,Nat.mod_eq_of_lt hr]
  rw [e1,e2,wrap_u32_nat,Nat.mod_eq_of_lt om]
  exact .tup ⟨.c ler_ws,.c (.int _ _),trivial⟩
end Go.Proofs.YteehccacfedolaaGreat
namespace Go.PN
theorem getD_replicate (n j:Nat):(List.replicate n 0).getD j 0=0:=by
 rw [List.getD_eq_getElem?_getD,List.getElem?_replicate];split<;>rfl
theorem two_pow_split {n:Nat} (hn:n≤32):(4294967296:Nat)=2^n*2^(32-n):=by
 rw [←Nat.pow_add,show n+(32-n)=32 from by omega]
theorem shl_mod (x n:Nat) (hn:n≤32):x*2^n%4294967296=2^n*(x%2^(32-n)):=by
 rw [two_pow_split hn,Nat.mul_comm x,Nat.mul_mod_mul_left]
theorem or_low {z x n:Nat} (hn:n≤32) (hz:z<2^n):z|||x*2^n%4294967296=z+x*2^n%4294967296:=by
 rw [shl_mod x n hn,Nat.or_comm,←Nat.two_pow_add_eq_or_of_lt hz,Nat.add_comm]
theorem or_low_lt {z x n:Nat} (hn:n≤32) (hz:z<2^n):z+x*2^n%4294967296<4294967296:=by
 rw [shl_mod x n hn]
 have h1:x%2^(32-n)+1≤2^(32-n):=Nat.mod_lt _ (Nat.two_pow_pos _)
 have h2:=Nat.mul_le_mul_left (2^n) h1
 rw [←two_pow_split hn,Nat.mul_add] at h2
 omega
theorem shl_hi {x n:Nat} (hx:x<4294967296):x*2^n/4294967296<2^n:=by
 rw [Nat.div_lt_iff_lt_mul om,Nat.mul_comm (2^n)]
 exact Nat.mul_lt_mul_of_pos_right hx (Nat.two_pow_pos _)
theorem left_step {xs zs:List Nat} {i n:Nat} (hi:i+1<zs.length) (h0:zs.getD (i+1) 0=0) (h:val zs=val (xs.take i)*2^n):
  val ((zs.set i (zs.getD i 0+xs.getD i 0*2^n%4294967296)).set (i+1) (xs.getD i 0*2^n/4294967296))=val (xs.take (i+1))*2^n:=by
 have h1:=val_set (zs:=zs) (j:=i) (v:=zs.getD i 0+xs.getD i 0*2^n%4294967296) om
 have h2:=val_set (zs:=zs.set i (zs.getD i 0+xs.getD i 0*2^n%4294967296)) (j:=i+1) (v:=xs.getD i 0*2^n/4294967296) (by simpa using hi)
 rw [getD_set_ne om,h0] at h2
 rw [val_take_succ,Nat.add_mul,←h]
 generalize hy:xs.getD i 0*2^n=y at h1 h2⊢
 have h3:4294967296^i*xs.getD i 0*2^n=4294967296^i*y:=by rw [Nat.mul_assoc,hy]
 have h4:4294967296^i*y=4294967296^i*(y%4294967296)+4294967296^(i+1)*(y/4294967296):=by
  rw [Nat.pow_succ,Nat.mul_assoc,←Nat.mul_add];congr 1;omega
 rw [Nat.mul_add] at h1
 rw [h3,h4]
 omega
def rgt (n:Nat):List Nat→List Nat
 |[]=>[]
 |x::xs=>(x+xs.getD 0 0*4294967296)/2^n%4294967296::rgt n xs
theorem rgt_length (n:Nat):∀xs,(rgt n xs).length=xs.length
 |[]=>rfl
 |_::xs=>by simp [rgt,rgt_length n xs]
theorem rgt_getD (n:Nat) (xs:List Nat):∀(i:Nat),i<xs.length→(rgt n xs).getD i 0=(xs.getD i 0+xs.getD (i+1) 0*4294967296)/2^n%4294967296:=by
 induction xs with
 |nil=>intro i h;simp at h
 |cons x xs ih=>
  intro i h
  cases i with
  |zero=>simp only [rgt,List.getD_cons_zero,List.getD_cons_succ]
  |succ i=>
   simp only [rgt,List.getD_cons_succ]
   exact ih i (by simpa using h)
theorem rgt_lt (n:Nat) (xs:List Nat):∀x∈rgt n xs,x<4294967296:=by
 induction xs with
 |nil=>intro x h;simp [rgt] at h
 |cons y xs ih=>
  intro x h
  simp only [rgt,List.mem_cons] at h
  rcases h with h|h
  ·rw [h];exact Nat.mod_lt _ om
  ·exact ih x h
theorem rgt_val {n:Nat} (hn:n≤32) (xs:List Nat):(∀x∈xs,x<4294967296)→val (rgt n xs)=val xs/2^n:=by
 induction xs with
 |nil=>intro _;simp [rgt,val]
 |cons x xs ih0=>
  intro hx
  have ih:=ih0 (fun y hy=>hx y (List.mem_cons_of_mem _ hy))
  have hxx:=hx x (by simp)
  have hV:val xs=xs.getD 0 0+4294967296*val (xs.drop 1):=by have:=val_drop xs 0;simpa using this
  simp only [rgt,val,ih]
  generalize hx':xs.getD 0 0=x' at hV⊢
  generalize val (xs.drop 1)=r at hV
  generalize hVv:val xs=V at hV⊢
  have hN:0<2^n:=Nat.two_pow_pos n
  have hB:=two_pow_split hn
  have hM:0<2^(32-n):=Nat.two_pow_pos _
  generalize 2^n=N at hN hB⊢
  generalize 2^(32-n)=M at hB hM
  have e1:x'%N=V%N:=by rw [hV,hB,Nat.mul_assoc,Nat.add_mul_mod_self_left]
  have e2:(x+x'*4294967296)/N=(x+x'%N*4294967296)/N+x'/N*4294967296:=by
   have hq:x'=N*(x'/N)+x'%N:=(Nat.div_add_mod x' N).symm
   have:x+x'*4294967296=(x+x'%N*4294967296)+N*(x'/N*4294967296):=by
    conv=>lhs;rw [hq]
    rw [Nat.add_mul,Nat.mul_assoc];omega
   rw [this,Nat.add_mul_div_left _ _ hN]
  have e3:(x+4294967296*V)/N=(x+V%N*4294967296)/N+V/N*4294967296:=by
   have hq:V=N*(V/N)+V%N:=(Nat.div_add_mod V N).symm
   have:x+4294967296*V=(x+V%N*4294967296)+N*(V/N*4294967296):=by
    conv=>lhs;rw [hq]
    rw [Nat.mul_add,←Nat.mul_assoc,Nat.mul_comm 4294967296 N,Nat.mul_assoc,Nat.mul_comm 4294967296 (V/N),Nat.mul_comm 4294967296 (V%N)];omega
   rw [this,Nat.add_mul_div_left _ _ hN]
  have hs:(x+x'%N*4294967296)/N<4294967296:=by
   rw [Nat.div_lt_iff_lt_mul hN]
   have h1:x'%N+1≤N:=Nat.mod_lt _ hN
   have h2:=Nat.mul_le_mul_right 4294967296 h1
   rw [Nat.mul_comm 4294967296 N]
   omega
  rw [e2,Nat.add_mul_mod_self_right,Nat.mod_eq_of_lt hs,e3,e1]
  omega
theorem take_step {us vs zs:List Nat} {i c b n:Nat} (hi:i<zs.length) (hu:us.getD i 0<4294967296) (hb:b≤1) (h:val (zs.take i)+n*val (vs.take i)=val (us.take i)+4294967296^i*(c+b)):
  val ((zs.set i (subD (us.getD i 0) ((c+n*vs.getD i 0)%4294967296) b%4294967296)).take (i+1))+n*val (vs.take (i+1))=
   val (us.take (i+1))+4294967296^(i+1)*((c+n*vs.getD i 0)/4294967296+subD (us.getD i 0) ((c+n*vs.getD i 0)%4294967296) b/9223372036854775808)∧
   subD (us.getD i 0) ((c+n*vs.getD i 0)%4294967296) b/9223372036854775808≤1:=by
 rw [val_set_take hi,val_take_succ vs,val_take_succ us,Nat.mul_add,Nat.pow_succ]
 have e0:n*(4294967296^i*vs.getD i 0)=4294967296^i*(n*vs.getD i 0):=by rw [←Nat.mul_assoc,Nat.mul_comm n,Nat.mul_assoc]
 rw [e0]
 generalize hU:us.getD i 0=u at*
 generalize hV:n*vs.getD i 0=p at*
 generalize hP:4294967296^i=P at*
 have hm:(c+p)%4294967296<4294967296:=Nat.mod_lt _ om
 have hdm:=Nat.div_add_mod (c+p) 4294967296
 generalize (c+p)%4294967296=l at*
 generalize (c+p)/4294967296=q at*
 refine⟨?_,by unfold subD;omega⟩
 have key:u+4294967296*(subD u l b/9223372036854775808)=subD u l b%4294967296+l+b:=by unfold subD;omega
 generalize subD u l b%4294967296=d at*
 generalize subD u l b/9223372036854775808=b' at*
 have k2:=congrArg (P* ·) key
 simp only [Nat.mul_add] at k2
 have k3:=congrArg (P* ·) hdm
 simp only [Nat.mul_add] at k3
 simp only [Nat.mul_add] at h⊢
 rw [Nat.mul_assoc P 4294967296 q,Nat.mul_assoc P 4294967296 b']
 omega
theorem take_carry {c n y:Nat} (hc:c<4294967296) (hn:n<4294967296) (hy:y<4294967296):c+n*y<18446744073709551616∧(c+n*y)/4294967296<4294967296:=by
 have:=mul_bound hn hy
 omega
theorem guess_down {V W D v1 v2 head w2 wr g rest:Nat} (hV:(v1*4294967296+v2)*D≤V) (hW:W=(head*4294967296+w2)*D+wr) (hr:wr<D) (hg:g*v1+rest=head) (hc:rest*4294967296+w2<g*v2):W<g*V:=by
 have h1:head*4294967296+w2+1≤g*(v1*4294967296+v2):=by
  rw [←hg,Nat.mul_add,←Nat.mul_assoc,Nat.add_mul];omega
 have h2:(head*4294967296+w2+1)*D≤g*V:=by
  refine Nat.le_trans (Nat.mul_le_mul_right D h1) ?_
  rw [Nat.mul_assoc]
  exact Nat.mul_le_mul_left g hV
 rw [Nat.add_mul,Nat.one_mul] at h2
 omega
theorem guess_up {V W D v1 v2 head w2 wr g rest vr:Nat} (hV:V=(v1*4294967296+v2)*D+vr) (hvr:vr<D) (hv1:1≤v1) (hW:W=(head*4294967296+w2)*D+wr) (hg:g*v1+rest=head) (hlt:g<4294967296) (hc:g*v2≤rest*4294967296+w2):g*V<W+V:=by
 have h1:g*(v1*4294967296+v2)≤head*4294967296+w2:=by
  rw [←hg,Nat.mul_add,←Nat.mul_assoc,Nat.add_mul];omega
 have h2:g*((v1*4294967296+v2)*D)≤(head*4294967296+w2)*D:=by
  rw [←Nat.mul_assoc];exact Nat.mul_le_mul_right D h1
 have h3:g*vr≤4294967296*D:=Nat.mul_le_mul (Nat.le_of_lt hlt) (Nat.le_of_lt hvr)
 have h4:4294967296*D≤(v1*4294967296+v2)*D:=Nat.mul_le_mul_right D om
 have hD:0<D:=by omega
 have h5:g*vr<4294967296*D∨D=0:=by
  rcases Nat.eq_zero_or_pos g with h|h
  ·subst h;left;omega
  ·left
   have:g*vr<g*D:=Nat.mul_lt_mul_of_pos_left hvr h
   have h6:g*D≤4294967296*D:=Nat.mul_le_mul_right D (Nat.le_of_lt hlt)
   omega
 have h7:g*V=g*((v1*4294967296+v2)*D)+g*vr:=by rw [hV,Nat.mul_add]
 omega
theorem guess_small {v1 head u1 g rest:Nat} (hh:head≤v1*4294967296+u1) (hu:u1<4294967296) (hg:g*v1+rest=head) (hr:4294967296≤rest):g<4294967296:=by
 rcases Nat.lt_or_ge g 4294967296 with h|h
 ·exact h
 ·have h2:=Nat.mul_le_mul_right v1 h
  rw [Nat.mul_comm 4294967296 v1] at h2
  omega
def win (ys:List Nat) (off:Nat) (zs:List Nat):List Nat:=ys.take off++(zs++ys.drop (off+zs.length))
theorem win_length {ys zs:List Nat} {off:Nat} (h:off+zs.length≤ys.length):(win ys off zs).length=ys.length:=by
 simp [win];omega
theorem win_getD {ys zs:List Nat} {off i:Nat} (h:off≤ys.length) (hi:i<zs.length):(win ys off zs).getD (off+i) 0=zs.getD i 0:=by
 unfold win
 rw [List.getD_eq_getElem?_getD,List.getElem?_append_right (by simp;omega),List.getElem?_append_left (by simp;omega),List.getD_eq_getElem?_getD]
 congr 2;simp;omega
theorem win_set {ys zs:List Nat} {off i v:Nat} (h:off≤ys.length) (hi:i<zs.length):(win ys off zs).set (off+i) v=win ys off (zs.set i v):=by
 unfold win
 rw [List.set_append,if_neg (by simp;omega),List.set_append,if_pos (by simp;omega)]
 simp only [List.length_set,List.length_take]
 rw [show off+i-min off ys.length=i from by omega]
theorem win_self {ys:List Nat} {off L:Nat} (h:off+L≤ys.length):win ys off ((ys.drop off).take L)=ys:=by
 unfold win
 rw [show off+((ys.drop off).take L).length=off+L from by simp;omega,←List.drop_drop,List.take_append_drop,List.take_append_drop]
theorem val_win {ys zs:List Nat} {off:Nat} (h:off≤ys.length):val (win ys off zs)=val (ys.take off)+4294967296^off*(val zs+4294967296^zs.length*val (ys.drop (off+zs.length))):=by
 unfold win
 rw [val_append,val_append,List.length_take,Nat.min_eq_left h]
theorem win_lt {ys zs:List Nat} {off:Nat} (hy:∀x∈ys,x<4294967296) (hz:∀x∈zs,x<4294967296):∀x∈win ys off zs,x<4294967296:=fun x hx=>by
 unfold win at hx
 simp only [List.mem_append] at hx
 rcases hx with h|h|h
 ·exact hy x (List.mem_of_mem_take h)
 ·exact hz x h
 ·exact hy x (List.mem_of_mem_drop h)
end Go.PN
namespace Go.Proofs.YteehccacfedolaaGreat
open Go.AI Go.PN
attribute [local irreducible] aw Fa Fh DrK
theorem left_fh (xs:List Nat) (n:Nat) (hx:∀x∈xs,x<4294967296) (hlx:xs.length≤68719476736) (hn:n<32):
  Fh Tryz.prog 191 [] [.c (ws false xs),.c (.int .i64 n)] (fun r h=>∃g zs,r=.c (.osl g 1 0 (xs.length+1))∧h=[(g,.cells 166 (xs.length+1) (wf zs))]∧zs.length=xs.length+1∧(∀y∈zs,y<4294967296)∧val zs=val xs*2^n):=by
 refine fh_of_body Tryz.func191 rfl rfl (by simp [Tryz.ntmps191]) fun C hC=> ?_
 simp only [initS,Nat.reduceAdd]
 refine xG ?_
 refine aw_make (n:=xs.length+1) (c:=xs.length+1) rfl rfl rfl ty_e_ws ty_z_u32 rfl om eE eE rfl rfl om om om fun g hg=> ?_
 rw [make_wf (xs.length+1)]
 refine xSG ?_
 refine aw_lp (fun x:Nat×List Nat=>[(0,.c (ws false xs)),(1,.c (.int .i64 n)),(5,.c (.osl g 1 0 (xs.length+1))),(13,.c (ws false xs)),(14,.c (.int .i64 xs.length)),(15,.c (.int .i64 x.1))]) (fun x=>[(g,.cells 166 (xs.length+1) (wf x.2))])
  (fun x=>x.1≤xs.length∧x.2.length=xs.length+1∧(∀y∈x.2,y<4294967296)∧x.2.getD x.1 0<2^n∧(∀j,x.1<j→x.2.getD j 0=0)∧val x.2=val (xs.take x.1)*2^n) (fun x=>xs.length-x.1) (0,List.replicate (xs.length+1) 0) eB zZ
  ⟨by omega,by simp,replicate_lt _,by rw [getD_replicate];exact Nat.two_pow_pos n,fun j _=>getD_replicate _ _,by simp [val_replicate,val]⟩ ?_
 rintro ⟨i,zs⟩ ⟨hi,hzl,hz,hlow,hhi,hv⟩
 dsimp only at hi hzl hz hlow hhi hv⊢
 refine xG ?_
 refine aw_cond eE (fun hb1=> ?_) (fun hb1=> ?_)
 ·have hi1:i<xs.length:=dT hb1
  have hxi:=getD_lt hx i
  refine xG ?_
  rw [shl_u64 _ n hxi om]
  refine xG ?_
  have hml:xs.getD i 0*2^n%4294967296<4294967296:=Nat.mod_lt _ om
  rw [wrap_u32_nat,or_u32 _ _ (by have:=getD_lt hz i;omega) hml,or_low om hlow]
  have hvl:=or_low_lt (x:=xs.getD i 0) om hlow
  have hst:=left_step (xs:=xs) (zs:=zs) (i:=i) (n:=n) om (hhi _ om) hv
  have hhl:=shl_hi (n:=n) hxi
  have hp32:2^n≤4294967296:=pow_lt_32 om
  refine xW ?_
  refine xS ?_
  rw [updF_wf om]
  refine xG ?_
  rw [nat_div_32,wrap_u32_nat,Nat.mod_eq_of_lt (show xs.getD i 0*2^n/4294967296<4294967296 from by omega)]
  refine xW ?_
  refine xS ?_
  rw [updF_wf (by simp;omega)]
  refine xG ?_
  refine aw_stop ⟨(i+1,_),by dsimp only;omega,eB,zZ,by dsimp only;omega,by simpa using hzl,set_lt (set_lt hz hvl) om,?_,fun j hj=> ?_,hst⟩
  ·dsimp only
   rw [PN.getD_set (by simp;omega)];exact hhl
  ·dsimp only at hj⊢
   rw [PN.getD_set_ne om,PN.getD_set_ne om];exact hhi j om
 ·have hi1:i=xs.length:=dF hb1
  subst hi1
  refine xG ?_
  refine xU ?_
  exact⟨g,zs,rfl,rfl,hzl,hz,by rw [hv,List.take_length]⟩
theorem right_fa (xs:List Nat) (n:Nat) (hx:∀x∈xs,x<4294967296) (hlx:xs.length≤68719476738) (hn:n<32):
  Fa Tryz.prog 194 [.c (ws false xs),.c (.int .i64 n)] (.c (ws true (rgt n xs))):=by
 refine fa_of_body Tryz.func194 rfl rfl (by simp [Tryz.ntmps194]) fun C hC=> ?_
 simp only [initS,Nat.reduceAdd]
 refine xG ?_
 refine aw_make (n:=xs.length) (c:=xs.length) rfl rfl rfl ty_e_ws ty_z_u32 rfl om eE eE rfl rfl om om om fun g hg=> ?_
 rw [make_wf xs.length]
 refine xSG ?_
 refine aw_lp (fun x:Nat×List Nat=>[(0,.c (ws false xs)),(1,.c (.int .i64 n)),(5,.c (.osl g 1 0 xs.length)),(11,.c (.int .i64 xs.length)),(12,.c (.int .i64 x.1))]) (fun x=>[(g,.cells 166 xs.length (wf x.2))])
  (fun x=>x.1≤xs.length∧x.2.length=xs.length∧(∀j,j<x.1→x.2.getD j 0=(rgt n xs).getD j 0)) (fun x=>xs.length-x.1) (0,List.replicate xs.length 0) eB zZ
  ⟨by omega,by simp,fun j hj=>by dsimp only at hj;omega⟩ ?_
 rintro ⟨i,zs⟩ ⟨hi,hzl,hv⟩
 dsimp only at hi hzl hv⊢
 refine xG ?_
 refine aw_cond eE (fun hb1=> ?_) (fun hb1=> ?_)
 ·have hi1:i<xs.length:=dT hb1
  have hxi:=getD_lt hx i
  have hxj:=getD_lt hx (i+1)
  refine xG ?_
  refine aw_callq (word_fa xs i hx) rfl rfl rfl eL ?_
  refine xSG ?_
  refine aw_callq (word_fa xs (i+1) hx) rfl rfl rfl eL ?_
  refine xSG ?_
  rw [shl_u64_32 _ hxj,or_u64_join' _ _ hxj hxi]
  refine xG ?_
  rw [shr_u64 _ n om,wrap_u32_nat]
  have hr:=rgt_getD n xs i hi1
  rw [Nat.add_comm (xs.getD i 0)] at hr
  refine xW ?_
  refine xS ?_
  rw [updF_wf om]
  refine xG ?_
  refine aw_stop ⟨(i+1,_),by dsimp only;omega,eB,zZ,by dsimp only;omega,by simpa using hzl,fun j hj=> ?_⟩
  dsimp only at hj⊢
  by_cases e:j=i
  ·rw [e,PN.getD_set om,hr]
  ·rw [PN.getD_set_ne om];exact hv j om
 ·have hi1:i=xs.length:=dF hb1
  subst hi1
  refine xGT hC ?_
  refine .one (.c (ler_oslws eE om (rgt_length n xs).symm (fun j hj=> ?_)))
  rw [Nat.zero_add,wf_at,hv j hj]
end Go.Proofs.YteehccacfedolaaGreat
namespace Go.Proofs.YteehccacfedolaaGreat
open Go.AI Go.PN
attribute [local irreducible] aw Fa Fh DrK
theorem cmp_fa (xs ys:List Nat) (hx:∀x∈xs,x<4294967296) (hy:∀x∈ys,x<4294967296) (hlx:xs.length≤68719476736) (hly:ys.length≤68719476736):
  Fa Tryz.prog 122 [.c (ws false xs),.c (ws false ys)] (.c (.int .i64 (cmpN (val xs) (val ys)))):=by
 refine fa_of_body Tryz.func122 rfl rfl (by simp [Tryz.ntmps122]) fun C hC=> ?_
 simp only [initS,Nat.reduceAdd]
 refine xG ?_
 refine aw_callq (trim_fa xs hx om) rfl rfl rfl eL ?_
 refine xSG ?_
 refine aw_callq (trim_fa ys hy om) rfl rfl rfl eL ?_
 refine xS ?_
 generalize hvx:val xs=a
 generalize hvy:val ys=b
 have hla:(words a).length≤68719476736:=by rw [←hvx];exact Nat.le_trans (words_val_len xs hx) hlx
 have hlb:(words b).length≤68719476736:=by rw [←hvy];exact Nat.le_trans (words_val_len ys hy) hly
 refine xG ?_
 refine aw_cond eE (fun hb=> ?_) (fun hb=> ?_)
 ·have hne:(words a).length≠(words b).length:=by simp at hb;omega
  refine xG ?_
  refine aw_cond eE (fun hb=> ?_) (fun hb=> ?_)
  ·have hlt:(words a).length<(words b).length:=by simpa using hb
   refine xGT hC ?_
   exact .one (.c (ler_int (cmpN_len_lt hlt).symm))
  ·have hge:¬((words a).length:Int)<(words b).length:=by simpa using hb
   refine xGT hC ?_
   exact .one (.c (ler_int (cmpN_len_gt om).symm))
 ·have hlen:(words a).length=(words b).length:=by simp at hb;omega
  refine xG ?_
  refine aw_lp (fun m:Nat=>[(0,.c (ws true (words a))),(1,.c (ws true (words b))),(5,.c (.int .i64 ((m:Int)-1)))]) (fun _=>[]) (fun m=>m≤(words a).length∧(words a).drop m=(words b).drop m) id (words a).length eB zZ
   ⟨Nat.le_refl _,by rw [List.drop_eq_nil_of_le (Nat.le_refl _),List.drop_eq_nil_of_le om]⟩ ?_
  rintro m ⟨hm,hd⟩
  refine xG ?_
  refine aw_cond eE (fun hb=> ?_) (fun hb=> ?_)
  ·have hm1:1≤m:=dT hb
   have e1:((m:Int)-1).toNat=m-1:=by omega
   refine xG ?_
   refine aw_dr 9 ty_mixed (by kernel_rfl) ?_
   refine xG ?_
   refine aw_cond eE (fun hb=> ?_) (fun hb1=> ?_)
   ·have hlt:(words a).getD (m-1) 0<(words b).getD (m-1) 0:=dT hb
    refine xGT hC ?_
    have:=word_lt (words_lt a) (words_lt b) om om (by rw [show m-1+1=m from by omega];exact hd) hlt
    rw [val_words,val_words] at this
    exact .one (.c (ler_int (by simp [cmpN,this])))
   ·have hge:¬((words a).getD (m-1) 0<(words b).getD (m-1) 0):=dF hb1
    refine xG ?_
    refine aw_dr 9 ty_mixed (by kernel_rfl) ?_
    refine xG ?_
    refine aw_cond eE (fun hb=> ?_) (fun hb2=> ?_)
    ·have hgt:(words b).getD (m-1) 0<(words a).getD (m-1) 0:=dT hb
     refine xGT hC ?_
     have:=word_lt (words_lt b) (words_lt a) om om (by rw [show m-1+1=m from by omega];exact hd.symm) hgt
     rw [val_words,val_words] at this
     exact .one (.c (ler_int (by unfold cmpN;rw [if_neg om,if_neg om])))
    ·have hle:¬((words b).getD (m-1) 0<(words a).getD (m-1) 0):=dF hb2
     refine xG ?_
     refine aw_stop ⟨m-1,by simp only [id];omega,eB,zZ,by omega,?_⟩
     rw [drop_getD (words a) (i:=m-1) om,drop_getD (words b) (i:=m-1) om,show m-1+1=m from by omega,hd]
     congr 1
     omega
  ·have hm0:m=0:=dF hb
   subst hm0
   refine xGT hC ?_
   have:a=b:=words_inj (by simpa using hd)
   exact .one (.c (ler_int (by simp [cmpN,this])))
theorem of_fa (n:Int) (h0: -9223372036854775808≤n) (h1:n≤9223372036854775807):Fa Tryz.prog 166 [.c (.int .i64 n)] (.c (ws true (words n.toNat))):=by
 refine fa_of_body Tryz.func166 rfl rfl (by simp [Tryz.ntmps166]) fun C hC=> ?_
 simp only [initS,Nat.reduceAdd]
 refine xG ?_
 refine aw_cond eE (fun hb=> ?_) (fun hb=> ?_)
 ·have hn:n≤0:=of_decide_eq_true hb
  refine xGT hC ?_
  rw [show n.toNat=0 from by omega,words_zero]
  exact .one (.c .nils)
 ·have hn:¬n≤0:=of_decide_eq_false hb
  refine xG ?_
  have e1:wrapZ .u32 n=((n.toNat%4294967296:Nat):Int):=by rw [wrapZ_eq,IntKind.wrap_u32];omega
  have e2:wrapZ .u32 (n/4294967296)=((n.toNat/4294967296:Nat):Int):=by rw [wrapZ_eq,IntKind.wrap_u32];omega
  rw [e1,e2]
  refine aw_buildSlice (xs:=[.tmp 6,.tmp 9]) (cells:=[.int .u32 ((n.toNat%4294967296:Nat):Int),.int .u32 ((n.toNat/4294967296:Nat):Int)]) rfl rfl rfl ty_e_ws (by rw [envP,ty_z_u32];rfl) rfl om om (by intro x hx;simp only [List.mem_cons,List.not_mem_nil,or_false] at hx;rcases hx with rfl|rfl<;>exact⟨rfl,rfl,rfl⟩) eE fun g hg=> ?_
  refine xS ?_
  refine aw_callq (trim_fa [n.toNat%4294967296,n.toNat/4294967296] (by intro x hx;simp only [List.mem_cons,List.not_mem_nil,or_false] at hx;rcases hx with rfl|rfl<;>omega) (by simp)) rfl rfl rfl
   (by refine xS ?_;exact .c (lec_oslws eE om rfl (fun j hj=>by match j,hj with|0,_=>rfl|1,_=>rfl))) ?_
  refine xSGT hC ?_
  rw [show val [n.toNat%4294967296,n.toNat/4294967296]=n.toNat from by simp [val];omega]
  exact .one (.c ler_ws)
end Go.Proofs.YteehccacfedolaaGreat
namespace Go.Proofs.YteehccacfedolaaGreat
open Go.AI Go.PN
attribute [local irreducible] aw Fa Fh DrK
theorem wrap_subD {x y b:Nat} (hx:x<4294967296) (hy:y<4294967296) (hb:b≤1):wrapZ .u64 (wrapZ .u64 ((x:Int)-(y:Int))-(b:Int))=((subD x y b:Nat):Int):=by
 rw [wrapZ_eq,wrapZ_eq,IntKind.wrap_u64,IntKind.wrap_u64];unfold subD
 rcases Nat.lt_or_ge x y with h|h
 ·have e:((x:Int)-y)%18446744073709551616=x-y+18446744073709551616:=by omega
  rw [e];omega
 ·have e:((x:Int)-y)%18446744073709551616=x-y:=by omega
  rw [e];omega
theorem sub_fa (xs ys:List Nat) (hx:∀x∈xs,x<4294967296) (hy:∀x∈ys,x<4294967296) (hlx:xs.length≤68719476736) (hly:ys.length≤68719476736) (hle:val ys≤val xs):
  Fa Tryz.prog 188 [.c (ws false xs),.c (ws false ys)] (.tup [.c (ws true (words (val xs-val ys))),.c .nilI]):=by
 refine fa_of_body Tryz.func188 rfl rfl (by simp [Tryz.ntmps188]) fun C hC=> ?_
 simp only [initS,Nat.reduceAdd]
 refine xG ?_
 refine aw_callq (cmp_fa xs ys hx hy hlx hly) rfl rfl rfl eL ?_
 refine xSG ?_
 refine aw_cond eE (fun hb=> ?_) (fun _=> ?_)
 ·have:=of_decide_eq_true hb
  unfold cmpN at this
  split at this
  ·omega
  ·split at this<;>omega
 refine xG ?_
 refine aw_make (n:=xs.length) (c:=xs.length) rfl rfl rfl ty_e_ws ty_z_u32 rfl om eE eE rfl rfl om om om fun g hg=> ?_
 rw [make_wf xs.length]
 refine xSG ?_
 refine aw_lp (fun x:Nat×Nat×List Nat=>[(0,.c (ws false xs)),(1,.c (ws false ys)),(6,.c (.osl g 1 0 xs.length)),(7,.c (.int .u64 x.2.1)),(19,.c (.int .i64 xs.length)),(20,.c (.int .i64 x.1))]) (fun x=>[(g,.cells 166 xs.length (wf x.2.2))])
  (fun x=>x.1≤xs.length∧x.2.1≤1∧x.2.2.length=xs.length∧(∀y∈x.2.2,y<4294967296)∧val (x.2.2.take x.1)+val (ys.take x.1)=val (xs.take x.1)+4294967296^x.1*x.2.1) (fun x=>xs.length-x.1) (0,0,List.replicate xs.length 0) eB zZ
  ⟨Nat.zero_le _,Nat.zero_le _,by simp,replicate_lt _,by simp [val]⟩ ?_
 rintro ⟨i,b,zs⟩ ⟨hi,hbb,hzl,hz,hv⟩
 dsimp only at hi hbb hzl hz hv⊢
 refine xG ?_
 refine aw_cond eE (fun hb=> ?_) (fun hb=> ?_)
 ·have hin:i<xs.length:=dT hb
  have hxi:=getD_lt hx i
  have hyi:=getD_lt hy i
  refine xG ?_
  refine aw_callq (word_fa xs i hx) rfl rfl rfl eL ?_
  refine xSG ?_
  refine aw_callq (word_fa ys i hy) rfl rfl rfl eL ?_
  refine xS ?_
  (refine aw_2q false rfl (fun R hR=> ?_);simp only [go_sem];(with_reducible refine hR _ _ ?_ ?_);(focus (((try simp only [inRange])<;>and_intros<;>first|exact True.intro|omega|trivial);done));clear hR R)
  refine xG ?_
  (refine aw_2q false rfl (fun R hR=> ?_);simp only [go_sem];(with_reducible refine hR _ _ ?_ ?_);(focus (((try simp only [inRange])<;>and_intros<;>first|exact True.intro|omega|trivial);done));clear hR R)
  rw [wrap_subD hxi hyi hbb]
  obtain⟨st1,st2⟩:=sub_step (zs:=zs) om hxi hyi hbb hv
  generalize subD (xs.getD i 0) (ys.getD i 0) b=D at st1 st2⊢
  obtain⟨v,b2,e1,e2,hvl,st⟩:∃v b2:Nat,wrapZ .u32 (D:Int)=(v:Int)∧shrZ .u64 (D:Int) 63=(b2:Int)∧v<4294967296∧(val ((zs.set i v).take (i+1))+val (ys.take (i+1))=val (xs.take (i+1))+4294967296^(i+1)*b2∧b2≤1):=
   ⟨_,_,wrap_u32_nat D,shr63_nat D,Nat.mod_lt _ om,st1,st2⟩
  clear st1 st2
  refine xG ?_
  rw [e1]
  refine xW ?_
  refine xS ?_
  rw [updF_wf om]
  apply aw_ops_nil
  apply aw_region
  refine xO ?_
  refine xO ?_
  rw [e2]
  refine xG ?_
  refine aw_stop ⟨(i+1,b2,zs.set i v),by dsimp only;omega,eB,zZ,by dsimp only;omega,st.2,by simpa using hzl,set_lt hz hvl,st.1⟩
 ·have hin:i=xs.length:=dF hb
  subst hin
  refine xG ?_
  refine aw_callq (trim_fa zs hz om) rfl rfl rfl (by refine xS ?_;exact .c (lec_oslws eE om om (fun j _=>by rw [Nat.zero_add];rfl))) ?_
  refine xSGT hC ?_
  rw [sub_end hx hz hzl hle hv]
  exact .tup ⟨.c ler_ws,.c .nilI,trivial⟩
theorem mul_fa (xs ys:List Nat) (hx:∀x∈xs,x<4294967296) (hy:∀x∈ys,x<4294967296) (hlx:xs.length≤68719476736) (hly:ys.length≤68719476736):
  Fa Tryz.prog 171 [.c (ws false xs),.c (ws false ys)] (.c (ws true (words (val xs*val ys)))):=by
 refine fa_of_body Tryz.func171 rfl rfl (by simp [Tryz.ntmps171]) fun C hC=> ?_
 simp only [initS,Nat.reduceAdd]
 refine xG ?_
 have hn0:(xs.length:Int)+(ys.length:Int)=((xs.length+ys.length:Nat):Int):=by omega
 rw [hn0]
 generalize hn:xs.length+ys.length=n
 refine aw_make (n:=n) (c:=n) rfl rfl rfl ty_e_ws ty_z_u32 rfl om eE eE rfl rfl om om om fun g hg=> ?_
 rw [make_wf n]
 refine xSG ?_
 refine aw_lp (fun x:Nat×List Nat=>[(0,.c (ws false xs)),(1,.c (ws false ys)),(5,.c (.osl g 1 0 n)),(17,.c (ws false xs)),(18,.c (.int .i64 xs.length)),(19,.c (.int .i64 x.1))]) (fun x=>[(g,.cells 166 n (wf x.2))])
  (fun x=>x.1≤xs.length∧x.2.length=n∧(∀y∈x.2,y<4294967296)∧val x.2=val (xs.take x.1)*val ys) (fun x=>xs.length-x.1) (0,List.replicate n 0) eB zZ
  ⟨Nat.zero_le _,by simp,replicate_lt _,by simp [val,val_replicate]⟩ ?_
 rintro ⟨i,z0⟩ ⟨hi,hzl0,hz0,hv0⟩
 dsimp only at hi hzl0 hz0 hv0⊢
 refine xG ?_
 refine aw_cond eE (fun hb=> ?_) (fun hb=> ?_)
 ·have hin:i<xs.length:=dT hb
  have hxi:=getD_lt hx i
  have hz0':val z0<4294967296^(i+ys.length):=by
   rw [hv0,Nat.pow_add]
   exact Nat.mul_lt_mul_of_lt_of_lt (val_take_lt xs hx i om) (val_lt ys hy)
  refine xG ?_
  generalize hxx:xs.getD i 0=x at*
  refine aw_lp (fun s:Nat×Nat×List Nat=>[(0,.c (ws false xs)),(1,.c (ws false ys)),(5,.c (.osl g 1 0 n)),(6,.c (.int .i64 i)),(7,.c (.int .u32 x)),(8,.c (.int .u64 s.2.1)),(17,.c (ws false xs)),(18,.c (.int .i64 xs.length)),(19,.c (.int .i64 i)),(24,.c (ws false ys)),(25,.c (.int .i64 ys.length)),(26,.c (.int .i64 s.1))]) (fun s=>[(g,.cells 166 n (wf s.2.2))])
   (fun s=>s.1≤ys.length∧s.2.1<4294967296∧s.2.2.length=n∧(∀y∈s.2.2,y<4294967296)∧(∀j,i+s.1≤j→s.2.2.getD j 0=z0.getD j 0)∧val s.2.2+4294967296^(i+s.1)*s.2.1=val z0+4294967296^i*(x*val (ys.take s.1))) (fun s=>ys.length-s.1) (0,0,z0) eB zZ
   ⟨Nat.zero_le _,by simp,hzl0,hz0,fun _ _=>rfl,by simp [val]⟩ ?_
  rintro ⟨k,c,zs⟩ ⟨hk,hc,hzl,hz,hzz,hv⟩
  dsimp only at hk hc hzl hz hzz hv⊢
  refine xG ?_
  refine aw_cond eE (fun hb=> ?_) (fun hb=> ?_)
  ·have hkn:k<ys.length:=dT hb
   have hyk:=getD_lt hy k
   have hzk:=getD_lt hz (i+k)
   have hst:=mul_step (ys:=ys) (x:=x) (zs:=zs) (c:=c) om hv
   have hmb:=mul_bound hxi hyk
   have hmb2:(0:Int)≤(x:Int)*((ys.getD k 0:Nat):Int)∧(x:Int)*((ys.getD k 0:Nat):Int)≤18446744065119617025:=by rw [←Int.natCast_mul];omega
   refine xG ?_
   have ew:(c:Int)+((x:Int)*((ys.getD k 0:Nat):Int)+((zs.getD (i+k) 0:Nat):Int))=((c+(x*ys.getD k 0+zs.getD (i+k) 0):Nat):Int):=by simp
   rw [ew,wrap_u32_nat]
   refine xW ?_
   refine xS ?_
   rw [updF_wf om]
   refine xG ?_
   refine aw_stop ⟨(k+1,(c+(x*ys.getD k 0+zs.getD (i+k) 0))/4294967296,zs.set (i+k) ((c+(x*ys.getD k 0+zs.getD (i+k) 0))%4294967296)),by dsimp only;omega,eB,zZ,by dsimp only;omega,by dsimp only;omega,by simpa using hzl,set_lt hz om,fun j hj=> ?_,hst⟩
   dsimp only at hj⊢
   rw [Go.PN.getD_set_ne om]
   exact hzz j om
  ·have hkn:k=ys.length:=dF hb
   subst hkn
   refine xG ?_
   rw [wrap_u32_nat,Nat.mod_eq_of_lt hc]
   refine xW ?_
   refine xS ?_
   rw [updF_wf om]
   refine xG ?_
   have h0:zs.getD (i+ys.length) 0=0:=by rw [hzz _ (Nat.le_refl _)];exact getD_zero_of_lt hz0' (Nat.le_refl _)
   have h1:=val_set (zs:=zs) (j:=i+ys.length) (v:=c) om
   rw [h0,Nat.mul_zero,Nat.add_zero,hv,List.take_length,hv0] at h1
   refine aw_stop ⟨(i+1,zs.set (i+ys.length) c),by dsimp only;omega,eB,zZ,by dsimp only;omega,by simpa using hzl,set_lt hz hc,?_⟩
   dsimp only
   rw [h1,val_take_succ,hxx,Nat.add_mul,Nat.mul_assoc]
 ·have hin:i=xs.length:=dF hb
  subst hin
  refine xG ?_
  refine aw_callq (trim_fa z0 hz0 om) rfl rfl rfl (by refine xS ?_;exact .c (lec_oslws eE om om (fun j _=>by rw [Nat.zero_add];rfl))) ?_
  refine xSGT hC ?_
  rw [hv0,List.take_length]
  exact .one (.c ler_ws)
end Go.Proofs.YteehccacfedolaaGreat
namespace Go.Proofs.YteehccacfedolaaGreat
open Go.AI Go.PN
attribute [local irreducible] aw Fa Fh DrK
theorem take_fh (g off L n:Nat) (ys us vs:List Nat) (hus:us=(ys.drop off).take L) (hL:off+L≤ys.length) (hy:∀x∈ys,x<4294967296) (hv:∀x∈vs,x<4294967296) (hly:ys.length≤68719476738) (hn:n<4294967296) (hvl:vs.length<L):
  Fh Tryz.prog 192 [(g,.cells 166 ys.length (wf ys))] [.c (.osl g 1 off L),.c (ws false vs),.c (.int .u64 n)]
   (fun r h=>∃(b:Nat) (zs:List Nat),r=.c (.bool ((b:Int)==1))∧h=[(g,.cells 166 ys.length (wf (win ys off zs)))]∧zs.length=L∧(∀y∈zs,y<4294967296)∧b≤1∧val zs+n*val vs=val us+4294967296^L*b):=by
 refine fh_of_body Tryz.func192 rfl rfl (by simp [Tryz.ntmps192]) fun C hC=> ?_
 have hu:∀x∈us,x<4294967296:=fun x hx=>hy x (List.mem_of_mem_drop (List.mem_of_mem_take (hus▸hx)))
 have hul:us.length=L:=by rw [hus];simp;omega
 have hself:win ys off us=ys:=by rw [hus];exact win_self hL
 simp only [initS,Nat.reduceAdd]
 refine xG ?_
 refine aw_lp (fun x:Nat×Nat×Nat×List Nat=>[(0,.c (.osl g 1 off L)),(1,.c (ws false vs)),(2,.c (.int .u64 n)),(7,.c (.int .u64 x.2.1)),(8,.c (.int .u64 x.2.2.1)),(12,.c (.int .i64 L)),(13,.c (.int .i64 x.1))]) (fun x=>[(g,.cells 166 ys.length (wf (win ys off x.2.2.2)))])
  (fun x=>x.1≤L∧x.2.1<4294967296∧x.2.2.1≤1∧x.2.2.2.length=L∧(∀y∈x.2.2.2,y<4294967296)∧(∀j,x.1≤j→x.2.2.2.getD j 0=us.getD j 0)∧(vs.length<x.1→x.2.1=0)∧val (x.2.2.2.take x.1)+n*val (vs.take x.1)=val (us.take x.1)+4294967296^x.1*(x.2.1+x.2.2.1)) (fun x=>L-x.1) (0,0,0,us) eB (by rw [hself];exact zZ)
  ⟨Nat.zero_le _,by simp,Nat.zero_le _,hul,hu,fun _ _=>rfl,fun _=>rfl,by simp [val]⟩ ?_
 rintro ⟨i,c,b,zs⟩ ⟨hi,hc,hbb,hzl,hz,hsame,hc0,hval⟩
 dsimp only at hi hc hbb hzl hz hsame hc0 hval⊢
 refine xG ?_
 refine aw_cond eE (fun hb=> ?_) (fun hb=> ?_)
 ·have hin:i<L:=dT hb
  have hui:=getD_lt hu i
  have hvi:=getD_lt hv i
  have hwi:(win ys off zs).getD (off+i) 0=us.getD i 0:=by rw [win_getD om om,hsame i (Nat.le_refl _)]
  obtain⟨hcl,hcq⟩:=take_carry hc hn hvi
  refine xG ?_
  refine aw_callq (word_fa vs i hv) rfl rfl rfl eL ?_
  refine xSG ?_
  obtain⟨st1,st2⟩:=take_step (zs:=zs) (n:=n) (vs:=vs) om hui hbb hval
  have hT:(c:Int)+(n:Int)*((vs.getD i 0:Nat):Int)=((c+n*vs.getD i 0:Nat):Int):=by rw [Int.natCast_add,Int.natCast_mul]
  have hc2:vs.length<i+1→(c+n*vs.getD i 0)/4294967296=0:=fun hlt=>by rw [getD_ge om];omega
  rw [hwi,hT]
  generalize c+n*vs.getD i 0=T at hcl hcq st1 st2 hc2⊢
  have hTm:T%4294967296<4294967296:=Nat.mod_lt _ om
  rw [wrap_u32_nat]
  refine xO ?_
  (refine aw_2q false rfl (fun R hR=> ?_);simp only [go_sem];(with_reducible refine hR _ _ ?_ ?_);(focus (((try simp only [inRange])<;>and_intros<;>first|exact True.intro|omega|trivial);done));clear hR R)
  refine xO ?_
  (refine aw_2q false rfl (fun R hR=> ?_);simp only [go_sem];(with_reducible refine hR _ _ ?_ ?_);(focus (((try simp only [inRange])<;>and_intros<;>first|exact True.intro|omega|trivial);done));clear hR R)
  rw [wrap_subD hui hTm hbb]
  generalize subD (us.getD i 0) (T%4294967296) b=D at st1 st2⊢
  obtain⟨v,b2,e1,e2,hvl,st⟩:∃v b2:Nat,wrapZ .u32 (D:Int)=(v:Int)∧shrZ .u64 (D:Int) 63=(b2:Int)∧v<4294967296∧(val ((zs.set i v).take (i+1))+n*val (vs.take (i+1))=val (us.take (i+1))+4294967296^(i+1)*(T/4294967296+b2)∧b2≤1):=
   ⟨_,_,wrap_u32_nat D,shr63_nat D,Nat.mod_lt _ om,st1,st2⟩
  clear st1 st2
  refine xG ?_
  rw [e1]
  refine xW ?_
  refine xS ?_
  rw [updF_wf (by rw [win_length om];omega),win_set om om]
  refine xG ?_
  rw [e2,nat_div_32]
  refine aw_stop ⟨(i+1,T/4294967296,b2,zs.set i v),by dsimp only;omega,eB,zZ,by dsimp only;omega,hcq,st.2,by simpa using hzl,set_lt hz hvl,fun j hj=> ?_,hc2,st.1⟩
  dsimp only at hj⊢
  rw [PN.getD_set_ne om];exact hsame j om
 ·have hin:i=L:=dF hb
  subst hin
  refine xG ?_
  refine xU ?_
  rw [hc0 hvl,List.take_of_length_le (show zs.length≤i from by omega),List.take_of_length_le (show vs.length≤i from by omega),List.take_of_length_le (show us.length≤i from by omega),Nat.zero_add] at hval
  exact⟨b,zs,rfl,rfl,hzl,hz,hbb,hval⟩
theorem give_fh (g off L:Nat) (ys us vs:List Nat) (hus:us=(ys.drop off).take L) (hL:off+L≤ys.length) (hy:∀x∈ys,x<4294967296) (hv:∀x∈vs,x<4294967296) (hly:ys.length≤68719476738) (hvl:vs.length<L):
  Fh Tryz.prog 193 [(g,.cells 166 ys.length (wf ys))] [.c (.osl g 1 off L),.c (ws false vs)]
   (fun r h=>∃(c:Nat) (zs:List Nat),r=.tup []∧h=[(g,.cells 166 ys.length (wf (win ys off zs)))]∧zs.length=L∧(∀y∈zs,y<4294967296)∧val zs+4294967296^L*c=val us+val vs):=by
 refine fh_of_body Tryz.func193 rfl rfl (by simp [Tryz.ntmps193]) fun C hC=> ?_
 have hu:∀x∈us,x<4294967296:=fun x hx=>hy x (List.mem_of_mem_drop (List.mem_of_mem_take (hus▸hx)))
 have hul:us.length=L:=by rw [hus];simp;omega
 have hself:win ys off us=ys:=by rw [hus];exact win_self hL
 simp only [initS,Nat.reduceAdd]
 refine xG ?_
 refine aw_lp (fun x:Nat×Nat×List Nat=>[(0,.c (.osl g 1 off L)),(1,.c (ws false vs)),(4,.c (.int .u64 x.2.1)),(7,.c (.int .i64 L)),(8,.c (.int .i64 x.1))]) (fun x=>[(g,.cells 166 ys.length (wf (win ys off x.2.2)))])
  (fun x=>x.1≤L∧x.2.1≤1∧x.2.2.length=L∧(∀y∈x.2.2,y<4294967296)∧(∀j,x.1≤j→x.2.2.getD j 0=us.getD j 0)∧val (x.2.2.take x.1)+4294967296^x.1*x.2.1=val (us.take x.1)+val (vs.take x.1)) (fun x=>L-x.1) (0,0,us) eB (by rw [hself];exact zZ)
  ⟨Nat.zero_le _,Nat.zero_le _,hul,hu,fun _ _=>rfl,by simp [val]⟩ ?_
 rintro ⟨i,c,zs⟩ ⟨hi,hc,hzl,hz,hsame,hval⟩
 dsimp only at hi hc hzl hz hsame hval⊢
 refine xG ?_
 refine aw_cond eE (fun hb=> ?_) (fun hb=> ?_)
 ·have hin:i<L:=dT hb
  have hui:=getD_lt hu i
  have hvi:=getD_lt hv i
  have hwi:(win ys off zs).getD (off+i) 0=us.getD i 0:=by rw [win_getD om om,hsame i (Nat.le_refl _)]
  refine xG ?_
  refine aw_dr 12 ty_mixed (by kernel_rfl) ?_
  refine xO ?_
  refine xO ?_
  refine xO ?_
  refine xO ?_
  refine xO ?_
  rw [hwi]
  refine xG ?_
  refine drk_call (word_fa vs i hv) rfl rfl rfl eL ?_
  refine xSG ?_
  have ew:wrapZ .u32 ((c:Int)+(((us.getD i 0:Nat):Int)+((vs.getD i 0:Nat):Int)))=(((c+(us.getD i 0+vs.getD i 0))%4294967296:Nat):Int):=by rw [wrapZ_eq,IntKind.wrap_u32];omega
  rw [ew]
  refine xW ?_
  refine xS ?_
  rw [updF_wf (by rw [win_length om];omega),win_set om om]
  refine xG ?_
  refine aw_stop ⟨(i+1,(c+(us.getD i 0+vs.getD i 0))/4294967296,zs.set i ((c+(us.getD i 0+vs.getD i 0))%4294967296)),by dsimp only;omega,eB,zZ,by dsimp only;omega,by dsimp only;omega,by simpa using hzl,set_lt hz om,fun j hj=> ?_,add_step om hval⟩
  dsimp only at hj⊢
  rw [PN.getD_set_ne om];exact hsame j om
 ·have hin:i=L:=dF hb
  subst hin
  refine xG ?_
  refine xV ?_
  rw [List.take_of_length_le (show zs.length≤i from by omega),List.take_of_length_le (show vs.length≤i from by omega),List.take_of_length_le (show us.length≤i from by omega)] at hval
  exact⟨c,zs,rfl,rfl,hzl,hz,hval⟩
end Go.Proofs.YteehccacfedolaaGreat
namespace Go.AI
def bitlen (n:Nat):Nat:=if n=0 then 0 else Nat.log2 n+1
theorem POk.indexStr {P:Program} {h:Heap} {ρ:Operand→AV} {t:TypeId} {x ix:Operand} {s:ByteArray} {k:IntKind} {i:Nat} {b:UInt8} (ht:P.underlying t=some .string) (hx:ρ x=.c (.str s)) (hi:ρ ix=.c (.int k (i:Int))) (hb:s[i]?=some b):
  POk P h ρ (.index t x ix) (.c (.int .u8 (b.toNat:Nat))):=fun S w e _ ho _=>by
 have h1:e x=.string s:=by have:=ho x (by simp [Op.operands]);rw [hx] at this;exact this
 have h2:e ix=.int k i:=by have:=ho ix (by simp [Op.operands]);rw [hi] at this;exact this
 refine⟨.int .u8 (b.toNat:Nat),fun o hop=> ?_,rfl⟩
 simp [execOp,hop,h1,h2,Instr.index,asIntOf,run_underlying ht,hb]
theorem aw_idx {E:Env} {K:List It} {σ:Sl} {h:Heap} {all rest:List Oper} {o:Oper} {t:TypeId} {x ix:Operand} {s:ByteArray} {k:IntKind} {i:Nat} (hop:o.op=.index t x ix) (hw:wantA all σ o=some true) (hd:dstOk E.N o.dst=true) (ht:E.P.underlying t=some .string)
  (hx:ev σ x=.c (.str s)) (hi:ev σ ix=.c (.int k (i:Int))) (htab:∀j,j<256→(s[j]?).map UInt8.toNat=some (bitlen j)) (hlt:i<256) (kk:aw E (.ops all rest::K) (σ.setO o.dst (.c (.int .u8 (bitlen i:Nat)))) h):aw E (.ops all (o::rest)::K) σ h:=by
 have h1:=htab i hlt
 cases hs:s[i]? with
 |none=>rw [hs] at h1;cases h1
 |some b=>
  rw [hs] at h1
  injection h1 with h1
  rw [←h1] at kk
  exact aw_pure hw (by rw [hop];exact POk.indexStr ht hx hi hs) hd rfl kk
theorem shr_u32_16 (x:Nat):shrZ .u32 (x:Int) 16=((x/65536:Nat):Int):=by
 rw [shrZ_eq]
 show(x:Int).fdiv 65536=_
 rw [Int.fdiv_eq_ediv_of_nonneg _ om];omega
theorem shr_u32_8 (x:Nat):shrZ .u32 (x:Int) 8=((x/256:Nat):Int):=by
 rw [shrZ_eq]
 show(x:Int).fdiv 256=_
 rw [Int.fdiv_eq_ediv_of_nonneg _ om];omega
theorem bitlen_div {x k:Nat} (hx:2^k≤x):bitlen x=k+bitlen (x/2^k):=by
 have hp:=Nat.two_pow_pos k
 have h0:x≠0:=by omega
 have h1:x/2^k≠0:=by have:=Nat.div_pos hx hp;omega
 unfold bitlen
 rw [if_neg h0,if_neg h1]
 have:Nat.log2 x=Nat.log2 (x/2^k)+k:=by
  clear h1
  induction k generalizing x with
  |zero=>simp
  |succ k ih=>
   have e2:2≤x:=by have:2^1≤2^(k+1):=Nat.pow_le_pow_right om om;omega
   rw [Nat.log2_def,if_pos e2]
   have hk:2^k≤x/2:=by rw [Nat.pow_succ] at hx;omega
   rw [ih hk (Nat.two_pow_pos k) (by have:=Nat.two_pow_pos k;omega),Nat.div_div_eq_div_mul,Nat.pow_succ,Nat.mul_comm 2]
   omega
 omega
end Go.AI
namespace Go.Proofs.YteehccacfedolaaGreat
open Go.AI Go.PN
attribute [local irreducible] aw Fa Fh DrK
theorem ty_str:Tryz.prog.underlying 9=some .string:=by kernel_rfl
@[go_sem] theorem ty_i_u8:tInt Tryz.prog 5=some .u8:=by kernel_rfl
theorem wrap_u8_nat {n:Nat} (h:n<256):wrapZ .u8 (n:Int)=(n:Int):=by
 rw [wrapZ_eq];exact wrap_inRange (k:=.u8) ⟨by omega,by omega⟩
theorem bitlen_le8:∀j,j<256→bitlen j≤8:=by decide+kernel
theorem len32_fa (x:Nat) (hx:x<4294967296):Fa Tryz.prog 185 [.c (.int .u32 x)] (.c (.int .i64 (bitlen x:Nat))):=by
 refine fa_of_body Tryz.func185 rfl rfl (by simp [Tryz.ntmps185]) fun C hC=> ?_
 simp only [initS,Nat.reduceAdd]
 refine xG ?_
 refine aw_cond eE (fun hb=> ?_) (fun hb=> ?_)
 ·have hx1:65536≤x:=dT hb
  have e1:bitlen x=16+bitlen (x/65536):=bitlen_div (k:=16) hx1
  refine xG ?_
  rw [shr_u32_16]
  refine xG ?_
  refine aw_cond eE (fun hb=> ?_) (fun hb=> ?_)
  ·have hx2:256≤x/65536:=dT hb
   have e2:bitlen (x/65536)=8+bitlen (x/65536/256):=bitlen_div (k:=8) hx2
   have hb8:=bitlen_le8 (x/65536/256) om
   refine xG ?_
   rw [shr_u32_8]
   refine xG ?_
   rw [wrap_u8_nat (n:=x/65536/256) om]
   refine aw_idx (i:=x/65536/256) rfl rfl rfl ty_str rfl eE (by decide+kernel) om ?_
   refine xSGT hC ?_
   exact .one (.c (ler_int om))
  ·have hx2:x/65536<256:=dF hb
   have hb8:=bitlen_le8 (x/65536) om
   refine xG ?_
   rw [wrap_u8_nat (n:=x/65536) om]
   refine aw_idx (i:=x/65536) rfl rfl rfl ty_str rfl eE (by decide+kernel) om ?_
   refine xSGT hC ?_
   exact .one (.c (ler_int om))
 ·have hx1:x<65536:=dF hb
  refine xG ?_
  refine aw_cond eE (fun hb=> ?_) (fun hb=> ?_)
  ·have hx2:256≤x:=dT hb
   have e2:bitlen x=8+bitlen (x/256):=bitlen_div (k:=8) hx2
   have hb8:=bitlen_le8 (x/256) om
   refine xG ?_
   rw [shr_u32_8]
   refine xG ?_
   rw [wrap_u8_nat (n:=x/256) om]
   refine aw_idx (i:=x/256) rfl rfl rfl ty_str rfl eE (by decide+kernel) om ?_
   refine xSGT hC ?_
   exact .one (.c (ler_int om))
  ·have hx2:x<256:=dF hb
   have hb8:=bitlen_le8 x om
   refine xG ?_
   rw [wrap_u8_nat (n:=x) om]
   refine aw_idx (i:=x) rfl rfl rfl ty_str rfl eE (by decide+kernel) om ?_
   refine xSGT hC ?_
   exact .one (.c (ler_int om))
theorem bitlen_lt {x k:Nat} (h:x<2^k):bitlen x≤k:=by
 unfold bitlen
 split
 ·omega
 ·rename_i h0
  have:=(Nat.log2_lt h0).2 h
  omega
theorem lead_fa (x:Nat) (hx:x<4294967296):Fa Tryz.prog 190 [.c (.int .u32 x)] (.c (.int .i64 (32-bitlen x:Nat))):=by
 refine fa_of_body Tryz.func190 rfl rfl (by simp [Tryz.ntmps190]) fun C hC=> ?_
 simp only [initS,Nat.reduceAdd]
 have hb:bitlen x≤32:=bitlen_lt hx
 refine xG ?_
 refine aw_callq (len32_fa x hx) rfl rfl rfl eL ?_
 refine xSGT hC ?_
 exact .one (.c (ler_int om))
theorem drop_zero {xs:List Nat} {m:Nat} (h:∀j,m≤j→xs.getD j 0=0):val (xs.drop m)=0:=by
 refine val_zero fun x hx=> ?_
 obtain⟨i,hi,rfl⟩:=List.getElem_of_mem hx
 have:=h (m+i) om
 rw [List.getD_eq_getElem?_getD] at this
 simp only [List.length_drop] at hi
 simpa [show m+i<xs.length from by omega] using this
theorem bits_top {xs:List Nat} {m:Nat} (hx:∀x∈xs,x<4294967296) (hm:m<xs.length) (hz:∀j,m+1≤j→xs.getD j 0=0) (h0:xs.getD m 0≠0):bitlen (val xs)=32*m+bitlen (xs.getD m 0):=by
 have h1:=val_split xs (m+1) om
 rw [drop_zero hz,Nat.mul_zero,Nat.add_zero,val_take_succ] at h1
 have h2:=val_take_lt xs hx m om
 have hp:4294967296^m=2^(32*m):=by rw [Nat.pow_mul]
 rw [hp] at h1 h2
 have hle:2^(32*m)≤val xs:=by
  rw [h1]
  have:=Nat.mul_le_mul_left (2^(32*m)) (show 1≤xs.getD m 0 from by omega)
  omega
 rw [bitlen_div hle,h1,Nat.add_mul_div_left _ _ (Nat.two_pow_pos _),Nat.div_eq_of_lt h2,Nat.zero_add]
theorem bits_fa (xs:List Nat) (hx:∀x∈xs,x<4294967296) (hlx:xs.length≤68719476736):Fa Tryz.prog 167 [.c (ws false xs)] (.c (.int .i64 (bitlen (val xs):Nat))):=by
 refine fa_of_body Tryz.func167 rfl rfl (by simp [Tryz.ntmps167]) fun C hC=> ?_
 simp only [initS,Nat.reduceAdd]
 refine xG ?_
 refine aw_lp (fun m:Nat=>[(0,.c (ws false xs)),(3,.c (.int .i64 ((m:Int)-1)))]) (fun _=>[]) (fun m=>m≤xs.length∧(∀j,m≤j→xs.getD j 0=0)) id xs.length eB zZ ⟨Nat.le_refl _,fun j hj=>getD_ge hj⟩ ?_
 rintro m ⟨hm,hz⟩
 refine xG ?_
 refine aw_cond eE (fun hb=> ?_) (fun hb=> ?_)
 ·have hm1:1≤m:=dT hb
  have e1:((m:Int)-1).toNat=m-1:=by omega
  have hxi:=getD_lt hx (m-1)
  refine xG ?_
  refine aw_cond eE (fun hb=> ?_) (fun hb=> ?_)
  ·have h0:xs.getD (m-1) 0≠0:=by simpa using hb
   have hbt:=bits_top hx (m:=m-1) om (by rw [show m-1+1=m from by omega];exact hz) h0
   have hbl:bitlen (xs.getD (m-1) 0)≤32:=bitlen_lt hxi
   refine xG ?_
   refine aw_callq (len32_fa _ hxi) rfl rfl rfl eL ?_
   refine xSGT hC ?_
   exact .one (.c (ler_int om))
  ·have h0:xs.getD (m-1) 0=0:=by simpa using hb
   refine xG ?_
   refine aw_stop ⟨m-1,by simp only [id];omega,eB,zZ,by omega,fun j hj=> ?_⟩
   by_cases e:j=m-1
   ·rw [e];exact h0
   ·exact hz j om
 ·have hm0:m=0:=dF hb
  subst hm0
  refine xGT hC ?_
  have:=drop_zero hz
  rw [List.drop_zero] at this
  exact .one (.c (ler_int (by rw [this];rfl)))
theorem bitlen_zero {n:Nat}:bitlen n=0↔n=0:=by
 unfold bitlen;split<;>simp [*]
end Go.Proofs.YteehccacfedolaaGreat
namespace Go.PN
theorem val_one (x:Nat):val [x]=x:=by simp [val]
theorem val_cut {zs:List Nat} {m:Nat} (h:val zs<4294967296^m):val (zs.drop m)=0:=by
 refine val_zero fun x hx=> ?_
 obtain⟨i,hi,rfl⟩:=List.getElem_of_mem hx
 have:=getD_zero_of_lt h (show m≤m+i from by omega)
 rw [List.getD_eq_getElem?_getD] at this
 simp only [List.length_drop] at hi
 simpa [show m+i<zs.length from by omega] using this
theorem val_take_all {zs:List Nat} {k:Nat} (h:zs.length=k):val (zs.take k)=val zs:=by rw [List.take_of_length_le om]
theorem top2 {zs:List Nat} {k:Nat} (hl:zs.length=k+2):val zs=(zs.getD (k+1) 0*4294967296+zs.getD k 0)*4294967296^k+val (zs.take k):=by
 rw [←val_take_all hl,val_take_succ,val_take_succ,Nat.pow_succ,Nat.add_mul,Nat.mul_assoc,Nat.mul_comm (4294967296^k) (4294967296*zs.getD (k+1) 0),Nat.mul_comm (4294967296^k) (zs.getD k 0),Nat.mul_comm 4294967296 (zs.getD (k+1) 0)]
 omega
theorem top3 {zs:List Nat} {k:Nat} (hl:zs.length=k+3):val zs=((zs.getD (k+2) 0*4294967296+zs.getD (k+1) 0)*4294967296+zs.getD k 0)*4294967296^k+val (zs.take k):=by
 rw [←val_take_all hl,val_take_succ,val_take_succ,val_take_succ]
 generalize zs.getD (k+2) 0=a
 generalize zs.getD (k+1) 0=b
 generalize zs.getD k 0=c
 simp only [Nat.pow_succ]
 generalize 4294967296^k=D
 simp only [Nat.add_mul]
 have e1:a*4294967296*4294967296*D=D*4294967296*4294967296*a:=by rw [Nat.mul_comm (D*4294967296*4294967296) a,Nat.mul_comm D,Nat.mul_comm (4294967296*D),←Nat.mul_assoc 4294967296 4294967296 D,←Nat.mul_assoc,←Nat.mul_assoc]
 have e2:b*4294967296*D=D*4294967296*b:=by rw [Nat.mul_comm (D*4294967296) b,Nat.mul_comm D,←Nat.mul_assoc]
 have e3:c*D=D*c:=Nat.mul_comm _ _
 rw [e1,e2,e3]
 omega
theorem win_getD' {us:List Nat} {j L i:Nat} (hi:i<L):((us.drop j).take L).getD i 0=us.getD (j+i) 0:=by
 rw [getD_take hi,List.getD_eq_getElem?_getD,List.getD_eq_getElem?_getD,List.getElem?_drop]
theorem win_win {ys zs zs2:List Nat} {off:Nat} (h:off+zs.length≤ys.length) (he:zs2.length=zs.length):win (win ys off zs) off zs2=win ys off zs2:=by
 unfold win
 have h1:(ys.take off++(zs++ys.drop (off+zs.length))).take off=ys.take off:=by
  rw [List.take_append_of_le_length (by simp;omega),List.take_take,Nat.min_self]
 have h2:(ys.take off++(zs++ys.drop (off+zs.length))).drop (off+zs2.length)=ys.drop (off+zs2.length):=by
  rw [he,←List.append_assoc,List.drop_append_of_le_length (by simp;omega),List.drop_of_length_le (by simp;omega),List.nil_append]
 rw [h1,h2]
theorem win_of_win {ys zs:List Nat} {off L:Nat} (h:off+L≤ys.length) (hz:zs.length=L):zs=((win ys off zs).drop off).take L:=by
 unfold win
 rw [List.drop_append_of_le_length (by simp;omega),List.drop_of_length_le (by simp;omega),List.nil_append,List.take_append_of_le_length om,List.take_of_length_le om]
theorem window {us:List Nat} {j L V:Nat} (hu:∀x∈us,x<4294967296) (hL:j+L+1≤us.length) (hV:V<4294967296^L) (hlt:val us<V*4294967296^(j+1)):
  val us=val (us.take j)+4294967296^j*val ((us.drop j).take (L+1))∧val (us.take j)<4294967296^j∧val (us.drop (j+(L+1)))=0∧val ((us.drop j).take (L+1))<V*4294967296:=by
 have h1:val (us.drop (j+(L+1)))=0:=by
  refine val_cut (Nat.lt_of_lt_of_le hlt ?_)
  rw [show j+(L+1)=L+(j+1) from by omega,Nat.pow_add 4294967296 L (j+1)]
  exact Nat.mul_le_mul_right _ (Nat.le_of_lt hV)
 have h2:=val_split us j om
 have h3:=val_split (us.drop j) (L+1) (by simp;omega)
 rw [List.drop_drop,h1,Nat.mul_zero,Nat.add_zero] at h3
 rw [h3] at h2
 have h4:=val_take_lt us hu j om
 refine⟨h2,h4,h1,?_⟩
 rw [h2,Nat.pow_succ,Nat.mul_comm (4294967296^j) 4294967296,←Nat.mul_assoc,Nat.mul_comm (V*4294967296)] at hlt
 exact Nat.lt_of_mul_lt_mul_left (a:=4294967296^j) om
theorem head_le {W V v1 v2 vr D w0 w1 w2 wr:Nat} (hV:V=(v1*4294967296+v2)*D+vr) (hv2:v2<4294967296) (hvr:vr<D) (hW:W=((w0*4294967296+w1)*4294967296+w2)*D+wr) (hlt:W<V*4294967296):w0≤v1:=by
 rcases Nat.lt_or_ge v1 w0 with h|h
 ·exfalso
  have h1:V+1≤(v1+1)*4294967296*D:=by
   have:(v1*4294967296+v2+1)*D≤(v1+1)*4294967296*D:=Nat.mul_le_mul_right D om
   rw [Nat.add_mul,Nat.one_mul] at this
   omega
  have h2:(v1+1)*4294967296*D*4294967296≤W:=by
   have:(v1+1)*4294967296*4294967296*D≤((w0*4294967296+w1)*4294967296+w2)*D:=Nat.mul_le_mul_right D om
   rw [Nat.mul_assoc _ D,Nat.mul_comm D,←Nat.mul_assoc]
   omega
  have h3:=Nat.mul_le_mul_right 4294967296 h1
  omega
 ·exact h
theorem div_step {A V U lo W P z q j Q:Nat} (hU:U=lo+P*W) (hlo:lo<P) (hz:z+q*V=W) (hzV:z<V) (hA:A=U+V*(P*4294967296*Q)) (hP:P=4294967296^j):
  lo+P*z<V*P∧A=(lo+P*z)+V*(P*(q+4294967296*Q)):=by
 constructor
 ·have:=Nat.mul_le_mul_left P (show z+1≤V from hzV)
  rw [Nat.mul_add,Nat.mul_one,Nat.mul_comm P V] at this
  omega
 ·rw [hA,hU,←hz,Nat.mul_add,Nat.mul_add,Nat.mul_add,←Nat.mul_assoc P 4294967296 Q]
  have:P*(q*V)=V*(P*q):=by rw [←Nat.mul_assoc,Nat.mul_comm]
  omega
theorem digit_ok {W V g z P:Nat} (hV:0<V) (h1:W/V≤g) (h2:g*V<W+V) (h:z+g*V=W+P*0):z+(W/V)*V=W∧z<V∧g=W/V:=by
 have hg:g≤W/V:=(Nat.le_div_iff_mul_le hV).2 om
 have e:g=W/V:=by omega
 subst e
 have:=Nat.div_add_mod W V
 have h3:=Nat.mod_lt W hV
 rw [Nat.mul_comm] at this
 exact⟨by omega,by omega,rfl⟩
theorem digit_back {W V g z z2 P c:Nat} (hV:0<V) (hVP:V≤P) (h1:W/V≤g) (h2:g*V<W+V) (hz:z<P) (hz2:z2<P) (h:z+g*V=W+P*1) (hb:z2+P*c=z+V):1≤g∧z2+(W/V)*V=W∧z2<V∧g-1=W/V:=by
 have hmod:=Nat.div_add_mod W V
 have hlt:=Nat.mod_lt W hV
 rw [Nat.mul_comm] at hmod
 have hg:W/V+1≤g:=by
  rcases Nat.lt_or_ge (W/V) g with h|h'
  ·exact h
  ·exfalso
   have e:g=W/V:=by omega
   rw [e] at h
   omega
 have hg2:g≤W/V+1:=by
  rcases Nat.lt_or_ge (W/V+1) g with h'|h'
  ·exfalso
   have:=Nat.mul_le_mul_right V (show W/V+2≤g from h')
   rw [Nat.add_mul] at this
   omega
  ·exact h'
 have e:g=W/V+1:=by omega
 rw [e,Nat.add_mul,Nat.one_mul] at h
 have hc:z2+P*c=W%V+P:=by omega
 have hc1:c=1:=by
  rcases c with _|_|c
  ·omega
  ·rfl
  ·exfalso
   have:P*(c+1+1)=P*c+P+P:=by rw [Nat.mul_add,Nat.mul_add];omega
   omega
 subst hc1
 exact⟨by rw [e];exact Nat.le_add_left _ _,by omega,by omega,by rw [e];rfl⟩
theorem div_end {a b n U q:Nat} (hb:0<b) (hlt:U<b*2^n) (h:a*2^n=U+b*2^n*q):q=a/b∧U/2^n=a%b:=by
 have hp:=Nat.two_pow_pos n
 have hV:0<b*2^n:=Nat.mul_pos hb hp
 have h1:a*2^n/(b*2^n)=q:=by rw [h,Nat.add_mul_div_left _ _ hV,Nat.div_eq_of_lt hlt,Nat.zero_add]
 have h2:a*2^n%(b*2^n)=U:=by rw [h,Nat.add_mul_mod_self_left,Nat.mod_eq_of_lt hlt]
 rw [Nat.mul_div_mul_right _ _ hp] at h1
 rw [Nat.mul_mod_mul_right] at h2
 exact⟨h1.symm,by rw [←h2,Nat.mul_div_cancel _ hp]⟩
theorem mul4 (p q B D:Nat):p*q*B*D=p*(q*B*D):=by rw [Nat.mul_assoc,Nat.mul_assoc,Nat.mul_assoc]
theorem guess_start {V W D v1 v2 head w2 wr vr:Nat} (hV:V=(v1*4294967296+v2)*D+vr) (hv1:0<v1) (hW:W=(head*4294967296+w2)*D+wr) (hw2:w2<4294967296) (hwr:wr<D):W/V≤head/v1:=by
 have hD:0<D:=by omega
 have hV0:0<V:=by
  have:=Nat.mul_le_mul_right D (show 1≤v1*4294967296+v2 from by omega)
  omega
 have h1:head+1≤(head/v1+1)*v1:=by
  have:=Nat.div_add_mod head v1
  have h2:=Nat.mod_lt head hv1
  rw [Nat.add_mul,Nat.one_mul,Nat.mul_comm (head/v1)]
  omega
 have h2:W<(head+1)*4294967296*D:=by
  have:(head*4294967296+w2+1)*D≤(head+1)*4294967296*D:=Nat.mul_le_mul_right D om
  rw [Nat.add_mul,Nat.one_mul] at this
  omega
 have h3:(head+1)*4294967296*D≤(head/v1+1)*V:=by
  have e1:(head+1)*4294967296*D≤(head/v1+1)*v1*4294967296*D:=Nat.mul_le_mul_right D (Nat.mul_le_mul_right _ h1)
  have e0:v1*4294967296*D≤V:=by rw [hV,Nat.add_mul,Nat.add_assoc];exact Nat.le_add_right _ _
  have e2:=Nat.mul_le_mul_left (head/v1+1) e0
  rw [←mul4] at e2
  exact Nat.le_trans e1 e2
 have:W/V<head/v1+1:=(Nat.div_lt_iff_lt_mul hV0).2 om
 omega
theorem norm_top {bs vs:List Nat} {n k:Nat} (hb:∀x∈bs,x<4294967296) (hl:bs.length=k+2) (hn:n≤32) (h1:2147483648≤bs.getD (k+1) 0*2^n) (h2:bs.getD (k+1) 0*2^n<4294967296) (hv:∀x∈vs,x<4294967296) (hvl:vs.length=k+3) (hvv:val vs=val bs*2^n):
  val (vs.take (k+2))=val bs*2^n∧2147483648≤vs.getD (k+1) 0∧val bs*2^n<4294967296^(k+2):=by
 have hB:=two_pow_split hn
 have hp:=Nat.two_pow_pos n
 have e1:=val_take_succ bs (k+1)
 rw [val_take_all hl] at e1
 have e2:=val_take_lt bs hb (k+1) om
 generalize bs.getD (k+1) 0=t at*
 generalize hP:4294967296^(k+1)=P at*
 have ht:t+1≤2^(32-n):=by
  have:2^n*t<2^n*2^(32-n):=by rw [Nat.mul_comm];omega
  exact Nat.lt_of_mul_lt_mul_left this
 have hlt:val bs*2^n<P*4294967296:=by
  have a1:val bs<P*(t+1):=by rw [Nat.mul_add];omega
  have a2:=Nat.mul_lt_mul_of_pos_right a1 hp
  have a3:P*(t+1)*2^n≤P*4294967296:=by
   rw [Nat.mul_assoc]
   refine Nat.mul_le_mul_left P ?_
   rw [hB,Nat.mul_comm]
   exact Nat.mul_le_mul_left _ ht
  omega
 have hP2:4294967296^(k+2)=P*4294967296:=by rw [show k+2=(k+1)+1 from rfl,Nat.pow_succ,hP]
 have hs:=val_split vs (k+2) om
 rw [val_cut (zs:=vs) (m:=k+2) (by rw [hvv,hP2];exact hlt),Nat.mul_zero,Nat.add_zero] at hs
 refine⟨by omega,?_,by rw [hP2];exact hlt⟩
 have e3:val (vs.take (k+2))=val (vs.take (k+1))+4294967296^(k+1)*vs.getD (k+1) 0:=val_take_succ vs (k+1)
 have e4:=val_take_lt vs hv (k+1) om
 rw [hP] at e3 e4
 have hge:P*2147483648≤val bs*2^n:=by
  rw [e1,Nat.add_mul,Nat.mul_assoc]
  have:=Nat.mul_le_mul_left P h1
  omega
 have:P*2147483648<P*(vs.getD (k+1) 0+1):=by
  rw [Nat.mul_add,Nat.mul_one]
  omega
 have:=Nat.lt_of_mul_lt_mul_left this
 omega
theorem div_start {a b n la lb:Nat} (ha:a<4294967296^la) (hb:4294967296^(lb-1)≤b) (hl:lb≤la) (h0:1≤lb):a*2^n<b*2^n*4294967296^(la+1-lb):=by
 have hp:=Nat.two_pow_pos n
 have h1:4294967296^la=4294967296^(lb-1)*4294967296^(la+1-lb):=by rw [←Nat.pow_add];congr 1;omega
 have h2:=Nat.mul_le_mul_right (4294967296^(la+1-lb)) hb
 rw [←h1] at h2
 have h3:=Nat.mul_lt_mul_of_pos_right (Nat.lt_of_lt_of_le ha h2) hp
 rw [Nat.mul_right_comm]
 exact h3
end Go.PN
namespace Go.Proofs.YteehccacfedolaaGreat
open Go.AI Go.PN
attribute [local irreducible] aw Fa Fh DrK
theorem shift_top {t:Nat} (h0:t≠0) (hl:t<4294967296):32-bitlen t<32∧2147483648≤t*2^(32-bitlen t)∧t*2^(32-bitlen t)<4294967296:=by
 have h1:bitlen t≤32:=bitlen_lt (k:=32) hl
 have h2:bitlen t=Nat.log2 t+1:=by unfold bitlen;rw [if_neg h0]
 have h3:=Nat.log2_self_le h0
 have h4:=Nat.lt_log2_self (n:=t)
 have hk:32-bitlen t+bitlen t=32:=by omega
 refine⟨by omega,?_,?_⟩
 ·have:=Nat.mul_le_mul_right (2^(32-bitlen t)) h3
  rw [←Nat.pow_add,show t.log2+(32-bitlen t)=31 from by omega] at this
  exact this
 ·have:=Nat.mul_lt_mul_of_pos_right h4 (Nat.two_pow_pos (32-bitlen t))
  rw [←Nat.pow_add,show t.log2+1+(32-bitlen t)=32 from by omega] at this
  exact this
theorem div_fa (xs ys:List Nat) (hx:∀x∈xs,x<4294967296) (hy:∀x∈ys,x<4294967296) (hlx:xs.length≤68719476736) (hly:ys.length≤68719476736) (h0:val ys≠0):
  Fa Tryz.prog 174 [.c (ws false xs),.c (ws false ys)] (.tup [.c (ws true (words (val xs/val ys))),.c (ws true (words (val xs%val ys))),.c .nilI]):=by
 refine fa_of_body Tryz.func174 rfl rfl (by simp [Tryz.ntmps174]) fun C hC=> ?_
 simp only [initS,Nat.reduceAdd]
 refine xG ?_
 refine aw_callq (trim_fa xs hx om) rfl rfl rfl eL ?_
 refine xSG ?_
 refine aw_callq (trim_fa ys hy om) rfl rfl rfl eL ?_
 refine xS ?_
 have hla:(words (val xs)).length≤68719476736:=Nat.le_trans (words_val_len xs hx) hlx
 have hlb:(words (val ys)).length≤68719476736:=Nat.le_trans (words_val_len ys hy) hly
 generalize val xs=a at hla⊢
 generalize val ys=b at hlb h0⊢
 have hwa:=words_lt a
 have hwb:=words_lt b
 have hva:=val_words a
 have hvb:=val_words b
 have hbne:(words b).length≠0:=fun e=>h0 (words_eq_nil.1 (List.length_eq_zero_iff.1 e))
 refine xG ?_
 refine aw_cond eE (fun hb=> ?_) (fun _=> ?_)
 ·have:=eq_of_beq hb;omega
 refine xG ?_
 refine aw_callq (cmp_fa (words a) (words b) hwa hwb hla hlb) rfl rfl rfl eL ?_
 refine xS ?_
 rw [hva,hvb]
 refine xG ?_
 refine aw_cond eE (fun hb=> ?_) (fun hb=> ?_)
 ·have hlt:a<b:=by
   have:=of_decide_eq_true hb
   unfold cmpN at this
   split at this
   ·assumption
   ·split at this<;>omega
  refine xGT hC ?_
  rw [Nat.div_eq_of_lt hlt,Nat.mod_eq_of_lt hlt,words_zero]
  exact .tup ⟨.c .nils,.c ler_ws,.c .nilI,trivial⟩
 have hge:b≤a:=by
  have:=of_decide_eq_false hb
  unfold cmpN at this
  split at this
  ·omega
  ·omega
 have hlab:(words b).length≤(words a).length:=words_len_mono hge
 refine xG ?_
 refine aw_cond eE (fun hb=> ?_) (fun hb=> ?_)
 ·have hl1:(words b).length=1:=by have:=eq_of_beq hb;omega
  have hbw:b=(words b).getD 0 0:=by
   match hws:words b,hl1 with
   |[w],_=>rw [hws,val_one] at hvb;exact hvb.symm
  have hb32:=getD_lt hwb 0
  refine xG ?_
  refine aw_callq (small_fa (words a) ((words b).getD 0 0) hwa hla om hb32) rfl rfl rfl eL ?_
  refine xS ?_
  rw [hva,←hbw]
  have hml:a%b<4294967296:=by have:=Nat.mod_lt a (show 0<b from by omega);omega
  refine xG ?_
  refine aw_callq (of_fa ((a%b:Nat):Int) om om) rfl rfl rfl eL ?_
  refine xSGT hC ?_
  exact .tup ⟨.c ler_ws,.c ler_ws,.c .nilI,trivial⟩
 have hl2:(words b).length≠1:=fun e=>by rw [e] at hb;cases hb
 obtain⟨k,hk⟩:∃k,(words b).length=k+2:=⟨(words b).length-2,by omega⟩
 have htop:(words b).getD ((words b).length-1) 0≠0:=(words_plain b).resolve_left (fun e=>by rw [e] at hbne;exact hbne rfl)
 have htl:=getD_lt hwb ((words b).length-1)
 obtain⟨hn,hn1,hn2⟩:=shift_top htop htl
 refine xG ?_
 refine aw_callq (lead_fa _ htl) rfl rfl rfl eL ?_
 refine xS ?_
 generalize hnn:32-bitlen ((words b).getD ((words b).length-1) 0)=n at hn hn1 hn2⊢
 refine xG ?_
 refine aw_callh (left_fh (words b) n hwb hlb hn) rfl rfl rfl (.refl _) eL ?_
 rintro r h' ⟨gv,vs,rfl,rfl,hvl,hvw,hvv⟩ hfr
 refine xSG ?_
 have hkk:(words b).length-1=k+1:=by omega
 rw [hkk] at hn1 hn2
 obtain⟨hv1,hv2,hv3⟩:=norm_top (n:=n) hwb hk om hn1 hn2 hvw om hvv
 refine aw_frzw (t:=10) (ys:=vs.take (k+2)) eE eE om (hC gv) (by simp;omega) (fun j hj=>by rw [Nat.zero_add,getD_take om]) eE eE ?_
 refine aw_weak (σ':=[(0,.c (ws true (words a))),(9,.c (.int .i64 n)),(10,.c (ws true (vs.take (k+2)))),(59,.c (ws true (words a))),(60,.c (.int .i64 n))]) (h':=[]) (Sl.sub_le eB) zZ ?_
 have hvvl:(vs.take (k+2)).length=k+2:=by simp;omega
 have hvvw:∀x∈vs.take (k+2),x<4294967296:=fun x hx=>hvw x (List.mem_of_mem_take hx)
 rw [←getD_take (show k+1<k+2 from by omega)] at hv2
 rw [hvb] at hv1 hv3
 generalize vs.take (k+2)=v at hv1 hv2 hvvl hvvw⊢
 refine aw_callh (left_fh (words a) n hwa hla hn) rfl rfl rfl (.refl _) eL ?_
 rintro r h' ⟨gu,us,rfl,rfl,hul,huw,huv⟩ hfr
 refine xSG ?_
 refine aw_dr 16 ty_mixed (by kernel_rfl) ?_
 have hb1:=getD_lt hvvw (v.length-1)
 have hb2:=getD_lt hvvw (v.length-2)
 have e2:((v.length:Int)-2).toNat=v.length-2:=by omega
 refine yI e2 ?_
 have hvm1:v.length-1=k+1:=by omega
 have hvm2:v.length-2=k:=by omega
 rw [hvm1] at hb1
 rw [hvm2] at hb2
 have eq0:(((words a).length+1:Nat):Int)-(v.length:Int)=(((words a).length+1-(k+2):Nat):Int):=by omega
 rw [hvm1,hvm2,eq0]
 refine aw_make (n:=(words a).length+1-(k+2)) (c:=(words a).length+1-(k+2)) rfl rfl rfl ty_e_ws ty_z_u32 rfl om eE eE rfl rfl om om om fun gq hgq=> ?_
 rw [make_wf ((words a).length+1-(k+2))]
 have hne:¬gq=gu:=fun e=>hgq (by simp [Heap.keys,e])
 have hne2:¬gu=gq:=fun e=>hne e.symm
 refine xS ?_
 refine xI ?_
 have hst:=div_start (n:=n) (words_pow_lt a) (words_pow_le h0) hlab om
 rw [hva] at huv
 rw [hk,←hv1] at hst
 rw [←huv] at hst
 rw [←hv1] at hv3
 generalize (words a).length=la at hla hlab hul eq0 hst⊢
 apply aw_block
 generalize hlq:la+1-(k+2)=lq at hst⊢
 refine aw_lp (fun x:Nat×List Nat×List Nat=>[(4,.c (.osl gq 1 0 lq)),(9,.c (.int .i64 n)),(10,.c (ws true v)),(11,.c (.osl gu 1 0 (la+1))),(12,.c (.int .u64 (v.getD (k+1) 0:Nat))),(13,.c (.int .u64 (v.getD k 0:Nat))),(14,.c (.int .i64 ((x.1:Int)-1)))])
  (fun x=>[(gq,.cells 166 lq (wf x.2.2)),(gu,.cells 166 (la+1) (wf x.2.1))])
  (fun x=>x.1≤lq∧x.2.1.length=la+1∧(∀y∈x.2.1,y<4294967296)∧x.2.2.length=lq∧(∀y∈x.2.2,y<4294967296)∧val x.2.1<val v*4294967296^x.1∧a*2^n=val x.2.1+val v*(4294967296^x.1*val (x.2.2.drop x.1))) (fun x=>x.1) (lq,us,List.replicate lq 0) eB zZ
  ⟨Nat.le_refl _,hul,huw,by simp,replicate_lt _,hst,by simp [val,huv]⟩ ?_
 clear hst huv huw hul hfr hgq us
 rintro ⟨m,us,qs⟩ ⟨hm,hul,huw,hql,hqw,hlt,hA⟩
 dsimp only at hm hul huw hql hqw hlt hA⊢
 refine xI ?_
 refine aw_cond eE (fun hb=> ?_) (fun hb=> ?_)
 ·have hm1:1≤m:=dT hb
  obtain⟨j,rfl⟩:∃j,m=j+1:=⟨m-1,by omega⟩
  have e14:((j+1:Nat):Int)-1=(j:Int):=by omega
  rw [e14]
  have hLL:j+(k+2)+1≤us.length:=by omega
  obtain⟨w1,w2,w3,w4⟩:=window (V:=val v) huw hLL hv3 hlt
  have hWl:((us.drop j).take (k+2+1)).length=k+3:=by simp;omega
  have hWw:∀x∈(us.drop j).take (k+2+1),x<4294967296:=fun x hx=>huw x (List.mem_of_mem_drop (List.mem_of_mem_take hx))
  have t3:=top3 hWl
  rw [win_getD' om,win_getD' om,win_getD' om] at t3
  have t3l:=val_take_lt _ hWw k om
  have t2:=top2 hvvl
  have t2l:=val_take_lt _ hvvw k om
  have hhead:=head_le t2 hb2 t2l t3 w4
  have hw0:=getD_lt huw (j+(k+2))
  have hw1:=getD_lt huw (j+(k+1))
  have hw2:=getD_lt huw (j+k)
  have hVpos:0<val v:=by rw [hv1];exact Nat.mul_pos (Nat.pos_of_ne_zero h0) (Nat.two_pow_pos n)
  have e3:((j:Int)+((k+2:Nat):Int)-1).toNat=j+(k+1):=by omega
  have e4:((j:Int)+((k+2:Nat):Int)-2).toNat=j+k:=by omega
  have e5:((j:Int)+((k+2:Nat):Int)+1).toNat=j+(k+3):=by omega
  apply aw_skip
  apply aw_seq
  apply aw_block
  apply aw_seq
  refine aw_dr 20 ty_mixed (by kernel_rfl) ?_
  refine yI (oj hvvl (oj e3 (oj e4 (oj e5 (oj hne (oj hne2 @Nat.add_sub_cancel_left)))))) ?_
  rw [shl_u64_32 _ hw0,or_u64_j32 _ _ hw0 hw1]
  have hhl:j32 (us.getD (j+(k+2)) 0) (us.getD (j+(k+1)) 0)<18446744073709551616:=by unfold j32;omega
  have hhv:j32 (us.getD (j+(k+2)) 0) (us.getD (j+(k+1)) 0)≤v.getD (k+1) 0*4294967296+us.getD (j+(k+1)) 0:=by unfold j32;omega
  replace t3:val ((us.drop j).take (k+2+1))=(j32 (us.getD (j+(k+2)) 0) (us.getD (j+(k+1)) 0)*4294967296+us.getD (j+k) 0)*4294967296^k+val (((us.drop j).take (k+2+1)).take k):=t3
  generalize j32 (us.getD (j+(k+2)) 0) (us.getD (j+(k+1)) 0)=hd at t3 hhl hhv⊢
  have gs:=guess_start t2 om t3 hw2 t3l
  generalize hWv:val ((us.drop j).take (k+2+1))=W at t3 gs w1 w4
  have hhq:hd/v.getD (k+1) 0*v.getD (k+1) 0+hd%v.getD (k+1) 0=hd:=by rw [Nat.mul_comm];exact Nat.div_add_mod _ _
  have hhr:hd%v.getD (k+1) 0<v.getD (k+1) 0:=Nat.mod_lt _ om
  refine aw_dr 8 ty_mixed (by kernel_rfl) ?_
  have J1:=oj hvvl (oj e3 (oj e4 (oj e5 (oj hne (oj hne2 @Nat.add_sub_cancel_left)))))
  refine yI J1 ?_
  rw [quo_u64 _ _ hhl,rem_nat]
  refine aw_weak (σ':=[(4,.c (.osl gq 1 0 lq)),(9,.c (.int .i64 n)),(10,.c (ws true v)),(11,.c (.osl gu 1 0 (la+1))),(12,.c (.int .u64 (v.getD (k+1) 0:Nat))),(13,.c (.int .u64 (v.getD k 0:Nat))),(14,.c (.int .i64 j)),(16,.c (.int .u64 (hd/v.getD (k+1) 0:Nat))),(17,.c (.int .u64 (hd%v.getD (k+1) 0:Nat)))]) (h':=[(gq,.cells 166 lq (wf qs)),(gu,.cells 166 (la+1) (wf us))]) (Sl.sub_le (zB J1)) zZ ?_
  refine aw_cut (fun g:Nat=>[(4,.c (.osl gq 1 0 lq)),(9,.c (.int .i64 n)),(10,.c (ws true v)),(11,.c (.osl gu 1 0 (la+1))),(12,.c (.int .u64 (v.getD (k+1) 0:Nat))),(13,.c (.int .u64 (v.getD k 0:Nat))),(14,.c (.int .i64 j)),(16,.c (.int .u64 g))]) (fun _=>[(gq,.cells 166 lq (wf qs)),(gu,.cells 166 (la+1) (wf us))]) (fun g=>W/val v≤g∧g*val v<W+val v∧g<4294967296) ?_ ?_
  ·apply aw_block
   refine aw_lp (fun x:Nat×Nat=>[(4,.c (.osl gq 1 0 lq)),(9,.c (.int .i64 n)),(10,.c (ws true v)),(11,.c (.osl gu 1 0 (la+1))),(12,.c (.int .u64 (v.getD (k+1) 0:Nat))),(13,.c (.int .u64 (v.getD k 0:Nat))),(14,.c (.int .i64 j)),(16,.c (.int .u64 x.1)),(17,.c (.int .u64 x.2))]) (fun _=>[(gq,.cells 166 lq (wf qs)),(gu,.cells 166 (la+1) (wf us))])
    (fun x=>W/val v≤x.1∧x.1*v.getD (k+1) 0+x.2=hd∧x.2<4294967296) (fun x=>x.1) (hd/v.getD (k+1) 0,hd%v.getD (k+1) 0) (zB (oj hvvl (oj e3 (oj e4 (oj e5 (oj hne (oj hne2 @Nat.add_sub_cancel_left))))))) zZ ⟨gs,hhq,by dsimp only;omega⟩ ?_
   rintro ⟨g,rest⟩ ⟨hg1,hg2,hg3⟩
   dsimp only at hg1 hg2 hg3⊢
   apply aw_seq
   apply aw_seq
   refine aw_cut (fun tt:Bool=>[(4,.c (.osl gq 1 0 lq)),(9,.c (.int .i64 n)),(10,.c (ws true v)),(11,.c (.osl gu 1 0 (la+1))),(12,.c (.int .u64 (v.getD (k+1) 0:Nat))),(13,.c (.int .u64 (v.getD k 0:Nat))),(14,.c (.int .i64 j)),(16,.c (.int .u64 g)),(17,.c (.int .u64 rest)),(133,.c (.bool tt))]) (fun _=>[(gq,.cells 166 lq (wf qs)),(gu,.cells 166 (la+1) (wf us))])
    (fun tt=>(tt=true→W/val v<g)∧(tt=false→g<4294967296∧g*v.getD k 0≤rest*4294967296+us.getD (j+k) 0)) ?_ ?_
   ·by_cases hgB:g<4294967296
    ·have hdec:decide ((g:Int)≥4294967296)=false:=by simp;omega
     have hmb:=mul_bound hgB hb2
     have J2:=oj hvvl (oj e3 (oj e4 (oj e5 (oj hne (oj hne2 (oj @Nat.add_sub_cancel_left hdec))))))
     refine yI J2 ?_
     rw [shl_u64_32 _ hg3,or_u64_j32 _ _ hg3 hw2]
     refine aw_stop ⟨_,(zB J2),zZ,fun h=> ?_,fun h=>⟨hgB,?_⟩⟩
     ·have:=of_decide_eq_true h
      unfold j32 at this
      have hlt2:=guess_down (D:=4294967296^k) (V:=val v) (v2:=v.getD k 0) (by rw [t2];exact Nat.le_add_right _ _) t3 t3l hg2 (by rw [←Int.natCast_mul] at this;omega)
      exact(Nat.div_lt_iff_lt_mul hVpos).2 hlt2
     ·have:=of_decide_eq_false h
      unfold j32 at this
      rw [←Int.natCast_mul] at this
      omega
    ·have hdec:decide ((g:Int)≥4294967296)=true:=by simp;omega
     have J3:=oj hvvl (oj e3 (oj e4 (oj e5 (oj hne (oj hne2 (oj @Nat.add_sub_cancel_left hdec))))))
     refine yI J3 ?_
     refine aw_stop ⟨true,(zB J3),zZ,fun _=> ?_,fun h=>by cases h⟩
     have:W/val v<4294967296:=(Nat.div_lt_iff_lt_mul hVpos).2 (by rw [Nat.mul_comm];exact w4)
     omega
   ·rintro tt ⟨htt,htf⟩
    refine aw_cond (zE (oj hvvl (oj e3 (oj e4 (oj e5 (oj hne (oj hne2 @Nat.add_sub_cancel_left))))))) (fun h=> ?_) (fun h=> ?_)
    ·have hgt:=htt h
     have hg0:0<g:=Nat.lt_of_le_of_lt (Nat.zero_le _) hgt
     have hgle:g≤g*v.getD (k+1) 0:=Nat.le_mul_of_pos_right g om
     have hgm:(g-1)*v.getD (k+1) 0+(rest+v.getD (k+1) 0)=hd:=by
      obtain⟨g',rfl⟩:∃g',g=g'+1:=⟨g-1,by omega⟩
      rw [Nat.add_mul,Nat.one_mul] at hg2
      simp only [Nat.add_sub_cancel]
      omega
     refine yG (oj hvvl (oj e3 (oj e4 (oj e5 (oj hne (oj hne2 @Nat.add_sub_cancel_left)))))) ?_
     have eg:(g:Int)-1=((g-1:Nat):Int):=by omega
     have er:(rest:Int)+((v.getD (k+1) 0:Nat):Int)=((rest+v.getD (k+1) 0:Nat):Int):=by omega
     rw [eg,er]
     refine aw_cond (zE (oj hvvl (oj e3 (oj e4 (oj e5 (oj hne (oj hne2 @Nat.add_sub_cancel_left))))))) (fun h=> ?_) (fun h=> ?_)
     ·have hr:=of_decide_eq_true h
      have J4:=oj hvvl (oj e3 (oj e4 (oj e5 (oj hne (oj hne2 @Nat.add_sub_cancel_left)))))
      refine yI J4 ?_
      have hgs:=guess_small hhv hw1 hgm om
      refine aw_stop ⟨g-1,(zB J4),zZ,by omega,?_,hgs⟩
      refine guess_up t2 t2l om t3 hgm hgs ?_
      have m1:=mul_bound hgs hb2
      have m2:4294967296*4294967296≤(rest+v.getD (k+1) 0)*4294967296:=Nat.mul_le_mul_right _ om
      omega
     ·have hr:=of_decide_eq_false h
      have J5:=oj hvvl (oj e3 (oj e4 (oj e5 (oj hne (oj hne2 @Nat.add_sub_cancel_left)))))
      refine yI J5 ?_
      refine aw_stop ⟨(g-1,rest+v.getD (k+1) 0),by dsimp only;omega,(zB J5),zZ,by dsimp only;omega,hgm,by dsimp only;omega⟩
    ·obtain⟨hf1,hf2⟩:=htf h
     have J6:=oj hvvl (oj e3 (oj e4 (oj e5 (oj hne (oj hne2 @Nat.add_sub_cancel_left)))))
     refine yI J6 ?_
     exact aw_stop ⟨g,(zB J6),zZ,hg1,guess_up t2 t2l om t3 hg2 hf1 hf2,hf1⟩
  ·rintro g ⟨hg1,hg2,hg3⟩
   have hqd:W/val v<4294967296:=(Nat.div_lt_iff_lt_mul hVpos).2 (by rw [Nat.mul_comm];exact w4)
   apply aw_seq
   refine aw_cut (fun zs:List Nat=>[(4,.c (.osl gq 1 0 lq)),(9,.c (.int .i64 n)),(10,.c (ws true v)),(11,.c (.osl gu 1 0 (la+1))),(12,.c (.int .u64 (v.getD (k+1) 0:Nat))),(13,.c (.int .u64 (v.getD k 0:Nat))),(14,.c (.int .i64 j)),(16,.c (.int .u64 (W/val v:Nat)))]) (fun zs=>[(gu,.cells 166 (la+1) (wf (win us j zs))),(gq,.cells 166 lq (wf qs))])
    (fun zs=>zs.length=k+3∧(∀y∈zs,y<4294967296)∧val zs+(W/val v)*val v=W∧val zs<val v) ?_ ?_
   ·have J7:=oj hvvl (oj e3 (oj e4 (oj e5 (oj hne (oj hne2 @Nat.add_sub_cancel_left)))))
    refine yI J7 ?_
    have tf:=take_fh gu j (k+3) g us _ v rfl om huw hvvw om hg3 om
    rw [hul] at tf
    refine aw_callh tf rfl rfl rfl (.swap _ _ []) (zL J7) ?_
    rintro r h' ⟨bb,zs,rfl,rfl,hzl,hzw,hbb,hzv⟩ hfr
    rw [hWv] at hzv
    have hzlt:=val_lt zs hzw
    rw [hzl] at hzlt
    refine yS J7 ?_
    refine yI J7 ?_
    refine aw_cond (zE J7) (fun h=> ?_) (fun h=> ?_)
    ·have hb1':bb=1:=by have:=eq_of_beq h;omega
     subst hb1'
     have hg0:1≤g:=by
      rcases Nat.eq_zero_or_pos g with e|e
      ·exfalso;rw [e,Nat.zero_mul] at hzv;omega
      ·exact e
     refine yI (oj hvvl (oj e3 (oj e4 (oj e5 (oj hne (oj hne2 @Nat.add_sub_cancel_left)))))) ?_
     have eg:(g:Int)-1=((g-1:Nat):Int):=by omega
     rw [eg]
     have hwl:(win us j zs).length=la+1:=by rw [win_length om,hul]
     have gf:=give_fh gu j (k+3) (win us j zs) zs v (win_of_win om hzl) om (win_lt huw hzw) hvvw om om
     rw [hwl] at gf
     refine aw_callh gf rfl rfl rfl (.refl _) (zL (oj hvvl (oj e3 (oj e4 (oj e5 (oj hne (oj hne2 @Nat.add_sub_cancel_left))))))) ?_
     rintro r h' ⟨cc,zs2,rfl,rfl,hzl2,hzw2,hzv2⟩ hfr
     have hzlt2:=val_lt zs2 hzw2
     rw [hzl2] at hzlt2
     have hVP:val v≤4294967296^(k+3):=by
      rw [Nat.pow_succ]
      omega
     obtain⟨d1,d2,d3,d4⟩:=digit_back hVpos hVP hg1 hg2 hzlt hzlt2 hzv hzv2
     rw [win_win om om,d4]
     have J8:=oj hvvl (oj e3 (oj e4 (oj e5 (oj hne (oj hne2 @Nat.add_sub_cancel_left)))))
     refine yS J8 ?_
     refine yI J8 ?_
     exact aw_stop ⟨zs2,(zB J8),zZ,hzl2,hzw2,d2,d3⟩
    ·have hb0:bb=0:=by
      have:¬((bb:Int)=1):=fun e=>by rw [e] at h;cases h
      omega
     subst hb0
     obtain⟨d1,d2,d3⟩:=digit_ok hVpos hg1 hg2 hzv
     subst d3
     have J9:=oj hvvl (oj e3 (oj e4 (oj e5 (oj hne (oj hne2 @Nat.add_sub_cancel_left)))))
     refine yI J9 ?_
     exact aw_stop ⟨zs,(zB J9),zZ,hzl,hzw,d1,d2⟩
   ·rintro zs ⟨hzl,hzw,hz1,hz2⟩
    refine yI (oj hvvl (oj e3 (oj e4 (oj e5 (oj hne (oj hne2 @Nat.add_sub_cancel_left)))))) ?_
    rw [wrap_u32_nat,Nat.mod_eq_of_lt hqd]
    have J10:=oj hvvl (oj e3 (oj e4 (oj e5 (oj hne (oj hne2 @Nat.add_sub_cancel_left)))))
    refine yW J10 ?_
    refine yS J10 ?_
    rw [updF_wf om]
    refine aw_perm (.swap _ _ []) ?_
    refine yI J10 ?_
    have hwv:val (win us j zs)=val (us.take j)+4294967296^j*val zs:=by
     rw [val_win om,hzl,w3,Nat.mul_zero,Nat.add_zero]
    have hds:=drop_set (zs:=qs) (i:=j) (v:=W/val v) om
    have hpw:4294967296^(j+1)=4294967296^j*4294967296:=Nat.pow_succ ..
    rw [hpw] at hA
    obtain⟨s1,s2⟩:=div_step (A:=a*2^n) w1 w2 hz1 hz2 hA rfl
    refine aw_stop ⟨(j,win us j zs,qs.set j (W/val v)),by dsimp only;omega,(zB (oj hvvl (oj e3 (oj e4 (oj e5 (oj hne (oj hne2 @Nat.add_sub_cancel_left))))))),zZ,by dsimp only;omega,by rw [win_length om];exact hul,win_lt huw hzw,by simpa using hql,set_lt hqw hqd,?_,?_⟩
    ·dsimp only;rw [hwv];exact s1
    ·dsimp only;rw [hwv,hds,val];exact s2
 ·have hm0:m=0:=dF hb
  subst hm0
  simp only [Nat.pow_zero,Nat.mul_one,Nat.one_mul,List.drop_zero] at hlt hA
  rw [hv1] at hlt hA
  obtain⟨hq,hr⟩:=div_end (Nat.pos_of_ne_zero h0) hlt hA
  have J11:=oj hne hne2
  refine yG J11 ?_
  refine aw_callq (trim_fa qs hqw om) rfl rfl rfl (by refine yS J11 ?_;exact .c (lec_oslws (zE J11) om om (fun j _=>by rw [Nat.zero_add];rfl))) ?_
  refine ySG J11 ?_
  refine aw_callq (right_fa us n huw om hn) rfl rfl rfl (by refine yS J11 ?_;exact⟨.c (lec_oslws (zE J11) om om (fun j _=>by rw [Nat.zero_add];rfl)),.c (.refl _)⟩) ?_
  refine ySG J11 ?_
  refine aw_callq (trim_fa (rgt n us) (rgt_lt n us) (by rw [rgt_length];omega)) rfl rfl rfl (zL J11) ?_
  refine ySGT hC J11 ?_
  rw [rgt_val om us huw,hr,hq]
  exact .tup ⟨.c ler_ws,.c ler_ws,.c .nilI,trivial⟩
end Go.Proofs.YteehccacfedolaaGreat
namespace Go.Proofs.YteehccacfedolaaGreat
open Go.AI Go.PN
attribute [local irreducible] aw Fa Fh DrK
theorem gcd_fa (xs ys:List Nat) (hx:∀x∈xs,x<4294967296) (hy:∀x∈ys,x<4294967296) (hlx:xs.length≤68719476736) (hly:ys.length≤68719476736):
  Fa Tryz.prog 154 [.c (ws false xs),.c (ws false ys)] (.c (ws true (words (Nat.gcd (val xs) (val ys))))):=by
 refine fa_of_body Tryz.func154 rfl rfl (by simp [Tryz.ntmps154]) fun C hC=> ?_
 simp only [initS,Nat.reduceAdd]
 refine xG ?_
 refine aw_callq (trim_fa xs hx om) rfl rfl rfl eL ?_
 refine xSG ?_
 refine aw_callq (trim_fa ys hy om) rfl rfl rfl eL ?_
 refine xS ?_
 have hla:(words (val xs)).length≤68719476736:=Nat.le_trans (words_val_len xs hx) hlx
 have hlb:(words (val ys)).length≤68719476736:=Nat.le_trans (words_val_len ys hy) hly
 refine xI ?_
 apply aw_block
 refine aw_lp (fun x:Nat×Nat=>[(0,.c (ws true (words x.1))),(1,.c (ws true (words x.2)))]) (fun _=>[]) (fun x=>(words x.1).length≤68719476736∧(words x.2).length≤68719476736∧Nat.gcd x.1 x.2=Nat.gcd (val xs) (val ys)) (fun x=>x.2) (val xs,val ys) eB zZ ⟨hla,hlb,rfl⟩ ?_
 rintro ⟨a,b⟩ ⟨hla,hlb,hg⟩
 dsimp only at hla hlb hg⊢
 refine xG ?_
 refine aw_cond eE (fun hb=> ?_) (fun hb=> ?_)
 ·have hb0:b≠0:=fun e=>by have:=of_decide_eq_true hb;rw [e,words_zero] at this;simp at this
  refine xG ?_
  refine aw_callq (div_fa (words a) (words b) (words_lt a) (words_lt b) hla hlb (by rw [val_words];exact hb0)) rfl rfl rfl eL ?_
  rw [val_words,val_words]
  refine xSG ?_
  have hlt:a%b<b:=Nat.mod_lt _ (Nat.pos_of_ne_zero hb0)
  refine aw_stop ⟨(b,a%b),hlt,eB,zZ,hlb,Nat.le_trans (words_len_mono (Nat.le_of_lt hlt)) hlb,?_⟩
  dsimp only
  rw [←hg,Nat.gcd_comm a b,Nat.gcd_rec b a,Nat.gcd_comm]
 ·have hb0:b=0:=by
   have:=of_decide_eq_false hb
   exact words_eq_nil.1 (List.length_eq_zero_iff.1 om)
  subst hb0
  refine xGT hC ?_
  rw [←hg,Nat.gcd_zero_right]
  exact .one (.c ler_ws)
end Go.Proofs.YteehccacfedolaaGreat
namespace Go.PN
structure RD where
 neg:Bool
 num:List Nat
 den:List Nat
def RD.wf (r:RD) (L:Nat):Prop:=(∀x∈r.num,x<4294967296)∧(∀x∈r.den,x<4294967296)∧r.num.length≤L∧r.den.length≤L
def plainB (xs:List Nat):Bool:=decide (0<xs.length)&& !decide (xs.getD (xs.length-1) 0=0)
def RD.valid (r:RD):Bool:=if r.num.length=0∧r.den.length=0 then !r.neg else plainB r.num&&plainB r.den&&decide (Nat.gcd (val r.num) (val r.den)=1)
def RD.some (r:RD):Bool:=r.valid&&decide (r.num.length≠0)
def RD.pn (r:RD):Nat:=if r.some then val r.num else 0
def RD.pd (r:RD):Nat:=if r.some then val r.den else 1
def RD.ps (r:RD):Bool:=if r.some then r.neg else false
def sgn (neg:Bool) (n:Nat):Int:=if neg then-(n:Int) else n
def sq (neg:Bool) (n d:Nat):Rat:=mkRat (sgn neg n) d
def RD.q (r:RD):Rat:=sq r.ps r.pn r.pd
def rd (q:Rat):RD:=⟨decide (q.num<0),words q.num.natAbs,if q.num=0 then [] else words q.den⟩
theorem sgn_abs (b:Bool) (n:Nat):(sgn b n).natAbs=n:=by unfold sgn;cases b<;>simp
theorem sgn_neg (b:Bool) (n:Nat):sgn (!b) n= -sgn b n:=by unfold sgn;cases b<;>simp
theorem sgn_mul (a b:Bool) (n m:Nat):sgn (a !=b) (n*m)=sgn a n*sgn b m:=by unfold sgn;cases a<;>cases b<;>simp [Int.natCast_mul,Int.neg_mul,Int.mul_neg]
theorem mkRat_nd {n:Int} {d:Nat} (hd:d≠0):(mkRat n d).num=n/(n.natAbs.gcd d:Nat)∧(mkRat n d).den=d/n.natAbs.gcd d:=by
 rw [←Rat.normalize_eq_mkRat hd,Rat.normalize_eq]
 exact⟨rfl,rfl⟩
theorem plain_words {xs:List Nat} (hx:∀x∈xs,x<4294967296) (hp:plainB xs=true):words (val xs)=xs∧val xs≠0:=by
 simp only [plainB,Bool.and_eq_true,decide_eq_true_eq,Bool.not_eq_true',decide_eq_false_iff_not] at hp
 have h:=words_val hx (.inr hp.2)
 refine⟨h,fun e=> ?_⟩
 rw [e,words_zero] at h
 rw [←h] at hp
 simp at hp
theorem RD.some_spec {r:RD} {L:Nat} (hw:r.wf L) (hs:r.some=true):words (val r.num)=r.num∧words (val r.den)=r.den∧val r.num≠0∧val r.den≠0∧Nat.gcd (val r.num) (val r.den)=1:=by
 simp only [RD.some,Bool.and_eq_true,decide_eq_true_eq] at hs
 obtain⟨hv,hn⟩:=hs
 unfold RD.valid at hv
 rw [if_neg (fun h=>hn h.1)] at hv
 simp only [Bool.and_eq_true,decide_eq_true_eq] at hv
 obtain⟨⟨h1,h2⟩,h3⟩:=hv
 have p1:=plain_words hw.1 h1
 have p2:=plain_words hw.2.1 h2
 exact⟨p1.1,p2.1,p1.2,p2.2,h3⟩
theorem RD.pd_ne {r:RD} {L:Nat} (hw:r.wf L):r.pd≠0:=by
 unfold RD.pd
 split
 ·rename_i h;exact(RD.some_spec hw h).2.2.2.1
 ·simp
theorem words_one:words 1=[1]:=by rw [words_cons om];simp [words_zero]
theorem RD.pn_words {r:RD} {L:Nat} (hw:r.wf L) (hs:r.some=true):words r.pn=r.num∧words r.pd=r.den∧r.ps=r.neg:=by
 obtain⟨h1,h2,_⟩:=RD.some_spec hw hs
 unfold RD.pn RD.pd RD.ps
 simp only [hs,if_true]
 exact⟨h1,h2,trivial⟩
theorem RD.pn_none {r:RD} (hs:r.some=false):words r.pn=[]∧words r.pd=[1]∧r.ps=false:=by
 unfold RD.pn RD.pd RD.ps
 simp [hs,words_zero,words_one]
theorem RD.p_len {r:RD} {L:Nat} (hw:r.wf L) (hL:1≤L):(words r.pn).length≤L∧(words r.pd).length≤L:=by
 cases hs:r.some with
 |true=>obtain⟨h1,h2,_⟩:=RD.pn_words hw hs;rw [h1,h2];exact⟨hw.2.2.1,hw.2.2.2⟩
 |false=>obtain⟨h1,h2,_⟩:=RD.pn_none hs;rw [h1,h2];exact⟨by simp,by simpa using hL⟩
theorem rd_sq {neg:Bool} {n d:Nat} (hn:n≠0) (hd:d≠0):rd (sq neg n d)=⟨neg,words (n/Nat.gcd n d),words (d/Nat.gcd n d)⟩:=by
 obtain⟨h1,h2⟩:=mkRat_nd (n:=sgn neg n) hd
 rw [sgn_abs] at h1 h2
 have hg:0<Nat.gcd n d:=Nat.gcd_pos_of_pos_left _ (Nat.pos_of_ne_zero hn)
 have hdv:Nat.gcd n d∣n:=Nat.gcd_dvd_left n d
 have hq:0<n/Nat.gcd n d:=Nat.div_pos (Nat.le_of_dvd (Nat.pos_of_ne_zero hn) hdv) hg
 have hnum:(sq neg n d).num=sgn neg (n/Nat.gcd n d):=by
  unfold sq
  rw [h1]
  unfold sgn
  cases neg with
  |false=>simp
  |true=>
   simp only [if_true]
   rw [Int.neg_ediv_of_dvd (Int.ofNat_dvd.2 hdv)]
   simp
 unfold rd
 rw [hnum]
 have h0:sgn neg (n/Nat.gcd n d)≠0:=fun e=>by
  have:=congrArg Int.natAbs e
  rw [sgn_abs] at this
  rw [this] at hq
  simp at hq
 rw [if_neg h0,sgn_abs]
 have e2:(sq neg n d).den=d/Nat.gcd n d:=h2
 rw [e2]
 congr 1
 generalize n/Nat.gcd n d=m at hq
 unfold sgn
 cases neg with
 |false=>simp
 |true=>simp;omega
theorem rd_zero:rd 0=⟨false,[],[]⟩:=by simp [rd,words_zero]
theorem sq_zero (neg:Bool) (d:Nat):sq neg 0 d=0:=by unfold sq sgn;cases neg<;>simp [Rat.zero_mkRat]
theorem plainB_words {n:Nat} (h:n≠0):plainB (words n)=true:=by
 have hp:=(words_plain n).resolve_left (fun e=>h (words_eq_nil.1 e))
 have hl:(words n).length≠0:=fun e=>h (words_eq_nil.1 (List.length_eq_zero_iff.1 e))
 simp only [plainB,Bool.and_eq_true,decide_eq_true_eq,Bool.not_eq_true',decide_eq_false_iff_not]
 exact⟨by omega,hp⟩
theorem rd_some {q:Rat} (h:q≠0):(rd q).some=true∧(rd q).valid=true:=by
 have hn:q.num≠0:=fun e=>h (Rat.num_eq_zero.1 e)
 have hl:(words q.num.natAbs).length≠0:=fun e=>hn (by have:=words_eq_nil.1 (List.length_eq_zero_iff.1 e);omega)
 have hv:(rd q).valid=true:=by
  unfold RD.valid rd
  simp only [hn,if_false]
  rw [if_neg (fun x=>hl x.1),plainB_words om,plainB_words q.den_nz,val_words,val_words]
  have:=q.reduced
  simp only [Bool.and_self,Bool.true_and,decide_eq_true_eq]
  exact this
 refine⟨?_,hv⟩
 unfold RD.some
 rw [hv]
 simp only [Bool.true_and,decide_eq_true_eq]
 exact hl
theorem rd_q (q:Rat):(rd q).q=q:=by
 by_cases h:q=0
 ·subst h
  rw [rd_zero]
  rfl
 ·obtain⟨h1,_⟩:=rd_some h
  have hn:q.num≠0:=fun e=>h (Rat.num_eq_zero.1 e)
  have e:(rd q).q=sq (decide (q.num<0)) q.num.natAbs q.den:=by
   unfold RD.q RD.ps RD.pn RD.pd
   rw [h1]
   simp only [if_true]
   unfold rd
   simp only [hn,if_false,val_words]
  rw [e]
  unfold sq
  have:sgn (decide (q.num<0)) q.num.natAbs=q.num:=by
   unfold sgn
   split
   ·rename_i hlt;simp only [decide_eq_true_eq] at hlt;omega
   ·rename_i hlt;simp only [decide_eq_true_eq] at hlt;omega
  rw [this]
  exact Rat.mkRat_self q
def fits (q:Rat) (L:Nat):Prop:=q.num.natAbs<4294967296^L∧q.den<4294967296^L
theorem fits_mono {q:Rat} {L M:Nat} (h:fits q L) (hm:L≤M):fits q M:=
 ⟨Nat.lt_of_lt_of_le h.1 (Nat.pow_le_pow_right om hm),Nat.lt_of_lt_of_le h.2 (Nat.pow_le_pow_right om hm)⟩
theorem rd_wf {q:Rat} {L:Nat} (h:fits q L):(rd q).wf L:=by
 refine⟨words_lt _,?_,words_len_le h.1,?_⟩
 ·unfold rd
  simp only
  split
  ·simp
  ·exact words_lt _
 ·unfold rd
  simp only
  split
  ·simp
  ·exact words_len_le h.2
theorem fits_sq {neg:Bool} {n d L:Nat} (hd:d≠0) (h1:n<4294967296^L) (h2:d<4294967296^L):fits (sq neg n d) L:=by
 obtain⟨e1,e2⟩:=mkRat_nd (n:=sgn neg n) hd
 rw [sgn_abs] at e1 e2
 unfold fits sq
 rw [e1,e2]
 refine⟨Nat.lt_of_le_of_lt ?_ h1,Nat.lt_of_le_of_lt (Nat.div_le_self _ _) h2⟩
 have:=Int.natAbs_ediv_le_natAbs (sgn neg n) ((Nat.gcd n d:Nat):Int)
 rw [sgn_abs] at this
 exact this
theorem RD.fits {r:RD} {L:Nat} (hw:r.wf L) (hL:1≤L):fits r.q L:=by
 obtain⟨h1,h2⟩:=RD.p_len hw hL
 have hp:=RD.pd_ne hw
 exact fits_sq hp (Nat.lt_of_lt_of_le (words_pow_lt _) (Nat.pow_le_pow_right om h1)) (Nat.lt_of_lt_of_le (words_pow_lt _) (Nat.pow_le_pow_right om h2))
theorem norm_le {n:Int} {d L:Nat} (hd:d≠0) (h1:n.natAbs<4294967296^L) (h2:d<4294967296^L):PN.fits (mkRat n d) L:=by
 obtain⟨e1,e2⟩:=mkRat_nd (n:=n) hd
 unfold PN.fits
 rw [e1,e2]
 exact⟨Nat.lt_of_le_of_lt (Int.natAbs_ediv_le_natAbs _ _) h1,Nat.lt_of_le_of_lt (Nat.div_le_self _ _) h2⟩
theorem pow_mul_lt {a b L M:Nat} (h1:a<4294967296^L) (h2:b<4294967296^M):a*b<4294967296^(L+M):=by
 rw [Nat.pow_add]
 exact Nat.mul_lt_mul'' h1 h2
theorem fits_add {a b:Rat} {L M:Nat} (ha:PN.fits a L) (hb:PN.fits b M):PN.fits (a+b) (L+M+1):=by
 rw [Rat.add_def,Rat.normalize_eq_mkRat]
 have h3:=pow_mul_lt ha.1 hb.2
 have h4:=pow_mul_lt hb.1 ha.2
 rw [Nat.add_comm M L] at h4
 refine norm_le (Nat.mul_ne_zero a.den_nz b.den_nz) ?_ ?_
 ·refine Nat.lt_of_le_of_lt (Int.natAbs_add_le _ _) ?_
  rw [Int.natAbs_mul,Int.natAbs_mul,Int.natAbs_natCast,Int.natAbs_natCast,Nat.pow_succ]
  omega
 ·have:=pow_mul_lt ha.2 hb.2
  rw [Nat.pow_succ]
  omega
theorem fits_mul {a b:Rat} {L M:Nat} (ha:PN.fits a L) (hb:PN.fits b M):PN.fits (a*b) (L+M):=by
 rw [Rat.mul_def,Rat.normalize_eq_mkRat]
 refine norm_le (Nat.mul_ne_zero a.den_nz b.den_nz) ?_ (pow_mul_lt ha.2 hb.2)
 rw [Int.natAbs_mul]
 exact pow_mul_lt ha.1 hb.1
theorem fits_neg {a:Rat} {L:Nat} (ha:PN.fits a L):PN.fits (-a) L:=by
 unfold PN.fits
 rw [Rat.neg_num,Rat.neg_den,Int.natAbs_neg]
 exact ha
theorem fits_sub {a b:Rat} {L M:Nat} (ha:PN.fits a L) (hb:PN.fits b M):PN.fits (a-b) (L+M+1):=by
 rw [Rat.sub_eq_add_neg];exact fits_add ha (fits_neg hb)
theorem sq_add_same (x:Bool) {n m d e:Nat} (hd:d≠0) (he:e≠0):sq x (n*e+m*d) (d*e)=sq x n d+sq x m e:=by
 unfold sq
 rw [Rat.mkRat_add_mkRat _ _ hd he]
 congr 1
 unfold sgn
 cases x<;>simp [Int.natCast_mul,Int.neg_add,Int.neg_mul]
theorem sq_add_ge (x:Bool) {n m d e:Nat} (hd:d≠0) (he:e≠0) (h:m*d≤n*e):sq x (n*e-m*d) (d*e)=sq x n d+sq (!x) m e:=by
 unfold sq
 rw [Rat.mkRat_add_mkRat _ _ hd he,sgn_neg]
 congr 1
 unfold sgn
 cases x
 ·simp only [Bool.false_eq_true,if_false]
  rw [Int.ofNat_sub h,Int.natCast_mul,Int.natCast_mul,Int.neg_mul];omega
 ·simp only [if_true]
  rw [Int.ofNat_sub h,Int.natCast_mul,Int.natCast_mul,Int.neg_neg,Int.neg_mul];omega
theorem sq_add_lt (x:Bool) {n m d e:Nat} (hd:d≠0) (he:e≠0) (h:n*e≤m*d):sq (!x) (m*d-n*e) (d*e)=sq x n d+sq (!x) m e:=by
 have:=sq_add_ge (!x) (n:=m) (m:=n) (d:=e) (e:=d) he hd h
 rw [Bool.not_not,Nat.mul_comm e d] at this
 rw [this]
 exact Rat.add_comm _ _
theorem sq_mul (x y:Bool) (n m d e:Nat):sq (x !=y) (n*m) (d*e)=sq x n d*sq y m e:=by
 unfold sq
 rw [Rat.mkRat_mul_mkRat,sgn_mul]
theorem sq_neg (x:Bool) (n d:Nat):sq (!x) n d= -sq x n d:=by
 unfold sq
 rw [Rat.neg_mkRat,sgn_neg]
def signQ (q:Rat):Int:=if q=0 then 0 else if q<0 then-1 else 1
theorem sq_ne {neg:Bool} {n d:Nat} (hn:n≠0) (hd:d≠0):sq neg n d≠0:=by
 unfold sq
 rw [Ne,Rat.mkRat_eq_zero hd]
 intro e
 have:=congrArg Int.natAbs e
 rw [sgn_abs] at this
 simp at this
 exact hn this
theorem sq_lt {neg:Bool} {n d:Nat} (hn:n≠0) (hd:d≠0):sq neg n d<0↔neg=true:=by
 have h:=rd_sq (neg:=neg) hn hd
 have h1:decide ((sq neg n d).num<0)=neg:=congrArg RD.neg h
 have h2:sq neg n d<0↔(sq neg n d).num<0:=by rw [Rat.lt_iff];simp
 rw [h2]
 constructor
 ·intro h3;rw [←h1];simpa using h3
 ·intro h3;rw [h3] at h1;rw [h3];simpa using h1
end Go.PN
