/- Parts of one proof, laid by a program. -/
import Derived.Test.YtngjgahldnnapaaGreatDoorM00
import Derived.Test.YtngjgahldnnapaaGreatDoorM04
import Derived.Lib.Bytealg
set_option linter.unusedSimpArgs false
set_option linter.unusedVariables false
set_option maxRecDepth 100000
set_option maxHeartbeats 12800000
namespace Go.Proofs.YtngjgahldnnapaaGreatDoor
open Go.AI Go.PN Proofs.Tryz
attribute [local irreducible] aw Fa ZN ZZ Fh YE
theorem Qxb (xs ys:List Nat) (hx:∀x∈xs,x<4294967296) (hy:∀x∈ys,x<4294967296) (hlx:xs.length≤68719476736) (hly:ys.length≤68719476736):
  Fa prog 392 [.c (ws false xs),.c (ws false ys)] (.c (ws true (Qc (val xs+val ys)))):=by
 refine fA func392 fun C hC=>?_
 refine xG ?_
 have hmx:(if(ys.length:Int)>xs.length then(ys.length:Int) else xs.length)+1=((max xs.length ys.length+1:Nat):Int):=by split<;>omega
 rw [hmx]
 generalize hn:max xs.length ys.length+1=n
 refine Jt (n:=n) (c:=n) rfl rfl rfl Xy Xt rfl om eE eE rfl rfl om om om fun g hg=> ?_
 rw [UD n]
 refine Z1 ?_
 refine Qh (fun x:Nat×Nat×List Nat=>[(0,.c (ws false xs)),(1,.c (ws false ys)),(5,.c (.osl g 1 0 n)),(6,.c (.int .u64 x.2.1)),(16,.c (.int .i64 n)),(17,.c (.int .i64 x.1))]) (fun x=>[(g,.cells 193 n (wf x.2.2))])
  (fun x=>x.1≤n∧x.2.1≤1∧x.2.2.length=n∧(∀y∈x.2.2,y<4294967296)∧val (x.2.2.take x.1)+4294967296^x.1*x.2.1=val (xs.take x.1)+val (ys.take x.1)) (fun x=>n-x.1) (0,0,List.replicate n 0) eB zZ
  ⟨Lz _,Lz _,by simp,YS n,by simp [val]⟩ ?_
 rintro ⟨i,c,zs⟩ ⟨hi,hc,hzl,hz,hv⟩
 dsimp only at hi hc hzl hz hv⊢
 refine xG ?_
 refine QS eE (fun hb=> ?_) (fun hb=> ?_)
 ·have hin:i<n:=by simpa using hb
  have hxi:=QI hx i
  have hyi:=QI hy i
  refine xG ?_
  refine Qu (KQ xs i hx) rfl rfl rfl eL ?_
  refine Z1 ?_
  refine Qu (KQ ys i hy) rfl rfl rfl eL ?_
  refine Z1 ?_
  have ew:XE .u32 ((c:Int)+(((xs.getD i 0:Nat):Int)+((ys.getD i 0:Nat):Int)))=(((c+(xs.getD i 0+ys.getD i 0))%4294967296:Nat):Int):=by rw [QN,IntKind.wrap_u32];omega
  rw [ew]
  refine xW ?_
  refine xS ?_
  rw [Vd om]
  refine xG ?_
  refine Qb ⟨(i+1,(c+(xs.getD i 0+ys.getD i 0))/4294967296,zs.set i ((c+(xs.getD i 0+ys.getD i 0))%4294967296)),by simp only;omega,eB,zZ,by simp only;omega,by simp only;omega,by simpa using hzl,Jc hz om,Qeu om hv⟩
 ·have hin:i=n:=by have:¬((i:Int)<n):=by simpa using hb
                   omega
  subst hin
  refine xG ?_
  refine Qu (ZX zs hz om) rfl rfl rfl (by refine xS ?_;exact .c (Yt eE om om (fun j _=>by rw [Nz];rfl))) ?_
  refine UW hC ?_
  rw [Qmx hx hy om (by rw [hzl];exact hv)]
  exact .one (.c Xc)
theorem Qxc (xs ys:List Nat) (hx:∀x∈xs,x<4294967296) (hy:∀x∈ys,x<4294967296) (hlx:xs.length≤68719476736) (hly:ys.length≤68719476736) (hle:val ys≤val xs):
  Fa prog 393 [.c (ws false xs),.c (ws false ys)] (.tup [.c (ws true (Qc (val xs-val ys))),.c .nilI]):=by
 refine fA func393 fun C hC=>?_
 refine xG ?_
 refine Qu (Qew xs ys hx hy hlx hly) rfl rfl rfl eL ?_
 refine Z1 ?_
 refine QS eE (fun hb=> ?_) (fun _=> ?_)
 ·have:=of_decide_eq_true hb
  unfold ZQ at this
  split at this
  ·omega
  ·split at this<;>omega
 refine xG ?_
 refine Jt (n:=xs.length) (c:=xs.length) rfl rfl rfl Xy Xt rfl om eE eE rfl rfl om om om fun g hg=> ?_
 rw [UD xs.length]
 refine Z1 ?_
 refine Qh (fun x:Nat×Nat×List Nat=>[(0,.c (ws false xs)),(1,.c (ws false ys)),(6,.c (.osl g 1 0 xs.length)),(7,.c (.int .u64 x.2.1)),(19,.c (.int .i64 xs.length)),(20,.c (.int .i64 x.1))]) (fun x=>[(g,.cells 193 xs.length (wf x.2.2))])
  (fun x=>x.1≤xs.length∧x.2.1≤1∧x.2.2.length=xs.length∧(∀y∈x.2.2,y<4294967296)∧val (x.2.2.take x.1)+val (ys.take x.1)=val (xs.take x.1)+4294967296^x.1*x.2.1) (fun x=>xs.length-x.1) (0,0,List.replicate xs.length 0) eB zZ
  ⟨Lz _,Lz _,by simp,YS _,by simp [val]⟩ ?_
 rintro ⟨i,b,zs⟩ ⟨hi,hbb,hzl,hz,hv⟩
 dsimp only at hi hbb hzl hz hv⊢
 refine xG ?_
 refine QS eE (fun hb=> ?_) (fun hb=> ?_)
 ·have hin:i<xs.length:=dT hb
  have hxi:=QI hx i
  have hyi:=QI hy i
  refine xG ?_
  refine Qu (KQ xs i hx) rfl rfl rfl eL ?_
  refine Z1 ?_
  refine Qu (KQ ys i hy) rfl rfl rfl eL ?_
  refine xS ?_
  (refine Qbu false rfl (fun R hR=> ?_);simp only [go_sem];(with_reducible refine hR _ _ ?_ ?_);(focus (((try simp only [XH])<;>and_intros<;>first|exact True.intro|omega|trivial);done));clear hR R)
  refine xG ?_
  (refine Qbu false rfl (fun R hR=> ?_);simp only [go_sem];(with_reducible refine hR _ _ ?_ ?_);(focus (((try simp only [XH])<;>and_intros<;>first|exact True.intro|omega|trivial);done));clear hR R)
  rw [QcA hxi hyi hbb]
  obtain⟨st1,st2⟩:=QiO (zs:=zs) om hxi hyi hbb hv
  generalize JW (xs.getD i 0) (ys.getD i 0) b=D at st1 st2⊢
  obtain⟨v,b2,e1,e2,hvl,st⟩:∃v b2:Nat,XE .u32 (D:Int)=(v:Int)∧Qcl .u64 (D:Int) 63=(b2:Int)∧v<4294967296∧(val ((zs.set i v).take (i+1))+val (ys.take (i+1))=val (xs.take (i+1))+4294967296^(i+1)*b2∧b2≤1):=
   ⟨_,_,QO D,Qct D,Nat.mod_lt _ om,st1,st2⟩
  clear st1 st2
  refine xG ?_
  rw [e1]
  refine xW ?_
  refine xS ?_
  rw [Vd om]
  apply XA
  apply Zd
  refine xO ?_
  refine xO ?_
  rw [e2]
  refine xG ?_
  refine Qb ⟨(i+1,b2,zs.set i v),by dsimp only;omega,eB,zZ,by dsimp only;omega,st.2,by simpa using hzl,Jc hz hvl,st.1⟩
 ·have hin:i=xs.length:=dF hb
  subst hin
  refine xG ?_
  refine Qu (ZX zs hz om) rfl rfl rfl (by refine xS ?_;exact .c (Yt eE om om (fun j _=>by rw [Nz];rfl))) ?_
  refine UW hC ?_
  rw [Qmy hx hz hzl hle hv]
  exact .tup ⟨.c Xc,.c .nilI,trivial⟩
theorem Qxd (xs ys:List Nat) (hx:∀x∈xs,x<4294967296) (hy:∀x∈ys,x<4294967296) (hlx:xs.length≤68719476736) (hly:ys.length≤68719476736):
  Fa prog 386 [.c (ws false xs),.c (ws false ys)] (.c (ws true (Qc (val xs*val ys)))):=by
 refine fA func386 fun C hC=>?_
 refine xG ?_
 have hn0:(xs.length:Int)+(ys.length:Int)=((xs.length+ys.length:Nat):Int):=by omega
 rw [hn0]
 generalize hn:xs.length+ys.length=n
 refine Jt (n:=n) (c:=n) rfl rfl rfl Xy Xt rfl om eE eE rfl rfl om om om fun g hg=> ?_
 rw [UD n]
 refine Z1 ?_
 refine Qh (fun x:Nat×List Nat=>[(0,.c (ws false xs)),(1,.c (ws false ys)),(5,.c (.osl g 1 0 n)),(17,.c (ws false xs)),(18,.c (.int .i64 xs.length)),(19,.c (.int .i64 x.1))]) (fun x=>[(g,.cells 193 n (wf x.2))])
  (fun x=>x.1≤xs.length∧x.2.length=n∧(∀y∈x.2,y<4294967296)∧val x.2=val (xs.take x.1)*val ys) (fun x=>xs.length-x.1) (0,List.replicate n 0) eB zZ
  ⟨Lz _,by simp,YS _,by simp [val,UX]⟩ ?_
 rintro ⟨i,z0⟩ ⟨hi,hzl0,hz0,hv0⟩
 dsimp only at hi hzl0 hz0 hv0⊢
 refine xG ?_
 refine QS eE (fun hb=> ?_) (fun hb=> ?_)
 ·have hin:i<xs.length:=dT hb
  have hxi:=QI hx i
  have hz0':val z0<4294967296^(i+ys.length):=by
   rw [hv0,Nat.pow_add]
   exact Nat.mul_lt_mul_of_lt_of_lt (XO xs hx i om) (Vp ys hy)
  refine xG ?_
  generalize hxx:xs.getD i 0=x at*
  refine Qh (fun s:Nat×Nat×List Nat=>[(0,.c (ws false xs)),(1,.c (ws false ys)),(5,.c (.osl g 1 0 n)),(6,.c (.int .i64 i)),(7,.c (.int .u32 x)),(8,.c (.int .u64 s.2.1)),(17,.c (ws false xs)),(18,.c (.int .i64 xs.length)),(19,.c (.int .i64 i)),(24,.c (ws false ys)),(25,.c (.int .i64 ys.length)),(26,.c (.int .i64 s.1))]) (fun s=>[(g,.cells 193 n (wf s.2.2))])
   (fun s=>s.1≤ys.length∧s.2.1<4294967296∧s.2.2.length=n∧(∀y∈s.2.2,y<4294967296)∧(∀j,i+s.1≤j→s.2.2.getD j 0=z0.getD j 0)∧val s.2.2+4294967296^(i+s.1)*s.2.1=val z0+4294967296^i*(x*val (ys.take s.1))) (fun s=>ys.length-s.1) (0,0,z0) eB zZ
   ⟨Lz _,by simp,hzl0,hz0,fun _ _=>rfl,by simp [val]⟩ ?_
  rintro ⟨k,c,zs⟩ ⟨hk,hc,hzl,hz,hzz,hv⟩
  dsimp only at hk hc hzl hz hzz hv⊢
  refine xG ?_
  refine QS eE (fun hb=> ?_) (fun hb=> ?_)
  ·have hkn:k<ys.length:=dT hb
   have hyk:=QI hy k
   have hzk:=QI hz (i+k)
   have hst:=QiP (ys:=ys) (x:=x) (zs:=zs) (c:=c) om hv
   have hmb:=Wn hxi hyk
   have hmb2:(0:Int)≤(x:Int)*((ys.getD k 0:Nat):Int)∧(x:Int)*((ys.getD k 0:Nat):Int)≤18446744065119617025:=by rw [←Int.natCast_mul];omega
   refine xG ?_
   have ew:(c:Int)+((x:Int)*((ys.getD k 0:Nat):Int)+((zs.getD (i+k) 0:Nat):Int))=((c+(x*ys.getD k 0+zs.getD (i+k) 0):Nat):Int):=by simp
   rw [ew,QO]
   refine xW ?_
   refine xS ?_
   rw [Vd om]
   refine xG ?_
   refine Qb ⟨(k+1,(c+(x*ys.getD k 0+zs.getD (i+k) 0))/4294967296,zs.set (i+k) ((c+(x*ys.getD k 0+zs.getD (i+k) 0))%4294967296)),by dsimp only;omega,eB,zZ,by dsimp only;omega,by dsimp only;omega,by simpa using hzl,Jc hz om,fun j hj=> ?_,hst⟩
   dsimp only at hj⊢
   rw [Go.PN.getD_set_ne om]
   exact hzz j om
  ·have hkn:k=ys.length:=dF hb
   subst hkn
   refine xG ?_
   rw [QO,Nat.mod_eq_of_lt hc]
   refine xW ?_
   refine xS ?_
   rw [Vd om]
   refine xG ?_
   have h0:zs.getD (i+ys.length) 0=0:=by rw [hzz _ (Ac _)];exact Jd hz0' (Ac _)
   have h1:=QdP (zs:=zs) (j:=i+ys.length) (v:=c) om
   rw [h0,Nat.mul_zero,Nat.add_zero,hv,Lk,hv0] at h1
   refine Qb ⟨(i+1,zs.set (i+ys.length) c),by dsimp only;omega,eB,zZ,by dsimp only;omega,by simpa using hzl,Jc hz hc,?_⟩
   dsimp only
   rw [h1,Qy,hxx,Nat.add_mul,Na]
 ·have hin:i=xs.length:=dF hb
  subst hin
  refine xG ?_
  refine Qu (ZX z0 hz0 om) rfl rfl rfl (by refine xS ?_;exact .c (Yt eE om om (fun j _=>by rw [Nz];rfl))) ?_
  refine UW hC ?_
  rw [hv0,Lk]
  exact .one (.c Xc)
end Go.Proofs.YtngjgahldnnapaaGreatDoor
namespace Go.PN
theorem Qu5 (a b:Bool) (n m:Nat):U5 (a !=b) (n*m)=U5 a n*U5 b m:=by unfold U5;cases a<;>cases b<;>simp [Int.natCast_mul,Int.neg_mul,Int.mul_neg]
theorem Qkm {a b:Rat} {L M:Nat} (ha:PN.fits a L) (hb:PN.fits b M):PN.fits (a*b) (L+M):=by
 rw [Rat.mul_def,Rat.normalize_eq_mkRat]
 refine QmL (Nat.mul_ne_zero a.den_nz b.den_nz) ?_ (KF ha.2 hb.2)
 rw [Int.natAbs_mul]
 exact KF ha.1 hb.1
theorem QlX (x y:Bool) (n m d e:Nat):sq (x !=y) (n*m) (d*e)=sq x n d*sq y m e:=by
 unfold sq
 rw [Rat.mkRat_mul_mkRat,Qu5]
theorem VC (p:Nat→Bool) (l:BS) (i:Nat):i≤Xx p l i:=Nat.le_add_right ..
theorem WM {p:Nat→Bool} {l:BS} {i:Nat} (h:i≤l.length):Xx p l i≤l.length:=by
 unfold Xx
 have h1:((l.drop i).takeWhile fun b=>p b.toNat).length≤(l.drop i).length:=(List.takeWhile_sublist _).length_le
 rw [List.length_drop] at h1
 omega
theorem Qkn {p:Nat→Bool} {l:BS} {i:Nat} (h:Xx p l i<l.length):p (XF l (Xx p l i))=false:=by
 generalize hk:l.length-i=k
 induction k generalizing i with
 |zero=>have:=VC p l i;omega
 |succ k ih=>
  have hi:i<l.length:=by omega
  cases hp:p (XF l i) with
  |false=>rw [OX hi hp];exact hp
  |true=>rw [Vf hi hp] at h⊢;exact ih h om
def VD (l:BS) (i:Nat):Nat:=
 if Xx QE l i+1<l.length∧(XF l (Xx QE l i)=46∨XF l (Xx QE l i)=47)∧QE (XF l (Xx QE l i+1))=true then Xx QE l (Xx QE l i+1) else Xx QE l i
theorem Qu6 (l:BS) (i:Nat):i≤VD l i:=by
 have h1:=VC QE l i
 have h2:=VC QE l (Xx QE l i+1)
 unfold VD
 split<;>omega
theorem Qnx {l:BS} {i:Nat} (h:i≤l.length):VD l i≤l.length:=by
 unfold VD
 split
 ·rename_i h1;exact WM om
 ·exact WM h
theorem Qsh {l:BS} {i e:Nat} (he:e≤l.length):(VN l i e).length=e-i:=by
 unfold VN
 rw [List.length_take,List.length_drop];omega
def Vb (l:BS) (i:Nat):Stp:=
 if QbE (XF l i) then .skip (i+1)
 else if XF l i=35 then .skip (Xx (fun b=>b !=10) l i)
 else if Jn (XF l i) then(if Xx Yp l i-i>24 then .err 5 else .tok 0 (Xx Yp l i))
 else if QE (XF l i) then(if VD l i<l.length∧(Yp (XF l (VD l i))=true∨XF l (VD l i)=47) then .err 2 else .tok 1 (VD l i))
 else if QeH (XF l i) then .tok 2 (i+1)
 else .err 2
theorem QgU {n:Nat} (h:Jn n=true):Yp n=true:=by unfold Yp;rw [h];rfl
theorem Oe {l:BS} {i e:Nat} (hi:i<l.length) (h:Vb l i=.skip e):i<e∧e≤l.length:=by
 unfold Vb at h
 split at h
 ·injection h with h;omega
 ·split at h
  ·rename_i h35
   injection h with h
   have h1:=Vf (p:=fun b=>b !=10) hi (by rw [h35];rfl)
   have h2:=VC (fun b=>b !=10) l (i+1)
   have h3:=WM (p:=fun b=>b !=10) (l:=l) (i:=i) om
   omega
  ·split at h
   ·split at h<;>cases h
   ·split at h
    ·split at h<;>cases h
    ·split at h<;>cases h
theorem V3 {l:BS} {i k e:Nat} (hi:i<l.length) (h:Vb l i=.tok k e):i<e∧e≤l.length:=by
 unfold Vb at h
 split at h
 ·cases h
 ·split at h
  ·cases h
  ·split at h
   ·rename_i hl
    split at h
    ·cases h
    ·injection h with _ h
     have h1:=Vf (p:=Yp) hi (QgU hl)
     have h2:=VC Yp l (i+1)
     have h3:=WM (p:=Yp) (l:=l) (i:=i) om
     omega
   ·split at h
    ·rename_i hd
     split at h
     ·cases h
     ·injection h with _ h
      have h1:=Vf (p:=QE) hi hd
      have h2:=VC QE l (i+1)
      have h3:=Qnx (l:=l) (i:=i) om
      have h4:Xx QE l i≤VD l i:=by
       have:=VC QE l (Xx QE l i+1)
       unfold VD
       split<;>omega
      omega
    ·split at h
     ·injection h with _ h;omega
     ·cases h
def Yw (l:BS):Nat→Nat→List TK→Int×List TK
 |0,_,out=>(0,out)
 |n+1,i,out=>if i<l.length then(match Vb l i with
  |.err c=>(c,[])
  |.skip e=>Yw l n e out
  |.tok k e=>Yw l n e (out++[⟨k,VN l i e⟩])) else(0,out)
theorem Qdv {l:BS}:∀(n m i:Nat) (out:List TK),l.length-i≤n→l.length-i≤m→Yw l n i out=Yw l m i out:=by
 intro n
 induction n with
 |zero=>
  intro m i out h1 h2
  cases m with
  |zero=>rfl
  |succ m=>unfold Yw;rw [iN om]
 |succ n ih=>
  intro m i out h1 h2
  cases m with
  |zero=>unfold Yw;rw [iN om]
  |succ m=>
   unfold Yw
   by_cases hi:i<l.length
   ·rw [iP hi,iP hi]
    cases hs:Vb l i with
    |err c=>rfl
    |skip e=>have:=Oe hi hs;exact ih m e out om om
    |tok k e=>have:=V3 hi hs;exact ih m e _ om om
   ·rw [iN hi,iN hi]
def XU (l:BS):Int×List TK:=if l.length>65536 then(4,[]) else Yw l l.length 0 []
theorem O7 {l:BS} {i:Nat} {out:List TK} (hi:i<l.length):Yw l (l.length-i) i out=(match Vb l i with
  |.err c=>(c,[])
  |.skip e=>Yw l (l.length-e) e out
  |.tok k e=>Yw l (l.length-e) e (out++[⟨k,VN l i e⟩])):=by
 obtain⟨n,hn⟩:∃n,l.length-i=n+1:=⟨l.length-i-1,by omega⟩
 rw [hn]
 show(if i<l.length then _ else _)=_
 rw [iP hi]
 cases hs:Vb l i with
 |err c=>rfl
 |skip e=>have:=Oe hi hs;exact Qdv _ _ _ _ om om
 |tok k e=>have:=V3 hi hs;exact Qdv _ _ _ _ om om
theorem QlY {l:BS} {i:Nat} {out:List TK} (hi:l.length≤i):Yw l (l.length-i) i out=(0,out):=by
 rw [show l.length-i=0 from by omega];rfl
theorem Qko (k:Nat):((10^k:Nat):Rat)≠0:=by
 have h:(10^k:Nat)≠0:=Nat.pos_iff_ne_zero.1 (Nat.pow_pos Af)
 intro e
 exact h (by exact_mod_cast e)
end Go.PN
namespace Go.Proofs.YtngjgahldnnapaaGreatDoor
open Go.AI Go.PN Proofs.Tryz
attribute [local irreducible] aw Fa ZN ZZ Fh YE
theorem QlZ (a b:Nat) (ha:(Qc a).length≤68719476736) (hb:(Qc b).length≤68719476736):Fa prog 386 [.c (ws false (Qc a)),.c (ws false (Qc b))] (.c (ws true (Qc (a*b)))):=by
 have:=Qxd (Qc a) (Qc b) (Qr a) (Qr b) ha hb
 rwa [Qd,Qd] at this
theorem Xaj (a b:Nat) (ha:(Qc a).length≤68719476736) (hb:(Qc b).length≤68719476736):Fa prog 392 [.c (ws false (Qc a)),.c (ws false (Qc b))] (.c (ws true (Qc (a+b)))):=by
 have:=Qxb (Qc a) (Qc b) (Qr a) (Qr b) ha hb
 rwa [Qd,Qd] at this
theorem QyM (a b:Nat) (ha:(Qc a).length≤68719476736) (hb:(Qc b).length≤68719476736) (h:b≤a):Fa prog 393 [.c (ws false (Qc a)),.c (ws false (Qc b))] (.tup [.c (ws true (Qc (a-b))),.c .nilI]):=by
 have:=Qxc (Qc a) (Qc b) (Qr a) (Qr b) ha hb (by rw [Qd,Qd];exact h)
 rwa [Qd,Qd] at this
theorem Qu7 (a b:RD) (ha:a.wf 1073741824) (hb:b.wf 1073741824):Fa prog 387 [.agg (Y1 a),.agg (Y1 b)] (.agg (Y1 (rd (a.q+b.q)))):=by
 obtain⟨l1,l2⟩:=RD.p_len ha om
 obtain⟨l3,l4⟩:=RD.p_len hb om
 have d1:=RD.pd_ne ha
 have d2:=RD.pd_ne hb
 have dd:a.pd*b.pd≠0:=Nat.mul_ne_zero d1 d2
 have m1:=XR a.pn b.pd
 have m2:=XR b.pn a.pd
 have m3:=XR a.pd b.pd
 have m4:=QaK (m:=a.pn*b.pd) (n:=b.pn*a.pd) (k:=2147483648) om om
 refine fA func387 fun C hC=>?_
 refine xG ?_
 refine xB fun g2 n_2=>?_
 refine yB n_2 fun g3 n_3=>?_
 refine yA (oj n_2 n_3) fun g4 n_4=>?_
 have J1:=oj n_2 (oj n_3 n_4)
 refine yG J1 ?_
 refine yC J1 (Zg a ha) ?_
 refine yG J1 ?_
 refine yC J1 (Zg b hb) ?_
 refine yG J1 ?_
 refine yC J1 (QlZ a.pn b.pd ?_ ?_) ?_
 ·omega
 ·omega
 refine yG J1 ?_
 refine yC J1 (QlZ b.pn a.pd ?_ ?_) ?_
 ·omega
 ·omega
 refine yG J1 ?_
 refine yC J1 (QlZ a.pd b.pd ?_ ?_) ?_
 ·omega
 ·omega
 refine yG J1 ?_
 refine yF J1 (fun hs=>?_) fun hs=>?_
 ·have hs':a.ps=b.ps:=eq_of_beq hs
  refine yG J1 ?_
  refine yC J1 (Xaj _ _ ?_ ?_) ?_
  ·omega
  ·omega
  refine yG J1 ?_
  refine yC J1 (Wp _ _ _ ?_ ?_ dd) ?_
  ·omega
  ·omega
  refine Kz hC J1 ?_
  refine JX ?_
  rw [Qdn _ d1 d2]
  unfold RD.q;rw [hs']
 ·have hs':b.ps= !a.ps:=QeD hs
  refine yG J1 ?_
  refine yC J1 (QtD _ _ ?_ ?_) ?_
  ·omega
  ·omega
  refine yG J1 ?_
  refine yF J1 (fun hc=>?_) fun hc=>?_
  ·have hle:b.pn*a.pd≤a.pn*b.pd:=by
    have:=of_decide_eq_true hc
    unfold ZQ at this
    split at this
    ·omega
    ·omega
   have hl5:=QL (Nat.sub_le (a.pn*b.pd) (b.pn*a.pd))
   refine yG J1 ?_
   refine yC J1 (QyM _ _ ?_ ?_ hle) ?_
   ·omega
   ·omega
   refine yG J1 ?_
   refine yC J1 (Wp _ _ _ ?_ ?_ dd) ?_
   ·omega
   ·omega
   refine Kz hC J1 ?_
   refine JX ?_
   rw [QcC _ d1 d2 hle]
   unfold RD.q;rw [hs']
  ·have hle:a.pn*b.pd≤b.pn*a.pd:=by
    have:=of_decide_eq_false hc
    unfold ZQ at this
    split at this
    ·omega
    ·split at this<;>omega
   have hl5:=QL (Nat.sub_le (b.pn*a.pd) (a.pn*b.pd))
   refine yG J1 ?_
   refine yC J1 (QyM _ _ ?_ ?_ hle) ?_
   ·omega
   ·omega
   refine yG J1 ?_
   refine yC J1 (Wp _ _ _ ?_ ?_ dd) ?_
   ·omega
   ·omega
   refine Kz hC J1 ?_
   refine JX ?_
   rw [hs',Qgl _ d1 d2 hle]
   unfold RD.q;rw [hs']
theorem Qny (a b:RD) (ha:a.wf 1073741824) (hb:b.wf 1073741824):Fa prog 376 [.agg (Y1 a),.agg (Y1 b)] (.agg (Y1 (rd (a.q*b.q)))):=by
 obtain⟨l1,l2⟩:=RD.p_len ha om
 obtain⟨l3,l4⟩:=RD.p_len hb om
 have d1:=RD.pd_ne ha
 have d2:=RD.pd_ne hb
 have dd:a.pd*b.pd≠0:=Nat.mul_ne_zero d1 d2
 have m1:=XR a.pn b.pn
 have m3:=XR a.pd b.pd
 refine fA func376 fun C hC=>?_
 refine xG ?_
 refine xB fun g2 n_2=>?_
 refine yB n_2 fun g3 n_3=>?_
 refine yA (oj n_2 n_3) fun g4 n_4=>?_
 have J1:=oj n_2 (oj n_3 n_4)
 refine yG J1 ?_
 refine yC J1 (Zg a ha) ?_
 refine yG J1 ?_
 refine yC J1 (Zg b hb) ?_
 refine yG J1 ?_
 refine yC J1 (QlZ _ _ ?_ ?_) ?_
 ·omega
 ·omega
 refine yG J1 ?_
 refine yC J1 (QlZ _ _ ?_ ?_) ?_
 ·omega
 ·omega
 refine yG J1 ?_
 refine yC J1 (Wp _ _ _ ?_ ?_ dd) ?_
 ·omega
 ·omega
 refine Kz hC J1 ?_
 exact JX (by rw [QlX];rfl)
end Go.Proofs.YtngjgahldnnapaaGreatDoor
namespace Go.AI
section
section
variable {E : Vl} {K : List It} {l : List Oper} {FP : Qa} {σ σ' : Sl} {h : Qa} {o : Oper} {i : Nat} {cs : List (Nat × Nat)}
theorem wc3 {i:Nat} {FP:Qa} {cs:List (Nat×Nat)} (ho:l[i]?=some o) (hd:Qw E.N o.dst=true) (k:∀R:Option (Prop×Sl)→Prop,(∀q σ',CW E l K FP cs σ' h→(hq:q:=by(try simp only [XH])<;>and_intros<;>first|exact True.intro|omega|trivial)→R (some (q,σ')))→R (Zt E.P true [] l o σ)):CW E l K FP ((i,3)::cs) σ h:=by
 have:=k (fun x=>x=Zt E.P true [] l o σ→CW E l K FP ((i,3)::cs) σ h) (fun q σ' ha hq e=>by
  unfold Zt at e
  split at e
  ·rename_i hw
   split at e
   ·rename_i q1 r hp
    injection e with e
    injection e with e1 e2
    subst e1 e2
    exact .fre ho (Flt.pure hw hp hq hd) ha
   ·cases e
  ·rename_i hw
   injection e with e
   injection e with e1 e2
   subst e1 e2
   exact .fre ho (Flt.skip hw hd) ha
  ·cases e)
 exact this rfl
end
end
theorem zA3 {F A B C X G:Prop} (f:F) (a:A) (b:B) (c:C) (x:X) (k:F→A→B→C→X9 X→G:=by intro f a b c x;((repeat' first|refine zV f ?_|refine yQ f a ?_|refine yQ f b ?_|refine yQ f c ?_|fail);exact x.out)):G:=k f a b c ⟨x⟩
theorem zA4 {F A B C D X G:Prop} (f:F) (a:A) (b:B) (c:C) (d:D) (x:X) (k:F→A→B→C→D→X9 X→G:=by intro f a b c d x;((repeat' first|refine zV f ?_|refine yQ f a ?_|refine yQ f b ?_|refine yQ f c ?_|refine yQ f d ?_|fail);exact x.out)):G:=k f a b c d ⟨x⟩
end Go.AI
namespace Go.AI
open Go.PN
theorem QA.indexByte {P:Program} {h:Qa} {ρ:Operand→AV} {f:FuncId} {fn:Func} {x y:Operand} {ts:Array TypeId} {l:BS} {c:Int} (hf:P.funcs[f]?=some fn) (hname:(fn.name== "runtime.NumGoroutine")=false) (hb:fn.body.isNone=true) (hn:Extern.findNext fn=none) (he:Extern.find fn=some Extern.BytealgIndexByte.indexByte) (hk:ρ (.func f)=.c (.raw (.func (.func f) #[] #[]))) (hx:ρ x=.c (.str (sB l))) (hy:ρ y=.c (.int .u8 c)):
  QA P h ρ (.call {callee:=.value (.func f),args:= #[x,y],argTypes:=ts}) (.c (.int .i64 (Lib.indexByte l c.toNat.toUInt8))):=fun S w e _ ho _=>by
 have h1:e x=.string (sB l):=by have:=ho x (by simp [Op.operands,Call.operands]);rw [hx] at this;exact this
 have h2:e y=.int .u8 c:=by have:=ho y (by simp [Op.operands,Call.operands]);rw [hy] at this;exact this
 refine⟨.int .i64 (Lib.indexByte l c.toNat.toUInt8),fun o hop=> ?_,rfl⟩
 have:=run_callFunc_extern (P:=P) hf hname hb hn he #[.string (sB l),.int .u8 c] w
 rw [Lib.run_indexByteString] at this
 have h3:=ho (.func f) (by simp [Op.operands,Call.operands])
 rw [hk] at h3
 have h3':e (.func f)=.func (.func f) #[] #[]:=h3
 simp [execOp,hop,resolve,invoke,h3',h1,h2,Deferred.ofValue,this,Result.andThen]
abbrev txs (t:Bool) (l:List TX):CV:=.row t 5 l.length (QeJ l)
section
section
variable {P : Program}
def keyS (l:BS):Value:=.string (sB l)
theorem JD {kt:TypeId} (ht:P.underlying kt=some .string):Oq P kt keyS:=by
 refine⟨fun b a w=> ?_,fun a ks es w h=> ?_⟩
 ·unfold Instr.checkKey keyS
  simp only [Sem.run_bind,run_underlying ht,Result.andThen_ok]
  rfl
 ·unfold Instr.findKey
  simp only [Sem.run_bind,run_underlying ht,Result.andThen_ok]
  have hn:∀(ks:List BS) (es:List MapEntry) (i:Nat),es.map (·.key)=ks.map keyS→Instr.findNow .string (keyS a) es i=some (fAsk a ks es i):=by
   intro ks
   induction ks with
   |nil=>
    intro es i h
    cases es with
    |nil=>rfl
    |cons e es=>simp at h
   |cons k ks ih=>
    intro es i h
    cases es with
    |nil=>simp at h
    |cons e es=>
     simp only [Ld,List.cons.injEq] at h
     simp only [Instr.findNow,fAsk,h.1,keyS,Instr.sameNow]
     rw [show((⟨a.toArray⟩:ByteArray)==(⟨k.toArray⟩:ByteArray))=decide (a=k) from Qq2 a k]
     by_cases hk:a=k
     ·rw [Dt hk,iP hk]
     ·rw [De hk,iN hk]
      exact ih es (i+1) h.2
  rw [hn ks es 0 h]
  rfl
end
section
variable {E : Vl} {K : List It} {σ σ' : Sl} {h : Qa} {all rest : List Oper} {o : Oper}
theorem Ko.lookup1 {l:List Oper} {α:Type} [DecidableEq α] {Kf:α→Value} {t kt et g:TypeId} {kv:List (α×Value)} {x ky:Operand} {ck:AV} {a:α} {z:Value} (hop:o.op=.lookup t x ky false) (hw:Qx l σ o=some true) (hd:Qw E.N o.dst=true)
  (ht:QbC E.P t=some (kt,et)) (hK:Oq E.P kt Kf) (hz:tZ1 E.P et=some z) (hx:ev σ x=.c (.raw (.map (some g)))) (hg:h.get g=some (.gen (Uu Kf kv))) (hk:ev σ ky=ck) (hka:∀S w v,VK S w ck v→v=Kf a):
  Ko E h l σ o (.c (U7 ((Ya a kv).getD z))):=by
 refine⟨hd,fun σ' ac w Q hs s=> ?_⟩
 rw [iP (s.wanted ((Xh hs).trans hw))]
 have h1:=QK s x
 rw [XI (by rw [hop];simp [Op.operands]) hs,hx] at h1
 have h1':ac.eval x=.map (some g):=h1
 have h2:=QK s ky
 rw [XI (by rw [hop];simp [Op.operands]) hs,hk] at h2
 have h2':=hka _ _ _ h2
 obtain⟨ob,hb,es,c,rfl,hes⟩:=s.heap g _ (Qa.get_mem hg)
 have hkeys:es.toList.map (·.key)=(kv.map (·.1)).map Kf:=by
  have:=congrArg (List.map Prod.fst) hes
  rw [List.map_map,List.map_map] at this
  rw [List.map_map]
  exact this
 have hfind:=hK.find a (kv.map (·.1)) es.toList w hkeys
 have hget:=JZ (K:=Kf) a kv es.toList 0 hes
 have hlk:(Instr.lookup t (ac.eval x) (ac.eval ky) false).run E.P w=.ok ((Ya a kv).getD z) w:=by
  rw [h1',h2']
  unfold Instr.lookup
  simp only [Sem.run_bind,run_underlying (VZ ht),Result.andThen_ok,OW hb,Sem.run_pure,hK.check,hfind]
  rw [←hget]
  cases hf:fAsk a (kv.map (·.1)) es.toList 0 with
  |none=>simp [QmU hz]
  |some p=>obtain⟨i,v⟩:=p;simp
 have hrun:(execOp ac.eval o).run E.P w=.ok (.value ((Ya a kv).getD z)) w:=by
  simp only [execOp,hop,Sem.run_bind,hlk,Result.andThen_ok]
  rfl
 unfold Oper.wp
 rw [hrun]
 exact s.put hd (U8 _ _ _)
theorem UR {l:List Oper} {n:Nat} {α:Type} [DecidableEq α] {Kf:α→Value} {t kt et g:TypeId} {kv:List (α×Value)} {x ky:Operand} {ck:AV} {a:α} {z:Value} (hop:o.op=.lookup t x ky false) (hw:Qx l σ o=some true) (hd:Qw E.N o.dst=true)
 (ht:QbC E.P t=some (kt,et)) (hK:Oq E.P kt Kf) (hz:tZ1 E.P et=some z) (hx:ev σ x=.c (.raw (.map (some g)))) (hg:h.get g=some (.gen (Uu Kf kv))) (hk:ev σ ky=ck) (hka:∀S w v,VK S w ck v→v=Kf a)
 (k:YE E h l K n rest (σ.setO o.dst (.c (U7 ((Ya a kv).getD z))))):YE E h l K (n+1) (o::rest) σ:=Wg (Ko.lookup1 hop hw hd ht hK hz hx hg hk hka) k
end
end
end Go.AI
namespace Go.PN
theorem Qnz (l:BS) (c:UInt8):decide (Lib.indexByte l c≥0)=l.contains c:=by
 induction l with
 |nil=>rfl
 |cons b l ih=>
  rw [List.contains_cons]
  unfold Lib.indexByte
  by_cases h:b=c
  ·subst h;simp
  ·have h1:(b==c)=false:=by simpa using h
   have h2:(c==b)=false:=by simpa using fun e=>h e.symm
   rw [h1,h2,Bool.false_or,←ih]
   by_cases h3:Lib.indexByte l c= -1
   ·rw [h3];rfl
   ·have:(Lib.indexByte l c== -1)=false:=by simpa using h3
    rw [this]
    have h4: -1≤Lib.indexByte l c:=by
     clear ih h1 h2 this h h3
     induction l with
     |nil=>unfold Lib.indexByte;decide
     |cons b l ih=>
      unfold Lib.indexByte
      split
      ·decide
      ·split
       ·decide
       ·omega
    simp only [Bool.false_eq_true,if_false]
    rw [decide_eq_decide]
    omega
theorem Qxe:∀n:Nat,n<256→[123,125,59,58,64].contains (n.toUInt8)=QeH n:=by decide
theorem Qxf:∀n:Nat,n<256→[32,9,10,13].contains (n.toUInt8)=QbE n:=by decide
end Go.PN
namespace Go.Proofs.YtngjgahldnnapaaGreatDoor
open Go.AI Go.PN Proofs.Tryz
attribute [local irreducible] aw Fa ZN ZZ Fh YE
theorem Qsi (l:BS) (c:Nat):Fa prog 372 [.c (.str (sB l)),.c (.int .u8 c)] (.c (.int .i64 (Lib.indexByte l c.toUInt8))):=by
 refine fA func372 fun C hC=>?_
 refine xG ?_
 refine QT (QA.indexByte func384 rfl rfl rfl rfl eE rfl eE) rfl rfl ?_
 refine UW hC ?_
 exact .one (.c (.int _ _))
theorem Qsj (l:BS) (c:Nat):Fa prog 345 [.c (.str (sB l)),.c (.int .u8 c)] (.c (.int .i64 (Lib.indexByte l c.toUInt8))):=by
 refine fA func345 fun C hC=>?_
 refine Zo o0 (Qsi l c) ?_
 refine xT hC ?_
 exact .one (.c (.int _ _))
theorem QnA (n:Nat) (hn:n<256):Fa prog 277 [.c (.int .u8 n)] (.c (.bool (QeH n))):=by
 refine fA func277 fun C hC=>?_
 refine Zo o0 (Qsj [123,125,59,58,64] n) ?_
 refine xT hC ?_
 exact .one (.c (Qp (by rw [Qnz,Qxe n hn])))
theorem QnB (n:Nat) (hn:n<256):Fa prog 274 [.c (.int .u8 n)] (.c (.bool (QbE n))):=by
 refine fA func274 fun C hC=>?_
 refine Zo o0 (Qsj [32,9,10,13] n) ?_
 refine xT hC ?_
 exact .one (.c (Qp (by rw [Qnz,Qxf n hn])))
theorem QfC (l:BS) (i:Nat) (hl:l.length≤1099511627776) (hi:i≤l.length):Fa prog 346 [.c (.str (sB l)),.c (.int .i64 i)] (.c (.int .i64 (Xx QE l i:Nat))):=by
 refine fA func346 fun C hC=>?_
 refine xG ?_
 generalize hS:Xx QE l i=S
 refine Qh (fun x:Nat=>[(0,.c (.str (sB l))),(1,.c (.int .i64 x))]) (fun _=>[]) (fun x=>x≤l.length∧Xx QE l x=S) (fun x=>l.length-x) i eB zZ ⟨hi,hS⟩ ?_
 rintro x ⟨hx,hs⟩
 repeat' first|refine zV o0 ?_|refine yQ o0 (UL _) ?_|refine zH o0 ?_ ?_<;>intro hb|fail
 ·refine Qb ⟨x+1,by omega,eB,zZ,by omega,?_⟩
  rw [←Vf om (by assumption)];exact hs
 all_goals
  refine xT hC ?_
  refine .one (.c (Qo ?_))
 ·rw [←hs,OX om (by assumption)]
 ·rw [←hs,Wu om]
theorem QyN {l:BS} {i:Nat} (hl:l.length≤1099511627776) (hi:i≤l.length):∃e,Xx QE l i=e∧e≤l.length:=⟨_,rfl,WM hi⟩
theorem QhZ (l:BS) (i:Nat) (hl:l.length≤1099511627776) (hi:i≤l.length):Fa prog 276 [.c (.str (sB l)),.c (.int .i64 i)] (.c (.int .i64 (VD l i:Nat))):=by
 unfold VD
 have h1:=QfC l i hl hi
 obtain⟨e,he,hel⟩:=QyN hl hi
 rw [he] at h1⊢
 refine fA func276 fun C hC=>?_
 repeat' first|refine zV o0 ?_|refine yQ o0 h1 ?_|refine yQ o0 (UL _) ?_|(refine yC2 o0 (QfC l (e+1) hl ?_) ?_;· omega)|(refine yD2 o0 (QfC l (e+1) hl ?_) ?_;· omega)|refine zH o0 ?_ ?_<;>intro hb|fail
 all_goals
  refine xT hC ?_
  refine .one (.c (Qo ?_))
  split<;>simp_all<;>omega
end Go.Proofs.YtngjgahldnnapaaGreatDoor
namespace Go.PN
open Go.AI
abbrev Q7:BS:=[59]
abbrev kAt:BS:=[64]
abbrev O8:BS:=[123]
abbrev Yi:BS:=[125]
def XP (b:UInt8) (s:BS):Nat:=(s.takeWhile (· !=b)).length
def QfD (s:BS):Bool:=decide (0<s.length)&&QE (XF s 0)&&VD s 0==s.length
def QaH (s:BS):Int:=if s.length>100 then 4 else if QfD s=false then 2
 else if XP 47 s<s.length∧Yu (s.drop (XP 47 s+1))=0 then 8 else 0
def Qh0 (s:BS):Rat:=if XP 47 s<s.length then(Yu (s.take (XP 47 s)):Rat)/(Yu (s.drop (XP 47 s+1)):Rat)
 else(Yu (s.take (XP 46 s)++s.drop (XP 46 s+1)):Rat)/((10^(s.drop (XP 46 s+1)).length:Nat):Rat)
def Qbe (s:BS):RD:=if QaH s=0 then rd (Qh0 s) else rd0
def QpX (q:Rat):Option Int:=if q.den=1∧ -9223372036854775808≤q.num∧q.num≤9223372036854775807 then some q.num else none
def YM (c:Int) (s:PS):PS:=if s.e=0 then⟨s.l,c⟩ else s
def Yc (s:PS) (k:Nat):Bool:=decide (s.e=0)&&match s.l with|[]=>false|t::_=>t.kind==k
def Xs (s:PS) (w:BS):Bool:=decide (s.e=0)&&match s.l with|[]=>false|t::_=>t.kind !=1&&t.text==w
def hdT (s:PS):BS:=match s.l with|[]=>[]|t::_=>t.text
def QZ (may:Bool) (s:PS):BS×PS:=if s.e=0 then(match s.l with
 |[]=>([],⟨[],20⟩)
 |t::l=>if may then(t.text,⟨l,0⟩) else([],⟨t::l,2⟩)) else([],s)
def Xz (w:BS) (s:PS):PS:=(QZ (Xs s w) s).2
def XB (s:PS):BS×PS:=QZ (Yc s 0) s
def Ys (s:PS):RD×PS:=let r:=QZ (Yc s 1) s
 if r.2.e=0 then(Qbe r.1,if QaH r.1=0 then r.2 else⟨r.2.l,QaH r.1⟩) else(rd0,r.2)
def ZV (s:PS):Int×PS:=let r:=Ys s
 if r.2.e=0 then(match QpX r.1.q with
  |some n=>if 0≤n∧n≤1073741824 then(n,r.2) else(0,⟨r.2.l,3⟩)
  |none=>(0,⟨r.2.l,3⟩)) else(0,r.2)
def Zl (s:PS):BS×PS:=if Xs s kAt then(let r:=XB (Xz kAt s);(64::r.1,r.2)) else XB s
def evB (x:List BS×X3) (s:PS):(List BS×X3)×PS:=
 let may:=Xs s kP||Xs s kFail||Xs s kRepair||Xs s kCost
 if may&&x.1.contains (hdT s) then(x,YM 6 s) else
 let r:=QZ may s
 if r.1==kP then((r.1::x.1,{x.2 with p:=(Ys r.2).1}),(Ys r.2).2)
 else if r.1==kFail then((r.1::x.1,{x.2 with fail:=(Ys r.2).1}),(Ys r.2).2)
 else if r.1==kRepair then((r.1::x.1,{x.2 with rep:=(Ys r.2).1}),(Ys r.2).2)
 else if r.1==kCost then((r.1::x.1,{x.2 with cost:=(ZV r.2).1}),(ZV r.2).2)
 else((r.1::x.1,x.2),r.2)
def Ji (s:PS):X3×PS:=let r:=XB s
 let q:=Jv (fun s=> !Xs s Q7) evB ([],{ev0 with name:=r.1}) r.2
 (q.1.2,Xz Q7 q.2)
def Jj (s:PS):Vx×PS:=let r:=XB s
 let q:=QZ (Xs r.2 kOn||Xs r.2 Ox) r.2
 (⟨r.1,q.1==kOn⟩,Xz Q7 q.2)
def QgV (w:BS):Option Int:=if w==QtU then some 0 else if w==kOr then some 1 else if w==kVote then some 2 else if w==kNot then some 3 else if w==kXor then some 4
 else if w==kInhibit then some 5 else if w==kPand then some 6 else if w==kSpare then some 7 else if w==QdU then some 8 else none
def inB (x:List BS) (s:PS):List BS×PS:=(x++[(Zl s).1],(Zl s).2)
def K9 (s:PS):Xe×PS:=let r:=XB s
 let k:=if Yc r.2 0 then QgV (hdT r.2) else none
 let s2:=(QZ k.isSome r.2).2
 let v:=if k=some 2 then ZV s2 else(0,s2)
 let d:=if k=some 7 then Ys v.2 else(rd0,v.2)
 let q:=Jv (fun s=> !Xs s Q7) inB [] d.2
 (⟨r.1,k.getD 0,v.1,q.1,d.1⟩,Xz Q7 q.2)
def pgB (x:List Xe) (s:PS):List Xe×PS:=(x++[(K9 (Xz Qz s)).1],(K9 (Xz Qz s)).2)
def Ou (s:PS):Yz×PS:=let r:=XB s
 let t:=Zl (Xz Yx r.2)
 let q:=Jv (fun s=> !Xs s Yi) pgB [] (Xz O8 t.2)
 (⟨r.1,t.1,q.1⟩,Xz Yi q.2)
def Qf7 (x:List RD) (s:PS):List RD×PS:=(x++[(Ys s).1],(Ys s).2)
def Qf8 (x:List BS) (s:PS):List BS×PS:=(x++[(XB s).1],(XB s).2)
def Jk (s:PS):YB×PS:=let r:=XB s
 let g:=QZ (Xs r.2 ZF||Xs r.2 Yh) r.2
 let f:=Jv (fun s=>Yc s 1) Qf7 [] g.2
 let m:=Jv (fun s=>Yc s 0) Qf8 [] (Xz Zi f.2)
 (⟨r.1,if g.1==Yh then 1 else 0,m.1,f.1⟩,Xz Q7 m.2)
def vlB (x:List Zp) (s:PS):List Zp×PS:=let r:=XB s
 (x++[⟨r.1,(Ys r.2).1⟩],Xz Q7 (Ys r.2).2)
def Jl (s:PS):V0×PS:=let r:=XB s
 let t:=Zl (Xz Yx r.2)
 let q:=Jv (fun s=> !Xs s Yi) vlB [] (Xz O8 t.2)
 (⟨r.1,t.1,q.1⟩,Xz Yi q.2)
def stB (m:Qv) (s:PS):Qv×PS:=
 let r:=QZ (Xs s Xn||Xs s QP||Xs s Qz||Xs s XT||Xs s Xf||Xs s Q9) s
 if r.1==Xn then({m with events:=m.events++[(Ji r.2).1]},(Ji r.2).2)
 else if r.1==QP then({m with houses:=m.houses++[(Jj r.2).1]},(Jj r.2).2)
 else if r.1==Qz then({m with gates:=m.gates++[(K9 r.2).1]},(K9 r.2).2)
 else if r.1==XT then({m with pages:=m.pages++[(Ou r.2).1]},(Ou r.2).2)
 else if r.1==Xf then({m with groups:=m.groups++[(Jk r.2).1]},(Jk r.2).2)
 else if r.1==Q9 then({m with phases:=m.phases++[(Jl r.2).1]},(Jl r.2).2)
 else(m,r.2)
def QdG (s:PS):PS:=if s.e=0∧s.l≠[] then⟨s.l,2⟩ else s
def QaR (s:PS):Qv×PS:=let r:=XB (Xz ZR s)
 let q:=Jv (fun s=> !Xs s Yx) stB {md0 with name:=r.1} (Xz Q7 r.2)
 let t:=Zl (Xz Yx q.2)
 ({q.1 with top:=t.1},QdG (Xz Q7 t.2))
theorem QnC {l:BS} {i:Nat} (h:VD l i<l.length):QE (XF l (VD l i))=false:=by
 unfold VD at h⊢
 split at h
 ·rename_i h1;rw [iP h1];exact Qkn h
 ·rename_i h1;rw [iN h1];exact Qkn h
theorem Qsk {n:Nat} (h1:Jn n=false) (h2:QE n=false) (h3:¬n=95) (h4:¬n=46):¬Yp n=true:=by unfold Yp;simp [h1,h2,h3,h4]
theorem QgW {l:BS} {i:Nat} (h:QbE (XF l i)=true):Vb l i=.skip (i+1):=by unfold Vb;rw [iP h]
theorem QgX {l:BS} {i:Nat} (h:QbE (XF l i)=false) (h1:XF l i=35):Vb l i=.skip (Xx (fun b=>b !=10) l i):=by unfold Vb;rw [iN (by rw [h];decide),iP h1]
theorem Qc8 {l:BS} {i:Nat} (h:QbE (XF l i)=false) (h1:¬XF l i=35) (h2:Jn (XF l i)=true):Vb l i=if Xx Yp l i-i>24 then .err 5 else .tok 0 (Xx Yp l i):=by unfold Vb;rw [iN (by rw [h];decide),iN h1,iP h2]
theorem V4 {l:BS} {i:Nat} (h:QbE (XF l i)=false) (h1:¬XF l i=35) (h2:Jn (XF l i)=false) (h3:QE (XF l i)=true):Vb l i=if VD l i<l.length∧(Yp (XF l (VD l i))=true∨XF l (VD l i)=47) then .err 2 else .tok 1 (VD l i):=by unfold Vb;rw [iN (by rw [h];decide),iN h1,iN (by rw [h2];decide),iP h3]
theorem Qc9 {l:BS} {i:Nat} (h:QbE (XF l i)=false) (h1:¬XF l i=35) (h2:Jn (XF l i)=false) (h3:QE (XF l i)=false):Vb l i=if QeH (XF l i) then .tok 2 (i+1) else .err 2:=by unfold Vb;rw [iN (by rw [h];decide),iN h1,iN (by rw [h2];decide),iN (by rw [h3];decide)]
theorem JP {l:BS} {i:Nat} {out:List TK} {S:Int×List TK} {c:Int} (hs:Yw l (l.length-i) i out=S) (hi:i<l.length) (h:Vb l i=.err c):S=(c,[]):=by rw [O7 hi,h] at hs;exact hs.symm
theorem Qbf {l:BS} {i e:Nat} {out:List TK} {S:Int×List TK} (hs:Yw l (l.length-i) i out=S) (hi:i<l.length) (h:Vb l i=.skip e):Yw l (l.length-e) e out=S:=by rw [O7 hi,h] at hs;exact hs
theorem Qay {l:BS} {i e k:Nat} {out:List TX} {S:Int×List TK} (hs:Yw l (l.length-i) i (out.map TX.t)=S) (hi:i<l.length) (h:Vb l i=.tok k e) (a b c:Int):Yw l (l.length-e) e ((out++[(⟨⟨k,VN l i e⟩,a,b,c⟩:TX)]).map TX.t)=S:=by
 rw [O7 hi,h] at hs
 rw [List.map_append]
 exact hs
theorem QpY {l:BS} {i:Nat} {out:List TK} {S:Int×List TK} (hs:Yw l (l.length-i) i out=S) (hi:¬i<l.length):S=(0,out):=by rw [QlY om] at hs;exact hs.symm
theorem Qsl {k:Nat} (h:k≠0):sq false k k=1:=by
 unfold sq U5
 have:=Rat.mkRat_mul_left (n:=1) (d:=1) h
 rw [Int.mul_one,Ad] at this
 simp only [Bool.false_eq_true,if_false]
 rw [this]
 rfl
theorem Qsm (x y:Bool) {n m d e:Nat} (hm:m≠0) (he:e≠0):sq (x !=y) (n*e) (d*m)=sq x n d/sq y m e:=by
 have h1:sq y m e*sq y e m=1:=by
  rw [←QlX,Nc e m,bne_self_eq_false]
  exact Qsl (Nat.mul_ne_zero hm he)
 have hb:sq y m e≠0:=fun h=>by rw [h,Rat.zero_mul] at h1;exact absurd h1 Af
 have h2:(sq y m e)⁻¹=sq y e m:=by
  have h3:=Rat.inv_mul_cancel (sq y m e) hb
  have h4:(sq y m e)⁻¹*(sq y m e*sq y e m)=sq y e m:=by rw [←Rat.mul_assoc,h3,Rat.one_mul]
  rw [h1,Rat.mul_one] at h4
  exact h4
 rw [QlX,Rat.div_def,h2]
theorem RD.pn_ne {r:RD} (h:r.q≠0):r.pn≠0:=fun e=>h (by unfold RD.q;rw [e,Qbz])
theorem QyO {a b:RD} {L:Nat} (hb:b.wf L) (hz:b.q≠0):sq (a.ps !=b.ps) (a.pn*b.pd) (a.pd*b.pn)=a.q/b.q:=Qsm _ _ (RD.pn_ne hz) (RD.pd_ne hb)
theorem Qsn {q:Rat} {L:Nat} (h:fits q L) (hz:q≠0):fits q⁻¹ L:=by
 obtain⟨h1,h2⟩:=h
 have hn:q.num≠0:=fun e=>hz (Rat.num_eq_zero.1 e)
 have h3:(rd q).q=q:=Ow q
 obtain⟨p1,p2,p3⟩:(rd q).ps=decide (q.num<0)∧(rd q).pn=q.num.natAbs∧(rd q).pd=q.den:=by
  have hs:=(Qhp hz).1
  unfold RD.ps RD.pn RD.pd
  rw [iP hs,iP hs,iP hs]
  unfold rd
  rw [iN hn]
  exact⟨rfl,Qd _,Qd _⟩
 have h4:q=sq (decide (q.num<0)) q.num.natAbs q.den:=by
  have:(rd q).q=sq (rd q).ps (rd q).pn (rd q).pd:=rfl
  rw [h3,p1,p2,p3] at this
  exact this
 have h5:sq false 1 1=1:=Qsl om
 have h6:=Qsm false (decide (q.num<0)) (n:=1) (d:=1) (m:=q.num.natAbs) (e:=q.den) om q.den_nz
 rw [h5,←h4,Rat.div_def,Rat.one_mul,Nat.one_mul,Nat.one_mul] at h6
 rw [←h6]
 exact QmK om h2 h1
theorem Qkp {a b:Rat} {L M:Nat} (ha:fits a L) (hb:fits b M) (hz:b≠0):fits (a/b) (L+M):=by
 rw [Rat.div_def]
 exact Qkm ha (Qsn hb hz)
theorem QgY {s:BS} {i:Nat} (h:i<s.length):Yu (s.take (i+1))=Yu (s.take i)*10+(XF s i-48):=by
 unfold Yu
 rw [List.take_succ_eq_append_getElem h,List.foldl_append,QhC h];rfl
theorem Ql0 {n:Nat} (h:QE n=true):48≤n∧n≤57:=by
 unfold QE at h
 simp only [Ba,Dq] at h
 exact h
theorem QnD {s:BS} (hd:∀i,i<s.length→QE (XF s i)=true):∀i,i≤s.length→Yu (s.take i)<10^i
 |0,_=>by simp [Yu]
 |i+1,h=>by
  have h1:=QnD hd i om
  have h2:=Ql0 (hd i om)
  rw [QgY om,Nat.pow_succ]
  omega
theorem QfE {n L:Nat} (h:n<4294967296^L) (hL:1≤L):fits (n:Rat) L:=by
 have h1:(1:Nat)<4294967296^L:=Nat.one_lt_pow om Af
 exact⟨by simpa using h,by simpa using h1⟩
theorem QfF (k:Nat):10^k<4294967296^(k+1):=Nat.lt_of_le_of_lt (Nat.pow_le_pow_left Af k) (Nat.pow_lt_pow_right Af om)
theorem JQ {s:BS} (hd:∀i,i<s.length→QE (XF s i)=true) {i:Nat} (hi:i≤s.length):fits (Yu (s.take i):Rat) (i+1):=
 QfE (Nat.lt_trans (QnD hd i hi) (QfF i)) om
theorem Qxg {s:BS} {i:Nat} (h:i<s.length) (hd:QE (XF s i)=true):(Yu (s.take i):Rat)*((10:Int):Rat)+(((XF s i:Nat):Int)-48:Int)=(Yu (s.take (i+1)):Rat):=by
 have h2:=Ql0 hd
 rw [QgY h]
 have:(((XF s i:Nat):Int)-48:Int)=((XF s i-48:Nat):Int):=by omega
 rw [this]
 push_cast
 rfl
theorem Qv4 {n:Int} (h:n.natAbs<4294967296):fits (n:Rat) 1:=⟨by simpa using h,by simp⟩
theorem QnE (b:UInt8) (s:BS):XP b s≤s.length:=(List.takeWhile_sublist _).length_le
theorem Qh1 (b:UInt8):∀s:BS,Lib.indexByte s b=if XP b s<s.length then(XP b s:Int) else-1
 |[]=>rfl
 |x::s=>by
  have ih:=Qh1 b s
  have hle:=QnE b s
  unfold Lib.indexByte
  by_cases h:x=b
  ·subst h
   have:XP x (x::s)=0:=by unfold XP;rw [List.takeWhile_cons_of_neg (by simp)];rfl
   rw [this];simp
  ·have h1:(x==b)=false:=by simpa using h
   have h2:XP b (x::s)=XP b s+1:=by unfold XP;rw [List.takeWhile_cons_of_pos (by simpa using h)];rfl
   rw [h1,h2,Lc]
   simp only [Bool.false_eq_true,if_false]
   rw [ih]
   by_cases h3:XP b s<s.length
   ·have:((XP b s:Int)== -1)=false:=by simp
    rw [iP h3,iP (show XP b s+1<s.length+1 from by omega),this];simp
   ·rw [iN h3,iN (show¬XP b s+1<s.length+1 from by omega)];rfl
theorem Qh2 {b:UInt8}:∀{s:BS} {e:Nat},e<s.length→s.getD e 0=b→(∀j,j<e→s.getD j 0≠b)→XP b s=e
 |x::s,0,_,h,_=>by
  have:x=b:=by simpa using h
  unfold XP;rw [List.takeWhile_cons_of_neg (by simp [this])];rfl
 |x::s,e+1,hl,h,hn=>by
  have h0:x≠b:=by simpa using hn 0 om
  have h2:XP b (x::s)=XP b s+1:=by unfold XP;rw [List.takeWhile_cons_of_pos (by simpa using h0)];rfl
  rw [h2,Qh2 (s:=s) (e:=e) (by simpa using hl) (by simpa using h) fun j hj=>by simpa using hn (j+1) om]
theorem Qd0 {b:UInt8}:∀{s:BS},(∀j,j<s.length→s.getD j 0≠b)→XP b s=s.length
 |[],_=>rfl
 |x::s,hn=>by
  have h0:x≠b:=by simpa using hn 0 (by simp)
  have h2:XP b (x::s)=XP b s+1:=by unfold XP;rw [List.takeWhile_cons_of_pos (by simpa using h0)];rfl
  rw [h2,Qd0 (s:=s) fun j hj=>by simpa using hn (j+1) (by simpa using hj)];rfl
theorem Qb5 {s:BS} {j:Nat} {b:UInt8} (h:XF s j≠b.toNat):s.getD j 0≠b:=fun e=>h (by unfold XF;rw [e])
theorem QnF {s:BS} {j:Nat} {b:UInt8} (h:XF s j=b.toNat):s.getD j 0=b:=UInt8.toNat_inj.1 h
theorem Qda {s:BS} {i:Nat}:∀j,i≤j→j<Xx QE s i→QE (XF s j)=true:=fun j h1 h2=>Qjf (p:=QE) (Xx QE s i-i) i (by have:=VC QE s i;omega) j h1 (by have:=VC QE s i;omega)
theorem Qkq {s:BS} (h:QfD s=true):Qya s∧0<s.length:=by
 unfold QfD at h
 simp only [Ba,Dq,beq_iff_eq] at h
 obtain⟨⟨h0,_⟩,h2⟩:=h
 refine⟨?_,h0⟩
 unfold VD at h2
 split at h2
 ·rename_i h3
  refine .two (Xx QE s 0) h3.1 h3.2.1 (fun i hi=>Qda i (Lz _) hi) fun i hi hl=>Qda (i:=Xx QE s 0+1) i (Nat.succ_le_of_lt hi) (by rw [h2];exact hl)
 ·exact .all fun i hi=>Qda i (Lz _) (by rw [h2];exact hi)
theorem QpZ (s:BS) (e:Nat):VN s 0 e=s.take e:=by unfold VN;simp
theorem Qso {s:BS} {e i:Nat} (h:i<e):XF (s.take e) i=XF s i:=by
 unfold XF
 rw [Lg,Lg,List.getElem?_take,iP h]
theorem Qsp (s:BS) (e i:Nat):XF (s.drop e) i=XF s (e+i):=by
 unfold XF
 rw [Lg,Lg,List.getElem?_drop]
theorem O9 {s:BS} {e:Nat} (h1:∀i,i<e→QE (XF s i)=true):∀i,i<(s.take e).length→QE (XF (s.take e) i)=true:=fun i hi=>by
 have:i<e:=by rw [List.length_take] at hi;omega
 rw [Qso this];exact h1 i this
theorem Qaa {s:BS} {e:Nat} (h2:∀i,e<i→i<s.length→QE (XF s i)=true):∀i,i<(s.drop (e+1)).length→QE (XF (s.drop (e+1)) i)=true:=fun i hi=>by
 rw [List.length_drop] at hi
 rw [Qsp];exact h2 _ om om
theorem Qh3 {s:BS} (h:∀i,i<s.length→QE (XF s i)=true):XP 47 s=s.length∧XP 46 s=s.length:=by
 have hd:∀i,i<s.length→48≤XF s i:=fun i hi=>by have:=h i hi;unfold QE at this;simp at this;omega
 exact⟨Qd0 fun j hj=>Qb5 (by have:=hd j hj;show XF s j≠47;omega),Qd0 fun j hj=>Qb5 (by have:=hd j hj;show XF s j≠46;omega)⟩
theorem Qb6 {s:BS} {e:Nat} (he:e+1<s.length) (hm:XF s e=47) (h1:∀i,i<e→QE (XF s i)=true):XP 47 s=e:=by
 have hd:∀i,i<e→48≤XF s i:=fun i hi=>by have:=h1 i hi;unfold QE at this;simp at this;omega
 exact Qh2 om (QnF hm) fun j hj=>Qb5 (by have:=hd j hj;show XF s j≠47;omega)
theorem Qb7 {s:BS} {e:Nat} (he:e+1<s.length) (hm:XF s e=46) (h1:∀i,i<e→QE (XF s i)=true) (h2:∀i,e<i→i<s.length→QE (XF s i)=true):XP 47 s=s.length∧XP 46 s=e:=by
 have hd:∀i,i<s.length→i≠e→48≤XF s i:=fun i hi hn=>by
  have:QE (XF s i)=true:=by
   by_cases h:i<e
   ·exact h1 i h
   ·exact h2 i om hi
  unfold QE at this;simp at this;omega
 refine⟨Qd0 fun j hj=>Qb5 ?_,Qh2 om (QnF hm) fun j hj=>Qb5 (by have:=hd j om om;show XF s j≠46;omega)⟩
 show XF s j≠47
 by_cases h:j=e
 ·rw [h,hm];decide
 ·have:=hd j hj h;omega
section
variable {α β γ δ : Type}
theorem QQ (a:α):Rdr fun s=>(a,s):=⟨fun _=>List.suffix_refl _,fun _ _=>rfl⟩
theorem Zm (m:PS→Bool):Rdr fun s=>QZ (m s) s:=by
 refine⟨fun s=> ?_,fun s h=> ?_⟩
 ·unfold QZ
  split
  ·split
   ·rename_i h;rw [h];exact List.suffix_refl _
   ·rename_i t l h
    rw [h]
    split
    ·exact List.suffix_cons t l
    ·exact List.suffix_refl _
  ·exact List.suffix_refl _
 ·unfold QZ
  rw [iN h]
theorem Qsq (c:PS→Int) (a:α):Rdr fun s=>(a,YM (c s) s):=by
 refine⟨fun s=> ?_,fun s h=> ?_⟩
 ·show(YM (c s) s).l<:+s.l
  unfold YM
  split<;>exact List.suffix_refl _
 ·show YM (c s) s=s
  unfold YM
  rw [iN h]
theorem Qb8 {c:PS→Prop} [DecidablePred c] {f g:PS→α×PS} (hf:Rdr f) (hg:Rdr g):Rdr fun s=>if c s then f s else g s:=by
 refine⟨fun s=> ?_,fun s h=> ?_⟩
 ·show(if c s then f s else g s).2.l<:+s.l
  split
  ·exact hf.suf s
  ·exact hg.suf s
 ·show(if c s then f s else g s).2=s
  split
  ·exact hf.stk s h
  ·exact hg.stk s h
theorem Qkr {c:PS→Bool} {b:α→PS→α×PS} (hb:∀a,Rdr (b a)):∀(n:Nat) (a:α),Rdr (Wv c b n a):=by
 intro n
 induction n with
 |zero=>exact fun a=>QQ a
 |succ n ih=>
  intro a
  refine⟨fun s=> ?_,fun s h=> ?_⟩
  ·unfold Wv
   split
   ·exact((ih _).suf _).trans ((hb a).suf s)
   ·exact List.suffix_refl _
  ·unfold Wv
   rw [iN (fun x=>h x.1)]
theorem ZW {c:PS→Bool} {b:α→PS→α×PS} (hb:∀a,Rdr (b a)) (a:α):Rdr (Jv c b a):=
 ⟨fun s=>(Qkr hb _ a).suf s,fun s h=>(Qkr hb _ a).stk s h⟩
theorem XM:Rdr XB:=Zm _
theorem QJ (w:BS):Rdr fun s=>((),Xz w s):=⟨fun s=>(Zm fun s=>Xs s w).suf s,fun s h=>(Zm fun s=>Xs s w).stk s h⟩
theorem Zx:Rdr Ys:=by
 have h:=Zm fun s=>Yc s 1
 refine⟨fun s=> ?_,fun s h0=> ?_⟩
 ·have h1:=h.suf s
  unfold Ys
  dsimp only
  split
  ·split
   ·exact h1
   ·exact h1
  ·exact h1
 ·have h1:=h.stk s h0
  unfold Ys
  dsimp only at h1⊢
  rw [h1,iN h0]
theorem WN:Rdr ZV:=by
 refine⟨fun s=> ?_,fun s h0=> ?_⟩
 ·have h1:=Zx.suf s
  unfold ZV
  dsimp only
  split
  ·split
   ·split
    ·exact h1
    ·exact h1
   ·exact h1
  ·exact h1
 ·have h1:=Zx.stk s h0
  unfold ZV
  dsimp only
  rw [h1,iN h0]
theorem V5:Rdr Zl:=Qb8 (c:=fun s=>Xs s kAt=true) (Rdr.bnd (QJ kAt) fun _=>Rdr.bnd XM fun t=>QQ (64::t)) XM
theorem Qab (m:PS→Bool):Con fun s=>QZ (m s) s:=by
 intro s h
 dsimp only
 unfold QZ mS
 rw [iP h,iP h]
 split
 ·simp
 ·rename_i t l hl
  rw [hl]
  split
  ·simp
  ·simp
theorem Con.ite {c:PS→Prop} [DecidablePred c] {f g:PS→α×PS} (hf:Con f) (hg:Con g):Con fun s=>if c s then f s else g s:=fun s h=>by
 show mS (if c s then f s else g s).2<mS s
 split
 ·exact hf s h
 ·exact hg s h
theorem Qac:Con XB:=Qab _
theorem Qh4 (w:BS):Con fun s=>((),Xz w s):=fun s h=>Qab (fun s=>Xs s w) s h
theorem QnG:Con Ys:=by
 intro s h
 have h1:=Qab (fun s=>Yc s 1) s h
 dsimp only at h1
 unfold Ys
 dsimp only
 split
 ·split
  ·exact h1
  ·rename_i h2
   unfold mS at h1⊢
   rw [iN h2]
   rw [iP h]
   omega
 ·exact h1
theorem QgZ:Con Zl:=Con.ite (c:=fun s=>Xs s kAt=true) (Con.bnd (Qh4 kAt) fun _=>Rdr.bnd XM fun t=>QQ (64::t)) Qac
end
section
variable {α β γ δ : Type}
theorem Qd1 (x:List BS):Rdr (inB x):=Rdr.bnd V5 fun t=>QQ (x++[t])
theorem QnH (x:List BS):Con (inB x):=Con.bnd QgZ fun t=>QQ (x++[t])
def Qsr (s:PS):List BS×PS:=let q:=Jv (fun s=> !Xs s Q7) inB [] s
 (q.1,Xz Q7 q.2)
theorem QnI:Rdr Qsr:=Rdr.bnd (ZW Qd1 []) fun q=>Rdr.bnd (QJ Q7) fun _=>QQ q
def WS (s:PS):Option Int:=if Yc s 0 then QgV (hdT s) else none
def gkS (s:PS):Option Int×PS:=(WS s,(QZ (WS s).isSome s).2)
theorem Qks {m:Bool} {s:PS} (e0:s.e=0) (h:s.l=[]):QZ m s=([],⟨[],20⟩):=by unfold QZ;rw [iP e0,h]
theorem Xo {m:Bool} {s:PS} {t:TK} {l:List TK} (e0:s.e=0) (h:s.l=t::l):QZ m s=if m then(t.text,⟨l,0⟩) else([],⟨t::l,2⟩):=by unfold QZ;rw [iP e0,h]
theorem Qss {k:Nat} {s:PS} (h:s.l=[]):Yc s k=false:=by unfold Yc;rw [h];simp
theorem Qp0 {k:Nat} {s:PS} {t:TK} {l:List TK} (e0:s.e=0) (h:s.l=t::l):Yc s k=(t.kind==k):=by unfold Yc;rw [h,e0];simp
theorem Ql1:Rdr gkS:=by
 have h:=Zm fun s=>(WS s).isSome
 exact⟨fun s=>h.suf s,fun s h0=>h.stk s h0⟩
def gtK (nm:BS) (k:Option Int):PS→Xe×PS:=PN.bnd (fun s=>if k=some 2 then ZV s else(0,s)) fun v=>PN.bnd (fun s=>if k=some 7 then Ys s else(rd0,s)) fun d=>PN.bnd Qsr fun q s=>(⟨nm,k.getD 0,v,q,d⟩,s)
theorem Qu8 (nm:BS) (k:Option Int):Rdr (gtK nm k):=Rdr.bnd (Qb8 WN (QQ 0)) fun _=>Rdr.bnd (Qb8 Zx (QQ rd0)) fun _=>Rdr.bnd QnI fun _=>QQ _
theorem QfG:K9=PN.bnd XB fun nm=>PN.bnd gkS fun k=>gtK nm k:=rfl
theorem Qad:Rdr K9:=by rw [QfG];exact Rdr.bnd XM fun nm=>Rdr.bnd Ql1 fun k=>Qu8 nm k
end
section
variable {α β γ δ : Type}
theorem Qxh {w:BS} {s:PS} (h:s.l=[]):Xs s w=false:=by unfold Xs;rw [h];simp
theorem VJ {w:BS} {s:PS} {t:TK} {l:List TK} (e0:s.e=0) (h:s.l=t::l):Xs s w=(t.kind !=1&&t.text==w):=by unfold Xs;rw [h,e0];simp
theorem Qb9 {s:PS} {t:TK} {l:List TK} (h:s.l=t::l):hdT s=t.text:=by unfold hdT;rw [h]
theorem Qh5 (x:List BS×X3):Rdr (evB x):=by
 refine⟨fun s=> ?_,fun s h=> ?_⟩
 ·have ht:=(Zm fun s=>Xs s kP||Xs s kFail||Xs s kRepair||Xs s kCost).suf s
  unfold evB
  dsimp only at ht⊢
  split
  ·exact(Qsq (fun _=>6) x).suf s
  ·repeat' split
   all_goals first|exact(Zx.suf _).trans ht|exact(WN.suf _).trans ht|exact ht
 ·have ht:=(Zm fun s=>Xs s kP||Xs s kFail||Xs s kRepair||Xs s kCost).stk s h
  have hv:∀m,QZ m s=([],s):=fun m=>by unfold QZ;rw [iN h]
  have hz:∀w,Xs s w=false:=fun w=>by unfold Xs;simp [h]
  unfold evB
  dsimp only
  rw [hz,hz,hz,hz,hv]
  rfl
theorem QnJ (x:List BS×X3):Con (evB x):=by
 intro s e0
 have ht:=Qab (fun s=>Xs s kP||Xs s kFail||Xs s kRepair||Xs s kCost) s e0
 dsimp only at ht
 unfold evB
 dsimp only
 split
 ·show mS (YM 6 s)<mS s
  unfold YM mS
  rw [iP e0,iP e0];simp
 ·repeat' split
  all_goals first|exact Nat.lt_of_le_of_lt (QcJ Zx _) ht|exact Nat.lt_of_le_of_lt (QcJ WN _) ht|exact ht
def evK (q:List BS×X3):PS→X3×PS:=PN.bnd (fun s=>((),Xz Q7 s)) fun _ s=>(q.2,s)
theorem Qp1:Ji=PN.bnd XB fun nm=>PN.bnd (Jv (fun s=> !Xs s Q7) evB ([],{ev0 with name:=nm})) evK:=rfl
theorem Qu9 (q:List BS×X3):Rdr (evK q):=Rdr.bnd (QJ Q7) fun _=>QQ _
theorem Qp2:Rdr Ji:=by rw [Qp1];exact Rdr.bnd XM fun nm=>Rdr.bnd (ZW Qh5 _) Qu9
def hsT (s:PS):Bool×PS:=((QZ (Xs s kOn||Xs s Ox) s).1==kOn,(QZ (Xs s kOn||Xs s Ox) s).2)
theorem QnK:Rdr hsT:=by
 have h:=Zm fun s=>Xs s kOn||Xs s Ox
 exact⟨fun s=>h.suf s,fun s h0=>h.stk s h0⟩
theorem Qg0:Jj=PN.bnd XB fun nm=>PN.bnd hsT fun b=>PN.bnd (fun s=>((),Xz Q7 s)) fun _ s=>(⟨nm,b⟩,s):=rfl
theorem Qp3:Rdr Jj:=by rw [Qg0];exact Rdr.bnd XM fun nm=>Rdr.bnd QnK fun b=>Rdr.bnd (QJ _) fun _=>QQ _
end
section
variable {α β γ δ : Type}
theorem Qd2 (x:List Xe):Rdr (pgB x):=Rdr.bnd (QJ Qz) fun _=>Rdr.bnd Qad fun g=>QQ (x++[g])
theorem QnL (x:List Xe):Con (pgB x):=Con.bnd (Qh4 Qz) fun _=>Rdr.bnd Qad fun g=>QQ (x++[g])
def pgK (nm t:BS) (q:List Xe):PS→Yz×PS:=PN.bnd (fun s=>((),Xz Yi s)) fun _ s=>(⟨nm,t,q⟩,s)
theorem Qva (nm t:BS) (q:List Xe):Rdr (pgK nm t q):=Rdr.bnd (QJ _) fun _=>QQ _
def Qvb (k:BS→PS→α×PS):PS→α×PS:=PN.bnd (fun s=>((),Xz Yx s)) fun _=>PN.bnd Zl fun t=>PN.bnd (fun s=>((),Xz O8 s)) fun _=>k t
theorem Qkt {k:BS→PS→α×PS} (h:∀t,Rdr (k t)):Rdr (Qvb k):=Rdr.bnd (QJ _) fun _=>Rdr.bnd V5 fun t=>Rdr.bnd (QJ _) fun _=>h t
theorem Qku:Ou=PN.bnd XB fun nm=>Qvb fun t=>PN.bnd (Jv (fun s=> !Xs s Yi) pgB []) (pgK nm t):=rfl
theorem Qst:Rdr Ou:=by rw [Qku];exact Rdr.bnd XM fun nm=>Qkt fun t=>Rdr.bnd (ZW Qd2 _) (Qva nm t)
theorem Qsu (x:List Zp):vlB x=PN.bnd XB fun w=>PN.bnd Ys fun q=>PN.bnd (fun s=>((),Xz Q7 s)) fun _ s=>(x++[⟨w,q⟩],s):=rfl
theorem Qd3 (x:List Zp):Rdr (vlB x):=by rw [Qsu];exact Rdr.bnd XM fun w=>Rdr.bnd Zx fun q=>Rdr.bnd (QJ Q7) fun _=>QQ (x++[⟨w,q⟩])
theorem QnM (x:List Zp):Con (vlB x):=by rw [Qsu];exact Con.bnd Qac fun w=>Rdr.bnd Zx fun q=>Rdr.bnd (QJ Q7) fun _=>QQ (x++[⟨w,q⟩])
def phK (nm t:BS) (q:List Zp):PS→V0×PS:=PN.bnd (fun s=>((),Xz Yi s)) fun _ s=>(⟨nm,t,q⟩,s)
theorem Qvc (nm t:BS) (q:List Zp):Rdr (phK nm t q):=Rdr.bnd (QJ _) fun _=>QQ _
theorem Qg1:Jl=PN.bnd XB fun nm=>Qvb fun t=>PN.bnd (Jv (fun s=> !Xs s Yi) vlB []) (phK nm t):=rfl
theorem Qp4:Rdr Jl:=by rw [Qg1];exact Rdr.bnd XM fun nm=>Qkt fun t=>Rdr.bnd (ZW Qd3 _) (Qvc nm t)
end
section
variable {α β γ δ : Type}
def grT (s:PS):Int×PS:=(if(QZ (Xs s ZF||Xs s Yh) s).1==Yh then 1 else 0,(QZ (Xs s ZF||Xs s Yh) s).2)
theorem QnN:Rdr grT:=by
 have h:=Zm fun s=>Xs s ZF||Xs s Yh
 exact⟨fun s=>h.suf s,fun s h0=>h.stk s h0⟩
theorem Qca (x:List RD):Rdr (Qf7 x):=Rdr.bnd Zx fun q=>QQ (x++[q])
theorem Qkv (x:List RD):Con (Qf7 x):=Con.bnd QnG fun q=>QQ (x++[q])
theorem Qcb (x:List BS):Rdr (Qf8 x):=Rdr.bnd XM fun q=>QQ (x++[q])
theorem Qkw (x:List BS):Con (Qf8 x):=Con.bnd Qac fun q=>QQ (x++[q])
def grM (nm:BS) (g:Int) (f:List RD):PS→YB×PS:=PN.bnd (Jv (fun s=>Yc s 0) Qf8 []) fun m=>PN.bnd (fun s=>((),Xz Q7 s)) fun _ s=>(⟨nm,g,m,f⟩,s)
theorem Qvd (nm:BS) (g:Int) (f:List RD):Rdr (grM nm g f):=Rdr.bnd (ZW Qcb _) fun _=>Rdr.bnd (QJ _) fun _=>QQ _
def grF (nm:BS) (g:Int):PS→YB×PS:=PN.bnd (Jv (fun s=>Yc s 1) Qf7 []) fun f=>PN.bnd (fun s=>((),Xz Zi s)) fun _=>grM nm g f
theorem Qve (nm:BS) (g:Int):Rdr (grF nm g):=Rdr.bnd (ZW Qca _) fun f=>Rdr.bnd (QJ _) fun _=>Qvd nm g f
theorem Qg2:Jk=PN.bnd XB fun nm=>PN.bnd grT fun g=>grF nm g:=rfl
theorem Qp5:Rdr Jk:=by rw [Qg2];exact Rdr.bnd XM fun nm=>Rdr.bnd QnN fun g=>Qve nm g
def stW (m:Qv) (w:BS):PS→Qv×PS:=
 if w==Xn then PN.bnd Ji fun x s=>({m with events:=m.events++[x]},s)
 else if w==QP then PN.bnd Jj fun x s=>({m with houses:=m.houses++[x]},s)
 else if w==Qz then PN.bnd K9 fun x s=>({m with gates:=m.gates++[x]},s)
 else if w==XT then PN.bnd Ou fun x s=>({m with pages:=m.pages++[x]},s)
 else if w==Xf then PN.bnd Jk fun x s=>({m with groups:=m.groups++[x]},s)
 else if w==Q9 then PN.bnd Jl fun x s=>({m with phases:=m.phases++[x]},s)
 else fun s=>(m,s)
def stM (s:PS):Bool:=Xs s Xn||Xs s QP||Xs s Qz||Xs s XT||Xs s Xf||Xs s Q9
theorem Qsv (m:Qv) (s:PS):stB m s=PN.bnd (fun s=>QZ (stM s) s) (stW m) s:=by
 show stB m s=stW m (QZ (stM s) s).1 (QZ (stM s) s).2
 unfold stB stW stM
 dsimp only
 generalize QZ _ s=r
 repeat' split
 all_goals rfl
theorem QnO (m:Qv) (w:BS):Rdr (stW m w):=by
 unfold stW
 repeat' split
 ·exact Rdr.bnd Qp2 fun _=>QQ _
 ·exact Rdr.bnd Qp3 fun _=>QQ _
 ·exact Rdr.bnd Qad fun _=>QQ _
 ·exact Rdr.bnd Qst fun _=>QQ _
 ·exact Rdr.bnd Qp5 fun _=>QQ _
 ·exact Rdr.bnd Qp4 fun _=>QQ _
 ·exact QQ _
theorem Qh6 (m:Qv):Rdr (stB m):=by
 rw [show stB m=PN.bnd (fun s=>QZ (stM s) s) (stW m) from funext (Qsv m)]
 exact Rdr.bnd (Zm stM) (QnO m)
theorem Qh7 (m:Qv):Con (stB m):=by
 rw [show stB m=PN.bnd (fun s=>QZ (stM s) s) (stW m) from funext (Qsv m)]
 exact Con.bnd (Qab stM) (QnO m)
def rdK (m:Qv):PS→Qv×PS:=PN.bnd (fun s=>((),Xz Yx s)) fun _=>PN.bnd Zl fun t=>PN.bnd (fun s=>((),Xz Q7 s)) fun _ s=>({m with top:=t},QdG s)
theorem Qsw:QaR=PN.bnd (fun s=>((),Xz ZR s)) fun _=>PN.bnd XB fun nm=>PN.bnd (fun s=>((),Xz Q7 s)) fun _=>PN.bnd (Jv (fun s=> !Xs s Yx) stB {md0 with name:=nm}) rdK:=rfl
end
theorem rat {L:List TX} {s:PS} (hs:s.l<:+L.map TX.t):RAt L s (L.length-s.l.length):=by
 have hl:=hs.length_le
 rw [Lw] at hl
 refine⟨by omega,fun h=>Lh.1 om,fun h=> ?_⟩
 cases hc:s.l with
 |nil=>rw [hc] at h;simp at h
 |cons t l=>
  rw [hc] at hl hs
  rw [Lc] at hl
  refine⟨l,?_,by rw [Lc];omega⟩
  obtain⟨p,hp⟩:=hs
  have hpl:p.length=L.length-(t::l).length:=by
   have:=congrArg List.length hp
   rw [La,Lw] at this
   omega
  have hlt:p.length<L.length:=by rw [Lc] at hpl;omega
  have hg:(L.map TX.t)[p.length]?=some t:=by rw [←hp,List.getElem?_append_right (Ac _)];simp
  rw [List.getElem?_map,Li hlt] at hg
  rw [←hpl,Lg,Li hlt]
  simp only [Option.map_some,Aa] at hg
  rw [Option.getD_some,hg]
theorem wdA (n:Nat):(Qc n).getD 0 0=n%4294967296:=by
 by_cases h:n=0
 ·subst h;rw [QC];rfl
 ·rw [X5 om];rfl
theorem wdB (n:Nat):(Qc n).getD 1 0=n/4294967296%4294967296:=by
 by_cases h:n=0
 ·subst h;rw [QC];rfl
 ·rw [X5 om]
  show(Qc (n/4294967296)).getD 0 0=_
  exact wdA _
theorem RD.q_nd {r:RD} {L:Nat} (hw:r.wf L):r.q.den=r.pd∧r.q.num=U5 r.ps r.pn:=by
 have hd:=RD.pd_ne hw
 have hg:(U5 r.ps r.pn).natAbs.gcd r.pd=1:=by
  rw [Ju]
  unfold RD.pn RD.pd
  cases hs:r.some with
  |true=>simp only [if_true];exact(RD.some_spec hw hs).2.2.2.2
  |false=>simp
 obtain⟨h1,h2⟩:=OV (n:=U5 r.ps r.pn) hd
 rw [hg] at h1 h2
 exact⟨by unfold RD.q sq;rw [h2];simp,by unfold RD.q sq;rw [h1];simp⟩
theorem QfH {s:BS} (hd:∀i,i<s.length→QE (XF s i)=true):fits (Yu s:Rat) (s.length+1):=by have:=JQ hd (Ac s.length);rwa [Lk] at this
theorem Qsx {s:BS} (h:QaH s=0):fits (Qh0 s) 500:=by
 unfold QaH at h
 split at h
 ·cases h
 ·rename_i h100
  split at h
  ·cases h
  ·rename_i hn
   have hn:QfD s=true:=by simpa using hn
   obtain⟨hf,h0⟩:=Qkq hn
   unfold Qh0
   by_cases hsl:XP 47 s<s.length
   ·rw [iP hsl]
    have hz:Yu (s.drop (XP 47 s+1))≠0:=fun e=>by rw [iP ⟨hsl,e⟩] at h;cases h
    cases hf with
    |all hh=>have:=(Qh3 hh).1;omega
    |two e he hm h1 h2=>
     rcases hm with hm|hm
     ·have:=(Qb7 he hm h1 h2).1;omega
     ·rw [Qb6 he hm h1] at hz⊢
      have f1:=QfH (O9 h1)
      have f2:=QfH (Qaa h2)
      exact YF (Qkp f1 f2 (by simpa using hz)) (by rw [List.length_take,List.length_drop];omega)
   ·rw [iN hsl]
    have key:(∀i,i<(s.take (XP 46 s)++s.drop (XP 46 s+1)).length→QE (XF (s.take (XP 46 s)++s.drop (XP 46 s+1)) i)=true):=by
     have app:∀(a b:BS),(∀i,i<a.length→QE (XF a i)=true)→(∀i,i<b.length→QE (XF b i)=true)→∀i,i<(a++b).length→QE (XF (a++b) i)=true:=fun a b hda hdb i hi=>by
      by_cases h:i<a.length
      ·have:=hda i h
       unfold XF at this⊢
       rw [Lg] at this⊢
       rwa [List.getElem?_append_left h]
      ·have:=hdb (i-a.length) (by rw [La] at hi;omega)
       unfold XF at this⊢
       rw [Lg] at this⊢
       rwa [List.getElem?_append_right om]
     cases hf with
     |all hh=>
      rw [(Qh3 hh).2,Lk,List.drop_of_length_le om]
      exact app _ _ hh fun i hi=>absurd hi (by simp)
     |two e he hm h1 h2=>
      rcases hm with hm|hm
      ·rw [(Qb7 he hm h1 h2).2];exact app _ _ (O9 h1) (Qaa h2)
      ·have:=Qb6 he hm h1;omega
    have f1:=QfH key
    have f2:fits ((10^(s.drop (XP 46 s+1)).length:Nat):Rat) ((s.drop (XP 46 s+1)).length+1):=QfE (QfF _) om
    exact YF (Qkp f1 f2 (Qko _)) (by rw [La,List.length_take,List.length_drop];omega)
theorem QnP (s:BS):(Qbe s).wf 500:=by
 unfold Qbe
 split
 ·rename_i h;exact UI (Qsx h)
 ·exact⟨fun x hx=>(by cases hx),fun x hx=>(by cases hx),Lz _,Lz _⟩
theorem Qvf (s:PS):(Ys s).1.wf 500:=by
 unfold Ys
 dsimp only
 split
 ·exact QnP _
 ·exact⟨fun x hx=>(by cases hx),fun x hx=>(by cases hx),Lz _,Lz _⟩
theorem Qvg {s:PS} {L:List TX} (hs:s.l<:+L.map TX.t) (h:Yc s 0=true):s.e=0∧L.length-s.l.length<L.length∧(L.getD (L.length-s.l.length) tx0).t.text=hdT s:=by
 have hr:=rat hs
 unfold Yc at h
 simp only [Ba,Dq] at h
 refine⟨h.1,?_⟩
 by_cases hl:L.length-s.l.length<L.length
 ·obtain⟨l,h1,_⟩:=hr.cons hl
  refine⟨hl,?_⟩
  have h2:hdT s=(L.getD (L.length-s.l.length) tx0).t.text:=Qb9 h1
  rw [h2]
 ·have:=hr.nil hl
  rw [this] at h
  simp at h
def gtV (k:Option Int) (s:PS):Int×PS:=if k=some 2 then ZV s else(0,s)
def gtD (k:Option Int) (s:PS):RD×PS:=if k=some 7 then Ys (gtV k s).2 else(rd0,(gtV k s).2)
theorem Qvh (k:Option Int) (s:PS):(gtD k s).2.l<:+s.l:=by
 have h1:(gtV k s).2.l<:+s.l:=by
  unfold gtV;split
  ·exact WN.suf s
  ·exact List.suffix_refl _
 unfold gtD;split
 ·exact(Zx.suf _).trans h1
 ·exact h1
theorem Uq {L:List TX} {s:PS} (hs:s.l<:+L.map TX.t):(XB s).2.l<:+L.map TX.t:=(XM.suf s).trans hs
theorem QnQ {s:PS} {k:Nat} (h:Yc s k=true):s.e=0:=by
 unfold Yc at h
 simp only [Ba,Dq] at h
 exact h.1
def svL (seen:List BS):List (BS×Value):=seen.reverse.map fun k=>(k,.bool true)
theorem WO (k:BS) (seen:List BS):svL (k::seen)=svL seen++[(k,.bool true)]:=by unfold svL;simp
theorem Qg3 (a:BS):∀(l:List (BS×Value)) (k:BS) (v:Value),Ya a (l++[(k,v)])=(match Ya a l with|some x=>some x|none=>if a=k then some v else none)
 |[],k,v=>rfl
 |p::l,k,v=>by
  show(if a=p.1 then some p.2 else Ya a (l++[(k,v)]))=(match (if a=p.1 then some p.2 else Ya a l) with|some x=>some x|none=>_)
  by_cases h:a=p.1
  ·rw [iP h,iP h]
  ·rw [iN h,iN h];exact Qg3 a l k v
theorem KU (a:BS):∀seen:List BS,Ya a (svL seen)=if seen.contains a then some (.bool true) else none
 |[]=>rfl
 |k::seen=>by
  rw [WO,Qg3,KU a seen,List.contains_cons]
  by_cases h:seen.contains a=true
  ·rw [iP h,h];simp
  ·have h':seen.contains a=false:=by simpa using h
   rw [h']
   by_cases e:a=k
   ·subst e;simp
   ·have:(a==k)=false:=by simpa using e
    rw [this];simp [e]
theorem U3 {s:PS} {w:BS} (h:Xs s w=true):s.e=0∧∃t l,s.l=t::l∧t.kind≠1∧t.text=w:=by
 unfold Xs at h
 simp only [Ba,Dq] at h
 refine⟨h.1,?_⟩
 cases hl:s.l with
 |nil=>rw [hl] at h;simp at h
 |cons t l=>
  rw [hl] at h
  simp at h
  exact⟨t,l,rfl,h.2.1,h.2.2⟩
theorem QyP {s:PS} {t:TK} {l':List TK} (seen:List BS) (x:X3) (e0:s.e=0) (hl:s.l=t::l') (hk:t.kind≠1) (ht:t.text=kP):evB (seen,x) s=if seen.contains kP=true then((seen,x),YM 6 s) else((kP::seen,{x with p:=(Ys ⟨l',0⟩).1}),(Ys ⟨l',0⟩).2):=by
 have hi:∀w,Xs s w=(t.text==w):=fun w=>by rw [VJ e0 hl,bne_iff_ne.2 hk,Bool.true_and]
 unfold evB
 rw [hi,hi,hi,hi,Qb9 hl,ht]
 dsimp only
 rw [Xo e0 hl,ht]
 rfl
theorem Qsy {s:PS} {t:TK} {l':List TK} (seen:List BS) (x:X3) (e0:s.e=0) (hl:s.l=t::l') (hk:t.kind≠1) (ht:t.text=kFail):evB (seen,x) s=if seen.contains kFail=true then((seen,x),YM 6 s) else((kFail::seen,{x with fail:=(Ys ⟨l',0⟩).1}),(Ys ⟨l',0⟩).2):=by
 have hi:∀w,Xs s w=(t.text==w):=fun w=>by rw [VJ e0 hl,bne_iff_ne.2 hk,Bool.true_and]
 unfold evB
 rw [hi,hi,hi,hi,Qb9 hl,ht]
 dsimp only
 rw [Xo e0 hl,ht]
 rfl
theorem Qvi {s:PS} {t:TK} {l':List TK} (seen:List BS) (x:X3) (e0:s.e=0) (hl:s.l=t::l') (hk:t.kind≠1) (ht:t.text=kRepair):evB (seen,x) s=if seen.contains kRepair=true then((seen,x),YM 6 s) else((kRepair::seen,{x with rep:=(Ys ⟨l',0⟩).1}),(Ys ⟨l',0⟩).2):=by
 have hi:∀w,Xs s w=(t.text==w):=fun w=>by rw [VJ e0 hl,bne_iff_ne.2 hk,Bool.true_and]
 unfold evB
 rw [hi,hi,hi,hi,Qb9 hl,ht]
 dsimp only
 rw [Xo e0 hl,ht]
 rfl
theorem Qsz {s:PS} {t:TK} {l':List TK} (seen:List BS) (x:X3) (e0:s.e=0) (hl:s.l=t::l') (hk:t.kind≠1) (ht:t.text=kCost):evB (seen,x) s=if seen.contains kCost=true then((seen,x),YM 6 s) else((kCost::seen,{x with cost:=(ZV ⟨l',0⟩).1}),(ZV ⟨l',0⟩).2):=by
 have hi:∀w,Xs s w=(t.text==w):=fun w=>by rw [VJ e0 hl,bne_iff_ne.2 hk,Bool.true_and]
 unfold evB
 rw [hi,hi,hi,hi,Qb9 hl,ht]
 dsimp only
 rw [Xo e0 hl,ht]
 rfl
theorem Qxi {s:PS} (seen:List BS) (x:X3) (h0:Xs s kP=false) (h1:Xs s kFail=false) (h2:Xs s kRepair=false) (h3:Xs s kCost=false):evB (seen,x) s=((((QZ false s).1::seen,x),(QZ false s).2)):=by
 unfold evB
 rw [h0,h1,h2,h3]
 have ht:(QZ false s).1=[]:=by
  unfold QZ
  split
  ·split<;>rfl
  ·rfl
 dsimp only
 rw [show(false||false||false||false)=false from rfl,ht]
 rfl
theorem Qxj (s:PS) (e0:s.e=0):(QZ false s).1=[]∧(QZ false s).2.e≠0:=by
 cases hl:s.l with
 |nil=>rw [Qks e0 hl];exact⟨rfl,by simp⟩
 |cons t l=>rw [Xo e0 hl];exact⟨rfl,by simp⟩
end Go.PN
namespace Go.Proofs.YtngjgahldnnapaaGreatDoor
open Go.AI Go.PN Proofs.Tryz
attribute [local irreducible] aw Fa ZN ZZ Fh YE
theorem Qp6 (l:BS) (hl:l.length≤1099511627776):Fh prog 166 [] [.c (.str (sB l))] (fun x h=>h=[]∧∃out:List TX,out.map TX.t=(XU l).2∧x=.tup [.c (txs true out),.c (Y2 (XU l).1)]):=by
 refine fH func166 fun C hC=>?_
 repeat' first|refine zV o0 ?_|refine zH o0 ?_ ?_<;>intro hb|fail
 ·refine Zs (t:=2) (v:=.c (txs true [])) (fun S w u hr=>XS hr) rfl ?_
  refine xS ?_
  refine xU ?_
  unfold XU
  rw [iP om]
  exact⟨rfl,[],rfl,rfl⟩
 generalize hS:Yw l l.length 0 []=S
 have hS':XU l=S:=by unfold XU;rw [iN om];exact hS
 rw [hS']
 refine Qh (fun x:Nat×Option Nat×Nat×List TX×Int×Int=>[(0,.c (.str (sB l))),(4,.c (gs x.2.1 5 x.2.2.1)),(5,.c (.int .i64 x.2.2.2.2.1)),(6,.c (.int .i64 x.2.2.2.2.2)),(7,.c (.int .i64 x.1))]) (fun x=>gh x.2.1 225 (x.2.2.1*5) (QeJ x.2.2.2.1))
  (fun x=>x.1≤l.length∧(x.2.1=none→x.2.2.1=0)∧x.2.2.1≤x.1∧x.2.2.2.1.length=x.2.2.1∧0≤x.2.2.2.2.1∧x.2.2.2.2.1≤x.1+1∧0≤x.2.2.2.2.2∧x.2.2.2.2.2≤x.1∧Yw l (l.length-x.1) x.1 (x.2.2.2.1.map TX.t)=S) (fun x=>l.length-x.1) (0,none,0,[],1,0) eB (by simp only [gh];exact Lr _) ⟨Lz _,fun _=>rfl,Lz _,rfl,by decide,by decide,by decide,by decide,hS⟩ ?_
 rintro ⟨i,og,n,out,line,start⟩ ⟨hi,hog,hol,hn,hl0,hl1,hs0,hs1,hsp⟩
 dsimp only at hi hog hol hn hl0 hl1 hs0 hs1 hsp⊢
 have e1:=VC Yp l i
 have e2:=WM (p:=Yp) hi
 have e3:=Qu6 l i
 have e4:=Qnx hi
 repeat' first|refine zV o0 ?_|(refine yC2 o0 (QnB _ ?_) ?_;· exact QcI l _)|(refine yD2 o0 (QnB _ ?_) ?_;· exact QcI l _)|refine yQ o0 (QhD _) ?_|refine yQ o0 (UL _) ?_|(refine yC2 o0 (QnA _ ?_) ?_;· exact QcI l _)|(refine yD2 o0 (QnA _ ?_) ?_;· exact QcI l _)|(refine yC2 o0 (QeI l i hl ?_) ?_;· omega)|(refine yD2 o0 (QeI l i hl ?_) ?_;· omega)|(refine yC2 o0 (QhZ l i hl ?_) ?_;· omega)|(refine yD2 o0 (QhZ l i hl ?_) ?_;· omega)|refine zH o0 ?_ ?_<;>intro hb|fail
 ·rename_i hi' hk
  refine Qb ⟨(i+1,og,n,out,line+1,i+1),by dsimp only;omega,eB,Lr _,by dsimp only;omega,hog,by dsimp only;omega,hn,by dsimp only;omega,by dsimp only;omega,by dsimp only;omega,by dsimp only;omega,Qbf hsp hi' (QgW hk)⟩
 ·rename_i hi' hk
  refine Qb ⟨(i+1,og,n,out,line,start),by dsimp only;omega,eB,Lr _,by dsimp only;omega,hog,by dsimp only;omega,hn,by dsimp only;omega,by dsimp only;omega,by dsimp only;omega,by dsimp only;omega,Qbf hsp hi' (QgW hk)⟩
 ·rename_i hi' hk
  have h35:=hb
  have hq:=Qbf hsp hi' (QgX hk h35)
  have g1:=(Oe hi' (QgX hk h35))
  generalize hE:Xx (fun b=>b !=10) l i=e at hq g1
  refine Qh (fun x:Nat=>[(0,.c (.str (sB l))),(4,.c (gs og 5 n)),(5,.c (.int .i64 line)),(6,.c (.int .i64 start)),(7,.c (.int .i64 x))]) (fun _=>gh og 225 (n*5) (QeJ out)) (fun x=>i≤x∧x≤l.length∧Xx (fun b=>b !=10) l x=e) (fun x=>l.length-x) i eB zZ ⟨Ac _,hi,hE⟩ ?_
  rintro x ⟨hx0,hx,hxe⟩
  repeat' first|refine zV o0 ?_|refine zH o0 ?_ ?_<;>intro hb|fail
  ·rename_i hx1
   have hx2:=hb
   refine Qb ⟨x+1,by omega,eB,Lr _,by omega,by omega,?_⟩
   rw [←Vf hx1 (by simpa using hx2)];exact hxe
  ·rename_i hx1
   have hx2:=hb
   have:x=e:=by rw [←hxe,OX hx1 (by simpa using hx2)]
   subst this
   exact Qb ⟨(x,og,n,out,line,start),by dsimp only;omega,eB,Lr _,by dsimp only;omega,hog,by dsimp only;omega,hn,by dsimp only;omega,by dsimp only;omega,by dsimp only;omega,by dsimp only;omega,hq⟩
  ·have hx1:=hb
   have:x=e:=by rw [←hxe,Wu om]
   subst this
   exact Qb ⟨(x,og,n,out,line,start),by dsimp only;omega,eB,Lr _,by dsimp only;omega,hog,by dsimp only;omega,hn,by dsimp only;omega,by dsimp only;omega,by dsimp only;omega,by dsimp only;omega,hq⟩
 ·rename_i hi' hk h35 hlt
  have hc:=JP hsp hi' (by rw [Qc8 hk h35 hlt,iP om])
  refine QM (h':=[]) (fun t=>.inr rfl) (List.nil_sublist _) ?_
  refine Zs (t:=2) (v:=.c (txs true [])) (fun S w u hr=>XS hr) rfl ?_
  refine xS ?_
  refine xU ?_
  rw [hc]
  exact⟨rfl,[],rfl,rfl⟩
 ·rename_i hi' hk h35 hlt
  have hp:=Qay hsp hi' (k:=0) (e:=Xx Yp l i) (by rw [Qc8 hk h35 hlt,iN om]) (i:Int) line ((i:Int)-start+1)
  have hp2:=V3 (k:=0) (e:=Xx Yp l i) hi' (by rw [Qc8 hk h35 hlt,iN om])
  refine QX (pre:=[]) rfl rfl rfl rfl rfl rfl rfl eE eE (by rfl) om om eE om (by exact hog) eE (by rfl) (by rfl) qb qc om (by exact Za hn (⟨⟨0,VN l i (Xx Yp l i)⟩,i,line,(i:Int)-start+1⟩:TX) om) fun g n_=> ?_
  replace n_:=Qa.ne_of n_
  first|dsimp only [Qa.ne,gh] at n_|dsimp only [Qa.ne] at n_|skip
  refine yS n_ ?_
  refine zA n_ ?_
  exact Qb ⟨(Xx Yp l i,some g,n+1,out++[⟨⟨0,VN l i (Xx Yp l i)⟩,i,line,(i:Int)-start+1⟩],line,start),by dsimp only;omega,(zB n_),Lr _,by dsimp only;omega,XJ,by dsimp only;omega,by dsimp only;rw [La,hn];rfl,by dsimp only;omega,by dsimp only;omega,by dsimp only;omega,by dsimp only;omega,hp⟩
 ·rename_i hi' hk h35 hlt hdg hnl
  have hc:=JP hsp hi' (by rw [V4 hk h35 hlt hdg,iP ⟨hnl,.inl (QgU hb)⟩])
  refine QM (h':=[]) (fun t=>.inr rfl) (List.nil_sublist _) ?_
  refine Zs (t:=2) (v:=.c (txs true [])) (fun S w u hr=>XS hr) rfl ?_
  refine xS ?_
  refine xU ?_
  rw [hc]
  exact⟨rfl,[],rfl,rfl⟩
 ·rename_i hi' hk h35 hlt hdg hnl h1
  have hc:=JP hsp hi' (by rw [V4 hk h35 hlt hdg,iP ⟨hnl,.inl (by unfold Yp;rw [hb];simp)⟩])
  refine QM (h':=[]) (fun t=>.inr rfl) (List.nil_sublist _) ?_
  refine Zs (t:=2) (v:=.c (txs true [])) (fun S w u hr=>XS hr) rfl ?_
  refine xS ?_
  refine xU ?_
  rw [hc]
  exact⟨rfl,[],rfl,rfl⟩
 ·rename_i hi' hk h35 hlt hdg hnl h1 h2
  have hc:=JP hsp hi' (by rw [V4 hk h35 hlt hdg,iP ⟨hnl,.inl (by unfold Yp;rw [hb];simp)⟩])
  refine QM (h':=[]) (fun t=>.inr rfl) (List.nil_sublist _) ?_
  refine Zs (t:=2) (v:=.c (txs true [])) (fun S w u hr=>XS hr) rfl ?_
  refine xS ?_
  refine xU ?_
  rw [hc]
  exact⟨rfl,[],rfl,rfl⟩
 ·rename_i hi' hk h35 hlt hdg hnl h1 h2 h3
  have hc:=JP hsp hi' (by rw [V4 hk h35 hlt hdg,iP ⟨hnl,.inr hb⟩])
  refine QM (h':=[]) (fun t=>.inr rfl) (List.nil_sublist _) ?_
  refine Zs (t:=2) (v:=.c (txs true [])) (fun S w u hr=>XS hr) rfl ?_
  refine xS ?_
  refine xU ?_
  rw [hc]
  exact⟨rfl,[],rfl,rfl⟩
 ·rename_i hi' hk h35 hlt hdg hnl h1 h2 h3
  have hp:=Qay hsp hi' (k:=1) (e:=VD l i) (by rw [V4 hk h35 hlt hdg,iN (fun z=>z.2.elim (Qsk h1 (QnC hnl) h2 h3) hb)]) (i:Int) line ((i:Int)-start+1)
  have hp2:=V3 (k:=1) (e:=VD l i) hi' (by rw [V4 hk h35 hlt hdg,iN (fun z=>z.2.elim (Qsk h1 (QnC hnl) h2 h3) hb)])
  refine QX (pre:=[]) rfl rfl rfl rfl rfl rfl rfl eE eE (by rfl) om om eE om (by exact hog) eE (by rfl) (by rfl) qb qc om (by exact Za hn (⟨⟨1,VN l i (VD l i)⟩,i,line,(i:Int)-start+1⟩:TX) om) fun g n_=> ?_
  replace n_:=Qa.ne_of n_
  first|dsimp only [Qa.ne,gh] at n_|dsimp only [Qa.ne] at n_|skip
  refine yS n_ ?_
  refine zA n_ ?_
  exact Qb ⟨(VD l i,some g,n+1,out++[⟨⟨1,VN l i (VD l i)⟩,i,line,(i:Int)-start+1⟩],line,start),by dsimp only;omega,(zB n_),Lr _,by dsimp only;omega,XJ,by dsimp only;omega,by dsimp only;rw [La,hn];rfl,by dsimp only;omega,by dsimp only;omega,by dsimp only;omega,by dsimp only;omega,hp⟩
 ·rename_i hi' hk h35 hlt hdg
  have hp:=Qay hsp hi' (k:=1) (e:=VD l i) (by rw [V4 hk h35 hlt hdg,iN (fun z=>hb z.1)]) (i:Int) line ((i:Int)-start+1)
  have hp2:=V3 (k:=1) (e:=VD l i) hi' (by rw [V4 hk h35 hlt hdg,iN (fun z=>hb z.1)])
  refine QX (pre:=[]) rfl rfl rfl rfl rfl rfl rfl eE eE (by rfl) om om eE om (by exact hog) eE (by rfl) (by rfl) qb qc om (by exact Za hn (⟨⟨1,VN l i (VD l i)⟩,i,line,(i:Int)-start+1⟩:TX) om) fun g n_=> ?_
  replace n_:=Qa.ne_of n_
  first|dsimp only [Qa.ne,gh] at n_|dsimp only [Qa.ne] at n_|skip
  refine yS n_ ?_
  refine zA n_ ?_
  exact Qb ⟨(VD l i,some g,n+1,out++[⟨⟨1,VN l i (VD l i)⟩,i,line,(i:Int)-start+1⟩],line,start),by dsimp only;omega,(zB n_),Lr _,by dsimp only;omega,XJ,by dsimp only;omega,by dsimp only;rw [La,hn];rfl,by dsimp only;omega,by dsimp only;omega,by dsimp only;omega,by dsimp only;omega,hp⟩
 ·rename_i hi' hk h35 hlt hdg
  have hp:=Qay hsp hi' (k:=2) (e:=i+1) (by rw [Qc9 hk h35 hlt hdg,hb];rfl) (i:Int) line ((i:Int)-start+1)
  have hp2:=V3 (k:=2) (e:=i+1) hi' (by rw [Qc9 hk h35 hlt hdg,hb];rfl)
  refine QX (pre:=[]) rfl rfl rfl rfl rfl rfl rfl eE eE (by rfl) om om eE om (by exact hog) eE (by rfl) (by rfl) qb qc om (by exact Za hn (⟨⟨2,VN l i (i+1)⟩,i,line,(i:Int)-start+1⟩:TX) om) fun g n_=> ?_
  replace n_:=Qa.ne_of n_
  first|dsimp only [Qa.ne,gh] at n_|dsimp only [Qa.ne] at n_|skip
  refine yS n_ ?_
  refine zA n_ ?_
  exact Qb ⟨(i+1,some g,n+1,out++[⟨⟨2,VN l i (i+1)⟩,i,line,(i:Int)-start+1⟩],line,start),by dsimp only;omega,(zB n_),Lr _,by dsimp only;omega,XJ,by dsimp only;omega,by dsimp only;rw [La,hn];rfl,by dsimp only;omega,by dsimp only;omega,by dsimp only;omega,by dsimp only;omega,hp⟩
 ·rename_i hi' hk h35 hlt hdg
  have hc:=JP hsp hi' (by rw [Qc9 hk h35 hlt hdg,hb];rfl)
  refine QM (h':=[]) (fun t=>.inr rfl) (List.nil_sublist _) ?_
  refine Zs (t:=2) (v:=.c (txs true [])) (fun S w u hr=>XS hr) rfl ?_
  refine xS ?_
  refine xU ?_
  rw [hc]
  exact⟨rfl,[],rfl,rfl⟩
 ·have hc:=QpY hsp hb
  rw [show gh og 225 (n*5) (QeJ out)=gh og 225 (n*5) (QeJ out)++[] from(Lp _).symm]
  refine Vw (t:=2) (n':=out.length) (f':=QeJ out) hog hn.symm eE (fun g _ h=>by simpa [Qa.keys] using (hC g).1 h) (fun _ _=>rfl) rfl ?_
  refine xS ?_
  refine xU ?_
  rw [hc]
  exact⟨rfl,out,rfl,rfl⟩
theorem QnR (a b:RD) (ha:a.wf 1073741824) (hb:b.wf 1073741824) (hz:b.q≠0):Fa prog 374 [.agg (Y1 a),.agg (Y1 b)] (.tup [.agg (Y1 (rd (a.q/b.q))),.c .nilI]):=by
 obtain⟨l1,l2⟩:=RD.p_len ha om
 obtain⟨l3,l4⟩:=RD.p_len hb om
 have dd:a.pd*b.pn≠0:=Nat.mul_ne_zero (RD.pd_ne ha) (RD.pn_ne hz)
 have m1:=XR a.pn b.pd
 have m3:=XR a.pd b.pn
 have hl:(((Qc b.pn).length:Int)==0)=false:=by
  rw [beq_eq_false_iff_ne]
  intro e
  exact RD.pn_ne hz (Xl.1 (Lh.1 om))
 refine fA func374 fun C hC=>?_
 refine yG hl ?_
 refine yB hl fun g2 n_2=>?_
 refine yB (oj hl n_2) fun g3 n_3=>?_
 refine yA (oj hl (oj n_2 n_3)) fun g4 n_4=>?_
 have J1:=oj hl (oj n_2 (oj n_3 n_4))
 refine yG J1 ?_
 refine yC J1 (Zg a ha) ?_
 refine yG J1 ?_
 refine yC J1 (Zg b hb) ?_
 refine yG J1 ?_
 refine yN J1 ?_
 refine yG J1 ?_
 refine yC J1 (QlZ _ _ ?_ ?_) ?_
 ·omega
 ·omega
 refine yG J1 ?_
 refine yC J1 (QlZ _ _ ?_ ?_) ?_
 ·omega
 ·omega
 refine yG J1 ?_
 refine yC J1 (Wp _ _ _ ?_ ?_ dd) ?_
 ·omega
 ·omega
 rw [QyO hb hz]
 refine Kz hC J1 ?_
 exact .tup ⟨.agg UJ,.c .nilI,trivial⟩
theorem Qp7 (a b:RD) (ha:a.wf 1073741824) (hb:b.wf 1073741824) (hz:b.q=0):Fa prog 374 [.agg (Y1 a),.agg (Y1 b)] (.tup [.agg (Y1 rd0),.c (Y2 8)]):=by
 have hp:b.pn=0:=Classical.byContradiction fun h=>QvN h (RD.pd_ne hb) hz
 have hl:(((Qc b.pn).length:Int)==0)=true:=by rw [hp,QC];rfl
 refine fA func374 fun C hC=>?_
 refine yG hl ?_
 refine yB hl fun g2 n_2=>?_
 refine yB (oj hl n_2) fun g3 n_3=>?_
 refine yA (oj hl (oj n_2 n_3)) fun g4 n_4=>?_
 have J1:=oj hl (oj n_2 (oj n_3 n_4))
 refine yG J1 ?_
 refine yC J1 (Zg a ha) ?_
 refine yG J1 ?_
 refine yC J1 (Zg b hb) ?_
 refine yG J1 ?_
 refine yP J1 ?_
 refine Kz hC J1 ?_
 exact .tup ⟨.agg ⟨.bool _,.nils,.nils,trivial⟩,.c (Ws rfl Af),trivial⟩
theorem Qxk (n:Nat):decide (Q8 n>63)= !decide (n<9223372036854775808):=by
 by_cases h:n<9223372036854775808
 ·have:=Qam (x:=n) (k:=63) om
  rw [Dt h,De om];rfl
 ·have h1:=KD (x:=n) (k:=63) om
  have h2:Q8 (n/2^63)≠0:=fun e=>by
   have:=UH.1 e
   omega
  rw [De h,Dt om];rfl
theorem Qxl {n:Nat} (h:n<9223372036854775808):XE .i64 (orZ .u64 ((n%4294967296:Nat):Int) (Qod .u64 ((n/4294967296%4294967296:Nat):Int) 32))=(n:Int):=by
 rw [VO _ om,WZ _ _ om om]
 rw [QN,XV (by simp only [XH];omega)]
 omega
theorem Qvj (n:Nat) (hn:(Qc n).length≤68719476736):Fa prog 377 [.c (ws false (Qc n))] (.tup [.c (.int .i64 (if n<9223372036854775808 then n else 0)),.c (.bool (decide (n<9223372036854775808)))]):=by
 have h1:=QvP n hn
 have h2:=KQ (Qc n) 0 (Qr _)
 have h3:=KQ (Qc n) 1 (Qr _)
 rw [wdA] at h2
 rw [wdB] at h3
 have hb:=Qxk n
 by_cases h:n<9223372036854775808
 ·have hj:=Qxl h
  rw [iP h,Dt h]
  rw [Dt h] at hb
  refine fA func377 fun C hC=>?_
  refine zA3 (oj hb hj) h1 h2 h3 ?_
  refine yT hC (oj hb hj) ?_
  exact .tup ⟨.c (.int _ _),.c (.bool _),trivial⟩
 ·rw [iN h,De h]
  rw [De h] at hb
  refine fA func377 fun C hC=>?_
  refine zA3 hb h1 h2 h3 ?_
  refine yT hC hb ?_
  exact .tup ⟨.c (.int _ _),.c (.bool _),trivial⟩
theorem QsA (a b:Nat):ZQ a b=0↔a=b:=by unfold ZQ;split<;>(try split)<;>omega
theorem Qvk {r:RD} {L:Nat} (hw:r.wf L):QpX r.q=if r.pd=1∧ -9223372036854775808≤U5 r.ps r.pn∧U5 r.ps r.pn≤9223372036854775807 then some (U5 r.ps r.pn) else none:=by
 obtain⟨h1,h2⟩:=RD.q_nd hw
 unfold QpX
 rw [h1,h2]
theorem Qvl (r:RD) (hw:r.wf 1073741824):Fa prog 348 [.agg (Y1 r)] (.tup [.c (.int .i64 ((QpX r.q).getD 0)),.c (.bool (QpX r.q).isSome)]):=by
 obtain⟨l1,l2⟩:=RD.p_len hw om
 rw [Qvk hw]
 have h1:=Zg r hw
 have h2:=QcD
 have h3:=QtD r.pd 1 om (by rw [KE];simp)
 rw [KE] at h3
 have h4:=Qi0 (-9223372036854775808) om om
 have h5:=QtD r.pn 9223372036854775808 om (Lt (UK om) om)
 have h6:=Qvj r.pn om
 have hn:∀n:Nat,n<9223372036854775808→XE .i64 (0-(n:Int))= -(n:Int):=fun n hn=>QmN om om
 unfold Qhq at h1
 generalize r.pd=d at*
 generalize r.pn=n at*
 generalize r.ps=p at*
 refine fA func348 fun C hC=>?_
 refine zA o0 ?_
 refine xB fun g1 n_1=>?_
 repeat' first|refine zV n_1 ?_|refine yQ n_1 h1 ?_|refine yQ n_1 h2 ?_|refine yQ n_1 h3 ?_|refine yQ n_1 h4 ?_|refine yQ n_1 h5 ?_|refine yQ n_1 h6 ?_|refine zH n_1 ?_ ?_<;>intro hb|fail
 all_goals
  refine yT hC n_1 ?_
  clear h1 h2 h3 h4 h5 h6
  refine .tup ⟨.c (Qo ?_),.c (Qp ?_),trivial⟩
  all_goals
   simp only [ne_eq,QsA] at*
   first
    |(exfalso;simp_all;done)
    |(try subst_vars
      try simp only [Bool.not_eq_true',Bool.not_eq_false',decide_eq_false_iff_not,Dq] at*
      unfold U5
      try rw [hn _ (by split<;>omega)]
      (repeat' split)<;>simp_all<;>omega)
end Go.Proofs.YtngjgahldnnapaaGreatDoor
namespace Go.Proofs.YtngjgahldnnapaaGreatDoor
open Go.AI Go.PN Proofs.Tryz
theorem QfI:∀j,j<3→∀(S:Bool→Nat→Prop) w u,XX S w (ofL [.bool false,.nils,.nils] j) u→XX S w (ofL (Y1 rd0) j) u:=fun j hj S w u hr=>by
 match j,hj with
 |0,_=>exact hr
 |1,_=>exact XS hr
 |2,_=>exact XS hr
attribute [local irreducible] aw Fa ZN ZZ Fh YE
theorem Qdb (s:BS) (hd:∀i,i<s.length→QE (XF s i)=true) (hl:s.length≤1000):Fa prog 375 [.c (.str (sB s))] (.agg (Y1 (rd (Yu s:Rat)))):=by
 refine fA func375 fun C hC=>?_
 refine zA o0 ?_
 refine xA fun g2 n_2=>?_
 refine zA n_2 ?_
 refine yA n_2 fun g3 n_3=>?_
 refine zA (oj n_2 n_3) ?_
 refine Wt (f':=ofL (Y1 rd0)) QfI ?_
 refine Qh (fun x:Nat=>[(0,.c (.str (sB s))),(2,.c (.optr g2 0)),(3,.c (.optr g3 0)),(7,.c (.int .i64 s.length)),(8,.c (.int .i64 x))]) (fun x=>[(g3,.cells 77 3 (ofL (Y1 (rd (Yu (s.take x):Rat))))),(g2,.cells 77 3 (ofL [.bool false,.nils,.nils]))]) (fun x=>x≤s.length) (fun x=>s.length-x) 0 (zB (oj n_2 n_3)) (by rw [show rd (Yu (s.take 0):Rat)=rd0 from rd_zero];exact Lr _) (Lz _) ?_
 rintro x hx
 all_goals try(have Z:=(oj n_2 n_3);(repeat' first|refine zV Z ?_|refine zH Z ?_ ?_<;>intro hb|fail);all_goals clear Z)
 ·have hdx:=hd x hb
  have hx':=Ql0 hdx
  have w0:(rd (Yu (s.take x):Rat)).wf 1073741824:=UI (YF (JQ hd hx) om)
  have h10:=QeC 10 om om
  have w1:(rd ((10:Int):Rat)).wf 1073741824:=UI (YF (L:=1) ⟨by decide,by decide⟩ om)
  have hm:=Qny _ _ w0 w1
  have w2:(rd ((Yu (s.take x):Rat)*((10:Int):Rat))).wf 1073741824:=UI (YF (Qkm (JQ hd hx) (L:=x+1) (M:=1) ⟨by decide,by decide⟩) om)
  rw [Ow,Ow] at hm
  have hs:=QeC (((XF s x:Nat):Int)-48) om om
  have w3:(rd ((((XF s x:Nat):Int)-48:Int):Rat)).wf 1073741824:=UI (YF (Qv4 om) om)
  have ha:=Qu7 _ _ w2 w3
  rw [Ow,Ow,Qxg hb hdx] at ha
  refine Xv 10 Qg kR ?_
  refine zA4 (oj n_2 n_3) h10 hm hs ha ?_
  exact Qb ⟨x+1,by omega,(zB (oj n_2 n_3)),Lr _,by omega⟩
 ·refine yT hC (oj n_2 n_3) ?_
  obtain rfl:x=s.length:=by omega
  rw [Lk]
  exact .one (.agg UJ)
abbrev rdA (L:List TX) (a:Nat) (e:Int):XD:=.cells 173 3 (ofL [txs true L,.int .i64 a,Y2 e])
abbrev Ye (L:List TX) (s:PS):XD:=rdA L (L.length-s.l.length) s.e
theorem VE (g:Nat) (L:List TX) (s:PS) (w:BS) (hs:s.l<:+L.map TX.t) (hL:L.length≤1099511627776):Fg prog 109 g (Ye L s) [.c (.optr g 0),.c (.str (sB w))] (.c (.bool (Xs s w))) (Ye L s):=by
 have h:=rat hs
 generalize ha:L.length-s.l.length=a at h
 have hle:=h.le
 unfold Fg
 rw [show Ye L s=rdA L a s.e from by unfold Ye;rw [ha]]
 refine fH func109 fun C hC=>?_
 refine zA o0 ?_
 refine Xv 47 Qg kR ?_
 repeat' first|refine zV o0 ?_|refine zH o0 ?_ ?_<;>intro hb|fail
 all_goals
  refine xU ?_
  refine⟨?_,rfl⟩
 ·rename_i h0 h1
  obtain⟨l',hl,_⟩:=h.cons h1
  rw [VJ h0 hl,bne_iff_ne.2 hb,Bool.true_and]
 ·rename_i h0 h1
  obtain⟨l',hl,_⟩:=h.cons h1
  rw [VJ h0 hl,hb];rfl
 ·rw [Qxh (h.nil hb)]
 ·rw [show Xs s w=false from by unfold Xs;simp [hb]]
theorem Qcc (g:Nat) (L:List TX) (s:PS) (k:Nat) (hs:s.l<:+L.map TX.t) (hL:L.length≤1099511627776):Fg prog 168 g (Ye L s) [.c (.optr g 0),.c (.int .i64 k)] (.c (.bool (Yc s k))) (Ye L s):=by
 have h:=rat hs
 generalize ha:L.length-s.l.length=a at h
 have hle:=h.le
 unfold Fg
 rw [show Ye L s=rdA L a s.e from by unfold Ye;rw [ha]]
 refine fH func168 fun C hC=>?_
 refine zA o0 ?_
 refine Xv 33 Qg kR ?_
 repeat' first|refine zV o0 ?_|refine zH o0 ?_ ?_<;>intro hb|fail
 all_goals
  refine xU ?_
  refine⟨?_,rfl⟩
 ·rename_i h0
  obtain⟨l',hl,_⟩:=h.cons hb
  rw [Qp0 h0 hl]
 ·rw [Qss (h.nil hb)]
 ·rw [show Yc s k=false from by unfold Yc;simp [hb]]
theorem QnS {c:Int} (h:c≠0):Y2 c=.ifc 49 (.int .i64 c):=by unfold Y2 Wr;rw [iN h]
theorem JE (g:Nat) (L:List TX) (s:PS) (c:Int) (hc:c≠0):Fg prog 175 g (Ye L s) [.c (.optr g 0),.c (.ifc 49 (.int .i64 c))] (.tup []) (Ye L (YM c s)):=by
 generalize ha:L.length-s.l.length=a
 unfold Fg
 rw [show Ye L s=rdA L a s.e from by unfold Ye;rw [ha]]
 refine fH func175 fun C hC=>?_
 repeat' first|refine zV o0 ?_|refine zH o0 ?_ ?_<;>intro hb|fail
 ·refine xV ?_
  refine⟨rfl,?_⟩
  unfold YM
  rw [iP hb]
  show _=[(g,XD.cells 173 3 (ofL [txs true L,.int .i64 (L.length-s.l.length:Nat),Y2 c]))]
  rw [ha,QnS hc]
 ·refine xV ?_
  refine⟨rfl,?_⟩
  unfold YM
  rw [iN hb,←ha]
theorem QfJ {L:List TX} {s:PS} {a:Nat} (ha:L.length-s.l.length=a):Ye L s=rdA L a s.e:=by unfold Ye;rw [ha]
theorem YO (g:Nat) (L:List TX) (s:PS) (m:Bool) (hs:s.l<:+L.map TX.t) (hL:L.length≤1099511627776):Fg prog 167 g (Ye L s) [.c (.optr g 0),.c (.bool m)] (.c (.str (sB (QZ m s).1))) (Ye L (QZ m s).2):=by
 have h:=rat hs
 have f1:=JE g L s 20 Af
 have f2:=JE g L s 2 Af
 generalize ha:L.length-s.l.length=a at h
 have hle:=h.le
 unfold Fg
 rw [QfJ ha]
 rw [QfJ ha] at f1 f2
 refine fH func167 fun C hC=>?_
 repeat' first|refine zV o0 ?_|refine yQ o0 f1 ?_|refine yQ o0 f2 ?_|refine zH o0 ?_ ?_<;>intro hb|fail
 ·have h0:s.e≠0:=by simpa using hb
  have ht:QZ m s=([],s):=by unfold QZ;rw [iN h0]
  refine xU ?_
  rw [ht,←QfJ ha]
  exact⟨rfl,rfl⟩
 have h0:s.e=0:=by simpa using hb
 refine Xv 11 Qg kR ?_
 repeat' first|refine zV o0 ?_|refine yQ o0 f1 ?_|refine yQ o0 f2 ?_|refine zH o0 ?_ ?_<;>intro hb|fail
 ·have hl:s.l=[]:=h.nil om
  have ht:QZ m s=([],⟨[],20⟩):=Qks h0 hl
  refine xU ?_
  rw [ht]
  refine⟨rfl,?_⟩
  unfold YM
  rw [iP h0,hl]
 ·rename_i h1
  have hm:m=false:=by simpa using hb
  obtain⟨l',hl,hl'⟩:=h.cons om
  have ht:=Xo (m:=m) h0 hl
  rw [hm] at ht
  refine xU ?_
  rw [hm,ht]
  refine⟨rfl,?_⟩
  unfold YM
  rw [iP h0,hl];rfl
 ·rename_i h1
  have hm:m=true:=by simpa using hb
  obtain⟨l',hl,hl'⟩:=h.cons om
  have ht:=Xo (m:=m) h0 hl
  rw [hm] at ht
  have e1:((a:Int)+1-1).toNat=a:=by omega
  refine Xv 13 Qg kR ?_
  refine zA e1 ?_
  refine yU e1 ?_
  rw [hm,ht]
  refine⟨rfl,?_⟩
  show _=[(g,XD.cells 173 3 (ofL [txs true L,.int .i64 (L.length-l'.length:Nat),Y2 0]))]
  rw [hl',h0];rfl
end Go.Proofs.YtngjgahldnnapaaGreatDoor
namespace Go.Proofs.YtngjgahldnnapaaGreatDoor
open Go.AI Go.PN Proofs.Tryz
attribute [local irreducible] aw Fa ZN ZZ Fh YE
theorem Qg4 (s:BS) (b:UInt8):Fa prog 391 [.c (.str (sB s)),.c (.str (sB [b]))] (.c (.int .i64 (Lib.indexByte s b))):=by
 have h:=Qsi s b.toNat
 rw [show b.toNat.toUInt8=b from UInt8.ofNat_toNat] at h
 refine fA func391 fun C hC=>?_
 repeat' first|refine zV o0 ?_|refine yQ o0 h ?_|refine zH o0 ?_ ?_<;>intro hb|fail
 ·refine xT hC ?_
  have hs:=hb
  subst hs
  refine .one (.c (Qo ?_))
  unfold Lib.indexByte;simp
 ·refine xT hC ?_
  exact .one (.c (.int _ _))
theorem QnT (s:BS) (b:UInt8) (hl:s.length≤1099511627776) (h:XP b s<s.length):Fa prog 373 [.c (.str (sB s)),.c (.str (sB [b]))] (.tup [.c (.str (sB (s.take (XP b s)))),.c (.str (sB (s.drop (XP b s+1)))),.c (.bool true)]):=by
 have h1:=Qg4 s b
 rw [Qh1,iP h] at h1
 have h2:Fa prog 385 [.c (.str (sB s)),.c (.str (sB [b]))] (.tup [.c (.str (sB (s.take (XP b s)))),.c (.str (sB (s.drop (XP b s+1)))),.c (.bool true)]):=by
  generalize XP b s=e at*
  refine fA func385 fun C hC=>?_
  refine Zo o0 h1 ?_
  refine Xv 12 Qg kR ?_
  refine zA o0 ?_
  refine xT hC ?_
  refine .tup ⟨.c ?_,.c ?_,.c (.bool _),trivial⟩
  ·rw [QpZ];exact .str _
  ·rw [V1];exact .str _
 refine fA func373 fun C hC=>?_
 refine Zo o0 h2 ?_
 refine xT hC ?_
 exact .tup ⟨.c (.str _),.c (.str _),.c (.bool _),trivial⟩
theorem QnU (s:BS) (b:UInt8) (hl:s.length≤1099511627776) (h:XP b s=s.length):Fa prog 373 [.c (.str (sB s)),.c (.str (sB [b]))] (.tup [.c (.str (sB s)),.c (.str (sB [])),.c (.bool false)]):=by
 have h1:=Qg4 s b
 rw [Qh1,iN om] at h1
 have h2:Fa prog 385 [.c (.str (sB s)),.c (.str (sB [b]))] (.tup [.c (.str (sB s)),.c (.str (sB [])),.c (.bool false)]):=by
  refine fA func385 fun C hC=>?_
  refine Zo o0 h1 ?_
  refine xT hC ?_
  exact .tup ⟨.c (.str _),.c (.str _),.c (.bool _),trivial⟩
 refine fA func373 fun C hC=>?_
 refine Zo o0 h2 ?_
 refine xT hC ?_
 exact .tup ⟨.c (.str _),.c (.str _),.c (.bool _),trivial⟩
theorem Qp8 (s:BS) (hl:s.length≤1099511627776):Fa prog 347 [.c (.str (sB s))] (.tup [.agg (Y1 (Qbe s)),.c (Y2 (QaH s))]):=by
 by_cases h100:s.length>100
 ·have d1:decide (s.length>100)=true:=Dt h100
  have hc:QaH s=4:=by unfold QaH;rw [iP h100]
  have hr:Qbe s=rd0:=by unfold Qbe;rw [hc];rfl
  rw [hc,hr]
  refine fA func347 fun C hC=>?_
  refine zA o0 ?_
  refine xA fun g2 n_2=>?_
  refine zA (oj n_2 d1) ?_
  refine yT hC (oj n_2 d1) ?_
  exact .tup ⟨.agg ⟨.bool _,.nils,.nils,trivial⟩,.c (Ws rfl Af),trivial⟩
 have d1:decide (s.length>100)=false:=De h100
 have hw:=QhZ s 0 hl (Lz _)
 cases hn:QfD s with
 |false=>
  have hc:QaH s=2:=by unfold QaH;rw [iN h100,iP hn]
  have hr:Qbe s=rd0:=by unfold Qbe;rw [hc];rfl
  rw [hc,hr]
  refine fA func347 fun C hC=>?_
  refine zA o0 ?_
  refine xA fun g2 n_2=>?_
  all_goals try(have Z:=(oj n_2 d1);(repeat' first|refine zV Z ?_|refine yQ Z (UL _) ?_|refine yQ Z hw ?_|refine zH Z ?_ ?_<;>intro hb|fail);all_goals clear Z)
  all_goals first
   |(exfalso
     unfold QfD at hn
     simp_all
     done)
   |(refine yT hC (oj n_2 d1) ?_
     exact .tup ⟨.agg ⟨.bool _,.nils,.nils,trivial⟩,.c (Ws rfl Af),trivial⟩)
 |true=>
  obtain⟨hf,h0⟩:=Qkq hn
  have hn':=hn
  unfold QfD at hn'
  simp only [Ba,Dq,beq_iff_eq] at hn'
  have f0:(s.length==0)=false:=by simpa using (show s.length≠0 from by omega)
  have f1:QE (XF s 0)=true:=hn'.1.2
  have f2:(VD s 0 !=s.length)=false:=by simpa using hn'.2
  have hc0:QaH s=if XP 47 s<s.length∧Yu (s.drop (XP 47 s+1))=0 then 8 else 0:=by unfold QaH;rw [iN h100,iN (by rw [hn];decide)]
  have hA:∀t:BS,t.length≤s.length→(rd (Yu t:Rat)).wf 1073741824∨True:=fun _ _=>.inr trivial
  by_cases hsl:XP 47 s<s.length
  ·obtain⟨e,he,he1,hd1,hd2⟩:∃e,XP 47 s=e∧e+1<s.length∧(∀i,i<e→QE (XF s i)=true)∧(∀i,e<i→i<s.length→QE (XF s i)=true):=by
    cases hf with
    |all h=>have:=(Qh3 h).1;omega
    |two e he hm h1 h2=>
     rcases hm with hm|hm
     ·have:=(Qb7 he hm h1 h2).1;omega
     ·exact⟨e,Qb6 he hm h1,he,h1,h2⟩
   have hcut:=QnT s 47 hl hsl
   rw [he] at hcut hc0 hsl
   have ha:=Qdb (s.take e) (O9 hd1) (by rw [List.length_take];omega)
   have hb:=Qdb (s.drop (e+1)) (Qaa hd2) (by rw [List.length_drop];omega)
   have wa:(rd (Yu (s.take e):Rat)).wf 1073741824:=UI (YF (by have:=JQ (s:=s.take e) (O9 hd1) (Ac _);rwa [Lk] at this) (by rw [List.length_take];omega))
   have wb:(rd (Yu (s.drop (e+1)):Rat)).wf 1073741824:=UI (YF (by have:=JQ (s:=s.drop (e+1)) (Qaa hd2) (Ac _);rwa [Lk] at this) (by rw [List.length_drop];omega))
   by_cases hz:Yu (s.drop (e+1))=0
   ·rw [iP ⟨hsl,hz⟩] at hc0
    have hr:Qbe s=rd0:=by unfold Qbe;rw [hc0];rfl
    have hd:=Qp7 _ _ wa wb (by rw [Ow,hz];rfl)
    rw [hc0,hr]
    refine fA func347 fun C hC=>?_
    refine zA o0 ?_
    refine xA fun g2 n_2=>?_
    all_goals try(have Z:=(oj n_2 (oj d1 (oj f0 (oj f1 f2))));(repeat' first|refine zV Z ?_|refine yQ Z (UL _) ?_|refine yQ Z hw ?_|refine yQ Z hcut ?_|refine yQ Z ha ?_|refine yQ Z hb ?_|refine yQ Z hd ?_|refine zH Z ?_ ?_<;>intro hb|fail);all_goals clear Z)
    refine yT hC (oj n_2 (oj d1 (oj f0 (oj f1 f2)))) ?_
    exact .tup ⟨.agg UJ,.c Zv,trivial⟩
   ·rw [iN (fun h=>hz h.2)] at hc0
    have hr:Qbe s=rd (Qh0 s):=by unfold Qbe;rw [iP hc0]
    have hq:Qh0 s=(Yu (s.take e):Rat)/(Yu (s.drop (e+1)):Rat):=by unfold Qh0;rw [he,iP hsl]
    have hd:=QnR _ _ wa wb (by rw [Ow];simpa using hz)
    rw [Ow,Ow,←hq,←hr] at hd
    rw [hc0]
    refine fA func347 fun C hC=>?_
    refine zA o0 ?_
    refine xA fun g2 n_2=>?_
    all_goals try(have Z:=(oj n_2 (oj d1 (oj f0 (oj f1 f2))));(repeat' first|refine zV Z ?_|refine yQ Z (UL _) ?_|refine yQ Z hw ?_|refine yQ Z hcut ?_|refine yQ Z ha ?_|refine yQ Z hb ?_|refine yQ Z hd ?_|refine zH Z ?_ ?_<;>intro hb|fail);all_goals clear Z)
    refine yT hC (oj n_2 (oj d1 (oj f0 (oj f1 f2)))) ?_
    exact .tup ⟨.agg UJ,.c (Z6 rfl),trivial⟩
  ·have hcutN:=QnU s 47 hl (by have:=QnE 47 s;omega)
   obtain⟨hda,hdb,hcut⟩:(∀i,i<(s.take (XP 46 s)).length→QE (XF (s.take (XP 46 s)) i)=true)∧(∀i,i<(s.drop (XP 46 s+1)).length→QE (XF (s.drop (XP 46 s+1)) i)=true)∧∃b,Fa prog 373 [.c (.str (sB s)),.c (.str (sB [46]))] (.tup [.c (.str (sB (s.take (XP 46 s)))),.c (.str (sB (s.drop (XP 46 s+1)))),.c (.bool b)]):=by
    cases hf with
    |all h=>
     have h2:=(Qh3 h).2
     have:=QnU s 46 hl h2
     rw [h2,Lk,List.drop_of_length_le om]
     exact⟨h,fun i hi=>absurd hi (by simp),_,this⟩
    |two e he hm h1 h2=>
     rcases hm with hm|hm
     ·have h3:=(Qb7 he hm h1 h2).2
      have:=QnT s 46 hl om
      rw [h3] at this⊢
      exact⟨O9 h1,Qaa h2,_,this⟩
     ·have:=Qb6 he hm h1;omega
   obtain⟨bx,hcut⟩:=hcut
   rw [iN (fun h=>hsl h.1)] at hc0
   have hr:Qbe s=rd (Qh0 s):=by unfold Qbe;rw [iP hc0]
   have hq:Qh0 s=(Yu (s.take (XP 46 s)++s.drop (XP 46 s+1)):Rat)/((10^(s.drop (XP 46 s+1)).length:Nat):Rat):=by unfold Qh0;rw [iN hsl]
   have hla:(s.take (XP 46 s)).length≤100:=by rw [List.length_take];omega
   have hlb:(s.drop (XP 46 s+1)).length≤100:=by rw [List.length_drop];omega
   generalize s.take (XP 46 s)=a at*
   generalize s.drop (XP 46 s+1)=b at*
   have hab:∀i,i<(a++b).length→QE (XF (a++b) i)=true:=fun i hi=>by
    by_cases h:i<a.length
    ·have:=hda i h
     unfold XF at this⊢
     rw [Lg] at this⊢
     rwa [List.getElem?_append_left h]
    ·have:=hdb (i-a.length) (by rw [La] at hi;omega)
     unfold XF at this⊢
     rw [Lg] at this⊢
     rwa [List.getElem?_append_right om]
   have hw2:=Qdb (a++b) hab (by rw [La];omega)
   have fab:fits (Yu (a++b):Rat) ((a++b).length+1):=by have:=JQ (s:=a++b) hab (Ac _);rwa [Lk] at this
   have wab:(rd (Yu (a++b):Rat)).wf 1073741824:=UI (YF fab (by rw [La];omega))
   have f10:∀k,k≤100→fits ((10^k:Nat):Rat) (k+1):=fun k _=>QfE (QfF k) om
   have w10:∀k,k≤100→(rd ((10^k:Nat):Rat)).wf 1073741824:=fun k hk=>UI (YF (f10 k hk) om)
   have h1:=QeC 1 om om
   have h10:=QeC 10 om om
   have hd:=QnR _ _ wab (w10 b.length hlb) (by rw [Ow];exact Qko _)
   rw [Ow,Ow,←hq,←hr] at hd
   rw [hc0]
   refine fA func347 fun C hC=>?_
   refine zA o0 ?_
   refine xA fun g2 n_2=>?_
   all_goals try(have Z:=(oj n_2 (oj d1 (oj f0 (oj f1 f2))));(repeat' first|refine zV Z ?_|refine yQ Z (UL _) ?_|refine yQ Z hw ?_|refine yQ Z hcutN ?_|refine yQ Z hcut ?_|refine yQ Z h1 ?_|refine zH Z ?_ ?_<;>intro hb|fail);all_goals clear Z)
   refine yA (oj n_2 (oj d1 (oj f0 (oj f1 f2)))) fun g10 n_10=>?_
   refine zA (oj n_2 (oj d1 (oj f0 (oj f1 (oj f2 n_10))))) ?_
   refine Qh (fun x:Nat=>[(0,.c (.str (sB s))),(2,.c (.optr g2 0)),(3,.c .nilI),(7,.c (.str (sB a))),(8,.c (.str (sB b))),(10,.c (.optr g10 0)),(56,.c (.int .i64 b.length)),(57,.c (.int .i64 x))]) (fun x=>[(g10,.cells 77 3 (ofL (Y1 (rd ((10^x:Nat):Rat))))),(g2,.cells 77 3 (ofL [.bool false,.nils,.nils]))]) (fun x=>x≤b.length) (fun x=>b.length-x) 0 (zB (oj n_2 (oj d1 (oj f0 (oj f1 (oj f2 n_10)))))) (by rw [show((10^0:Nat):Rat)=((1:Int):Rat) from by simp];exact Lr _) (Lz _) ?_
   rintro x hx
   all_goals try(have Z:=(oj n_2 (oj d1 (oj f0 (oj f1 (oj f2 n_10)))));(repeat' first|refine zV Z ?_|refine zH Z ?_ ?_<;>intro hb|fail);all_goals clear Z)
   ·have hm:=Qny _ _ (w10 x om) (show(rd ((10:Int):Rat)).wf 1073741824 from UI (YF (Qv4 Af) om))
    rw [Ow,Ow,show((10^x:Nat):Rat)*((10:Int):Rat)=((10^(x+1):Nat):Rat) from by rw [Nat.pow_succ];push_cast;rfl] at hm
    refine Xv 3 Qg kR ?_
    refine zA2 (oj n_2 (oj d1 (oj f0 (oj f1 (oj f2 n_10))))) h10 hm ?_
    exact Qb ⟨x+1,by omega,(zB (oj n_2 (oj d1 (oj f0 (oj f1 (oj f2 n_10)))))),Lr _,by omega⟩
   ·obtain rfl:x=b.length:=by omega
    refine Xv 8 Qg kR ?_
    refine zA2 (oj n_2 (oj d1 (oj f0 (oj f1 (oj f2 n_10))))) hw2 hd ?_
    refine yT hC (oj n_2 (oj d1 (oj f0 (oj f1 (oj f2 n_10))))) ?_
    exact .tup ⟨.agg UJ,.c (Z6 rfl),trivial⟩
theorem XK (g:Nat) (L:List TX) (s:PS) (w:BS) (hs:s.l<:+L.map TX.t) (hL:L.length≤1099511627776):Fg prog 107 g (Ye L s) [.c (.optr g 0),.c (.str (sB w))] (.tup []) (Ye L (Xz w s)):=by
 have f1:=VE g L s w hs hL
 have f2:=YO g L s (Xs s w) hs hL
 unfold Fg
 refine fH func107 fun C hC=>?_
 refine zA2 o0 f1 f2 ?_
 refine xV ?_
 exact⟨rfl,rfl⟩
theorem Km (g:Nat) (L:List TX) (s:PS) (hs:s.l<:+L.map TX.t) (hL:L.length≤1099511627776):Fg prog 108 g (Ye L s) [.c (.optr g 0)] (.c (.str (sB (XB s).1))) (Ye L (XB s).2):=by
 have f1:=Qcc g L s 0 hs hL
 have f2:=YO g L s (Yc s 0) hs hL
 unfold Fg
 refine fH func108 fun C hC=>?_
 refine zA2 o0 f1 f2 ?_
 refine xU ?_
 exact⟨rfl,rfl⟩
theorem Qcd (g:Nat) (L:List TX) (s:PS) (hs:s.l<:+L.map TX.t) (hL:L.length≤1099511627776) (hw:∀t∈L,t.t.text.length≤1099511627776):Fg prog 111 g (Ye L s) [.c (.optr g 0)] (.c (.str (sB (Zl s).1))) (Ye L (Zl s).2):=by
 have f1:=VE g L s kAt hs hL
 have f2:=XK g L s kAt hs hL
 have f3:=Km g L s hs hL
 have f4:=Km g L (Xz kAt s) (((QJ kAt).suf s).trans hs) hL
 have hlen:(XB (Xz kAt s)).1.length≤1099511627776:=by
  unfold XB QZ
  split
  ·split
   ·simp
   ·rename_i t l hl
    split
    ·have hm:t∈L.map TX.t:=(((QJ kAt).suf s).trans hs).subset (by show t∈(Xz kAt s).l;rw [hl];exact Lf)
     obtain⟨x,hx,rfl⟩:=List.mem_map.1 hm
     exact hw x hx
    ·simp
  ·simp
 unfold Fg
 unfold Zl
 refine fH func111 fun C hC=>?_
 repeat' first|refine zV o0 ?_|refine yQ o0 f1 ?_|refine yQ o0 f2 ?_|refine yQ o0 f3 ?_|refine yQ o0 f4 ?_|refine zH o0 ?_ ?_<;>intro hb|fail
 ·refine xU ?_
  rw [iP hb]
  exact⟨rfl,rfl⟩
 ·refine xU ?_
  rw [iN (by rw [hb];decide)]
  exact⟨rfl,rfl⟩
theorem QsB (w:BS):Fa prog 280 [.c (.str (sB w))] (.tup [.c (.int .i64 ((QgV w).getD 0)),.c (.bool (QgV w).isSome)]):=by
 unfold QgV
 refine fA func280 fun C hC=>?_
 repeat' first|refine zV o0 ?_|refine zH o0 ?_ ?_<;>intro hb|fail
 all_goals
  refine xT hC ?_
  refine .tup ⟨.c (Qo ?_),.c (Qp ?_),trivial⟩
  all_goals simp_all
theorem KO (g:Nat) (L:List TX) (s:PS) (hs:s.l<:+L.map TX.t) (hL:L.length≤1099511627776) (hw:∀t∈L,t.t.text.length≤1099511627776):Fg prog 278 g (Ye L s) [.c (.optr g 0)] (.agg (Y1 (Ys s).1)) (Ye L (Ys s).2):=by
 have f1:=Qcc g L s 1 hs hL
 have f2:=YO g L s (Yc s 1) hs hL
 have hlen:(QZ (Yc s 1) s).1.length≤1099511627776:=by
  unfold QZ
  split
  ·split
   ·simp
   ·rename_i t l hl
    split
    ·have hm:t∈L.map TX.t:=hs.subset (by rw [hl];exact Lf)
     obtain⟨x,hx,rfl⟩:=List.mem_map.1 hm
     exact hw x hx
    ·simp
  ·simp
 have f3:=Qp8 (QZ (Yc s 1) s).1 hlen
 unfold Fg
 unfold Ys
 dsimp only
 generalize hr:QZ (Yc s 1) s=r at*
 obtain⟨t,s1⟩:=r
 dsimp only at*
 refine fH func278 fun C hC=>?_
 refine zA o0 ?_
 refine xA fun g2 n_2=>?_
 repeat' first|refine zV n_2 ?_|refine yQ n_2 f1 ?_|refine yQ n_2 f2 ?_|refine yQ n_2 f3 ?_|refine zH n_2 ?_ ?_<;>intro hb|fail
 ·have h0:s1.e≠0:=by simpa using hb
  refine Wt (f':=ofL (Y1 rd0)) QfI ?_
  refine QW (h':=[(g,Ye L s1)]) rfl sL fun R r=>?_;simp only[go_sem,n_2];refine r _ rfl ?_;clear r R
  rw [iN h0]
  exact⟨rfl,rfl⟩
 have h0:s1.e=0:=by simpa using hb
 refine yA n_2 fun g4 n_4=>?_
 all_goals try(have Z:=(oj n_2 n_4);(repeat' first|refine zV Z ?_|refine zH Z ?_ ?_<;>intro hb|fail);all_goals clear Z)
 ·have hv:QaH t≠0:=by simpa using hb
  have f4:=JE g L s1 (QaH t) hv
  rw [←QnS hv] at f4
  refine Zo (oj n_2 n_4) f4 ?_
  refine QW (h':=[(g,Ye L (YM (QaH t) s1))]) rfl sL fun R r=>?_;simp only[go_sem,n_2,n_4];refine r _ rfl ?_;clear r R
  rw [iP h0,iN hv]
  unfold YM
  rw [iP h0]
  exact⟨rfl,rfl⟩
 ·have hv:QaH t=0:=by simpa using hb
  refine QW (h':=[(g,Ye L s1)]) rfl sL fun R r=>?_;simp only[go_sem,n_2,n_4];refine r _ rfl ?_;clear r R
  rw [iP h0,iP hv]
  exact⟨rfl,rfl⟩
theorem Qkx (g:Nat) (L:List TX) (s:PS) (hs:s.l<:+L.map TX.t) (hL:L.length≤1099511627776) (hw:∀t∈L,t.t.text.length≤1099511627776):Fg prog 279 g (Ye L s) [.c (.optr g 0)] (.c (.int .i64 (ZV s).1)) (Ye L (ZV s).2):=by
 have f1:=KO g L s hs hL hw
 have f2:=Qvl (Ys s).1 (Zu (Qvf s) om)
 unfold Fg
 unfold ZV
 dsimp only
 generalize hr:Ys s=r at*
 obtain⟨q,s1⟩:=r
 dsimp only at*
 have f3:=JE g L s1 3 Af
 generalize hi:QpX q.q=o at*
 cases o with
 |none=>
  simp only [Option.isSome_none,Option.getD_none] at f2
  refine fH func279 fun C hC=>?_
  refine Zo o0 f1 ?_
  refine xA fun g3 n_3=>?_
  repeat' first|refine zV n_3 ?_|refine yQ n_3 f2 ?_|refine yQ n_3 f3 ?_|refine zH n_3 ?_ ?_<;>intro hb|fail
  ·have h0:s1.e≠0:=by simpa using hb
   refine QW (h':=[(g,Ye L s1)]) rfl sL fun R r=>?_;simp only[go_sem,n_3];refine r _ rfl ?_;clear r R
   rw [iN h0]
   exact⟨rfl,rfl⟩
  ·have h0:s1.e=0:=by simpa using hb
   refine QW (h':=[(g,Ye L (YM 3 s1))]) rfl sL fun R r=>?_;simp only[go_sem,n_3];refine r _ rfl ?_;clear r R
   rw [iP h0]
   unfold YM
   rw [iP h0]
   exact⟨rfl,rfl⟩
 |some n=>
  simp only [Option.isSome_some,Option.getD_some] at f2
  refine fH func279 fun C hC=>?_
  refine Zo o0 f1 ?_
  refine xA fun g3 n_3=>?_
  repeat' first|refine zV n_3 ?_|refine yQ n_3 f2 ?_|refine yQ n_3 f3 ?_|refine zH n_3 ?_ ?_<;>intro hb|fail
  ·have h0:s1.e≠0:=by simpa using hb
   refine QW (h':=[(g,Ye L s1)]) rfl sL fun R r=>?_;simp only[go_sem,n_3];refine r _ rfl ?_;clear r R
   rw [iN h0]
   exact⟨rfl,rfl⟩
  ·rename_i hb0
   have h0:s1.e=0:=by simpa using hb0
   have hn:n<0:=hb
   refine QW (h':=[(g,Ye L (YM 3 s1))]) rfl sL fun R r=>?_;simp only[go_sem,n_3];refine r _ rfl ?_;clear r R
   rw [iP h0]
   try dsimp only
   unfold YM
   rw [iP h0,iN om]
   exact⟨rfl,rfl⟩
  ·rename_i hb0 hb1
   have h0:s1.e=0:=by simpa using hb0
   have hn:n>1073741824:=hb
   refine QW (h':=[(g,Ye L (YM 3 s1))]) rfl sL fun R r=>?_;simp only[go_sem,n_3];refine r _ rfl ?_;clear r R
   rw [iP h0]
   try dsimp only
   unfold YM
   rw [iP h0,iN om]
   exact⟨rfl,rfl⟩
  ·rename_i hb0 hb1
   have h0:s1.e=0:=by simpa using hb0
   have h1:¬n<0:=hb1
   have h2:¬n>1073741824:=hb
   refine QW (h':=[(g,Ye L s1)]) rfl sL fun R r=>?_;simp only[go_sem,n_3];refine r _ rfl ?_;clear r R
   rw [iP h0]
   try dsimp only
   rw [iP om]
   exact⟨rfl,rfl⟩
theorem QsC (g:Nat) (L:List TX) (s:PS) (hs:s.l<:+L.map TX.t) (hL:L.length≤1099511627776):Fg prog 170 g (Ye L s) [.c (.optr g 0)] (.agg (hsc (Jj s).1)) (Ye L (Jj s).2):=by
 have f1:=Km g L s hs hL
 unfold Jj
 dsimp only
 have hs1:=(XM.suf s).trans hs
 generalize hr:XB s=r at*
 obtain⟨nm,s1⟩:=r
 dsimp only at*
 have f2:=VE g L s1 kOn hs1 hL
 have f3:=VE g L s1 Ox hs1 hL
 have f4:=YO g L s1 (Xs s1 kOn||Xs s1 Ox) hs1 hL
 have hs2:=((Zm fun s=>Xs s kOn||Xs s Ox).suf s1).trans hs1
 try dsimp only at hs2
 cases h1:Xs s1 kOn with
 |true=>
  rw [h1] at f2 f4 hs2
  rw [Bool.true_or] at f4 hs2
  rw [Bool.true_or]
  generalize QZ true s1=r at*
  obtain⟨t,s2⟩:=r
  dsimp only at*
  have f6:=XK g L s2 Q7 hs2 hL
  unfold Fg
  refine fH func170 fun C hC=>?_
  refine zA o0 ?_
  refine xA fun g2 n_2=>?_
  refine Zo n_2 f1 ?_
  refine yA n_2 fun g3 n_3=>?_
  refine zA4 (oj n_2 n_3) f2 f3 f4 f6 ?_
  refine QW (h':=[(g,Ye L (Xz Q7 s2))]) rfl sL fun R r=>?_;simp only[go_sem,n_2,n_3];refine r _ rfl ?_;clear r R
  exact⟨rfl,rfl⟩
 |false=>
  rw [h1] at f2 f4 hs2
  rw [Bool.false_or] at f4 hs2
  rw [Bool.false_or]
  generalize QZ (Xs s1 Ox) s1=r at*
  obtain⟨t,s2⟩:=r
  dsimp only at*
  have f6:=XK g L s2 Q7 hs2 hL
  unfold Fg
  refine fH func170 fun C hC=>?_
  refine zA o0 ?_
  refine xA fun g2 n_2=>?_
  refine Zo n_2 f1 ?_
  refine yA n_2 fun g3 n_3=>?_
  refine zA4 (oj n_2 n_3) f2 f3 f4 f6 ?_
  refine QW (h':=[(g,Ye L (Xz Q7 s2))]) rfl sL fun R r=>?_;simp only[go_sem,n_2,n_3];refine r _ rfl ?_;clear r R
  exact⟨rfl,rfl⟩
theorem QsD (g:Nat) (L:List TX) (s:PS) (hs:s.l<:+L.map TX.t) (hL:L.length≤1048576) (hw:∀t∈L,t.t.text.length≤1099511627776):Fg prog 174 g (Ye L s) [.c (.optr g 0)] (.agg (WR (Jl s).1)) (Ye L (Jl s).2):=by
 have f1:=Km g L s hs om
 have hs1:=Uq hs
 unfold Jl
 dsimp only
 generalize XB s=r at*
 obtain⟨nm,s1⟩:=r
 dsimp only at*
 have f2:=XK g L s1 Yx hs1 om
 have hs2:(Xz Yx s1).l<:+L.map TX.t:=((QJ Yx).suf s1).trans hs1
 generalize Xz Yx s1=s2 at*
 have f3:=Qcd g L s2 hs2 om hw
 have hs3:=(V5.suf s2).trans hs2
 generalize Zl s2=r at*
 obtain⟨tp,s3⟩:=r
 dsimp only at*
 have f4:=XK g L s3 O8 hs3 om
 have hs4:(Xz O8 s3).l<:+L.map TX.t:=((QJ O8).suf s3).trans hs3
 generalize Xz O8 s3=s4 at*
 generalize hF:Jv (fun s=> !Xs s Yi) vlB [] s4=F at*
 unfold Fg
 refine fH func174 fun C hC=>?_
 refine zA o0 ?_
 refine xA fun g2 n_2=>?_
 refine Zo n_2 f1 ?_
 refine yA n_2 fun g3 n_3=>?_
 refine zA2 (oj n_2 n_3) f2 f3 ?_
 refine QbD f4 rfl rfl rfl (zE (oj n_2 n_3)) (zL2 o0) ?_
 have J1:=oj n_2 n_3
 refine yS J1 ?_
 refine yH J1 ?_
 apply wa1
 refine Yy (fun _:Nat×Option Nat=>[(0,.c (.optr g 0)),(2,.c (.optr g2 0)),(3,.c (.optr g3 0))]) (fun x=>[(g3,.cells 97 3 (ofL [.str (sB nm),.str (sB tp),gs x.2 4 x.1])),(g2,.cells 97 3 (ofL [.str (sB []),.str (sB []),.nils])),(g,Ye L F.2)]++gh x.2 99 (x.1*4) (V6 F.1)) (fun x=>F.1.length=x.1∧(x.2=none→x.1=0)) ?_ ?_
 ·apply wa2
  refine Qh (fun _:PS×List Zp×Nat×Option Nat=>[(0,.c (.optr g 0)),(2,.c (.optr g2 0)),(3,.c (.optr g3 0))]) (fun x=>[(g3,.cells 97 3 (ofL [.str (sB nm),.str (sB tp),gs x.2.2.2 4 x.2.2.1])),(g2,.cells 97 3 (ofL [.str (sB []),.str (sB []),.nils])),(g,Ye L x.1)]++gh x.2.2.2 99 (x.2.2.1*4) (V6 x.2.1))
   (fun x=>x.1.l<:+L.map TX.t∧x.2.1.length=x.2.2.1∧(x.2.2.2=none→x.2.2.1=0)∧x.2.2.1+mS x.1≤1048577∧Jv (fun s=> !Xs s Yi) vlB x.2.1 x.1=F) (fun x=>mS x.1) (s4,[],0,none) (zB J1) zZ ⟨hs4,rfl,fun _=>rfl,?_,hF⟩ ?_
  ·have:=(hs4).length_le
   rw [Lw] at this
   dsimp only
   unfold mS
   split<;>omega
  rintro ⟨sx,xs,n,og⟩ ⟨hsx,hn,hog,hm,hlp⟩
  dsimp only at hsx hn hog hm hlp⊢
  have f5:=VE g L sx Yi hsx om
  have f7:=Km g L sx hsx om
  all_goals repeat' first|refine zV J1 ?_|refine yQ J1 f5 ?_|refine zH J1 ?_ ?_<;>intro hb|fail
  ·rename_i h0
   have hc:(fun s=> !Xs s Yi) sx=true:=hb
   have hst:=Vy (c:=fun s=> !Xs s Yi) (b:=vlB) (a:=xs) (fun a s h _=>QnM a s h) h0 hc
   have hlt:=QnM xs sx h0
   rw [hst] at hlp
   have hsy:(vlB xs sx).2.l<:+L.map TX.t:=((Qd3 xs).suf sx).trans hsx
   have e1:(vlB xs sx).1=xs++[⟨(XB sx).1,(Ys (XB sx).2).1⟩]:=rfl
   have e2:(vlB xs sx).2=Xz Q7 (Ys (XB sx).2).2:=rfl
   rw [e2] at hlt hsy
   rw [e1,e2] at hlp
   have hsa:=Uq hsx
   generalize XB sx=y at*
   obtain⟨w,sa⟩:=y
   dsimp only at*
   have f8:=KO g L sa hsa om hw
   have hsb:=(Zx.suf sa).trans hsa
   generalize Ys sa=y at*
   obtain⟨q,sb⟩:=y
   dsimp only at*
   have f9:=XK g L sb Q7 hsb om
   generalize Xz Q7 sb=sy at*
   refine Zo J1 f7 ?_
   refine yA J1 fun g4 n_4=>?_
   refine zA2 (oj n_2 (oj n_3 n_4)) f8 f9 ?_
   refine QX (pre:=[(g4,.cells 99 4 (ofL (vlc ⟨w,q⟩))),(g3,.cells 97 3 (ofL [.str (sB nm),.str (sB tp),gs og 4 n])),(g2,.cells 97 3 (ofL [.str (sB []),.str (sB []),.nils])),(g,Ye L sy)]) rfl rfl rfl rfl rfl rfl rfl (zE (oj n_2 (oj n_3 n_4))) (zE (oj n_2 (oj n_3 n_4))) (by rfl) om om (zE (oj n_2 (oj n_3 n_4))) om (by exact hog) (zE (oj n_2 (oj n_3 n_4))) (by rfl) (by rfl) qb qc om (by exact QeL hn ⟨w,q⟩) fun gb n_b=> ?_
   replace n_b:=Qa.ne_of n_b
   first|dsimp only [Qa.ne,gh] at n_b|dsimp only [Qa.ne] at n_b|skip
   have J2:=oj n_2 (oj n_3 (oj n_4 n_b))
   refine yS J2 ?_
   refine zA J2 ?_
   refine Qb ⟨(sy,xs++[⟨w,q⟩],n+1,some gb),?_⟩
   refine⟨hlt,?_⟩
   and_intros
   all_goals first|rfl|exact List.Sublist.cons _ (Lr _)|exact True.intro|exact hsy|exact XJ|exact hlp|(dsimp only;rw [La,hn];rfl)|(dsimp only;omega)
  ·have hc:¬(sx.e=0∧(fun s=> !Xs s Yi) sx=true):=fun z=>by rw [show(fun s=> !Xs s Yi) sx=false from hb] at z;exact absurd z.2 Af
   rw [Yn hc] at hlp
   subst hlp
   refine Qb ⟨(n,og),?_⟩
   and_intros<;>first|rfl|exact Lr _|exact True.intro|exact hn|exact hog
  ·have hc:¬(sx.e=0∧(fun s=> !Xs s Yi) sx=true):=fun z=>hb z.1
   rw [Yn hc] at hlp
   subst hlp
   refine Qb ⟨(n,og),?_⟩
   and_intros<;>first|rfl|exact Lr _|exact True.intro|exact hn|exact hog
 rintro ⟨n,og⟩ ⟨hn,hog⟩
 dsimp only at hn hog⊢
 have hs5:F.2.l<:+L.map TX.t:=by
  rw [←hF];exact((ZW Qd3 []).suf s4).trans (hs4)
 subst hn
 refine Y9 fun hnd=> ?_
 have hog2:∀q,og=some q→¬C.own0 q:=fun q hq hown=>by
  subst hq
  have:q=g:=by simpa [Qa.keys] using (hC q).1 hown
  subst this
  simp [Qa.keys,gh] at hnd
 refine Qi (h':=(g3,.cells 97 3 (ofL [.str (sB nm),.str (sB tp),gs og 4 F.1.length]))::(gh og 99 (F.1.length*4) (V6 F.1)++[(g2,.cells 97 3 (ofL [.str (sB []),.str (sB []),.nils])),(g,Ye L F.2)])) (by exact .cons _ (List.perm_append_comm (l₁:=[(g2,.cells 97 3 (ofL [.str (sB []),.str (sB []),.nils])),(g,Ye L F.2)]))) ?_
 refine Xi (j0:=2) (n:=F.1.length) (s:=4) (f':=ofL [.str (sB nm),.str (sB tp),.row true 4 F.1.length (V6 F.1)]) rfl rfl (fun j hj hj3=>by
  match j,hj,hj3 with
  |0,_,_=>rfl
  |1,_,_=>rfl
  |j+2,h1,h2=>exact absurd (show j+2=2 from by omega) h2) hog hog2 ?_
 have f6:=XK g L F.2 Yi hs5 om
 refine Zo J1 f6 ?_
 refine QW (h':=[(g,Ye L (Xz Yi F.2))]) rfl sL fun R r=>?_;simp only[go_sem,n_2,n_3];refine r _ rfl ?_;clear r R
 exact⟨rfl,rfl⟩
end Go.Proofs.YtngjgahldnnapaaGreatDoor
namespace Go.Proofs.YtngjgahldnnapaaGreatDoor
open Go.AI Go.PN Proofs.Tryz
theorem Qg5 {a b c:CV}:∀j,j<7→∀(S:Bool→Nat→Prop) w u,XX S w (ofL [a,b,c,.nils,.bool false,.nils,.nils] j) u→XX S w (ofL ([a,b,c,.nils]++Y1 rd0) j) u:=fun j hj S w u hr=>by
 match j,hj with
 |0,_=>exact hr
 |1,_=>exact hr
 |2,_=>exact hr
 |3,_=>exact hr
 |4,_=>exact hr
 |5,_=>exact XS hr
 |6,_=>exact XS hr
attribute [local irreducible] aw Fa ZN ZZ Fh YE
theorem QnV (g:Nat) (L:List TX) (s:PS) (hs:s.l<:+L.map TX.t) (hL:L.length≤1048576) (hw:∀t∈L,t.t.text.length≤1099511627776):Fg prog 171 g (Ye L s) [.c (.optr g 0)] (.agg (Zy (K9 s).1)) (Ye L (K9 s).2):=by
 have f1:=Km g L s hs om
 have hs1:=Uq hs
 rw [QfG]
 unfold PN.bnd
 generalize XB s=r at*
 obtain⟨nm,s1⟩:=r
 dsimp only at*
 have f2:=Qcc g L s1 0 hs1 om
 have f3:=YO g L s1 (WS s1).isSome hs1 om
 have hs2:=(Ql1.suf s1).trans hs1
 have hg1:(gkS s1).1=WS s1:=rfl
 have hg2:(gkS s1).2=(QZ (WS s1).isSome s1).2:=rfl
 rw [hg1]
 rw [←hg2] at f3
 generalize (gkS s1).2=s2 at*
 generalize (QZ (WS s1).isSome s1).1=tw at*
 unfold Fg
 refine fH func171 fun C hC=>?_
 apply wa1
 apply wa6
 refine xA fun g2 n_2=>?_
 refine yH n_2 ?_
 apply wa1
 apply wa6
 refine yH n_2 ?_
 refine QbD f1 rfl rfl rfl (zE n_2) (zL2 o0) ?_
 refine yS n_2 ?_
 refine yH n_2 ?_
 refine yA n_2 fun g3 n_3=>?_
 have J1:=oj n_2 n_3
 refine yW J1 ?_
 refine yS J1 ?_
 refine yH J1 ?_
 apply wa1
 apply wa6
 refine yH J1 ?_
 apply wa1
 refine Yy (fun _:Unit=>[(0,.c (.optr g 0)),(2,.c (.optr g2 0)),(3,.c (.optr g3 0)),(4,.c (.bool (WS s1).isSome))]) (fun _=>[(g3,.cells 79 7 (ofL [.str (sB nm),.int .i64 ((WS s1).getD 0),.int .i64 0,.nils,.bool false,.nils,.nils])),(g2,.cells 79 7 (ofL [.str (sB []),.int .i64 0,.int .i64 0,.nils,.bool false,.nils,.nils])),(g,Ye L s1)]) (fun _=>1=1) ?_ ?_
 ·all_goals repeat' first|refine zV J1 ?_|refine yQ J1 f2 ?_|refine zH J1 ?_ ?_<;>intro hb|fail
  ·obtain⟨h0,h1,h2⟩:=Qvg hs1 hb
   have hk:WS s1=QgV (hdT s1):=by unfold WS;rw [iP hb]
   have hgk:=QsB (hdT s1)
   rw [←hk] at hgk
   refine Yf ([(g3,.cells 79 7 (ofL [.str (sB nm),.int .i64 0,.int .i64 0,.nils,.bool false,.nils,.nils])),(g,Ye L s1)]) [(0,0),(1,0),(2,0),(3,0),(4,0),(5,0),(6,0),(7,0),(8,0),(9,0),(10,0),(11,0),(12,0),(13,0),(15,0),(14,3),(16,2),(17,0)] Qg kR eI ?_
   have J2:=oj n_2 (oj n_3 h2)
   refine yG J2 ?_
   refine Yg rfl hgk rfl rfl rfl (fun _ _=>(zL J2)) ?_
   refine Xp J2 ?_
   iterate 1 (refine wc3 rfl rfl fun R r=> ?_;simp only [go_sem,n_2,n_3,h2];with_reducible show R (some _);with_reducible refine r _ _ ?_;clear r R)
   have J3:=oj n_2 (oj n_3 h2)
   refine yS J3 ?_
   refine Xm (FP':=[]) rfl rfl rfl rfl rfl (zE J3) (zE J3) (zE J3) (zE J3) (fun _ e=>by cases e) rfl rfl (show 2≤7 from by omega) rfl Qf ?_
   refine Xp J3 ?_
   refine Qb ⟨(),?_⟩
   and_intros<;>first|rfl|exact Lr _|exact True.intro
  ·have hk:WS s1=none:=by unfold WS;rw [iN (by rw [hb];decide)]
   rw [hk]
   refine Qb ⟨(),?_⟩
   and_intros<;>first|rfl|exact Lr _|exact True.intro
 rintro _ _
 apply wa1
 apply wa6
 have J4:=oj n_2 n_3
 refine yH J4 ?_
 refine QbD f3 rfl rfl rfl (zE J4) (zL2 o0) ?_
 refine yS J4 ?_
 refine yH J4 ?_
 apply wa1
 refine Yy (fun _:Unit=>[(0,.c (.optr g 0)),(2,.c (.optr g2 0)),(3,.c (.optr g3 0))]) (fun _=>[(g3,.cells 79 7 (ofL ([.str (sB nm),.int .i64 ((WS s1).getD 0),.int .i64 (gtV (WS s1) s2).1,.nils]++Y1 (gtD (WS s1) s2).1))),(g2,.cells 79 7 (ofL [.str (sB []),.int .i64 0,.int .i64 0,.nils,.bool false,.nils,.nils])),(g,Ye L (gtD (WS s1) s2).2)]) (fun _=>1=1) ?_ ?_
 ·have f4:=Qkx g L s2 hs2 om hw
  have f5:=KO g L s2 hs2 om hw
  by_cases k2:WS s1=some 2
  ·have hv:gtV (WS s1) s2=ZV s2:=by unfold gtV;rw [iP k2]
   have hd:gtD (WS s1) s2=(rd0,(ZV s2).2):=by unfold gtD;rw [iN (by rw [k2];decide),hv]
   rw [hv,hd,k2]
   refine Zo J4 f4 ?_
   refine Wt (f':=ofL ([.str (sB nm),.int .i64 2,.int .i64 (ZV s2).1,.nils]++Y1 rd0)) Qg5 ?_
   refine Qb ⟨(),?_⟩
   and_intros<;>first|rfl|exact Lr _|exact True.intro
  by_cases k7:WS s1=some 7
  ·have hv:gtV (WS s1) s2=(0,s2):=by unfold gtV;rw [iN k2]
   have hd:gtD (WS s1) s2=Ys s2:=by unfold gtD;rw [iP k7,hv]
   rw [hv,hd,k7]
   refine Zo J4 f5 ?_
   refine Qb ⟨(),?_⟩
   and_intros<;>first|rfl|exact Lr _|exact True.intro
  ·have hv:gtV (WS s1) s2=(0,s2):=by unfold gtV;rw [iN k2]
   have hd:gtD (WS s1) s2=(rd0,s2):=by unfold gtD;rw [iN k7,hv]
   have n2:((WS s1).getD 0==(2:Int))=false:=by
    cases hk:WS s1 with
    |none=>rfl
    |some v=>simp only [Option.getD_some];rw [beq_eq_false_iff_ne];intro e;exact k2 (by rw [hk,e])
   have n7:((WS s1).getD 0==(7:Int))=false:=by
    cases hk:WS s1 with
    |none=>rfl
    |some v=>simp only [Option.getD_some];rw [beq_eq_false_iff_ne];intro e;exact k7 (by rw [hk,e])
   rw [hv,hd]
   refine zA (oj n_2 (oj n_3 (oj n2 n7))) ?_
   refine Wt (f':=ofL ([.str (sB nm),.int .i64 ((WS s1).getD 0),.int .i64 0,.nils]++Y1 rd0)) Qg5 ?_
   refine Qb ⟨(),?_⟩
   and_intros<;>first|rfl|exact Lr _|exact True.intro
 rintro _ _
 have hs3:(gtD (WS s1) s2).2.l<:+L.map TX.t:=(Qvh _ _).trans hs2
 have hsp:gtK nm (WS s1) s2=(⟨nm,(WS s1).getD 0,(gtV (WS s1) s2).1,(Qsr (gtD (WS s1) s2).2).1,(gtD (WS s1) s2).1⟩,(Qsr (gtD (WS s1) s2).2).2):=rfl
 rw [hsp]
 generalize gtV (WS s1) s2=v at*
 generalize gtD (WS s1) s2=d at*
 generalize (WS s1).getD 0=kd at*
 obtain⟨d,s3⟩:=d
 obtain⟨v,s3'⟩:=v
 dsimp only at*
 clear f1 f2 f3 hg1 hg2 hs2 hs1 J4
 unfold Qsr
 dsimp only
 generalize hF:Jv (fun s=> !Xs s Q7) inB [] s3=F at*
 apply wa1
 refine Yy (fun _:Nat×Option Nat=>[(0,.c (.optr g 0)),(2,.c (.optr g2 0)),(3,.c (.optr g3 0))]) (fun x=>[(g3,.cells 79 7 (ofL ([.str (sB nm),.int .i64 kd,.int .i64 v,gs x.2 1 x.1]++Y1 d))),(g2,.cells 79 7 (ofL [.str (sB []),.int .i64 0,.int .i64 0,.nils,.bool false,.nils,.nils])),(g,Ye L F.2)]++gh x.2 9 x.1 (Qe F.1)) (fun x=>F.1.length=x.1∧(x.2=none→x.1=0)) ?_ ?_
 ·apply wa2
  refine Qh (fun _:PS×List BS×Nat×Option Nat=>[(0,.c (.optr g 0)),(2,.c (.optr g2 0)),(3,.c (.optr g3 0))]) (fun x=>[(g3,.cells 79 7 (ofL ([.str (sB nm),.int .i64 kd,.int .i64 v,gs x.2.2.2 1 x.2.2.1]++Y1 d))),(g2,.cells 79 7 (ofL [.str (sB []),.int .i64 0,.int .i64 0,.nils,.bool false,.nils,.nils])),(g,Ye L x.1)]++gh x.2.2.2 9 x.2.2.1 (Qe x.2.1))
   (fun x=>x.1.l<:+L.map TX.t∧x.2.1.length=x.2.2.1∧(x.2.2.2=none→x.2.2.1=0)∧x.2.2.1+mS x.1≤1048577∧Jv (fun s=> !Xs s Q7) inB x.2.1 x.1=F) (fun x=>mS x.1) (s3,[],0,none) (zB (oj n_2 n_3)) zZ ⟨hs3,rfl,fun _=>rfl,?_,hF⟩ ?_
  ·have:=hs3.length_le
   rw [Lw] at this
   dsimp only
   unfold mS
   split<;>omega
  rintro ⟨sx,xs,n,og⟩ ⟨hsx,hn,hog,hm,hlp⟩
  dsimp only at hsx hn hog hm hlp⊢
  have f2:=VE g L sx Q7 hsx om
  have f4:=Qcd g L sx hsx om hw
  all_goals try(have Z:=(oj n_2 n_3);(repeat' first|refine zV Z ?_|refine yQ Z f2 ?_|refine zH Z ?_ ?_<;>intro hb|fail);all_goals clear Z)
  ·rename_i h0
   have hc:(!Xs sx Q7)=true:=hb
   have hst:=Vy (c:=fun s=> !Xs s Q7) (b:=inB) (a:=xs) (fun a s h _=>QnH a s h) h0 hc
   have hlt:=QnH xs sx h0
   rw [hst] at hlp
   have hsy:(inB xs sx).2.l<:+L.map TX.t:=((Qd1 xs).suf sx).trans hsx
   have e1:(inB xs sx).1=xs++[(Zl sx).1]:=rfl
   have e2:(inB xs sx).2=(Zl sx).2:=rfl
   rw [e2] at hlt hsy
   rw [e1,e2] at hlp
   generalize Zl sx=y at*
   obtain⟨t,sy⟩:=y
   dsimp only at*
   refine Yf ([(g3,.cells 79 7 (ofL (.str (sB nm)::.int .i64 kd::.int .i64 v::gs og 1 n::Y1 d)))]) [(0,0),(1,0),(2,0),(3,1),(4,1),(5,1),(6,0),(7,2)] Qg kR eI ?_
   have J5:=oj n_2 n_3
   refine yG J5 ?_
   refine OY rfl f4 rfl rfl rfl (zE J5) (zL J5) (by refine yS J5 ?_;exact Qm (Lf ..) Qf) ?_
   refine Xp J5 ?_
   refine Qs (xs:=[.tmp 54]) (cells:=[.str (sB t)]) rfl rfl rfl rfl (zE J5) (by refine yS J5 ?_;rfl) rfl om om qd rfl Ag (Qm (Lf ..) Qf) (fun ga n_a=> ?_) (hm:=.inr ⟨rfl,rfl⟩)
   refine yS J5 ?_
   refine YT (pre:=[(g3,.cells 79 7 (ofL (.str (sB nm)::.int .i64 kd::.int .i64 v::gs og 1 n::Y1 d))),(g2,.cells 79 7 (ofL [.str (sB []),.int .i64 0,.int .i64 0,.nils,.bool false,.nils,.nils])),(g,Ye L sy)]) (og:=og) (n:=n) (s:=52) (d1:=55) (gt:=ga) (v:=.c (.str (sB t))) rfl rfl rfl rfl (zE J5) (zE J5) (by rfl) om om (zE J5) (zE J5) hog (by rfl) (by rfl) (by simp only [Ad,Lq,Ln];rfl) qc om (YG hn t) (XY (Qm (Lf ..) Qf)) (fun gb n_b=> ?_) (hm:=.inr ⟨rfl,rfl⟩)
   replace n_a:=Qa.ne_of n_a
   simp only [Qa.ne] at n_a
   have J6:=oj n_2 (oj n_3 n_a)
   refine Xp J6 ?_
   refine Xm (FP':=[]) rfl rfl rfl rfl rfl (zE J6) (zE J6) (zE J6) (zE J6) (fun _ e=>by cases e) rfl rfl (show 4≤7 from by omega) rfl Qf ?_
   refine Xp J6 ?_
   refine Qb ⟨(sy,xs++[t],n+1,some gb),?_⟩
   refine⟨hlt,?_⟩
   and_intros
   all_goals first|rfl|exact List.Sublist.cons _ (Lr _)|exact True.intro|exact hsy|exact XJ|exact hlp|(dsimp only;rw [La,hn];rfl)|(dsimp only;omega)
  ·have hc:¬(sx.e=0∧(!Xs sx Q7)=true):=fun z=>by rw [hb] at z;exact absurd z.2 Af
   rw [Yn hc] at hlp
   subst hlp
   refine Qb ⟨(n,og),?_⟩
   and_intros<;>first|rfl|exact Lr _|exact True.intro|exact hn|exact hog
  ·have hc:¬(sx.e=0∧(!Xs sx Q7)=true):=fun z=>hb z.1
   rw [Yn hc] at hlp
   subst hlp
   refine Qb ⟨(n,og),?_⟩
   and_intros<;>first|rfl|exact Lr _|exact True.intro|exact hn|exact hog
 rintro ⟨n,og⟩ ⟨hn,hog⟩
 dsimp only at hn hog⊢
 have hs4:F.2.l<:+L.map TX.t:=by
  rw [←hF];exact((ZW Qd1 []).suf s3).trans hs3
 have f6:=XK g L F.2 Q7 hs4 om
 subst hn
 refine Y9 fun hnd=> ?_
 have hog2:∀q,og=some q→¬C.own0 q:=fun q hq hown=>by
  subst hq
  have:q=g:=by simpa [Qa.keys] using (hC q).1 hown
  subst this
  simp [Qa.keys,gh] at hnd
 refine Qi (h':=(g3,.cells 79 7 (ofL (.str (sB nm)::.int .i64 kd::.int .i64 v::gs og 1 F.1.length::Y1 d)))::(gh og 9 (F.1.length*1) (Qe F.1)++[(g2,.cells 79 7 (ofL [.str (sB []),.int .i64 0,.int .i64 0,.nils,.bool false,.nils,.nils])),(g,Ye L F.2)])) (by rw [Ad];exact .cons _ (List.perm_append_comm (l₁:=[(g2,.cells 79 7 (ofL [.str (sB []),.int .i64 0,.int .i64 0,.nils,.bool false,.nils,.nils])),(g,Ye L F.2)]))) ?_
 refine Xi (j0:=3) (n:=F.1.length) (s:=1) (f':=ofL (.str (sB nm)::.int .i64 kd::.int .i64 v::X0 true F.1::Y1 d)) rfl rfl (fun j hj hj3=>by
  match j,hj,hj3 with
  |0,_,_=>rfl
  |1,_,_=>rfl
  |2,_,_=>rfl
  |4,_,_=>rfl
  |5,_,_=>rfl
  |6,_,_=>rfl) hog hog2 ?_
 refine Zo (oj n_2 n_3) f6 ?_
 refine QW (h':=[(g,Ye L (Xz Q7 F.2))]) rfl sL fun R r=>?_;simp only[go_sem,n_2,n_3];refine r _ rfl ?_;clear r R
 exact⟨rfl,rfl⟩
theorem Ql2 {xs:List RD} {n:Nat} (hn:xs.length=n) (t:RD):∀j,j<(n+1)*3→Xq (Vv xs) (n*3) (ofL (Y1 t)) j=Vv (xs++[t]) j:=Za (s:=3) (c:=fun r:RD=>[CV.bool r.neg,ws true r.num,ws true r.den]) (d:=rd0) hn t Af
theorem QsE (g:Nat) (L:List TX) (s:PS) (hs:s.l<:+L.map TX.t) (hL:L.length≤1048576) (hw:∀t∈L,t.t.text.length≤1099511627776):Fg prog 173 g (Ye L s) [.c (.optr g 0)] (.agg (Wx (Jk s).1)) (Ye L (Jk s).2):=by
 have f1:=Km g L s hs om
 have hs1:=Uq hs
 unfold Jk
 dsimp only
 generalize XB s=r at*
 obtain⟨nm,s1⟩:=r
 dsimp only at*
 have f2:=VE g L s1 ZF hs1 om
 have f3:=VE g L s1 Yh hs1 om
 have f4:=YO g L s1 (Xs s1 ZF||Xs s1 Yh) hs1 om
 have hs2:=((Zm fun s=>Xs s ZF||Xs s Yh).suf s1).trans hs1
 try dsimp only at hs2
 generalize hr:QZ (Xs s1 ZF||Xs s1 Yh) s1=r at*
 obtain⟨tw,s2⟩:=r
 dsimp only at*
 generalize hkd:(if(tw==Yh)=true then(1:Int) else 0)=kd
 generalize hF:Jv (fun s=>Yc s 1) Qf7 [] s2=F at*
 unfold Fg
 refine fH func173 fun C hC=>?_
 apply wa1
 apply wa6
 refine xA fun g2 n_2=>?_
 refine yH n_2 ?_
 apply wa1
 apply wa6
 refine yH n_2 ?_
 refine QbD f1 rfl rfl rfl (zE n_2) (zL2 o0) ?_
 refine yS n_2 ?_
 refine yH n_2 ?_
 refine yA n_2 fun g3 n_3=>?_
 have J1:=oj n_2 n_3
 refine yW J1 ?_
 refine yS J1 ?_
 refine yH J1 ?_
 apply wa1
 refine Yy (fun _:Unit=>[(0,.c (.optr g 0)),(2,.c (.optr g2 0)),(3,.c (.optr g3 0))]) (fun _=>[(g3,.cells 94 4 (ofL [.str (sB nm),.int .i64 kd,.nils,.nils])),(g2,.cells 94 4 (ofL [.str (sB []),.int .i64 0,.nils,.nils])),(g,Ye L s2)]) (fun _=>1=1) ?_ ?_
 ·cases h1:Xs s1 ZF with
  |true=>
   rw [h1] at f2 f4
   rw [Bool.true_or] at f4
   all_goals repeat' first|refine zV J1 ?_|refine yQ J1 f2 ?_|refine yQ J1 f3 ?_|refine yQ J1 f4 ?_|refine zH J1 ?_ ?_<;>intro hb|fail
   all_goals
    refine Qb ⟨(),?_⟩
    rw [←hkd]
    simp only [hb,beq_self_eq_true,if_true,if_false,beq_iff_eq]
    and_intros<;>first|rfl|exact Lr _|exact True.intro
  |false=>
   rw [h1] at f2 f4
   rw [Bool.false_or] at f4
   all_goals repeat' first|refine zV J1 ?_|refine yQ J1 f2 ?_|refine yQ J1 f3 ?_|refine yQ J1 f4 ?_|refine zH J1 ?_ ?_<;>intro hb|fail
   all_goals
    refine Qb ⟨(),?_⟩
    rw [←hkd]
    simp only [hb,beq_self_eq_true,if_true,if_false,beq_iff_eq]
    and_intros<;>first|rfl|exact Lr _|exact True.intro
 rintro _ _
 clear f1 f2 f3 f4 J1
 apply wa1
 refine Yy (fun _:Nat×Option Nat=>[(0,.c (.optr g 0)),(2,.c (.optr g2 0)),(3,.c (.optr g3 0))]) (fun x=>[(g3,.cells 94 4 (ofL [.str (sB nm),.int .i64 kd,.nils,gs x.2 3 x.1])),(g2,.cells 94 4 (ofL [.str (sB []),.int .i64 0,.nils,.nils])),(g,Ye L F.2)]++gh x.2 77 (x.1*3) (Vv F.1)) (fun x=>F.1.length=x.1∧(x.2=none→x.1=0)) ?_ ?_
 ·apply wa2
  refine Qh (fun _:PS×List RD×Nat×Option Nat=>[(0,.c (.optr g 0)),(2,.c (.optr g2 0)),(3,.c (.optr g3 0))]) (fun x=>[(g3,.cells 94 4 (ofL [.str (sB nm),.int .i64 kd,.nils,gs x.2.2.2 3 x.2.2.1])),(g2,.cells 94 4 (ofL [.str (sB []),.int .i64 0,.nils,.nils])),(g,Ye L x.1)]++gh x.2.2.2 77 (x.2.2.1*3) (Vv x.2.1))
   (fun x=>x.1.l<:+L.map TX.t∧x.2.1.length=x.2.2.1∧(x.2.2.2=none→x.2.2.1=0)∧x.2.2.1+mS x.1≤1048577∧Jv (fun s=>Yc s 1) Qf7 x.2.1 x.1=F) (fun x=>mS x.1) (s2,[],0,none) (zB (oj n_2 n_3)) zZ ⟨hs2,rfl,fun _=>rfl,?_,hF⟩ ?_
  ·have:=(hs2).length_le
   rw [Lw] at this
   dsimp only
   unfold mS
   split<;>omega
  rintro ⟨sx,xs,n,og⟩ ⟨hsx,hn,hog,hm,hlp⟩
  dsimp only at hsx hn hog hm hlp⊢
  have f5:=Qcc g L sx 1 hsx om
  have f7:=KO g L sx hsx om hw
  all_goals try(have Z:=(oj n_2 n_3);(repeat' first|refine zV Z ?_|refine yQ Z f5 ?_|refine zH Z ?_ ?_<;>intro hb|fail);all_goals clear Z)
  ·have h0:sx.e=0:=(QnQ hb)
   have hc:(fun s=>Yc s 1) sx=true:=hb
   have hst:=Vy (c:=fun s=>Yc s 1) (b:=Qf7) (a:=xs) (fun a s h _=>Qkv a s h) h0 hc
   have hlt:=Qkv xs sx h0
   rw [hst] at hlp
   have hsy:(Qf7 xs sx).2.l<:+L.map TX.t:=((Qca xs).suf sx).trans hsx
   have e1:(Qf7 xs sx).1=xs++[(Ys sx).1]:=rfl
   have e2:(Qf7 xs sx).2=(Ys sx).2:=rfl
   rw [e2] at hlt hsy
   rw [e1,e2] at hlp
   generalize Ys sx=y at*
   obtain⟨t,sy⟩:=y
   dsimp only at*
   refine Yf ([(g3,.cells 94 4 (ofL [.str (sB nm),.int .i64 kd,.nils,gs og 3 n]))]) [(0,0),(1,0),(2,0),(3,1),(4,1),(5,1),(6,0),(7,2)] Qg kR eI ?_
   have J2:=oj n_2 n_3
   refine yG J2 ?_
   refine OY rfl f7 rfl rfl rfl (zE J2) (zL J2) (by refine yS J2 ?_;exact Qm (Lf ..) Qf) ?_
   refine Xp J2 ?_
   refine Qs (xs:=[.tmp 22]) (cells:=Y1 t) rfl rfl rfl rfl (zE J2) (by refine yS J2 ?_;rfl) rfl om om qd rfl Ag (Qm (Lf ..) Qf) (fun ga n_a=> ?_) (hm:=.inr ⟨rfl,rfl⟩)
   refine yS J2 ?_
   refine YT (pre:=[(g3,.cells 94 4 (ofL [.str (sB nm),.int .i64 kd,.nils,gs og 3 n])),(g2,.cells 94 4 (ofL [.str (sB []),.int .i64 0,.nils,.nils])),(g,Ye L sy)]) (og:=og) (n:=n) (s:=20) (d1:=23) (gt:=ga) (v:=.agg (Y1 t)) rfl rfl rfl rfl (zE J2) (zE J2) (by rfl) om om (zE J2) (zE J2) hog (by rfl) (by rfl) (by simp only [Ad,Lq,Ln];rfl) qc om (Ql2 hn t) (XY (Qm (Lf ..) Qf)) (fun gb n_b=> ?_) (hm:=.inr ⟨rfl,rfl⟩)
   replace n_a:=Qa.ne_of n_a
   simp only [Qa.ne] at n_a
   have J3:=oj n_2 (oj n_3 n_a)
   refine Xp J3 ?_
   refine Xm (FP':=[]) rfl rfl rfl rfl rfl (zE J3) (zE J3) (zE J3) (zE J3) (fun _ e=>by cases e) rfl rfl (show 4≤4 from by omega) rfl Qf ?_
   refine Xp J3 ?_
   refine Qb ⟨(sy,xs++[t],n+1,some gb),?_⟩
   refine⟨hlt,?_⟩
   and_intros
   all_goals first|rfl|exact List.Sublist.cons _ (Lr _)|exact True.intro|exact hsy|exact XJ|exact hlp|(dsimp only;rw [La,hn];rfl)|(dsimp only;omega)
  ·have hc:¬(sx.e=0∧(fun s=>Yc s 1) sx=true):=fun z=>by rw [show(fun s=>Yc s 1) sx=false from hb] at z;exact absurd z.2 Af
   rw [Yn hc] at hlp
   subst hlp
   refine Qb ⟨(n,og),?_⟩
   and_intros<;>first|rfl|exact Lr _|exact True.intro|exact hn|exact hog
 rintro ⟨n,og⟩ ⟨hn,hog⟩
 dsimp only at hn hog⊢
 have hs5:F.2.l<:+L.map TX.t:=by
  rw [←hF];exact((ZW Qca []).suf s2).trans (hs2)
 subst hn
 refine Y9 fun hnd=> ?_
 have hog2:∀q,og=some q→¬C.own0 q:=fun q hq hown=>by
  subst hq
  have:q=g:=by simpa [Qa.keys] using (hC q).1 hown
  subst this
  simp [Qa.keys,gh] at hnd
 refine Qi (h':=(g3,.cells 94 4 (ofL [.str (sB nm),.int .i64 kd,.nils,gs og 3 F.1.length]))::(gh og 77 (F.1.length*3) (Vv F.1)++[(g2,.cells 94 4 (ofL [.str (sB []),.int .i64 0,.nils,.nils])),(g,Ye L F.2)])) (by exact .cons _ (List.perm_append_comm (l₁:=[(g2,.cells 94 4 (ofL [.str (sB []),.int .i64 0,.nils,.nils])),(g,Ye L F.2)]))) ?_
 refine Xi (j0:=3) (n:=F.1.length) (s:=3) (f':=ofL [.str (sB nm),.int .i64 kd,.nils,.row true 3 F.1.length (Vv F.1)]) rfl rfl (fun j hj hj3=>by
  match j,hj,hj3 with
  |0,_,_=>rfl
  |1,_,_=>rfl
  |2,_,_=>rfl
  |j+3,h1,h2=>exact absurd (show j+3=3 from by omega) h2) hog hog2 ?_
 obtain⟨fs,s3⟩:=F
 dsimp only at hs5⊢
 have f6:=XK g L s3 Zi hs5 om
 have hs4:(Xz Zi s3).l<:+L.map TX.t:=((QJ Zi).suf s3).trans hs5
 generalize Xz Zi s3=s4 at*
 generalize hF':Jv (fun s=>Yc s 0) Qf8 [] s4=F
 clear hF hs5 hog2 hnd hog
 have hF:=hF'
 apply wa1
 apply wa6
 have J4:=oj n_2 n_3
 refine yH J4 ?_
 refine QbD f6 rfl rfl rfl (zE J4) (zL2 o0) ?_
 refine yS J4 ?_
 refine yH J4 ?_
 apply wa1
 refine Yy (fun _:Nat×Option Nat=>[(0,.c (.optr g 0)),(2,.c (.optr g2 0)),(3,.c (.optr g3 0))]) (fun x=>[(g3,.cells 94 4 (ofL [.str (sB nm),.int .i64 kd,gs x.2 1 x.1,.row true 3 fs.length (Vv fs)])),(g2,.cells 94 4 (ofL [.str (sB []),.int .i64 0,.nils,.nils])),(g,Ye L F.2)]++gh x.2 9 (x.1*1) (Qe F.1)) (fun x=>F.1.length=x.1∧(x.2=none→x.1=0)) ?_ ?_
 ·apply wa2
  refine Qh (fun _:PS×List BS×Nat×Option Nat=>[(0,.c (.optr g 0)),(2,.c (.optr g2 0)),(3,.c (.optr g3 0))]) (fun x=>[(g3,.cells 94 4 (ofL [.str (sB nm),.int .i64 kd,gs x.2.2.2 1 x.2.2.1,.row true 3 fs.length (Vv fs)])),(g2,.cells 94 4 (ofL [.str (sB []),.int .i64 0,.nils,.nils])),(g,Ye L x.1)]++gh x.2.2.2 9 (x.2.2.1*1) (Qe x.2.1))
   (fun x=>x.1.l<:+L.map TX.t∧x.2.1.length=x.2.2.1∧(x.2.2.2=none→x.2.2.1=0)∧x.2.2.1+mS x.1≤1048577∧Jv (fun s=>Yc s 0) Qf8 x.2.1 x.1=F) (fun x=>mS x.1) (s4,[],0,none) (zB J4) zZ ⟨hs4,rfl,fun _=>rfl,?_,hF⟩ ?_
  ·have:=(hs4).length_le
   rw [Lw] at this
   dsimp only
   unfold mS
   split<;>omega
  rintro ⟨sx,xs,n,og⟩ ⟨hsx,hn,hog,hm,hlp⟩
  dsimp only at hsx hn hog hm hlp⊢
  have f5:=Qcc g L sx 0 hsx om
  have f7:=Km g L sx hsx om
  all_goals repeat' first|refine zV J4 ?_|refine yQ J4 f5 ?_|refine zH J4 ?_ ?_<;>intro hb|fail
  ·have h0:sx.e=0:=(QnQ hb)
   have hc:(fun s=>Yc s 0) sx=true:=hb
   have hst:=Vy (c:=fun s=>Yc s 0) (b:=Qf8) (a:=xs) (fun a s h _=>Qkw a s h) h0 hc
   have hlt:=Qkw xs sx h0
   rw [hst] at hlp
   have hsy:(Qf8 xs sx).2.l<:+L.map TX.t:=((Qcb xs).suf sx).trans hsx
   have e1:(Qf8 xs sx).1=xs++[(XB sx).1]:=rfl
   have e2:(Qf8 xs sx).2=(XB sx).2:=rfl
   rw [e2] at hlt hsy
   rw [e1,e2] at hlp
   generalize XB sx=y at*
   obtain⟨t,sy⟩:=y
   dsimp only at*
   refine Yf ([(g3,.cells 94 4 (ofL [.str (sB nm),.int .i64 kd,gs og 1 n,.row true 3 fs.length (Vv fs)]))]) [(0,0),(1,0),(2,0),(3,1),(4,1),(5,1),(6,0),(7,2)] Qg kR eI ?_
   refine yG J4 ?_
   refine OY rfl f7 rfl rfl rfl (zE J4) (zL J4) (by refine yS J4 ?_;exact Qm (Lf ..) Qf) ?_
   refine Xp J4 ?_
   refine Qs (xs:=[.tmp 33]) (cells:=[.str (sB t)]) rfl rfl rfl rfl (zE J4) (by refine yS J4 ?_;rfl) rfl om om qd rfl Ag (Qm (Lf ..) Qf) (fun ga n_a=> ?_) (hm:=.inr ⟨rfl,rfl⟩)
   refine yS J4 ?_
   refine YT (pre:=[(g3,.cells 94 4 (ofL [.str (sB nm),.int .i64 kd,gs og 1 n,.row true 3 fs.length (Vv fs)])),(g2,.cells 94 4 (ofL [.str (sB []),.int .i64 0,.nils,.nils])),(g,Ye L sy)]) (og:=og) (n:=n) (s:=31) (d1:=34) (gt:=ga) (v:=.c (.str (sB t))) rfl rfl rfl rfl (zE J4) (zE J4) (by rfl) om om (zE J4) (zE J4) hog (by rfl) (by rfl) (by simp only [Ad,Lq,Ln];rfl) qc om (YG hn t) (XY (Qm (Lf ..) Qf)) (fun gb n_b=> ?_) (hm:=.inr ⟨rfl,rfl⟩)
   replace n_a:=Qa.ne_of n_a
   simp only [Qa.ne] at n_a
   have J5:=oj n_2 (oj n_3 n_a)
   refine Xp J5 ?_
   refine Xm (FP':=[]) rfl rfl rfl rfl rfl (zE J5) (zE J5) (zE J5) (zE J5) (fun _ e=>by cases e) rfl rfl (show 3≤4 from by omega) rfl Qf ?_
   refine Xp J5 ?_
   refine Qb ⟨(sy,xs++[t],n+1,some gb),?_⟩
   refine⟨hlt,?_⟩
   and_intros
   all_goals first|rfl|exact List.Sublist.cons _ (Lr _)|exact True.intro|exact hsy|exact XJ|exact hlp|(dsimp only;rw [La,hn];rfl)|(dsimp only;omega)
  ·have hc:¬(sx.e=0∧(fun s=>Yc s 0) sx=true):=fun z=>by rw [show(fun s=>Yc s 0) sx=false from hb] at z;exact absurd z.2 Af
   rw [Yn hc] at hlp
   subst hlp
   refine Qb ⟨(n,og),?_⟩
   and_intros<;>first|rfl|exact Lr _|exact True.intro|exact hn|exact hog
 rintro ⟨n,og⟩ ⟨hn,hog⟩
 dsimp only at hn hog⊢
 have hs5:F.2.l<:+L.map TX.t:=by
  rw [←hF];exact((ZW Qcb []).suf s4).trans (hs4)
 subst hn
 refine Y9 fun hnd=> ?_
 have hog2:∀q,og=some q→¬C.own0 q:=fun q hq hown=>by
  subst hq
  have:q=g:=by simpa [Qa.keys] using (hC q).1 hown
  subst this
  simp [Qa.keys,gh] at hnd
 refine Qi (h':=(g3,.cells 94 4 (ofL [.str (sB nm),.int .i64 kd,gs og 1 F.1.length,.row true 3 fs.length (Vv fs)]))::(gh og 9 (F.1.length*1) (Qe F.1)++[(g2,.cells 94 4 (ofL [.str (sB []),.int .i64 0,.nils,.nils])),(g,Ye L F.2)])) (by rw [Ad];exact .cons _ (List.perm_append_comm (l₁:=[(g2,.cells 94 4 (ofL [.str (sB []),.int .i64 0,.nils,.nils])),(g,Ye L F.2)]))) ?_
 refine Xi (j0:=2) (n:=F.1.length) (s:=1) (f':=ofL [.str (sB nm),.int .i64 kd,.row true 1 F.1.length (Qe F.1),.row true 3 fs.length (Vv fs)]) rfl rfl (fun j hj hj3=>by
  match j,hj,hj3 with
  |0,_,_=>rfl
  |1,_,_=>rfl
  |3,_,_=>rfl) hog hog2 ?_
 have f8:=XK g L F.2 Q7 hs5 om
 refine Zo J4 f8 ?_
 refine QW (h':=[(g,Ye L (Xz Q7 F.2))]) rfl sL fun R r=>?_;simp only[go_sem,n_2,n_3];refine r _ rfl ?_;clear r R
 exact⟨rfl,rfl⟩
theorem Qvm {a:CV}:∀j,j<11→∀(S:Bool→Nat→Prop) w u,XX S w (ofL [a,.bool false,.nils,.nils,.bool false,.nils,.nils,.bool false,.nils,.nils,.int .i64 0] j) u→XX S w (ofL ([a]++Y1 rd0++Y1 rd0++Y1 rd0++[.int .i64 0]) j) u:=fun j hj S w u hr=>by
 match j,hj with
 |0,_=>exact hr
 |1,_=>exact hr
 |2,_=>exact XS hr
 |3,_=>exact XS hr
 |4,_=>exact hr
 |5,_=>exact XS hr
 |6,_=>exact XS hr
 |7,_=>exact hr
 |8,_=>exact XS hr
 |9,_=>exact XS hr
 |10,_=>exact hr
theorem QsF (g:Nat) (L:List TX) (s:PS) (hs:s.l<:+L.map TX.t) (hL:L.length≤1048576) (hw:∀t∈L,t.t.text.length≤1099511627776):Fg prog 169 g (Ye L s) [.c (.optr g 0)] (.agg (evc (Ji s).1)) (Ye L (Ji s).2):=by
 have f1:=Km g L s hs om
 have hs1:=Uq hs
 unfold Ji
 dsimp only
 generalize XB s=r at*
 obtain⟨nm,s1⟩:=r
 dsimp only at*
 generalize hF:Jv (fun s=> !Xs s Q7) evB ([],{ev0 with name:=nm}) s1=F at*
 have hsF:F.2.l<:+L.map TX.t:=by rw [←hF];exact((ZW Qh5 _).suf s1).trans hs1
 have f8:=XK g L F.2 Q7 hsF om
 unfold Fg
 refine fH func169 fun C hC=>?_
 apply wa1
 apply wa6
 refine xA fun g2 n_2=>?_
 refine yH n_2 ?_
 apply wa1
 apply wa6
 refine yH n_2 ?_
 refine QbD f1 rfl rfl rfl (zE n_2) (zL2 o0) ?_
 refine yS n_2 ?_
 refine yH n_2 ?_
 refine yA n_2 fun g3 n_3=>?_
 have J1:=oj n_2 n_3
 refine yW J1 ?_
 refine yS J1 ?_
 refine yH J1 ?_
 refine Wt (f':=ofL (evc {ev0 with name:=nm})) Qvm ?_
 apply wa1
 apply wa6
 refine QeF (Kf:=keyS) rfl rfl rfl fun gm n_m=> ?_
 replace n_m:=Qa.ne_of n_m
 simp only [Qa.ne] at n_m
 have J2:=oj n_2 (oj n_3 n_m)
 refine yS J2 ?_
 refine yH J2 ?_
 apply wa1
 refine Yy (fun _:Unit=>[(0,.c (.optr g 0)),(2,.c (.optr g2 0)),(3,.c (.optr g3 0))]) (fun _=>[(g3,.cells 89 11 (ofL (evc F.1.2))),(g2,.cells 89 11 (ofL [.str (sB []),.bool false,.nils,.nils,.bool false,.nils,.nils,.bool false,.nils,.nils,.int .i64 0])),(g,Ye L F.2)]) (fun _=>1=1) ?_ ?_
 ·apply wa2
  refine Qh (fun _:PS×List BS×X3=>[(0,.c (.optr g 0)),(2,.c (.optr g2 0)),(3,.c (.optr g3 0)),(4,.c (.raw (.map (some gm))))]) (fun x=>[(gm,.gen (Uu keyS (svL x.2.1))),(g3,.cells 89 11 (ofL (evc x.2.2))),(g2,.cells 89 11 (ofL [.str (sB []),.bool false,.nils,.nils,.bool false,.nils,.nils,.bool false,.nils,.nils,.int .i64 0])),(g,Ye L x.1)])
   (fun x=>x.1.l<:+L.map TX.t∧(x.1.e=0→x.2.1.contains []=false)∧Jv (fun s=> !Xs s Q7) evB (x.2.1,x.2.2) x.1=F) (fun x=>mS x.1) (s1,[],{ev0 with name:=nm}) (zB J2) zZ ⟨hs1,fun _=>rfl,hF⟩ ?_
  rintro ⟨sx,seen,x⟩ ⟨hsx,hne,hlp⟩
  dsimp only at hsx hne hlp⊢
  have i0:=VE g L sx Q7 hsx om
  have i1:=VE g L sx kP hsx om
  have i2:=VE g L sx kFail hsx om
  have i3:=VE g L sx kRepair hsx om
  have i4:=VE g L sx kCost hsx om
  have hr:=rat hsx
  have hcon:=QnJ (seen,x) sx
  have hsuf:=((Qh5 (seen,x)).suf sx).trans hsx
  have hst:=fun h0 hc=>Vy (c:=fun s=> !Xs s Q7) (b:=evB) (a:=(seen,x)) (s:=sx) (fun a s h _=>QnJ a s h) h0 hc
  all_goals repeat' first|refine zV J2 ?_|refine yQ J2 i0 ?_|refine yQ J2 i1 ?_|refine yQ J2 i2 ?_|refine yQ J2 i3 ?_|refine yQ J2 i4 ?_|refine zH J2 ?_ ?_<;>intro hb|fail
  ·rename_i h0 hc
   obtain⟨_,t,l',hl,hk,ht⟩:=U3 hb
   have hB:=QyP seen x h0 hl hk ht
   have hat:L.length-sx.l.length<L.length:=Classical.byContradiction fun h=>by have:=hr.nil h;rw [this] at hl;cases hl
   obtain⟨l2,hl2,hl3⟩:=hr.cons hat
   have htx:(L.getD (L.length-sx.l.length) tx0).t.text=kP:=by
    have hx:=(List.cons.inj (hl.symm.trans hl2)).1
    rw [←hx];exact ht
   have hsl:l'<:+L.map TX.t:=(show l'<:+sx.l from by rw [hl];exact List.suffix_cons t l').trans hsx
   have hcon':=hcon h0
   have hst':=hst h0 hc
   have q0:(kP==kP)=true:=rfl
   have q1:(kP==kFail)=false:=rfl
   have q2:(kP==kRepair)=false:=rfl
   have q3:(kP==kCost)=false:=rfl
   refine Xv 16 Qg kR ?_
   refine zA (oj n_2 (oj n_3 (oj n_m (oj htx (oj q0 (oj q1 (oj q2 q3))))))) ?_
   refine UR (a:=kP) (kv:=svL seen) (Kf:=keyS) (z:=.bool false) rfl rfl rfl (kt:=9) (et:=4) kR (JD kR) kR (zE (oj n_2 (oj n_3 (oj n_m (oj htx (oj q0 (oj q1 (oj q2 q3)))))))) (zE (oj n_2 (oj n_3 (oj n_m (oj htx (oj q0 (oj q1 (oj q2 q3)))))))) (ck:=.c (.str (sB kP))) (zE (oj n_2 (oj n_3 (oj n_m (oj htx (oj q0 (oj q1 (oj q2 q3)))))))) (fun _ _ _ h=>h) ?_
   rw [KU]
   by_cases hcs:seen.contains kP=true
   ·rw [iP hcs] at hB⊢
    have f6:=JE g L sx 6 Af
    refine Zo (oj n_2 (oj n_3 (oj n_m (oj htx (oj q0 (oj q1 (oj q2 q3))))))) f6 ?_
    rw [hst',hB,Yn (fun z=>by have:=z.1;unfold YM at this;rw [iP h0] at this;exact absurd this (by simp))] at hlp
    subst hlp
    refine Qb ⟨(),?_⟩
    and_intros<;>first|rfl|exact List.Sublist.cons _ (Lr _)|exact True.intro
   ·rw [iN hcs] at hB⊢
    have hcs':seen.contains kP=false:=by simpa using hcs
    have f6:=YO g L sx true hsx om
    rw [Xo h0 hl,iP rfl,ht] at f6
    dsimp only at f6
    have f7:=KO g L ⟨l',0⟩ hsl om hw
    refine Zo (oj n_2 (oj n_3 (oj n_m (oj htx (oj q0 (oj q1 (oj q2 q3))))))) f6 ?_
    refine JI (a:=kP) (kv:=svL seen) (Kf:=keyS) (v:=.bool true) rfl rfl rfl (kt:=9) (et:=4) kR (JD kR) (zE (oj n_2 (oj n_3 (oj n_m (oj htx (oj q0 (oj q1 (oj q2 q3)))))))) (zE (oj n_2 (oj n_3 (oj n_m (oj htx (oj q0 (oj q1 (oj q2 q3)))))))) (ck:=.c (.str (sB kP))) (zE (oj n_2 (oj n_3 (oj n_m (oj htx (oj q0 (oj q1 (oj q2 q3)))))))) (fun _ _ _ h=>h) (cv:=.c (.bool true)) (zE (oj n_2 (oj n_3 (oj n_m (oj htx (oj q0 (oj q1 (oj q2 q3)))))))) (fun _ _ _ h=>h) (by rw [KU,hcs'];rfl) rfl ?_
    rw [←WO]
    refine Zo (oj n_2 (oj n_3 (oj n_m (oj htx (oj q0 (oj q1 (oj q2 q3))))))) f7 ?_
    rw [hB] at hcon' hsuf
    rw [hst',hB] at hlp
    refine Qb ⟨((Ys ⟨l',0⟩).2,kP::seen,{x with p:=(Ys ⟨l',0⟩).1}),?_⟩
    refine⟨hcon',?_⟩
    and_intros
    all_goals first|rfl|exact Lr _|exact True.intro|exact hsuf|exact hlp|exact fun _=>by dsimp only;rw [List.contains_cons,hne h0];rfl
  ·rename_i h0 hc n0
   obtain⟨_,t,l',hl,hk,ht⟩:=U3 hb
   have hB:=Qsy seen x h0 hl hk ht
   have hat:L.length-sx.l.length<L.length:=Classical.byContradiction fun h=>by have:=hr.nil h;rw [this] at hl;cases hl
   obtain⟨l2,hl2,hl3⟩:=hr.cons hat
   have htx:(L.getD (L.length-sx.l.length) tx0).t.text=kFail:=by
    have hx:=(List.cons.inj (hl.symm.trans hl2)).1
    rw [←hx];exact ht
   have hsl:l'<:+L.map TX.t:=(show l'<:+sx.l from by rw [hl];exact List.suffix_cons t l').trans hsx
   have hcon':=hcon h0
   have hst':=hst h0 hc
   have q0:(kFail==kP)=false:=rfl
   have q1:(kFail==kFail)=true:=rfl
   have q2:(kFail==kRepair)=false:=rfl
   have q3:(kFail==kCost)=false:=rfl
   refine Xv 16 Qg kR ?_
   refine zA (oj n_2 (oj n_3 (oj n_m (oj htx (oj q0 (oj q1 (oj q2 q3))))))) ?_
   refine UR (a:=kFail) (kv:=svL seen) (Kf:=keyS) (z:=.bool false) rfl rfl rfl (kt:=9) (et:=4) kR (JD kR) kR (zE (oj n_2 (oj n_3 (oj n_m (oj htx (oj q0 (oj q1 (oj q2 q3)))))))) (zE (oj n_2 (oj n_3 (oj n_m (oj htx (oj q0 (oj q1 (oj q2 q3)))))))) (ck:=.c (.str (sB kFail))) (zE (oj n_2 (oj n_3 (oj n_m (oj htx (oj q0 (oj q1 (oj q2 q3)))))))) (fun _ _ _ h=>h) ?_
   rw [KU]
   by_cases hcs:seen.contains kFail=true
   ·rw [iP hcs] at hB⊢
    have f6:=JE g L sx 6 Af
    refine Zo (oj n_2 (oj n_3 (oj n_m (oj htx (oj q0 (oj q1 (oj q2 q3))))))) f6 ?_
    rw [hst',hB,Yn (fun z=>by have:=z.1;unfold YM at this;rw [iP h0] at this;exact absurd this (by simp))] at hlp
    subst hlp
    refine Qb ⟨(),?_⟩
    and_intros<;>first|rfl|exact List.Sublist.cons _ (Lr _)|exact True.intro
   ·rw [iN hcs] at hB⊢
    have hcs':seen.contains kFail=false:=by simpa using hcs
    have f6:=YO g L sx true hsx om
    rw [Xo h0 hl,iP rfl,ht] at f6
    dsimp only at f6
    have f7:=KO g L ⟨l',0⟩ hsl om hw
    refine Zo (oj n_2 (oj n_3 (oj n_m (oj htx (oj q0 (oj q1 (oj q2 q3))))))) f6 ?_
    refine JI (a:=kFail) (kv:=svL seen) (Kf:=keyS) (v:=.bool true) rfl rfl rfl (kt:=9) (et:=4) kR (JD kR) (zE (oj n_2 (oj n_3 (oj n_m (oj htx (oj q0 (oj q1 (oj q2 q3)))))))) (zE (oj n_2 (oj n_3 (oj n_m (oj htx (oj q0 (oj q1 (oj q2 q3)))))))) (ck:=.c (.str (sB kFail))) (zE (oj n_2 (oj n_3 (oj n_m (oj htx (oj q0 (oj q1 (oj q2 q3)))))))) (fun _ _ _ h=>h) (cv:=.c (.bool true)) (zE (oj n_2 (oj n_3 (oj n_m (oj htx (oj q0 (oj q1 (oj q2 q3)))))))) (fun _ _ _ h=>h) (by rw [KU,hcs'];rfl) rfl ?_
    rw [←WO]
    refine Zo (oj n_2 (oj n_3 (oj n_m (oj htx (oj q0 (oj q1 (oj q2 q3))))))) f7 ?_
    rw [hB] at hcon' hsuf
    rw [hst',hB] at hlp
    refine Qb ⟨((Ys ⟨l',0⟩).2,kFail::seen,{x with fail:=(Ys ⟨l',0⟩).1}),?_⟩
    refine⟨hcon',?_⟩
    and_intros
    all_goals first|rfl|exact Lr _|exact True.intro|exact hsuf|exact hlp|exact fun _=>by dsimp only;rw [List.contains_cons,hne h0];rfl
  ·rename_i h0 hc n0 n1
   obtain⟨_,t,l',hl,hk,ht⟩:=U3 hb
   have hB:=Qvi seen x h0 hl hk ht
   have hat:L.length-sx.l.length<L.length:=Classical.byContradiction fun h=>by have:=hr.nil h;rw [this] at hl;cases hl
   obtain⟨l2,hl2,hl3⟩:=hr.cons hat
   have htx:(L.getD (L.length-sx.l.length) tx0).t.text=kRepair:=by
    have hx:=(List.cons.inj (hl.symm.trans hl2)).1
    rw [←hx];exact ht
   have hsl:l'<:+L.map TX.t:=(show l'<:+sx.l from by rw [hl];exact List.suffix_cons t l').trans hsx
   have hcon':=hcon h0
   have hst':=hst h0 hc
   have q0:(kRepair==kP)=false:=rfl
   have q1:(kRepair==kFail)=false:=rfl
   have q2:(kRepair==kRepair)=true:=rfl
   have q3:(kRepair==kCost)=false:=rfl
   refine Xv 16 Qg kR ?_
   refine zA (oj n_2 (oj n_3 (oj n_m (oj htx (oj q0 (oj q1 (oj q2 q3))))))) ?_
   refine UR (a:=kRepair) (kv:=svL seen) (Kf:=keyS) (z:=.bool false) rfl rfl rfl (kt:=9) (et:=4) kR (JD kR) kR (zE (oj n_2 (oj n_3 (oj n_m (oj htx (oj q0 (oj q1 (oj q2 q3)))))))) (zE (oj n_2 (oj n_3 (oj n_m (oj htx (oj q0 (oj q1 (oj q2 q3)))))))) (ck:=.c (.str (sB kRepair))) (zE (oj n_2 (oj n_3 (oj n_m (oj htx (oj q0 (oj q1 (oj q2 q3)))))))) (fun _ _ _ h=>h) ?_
   rw [KU]
   by_cases hcs:seen.contains kRepair=true
   ·rw [iP hcs] at hB⊢
    have f6:=JE g L sx 6 Af
    refine Zo (oj n_2 (oj n_3 (oj n_m (oj htx (oj q0 (oj q1 (oj q2 q3))))))) f6 ?_
    rw [hst',hB,Yn (fun z=>by have:=z.1;unfold YM at this;rw [iP h0] at this;exact absurd this (by simp))] at hlp
    subst hlp
    refine Qb ⟨(),?_⟩
    and_intros<;>first|rfl|exact List.Sublist.cons _ (Lr _)|exact True.intro
   ·rw [iN hcs] at hB⊢
    have hcs':seen.contains kRepair=false:=by simpa using hcs
    have f6:=YO g L sx true hsx om
    rw [Xo h0 hl,iP rfl,ht] at f6
    dsimp only at f6
    have f7:=KO g L ⟨l',0⟩ hsl om hw
    refine Zo (oj n_2 (oj n_3 (oj n_m (oj htx (oj q0 (oj q1 (oj q2 q3))))))) f6 ?_
    refine JI (a:=kRepair) (kv:=svL seen) (Kf:=keyS) (v:=.bool true) rfl rfl rfl (kt:=9) (et:=4) kR (JD kR) (zE (oj n_2 (oj n_3 (oj n_m (oj htx (oj q0 (oj q1 (oj q2 q3)))))))) (zE (oj n_2 (oj n_3 (oj n_m (oj htx (oj q0 (oj q1 (oj q2 q3)))))))) (ck:=.c (.str (sB kRepair))) (zE (oj n_2 (oj n_3 (oj n_m (oj htx (oj q0 (oj q1 (oj q2 q3)))))))) (fun _ _ _ h=>h) (cv:=.c (.bool true)) (zE (oj n_2 (oj n_3 (oj n_m (oj htx (oj q0 (oj q1 (oj q2 q3)))))))) (fun _ _ _ h=>h) (by rw [KU,hcs'];rfl) rfl ?_
    rw [←WO]
    refine Zo (oj n_2 (oj n_3 (oj n_m (oj htx (oj q0 (oj q1 (oj q2 q3))))))) f7 ?_
    rw [hB] at hcon' hsuf
    rw [hst',hB] at hlp
    refine Qb ⟨((Ys ⟨l',0⟩).2,kRepair::seen,{x with rep:=(Ys ⟨l',0⟩).1}),?_⟩
    refine⟨hcon',?_⟩
    and_intros
    all_goals first|rfl|exact Lr _|exact True.intro|exact hsuf|exact hlp|exact fun _=>by dsimp only;rw [List.contains_cons,hne h0];rfl
  ·rename_i h0 hc n0 n1
   have n2:=hb
   cases hb:Xs sx kCost with
   |true=>
    obtain⟨_,t,l',hl,hk,ht⟩:=U3 hb
    have hB:=Qsz seen x h0 hl hk ht
    have hat:L.length-sx.l.length<L.length:=Classical.byContradiction fun h=>by have:=hr.nil h;rw [this] at hl;cases hl
    obtain⟨l2,hl2,hl3⟩:=hr.cons hat
    have htx:(L.getD (L.length-sx.l.length) tx0).t.text=kCost:=by
     have hx:=(List.cons.inj (hl.symm.trans hl2)).1
     rw [←hx];exact ht
    have hsl:l'<:+L.map TX.t:=(show l'<:+sx.l from by rw [hl];exact List.suffix_cons t l').trans hsx
    have hcon':=hcon h0
    have hst':=hst h0 hc
    have q0:(kCost==kP)=false:=rfl
    have q1:(kCost==kFail)=false:=rfl
    have q2:(kCost==kRepair)=false:=rfl
    have q3:(kCost==kCost)=true:=rfl
    refine Xv 16 Qg kR ?_
    refine zA (oj n_2 (oj n_3 (oj n_m (oj htx (oj q0 (oj q1 (oj q2 q3))))))) ?_
    refine UR (a:=kCost) (kv:=svL seen) (Kf:=keyS) (z:=.bool false) rfl rfl rfl (kt:=9) (et:=4) kR (JD kR) kR (zE (oj n_2 (oj n_3 (oj n_m (oj htx (oj q0 (oj q1 (oj q2 q3)))))))) (zE (oj n_2 (oj n_3 (oj n_m (oj htx (oj q0 (oj q1 (oj q2 q3)))))))) (ck:=.c (.str (sB kCost))) (zE (oj n_2 (oj n_3 (oj n_m (oj htx (oj q0 (oj q1 (oj q2 q3)))))))) (fun _ _ _ h=>h) ?_
    rw [KU]
    by_cases hcs:seen.contains kCost=true
    ·rw [iP hcs] at hB⊢
     have f6:=JE g L sx 6 Af
     refine Zo (oj n_2 (oj n_3 (oj n_m (oj htx (oj q0 (oj q1 (oj q2 q3))))))) f6 ?_
     rw [hst',hB,Yn (fun z=>by have:=z.1;unfold YM at this;rw [iP h0] at this;exact absurd this (by simp))] at hlp
     subst hlp
     refine Qb ⟨(),?_⟩
     and_intros<;>first|rfl|exact List.Sublist.cons _ (Lr _)|exact True.intro
    ·rw [iN hcs] at hB⊢
     have hcs':seen.contains kCost=false:=by simpa using hcs
     have f6:=YO g L sx true hsx om
     rw [Xo h0 hl,iP rfl,ht] at f6
     dsimp only at f6
     have f7:=Qkx g L ⟨l',0⟩ hsl om hw
     refine Zo (oj n_2 (oj n_3 (oj n_m (oj htx (oj q0 (oj q1 (oj q2 q3))))))) f6 ?_
     refine JI (a:=kCost) (kv:=svL seen) (Kf:=keyS) (v:=.bool true) rfl rfl rfl (kt:=9) (et:=4) kR (JD kR) (zE (oj n_2 (oj n_3 (oj n_m (oj htx (oj q0 (oj q1 (oj q2 q3)))))))) (zE (oj n_2 (oj n_3 (oj n_m (oj htx (oj q0 (oj q1 (oj q2 q3)))))))) (ck:=.c (.str (sB kCost))) (zE (oj n_2 (oj n_3 (oj n_m (oj htx (oj q0 (oj q1 (oj q2 q3)))))))) (fun _ _ _ h=>h) (cv:=.c (.bool true)) (zE (oj n_2 (oj n_3 (oj n_m (oj htx (oj q0 (oj q1 (oj q2 q3)))))))) (fun _ _ _ h=>h) (by rw [KU,hcs'];rfl) rfl ?_
     rw [←WO]
     refine Zo (oj n_2 (oj n_3 (oj n_m (oj htx (oj q0 (oj q1 (oj q2 q3))))))) f7 ?_
     rw [hB] at hcon' hsuf
     rw [hst',hB] at hlp
     refine Qb ⟨((ZV ⟨l',0⟩).2,kCost::seen,{x with cost:=(ZV ⟨l',0⟩).1}),?_⟩
     refine⟨hcon',?_⟩
     and_intros
     all_goals first|rfl|exact Lr _|exact True.intro|exact hsuf|exact hlp|exact fun _=>by dsimp only;rw [List.contains_cons,hne h0];rfl
   |false=>
    have hB:=Qxi seen x n0 n1 n2 hb
    obtain⟨ht1,ht2⟩:=Qxj sx h0
    have hcon':=hcon h0
    have hst':=hst h0 hc
    have f6:=YO g L sx false hsx om
    rw [ht1] at f6 hB
    have q0:(([]:BS)==kP)=false:=rfl
    have q1:(([]:BS)==kFail)=false:=rfl
    have q2:(([]:BS)==kRepair)=false:=rfl
    have q3:(([]:BS)==kCost)=false:=rfl
    refine Xv 16 Qg kR ?_
    refine Zo (oj n_2 (oj n_3 (oj n_m (oj q0 (oj q1 (oj q2 q3)))))) f6 ?_
    refine JI (a:=([]:BS)) (kv:=svL seen) (Kf:=keyS) (v:=.bool true) rfl rfl rfl (kt:=9) (et:=4) kR (JD kR) (zE (oj n_2 (oj n_3 (oj n_m (oj q0 (oj q1 (oj q2 q3))))))) (zE (oj n_2 (oj n_3 (oj n_m (oj q0 (oj q1 (oj q2 q3))))))) (ck:=.c (.str (sB []))) (zE (oj n_2 (oj n_3 (oj n_m (oj q0 (oj q1 (oj q2 q3))))))) (fun _ _ _ h=>h) (cv:=.c (.bool true)) (zE (oj n_2 (oj n_3 (oj n_m (oj q0 (oj q1 (oj q2 q3))))))) (fun _ _ _ h=>h) (by rw [KU,hne h0];rfl) rfl ?_
    rw [←WO]
    have J3:=oj n_2 (oj n_3 (oj n_m (oj q0 (oj q1 (oj q2 q3)))))
    refine yS J3 ?_
    refine zA J3 ?_
    rw [hB] at hcon' hsuf
    rw [hst',hB] at hlp
    refine Qb ⟨((QZ false sx).2,[]::seen,x),?_⟩
    refine⟨hcon',?_⟩
    and_intros
    all_goals first|rfl|exact Lr _|exact True.intro|exact hsuf|exact hlp|exact fun z=>absurd z ht2
  ·have hc:¬(sx.e=0∧(fun s=> !Xs s Q7) sx=true):=fun z=>by rw [show(fun s=> !Xs s Q7) sx=false from hb] at z;exact absurd z.2 Af
   rw [Yn hc] at hlp
   subst hlp
   refine Qb ⟨(),?_⟩
   and_intros<;>first|rfl|exact List.Sublist.cons _ (Lr _)|exact True.intro
  ·have hc:¬(sx.e=0∧(fun s=> !Xs s Q7) sx=true):=fun z=>hb z.1
   rw [Yn hc] at hlp
   subst hlp
   refine Qb ⟨(),?_⟩
   and_intros<;>first|rfl|exact List.Sublist.cons _ (Lr _)|exact True.intro
 rintro _ _
 refine Zo J2 f8 ?_
 refine QW (h':=[(g,Ye L (Xz Q7 F.2))]) rfl sL fun R r=>?_;simp only[go_sem,n_2,n_3,n_m];refine r _ rfl ?_;clear r R
 exact⟨rfl,rfl⟩
end Go.Proofs.YtngjgahldnnapaaGreatDoor
namespace Go.Proofs.YtngjgahldnnapaaGreatDoor
open Go.AI Go.PN Proofs.Tryz
attribute [local irreducible] aw Fa ZN ZZ Fh YE
theorem Qvn (g:Nat) (L:List TX) (s:PS) (hs:s.l<:+L.map TX.t) (hL:L.length≤1048576) (hw:∀t∈L,t.t.text.length≤1099511627776):Fg prog 172 g (Ye L s) [.c (.optr g 0)] (.agg (pgc (Ou s).1)) (Ye L (Ou s).2):=by
 have f1:=Km g L s hs om
 have hs1:=Uq hs
 unfold Ou
 dsimp only
 generalize XB s=r at*
 obtain⟨nm,s1⟩:=r
 dsimp only at*
 have f2:=XK g L s1 Yx hs1 om
 have hs2:(Xz Yx s1).l<:+L.map TX.t:=((QJ Yx).suf s1).trans hs1
 generalize Xz Yx s1=s2 at*
 have f3:=Qcd g L s2 hs2 om hw
 have hs3:=(V5.suf s2).trans hs2
 generalize Zl s2=r at*
 obtain⟨tp,s3⟩:=r
 dsimp only at*
 have f4:=XK g L s3 O8 hs3 om
 have hs4:(Xz O8 s3).l<:+L.map TX.t:=((QJ O8).suf s3).trans hs3
 generalize Xz O8 s3=s4 at*
 generalize hF:Jv (fun s=> !Xs s Yi) pgB [] s4=F at*
 unfold Fg
 refine fH func172 fun C hC=>?_
 refine zA o0 ?_
 refine xA fun g2 n_2=>?_
 refine Zo n_2 f1 ?_
 refine yA n_2 fun g3 n_3=>?_
 refine zA2 (oj n_2 n_3) f2 f3 ?_
 refine QbD f4 rfl rfl rfl (zE (oj n_2 n_3)) (zL2 o0) ?_
 have J1:=oj n_2 n_3
 refine yS J1 ?_
 refine yH J1 ?_
 apply wa1
 refine Yy (fun _:Nat×Option Nat=>[(0,.c (.optr g 0)),(2,.c (.optr g2 0)),(3,.c (.optr g3 0))]) (fun x=>[(g3,.cells 91 3 (ofL [.str (sB nm),.str (sB tp),gs x.2 7 x.1])),(g2,.cells 91 3 (ofL [.str (sB []),.str (sB []),.nils])),(g,Ye L F.2)]++gh x.2 79 (x.1*7) (X7 F.1)) (fun x=>F.1.length=x.1∧(x.2=none→x.1=0)) ?_ ?_
 ·apply wa2
  refine Qh (fun _:PS×List Xe×Nat×Option Nat=>[(0,.c (.optr g 0)),(2,.c (.optr g2 0)),(3,.c (.optr g3 0))]) (fun x=>[(g3,.cells 91 3 (ofL [.str (sB nm),.str (sB tp),gs x.2.2.2 7 x.2.2.1])),(g2,.cells 91 3 (ofL [.str (sB []),.str (sB []),.nils])),(g,Ye L x.1)]++gh x.2.2.2 79 (x.2.2.1*7) (X7 x.2.1))
   (fun x=>x.1.l<:+L.map TX.t∧x.2.1.length=x.2.2.1∧(x.2.2.2=none→x.2.2.1=0)∧x.2.2.1+mS x.1≤1048577∧Jv (fun s=> !Xs s Yi) pgB x.2.1 x.1=F) (fun x=>mS x.1) (s4,[],0,none) (zB J1) zZ ⟨hs4,rfl,fun _=>rfl,?_,hF⟩ ?_
  ·have:=hs4.length_le
   rw [Lw] at this
   dsimp only
   unfold mS
   split<;>omega
  rintro ⟨sx,xs,n,og⟩ ⟨hsx,hn,hog,hm,hlp⟩
  dsimp only at hsx hn hog hm hlp⊢
  have f5:=VE g L sx Yi hsx om
  have f6:=XK g L sx Qz hsx om
  have hsw:(Xz Qz sx).l<:+L.map TX.t:=((QJ Qz).suf sx).trans hsx
  have f7:=QnV g L (Xz Qz sx) hsw hL hw
  all_goals repeat' first|refine zV J1 ?_|refine yQ J1 f5 ?_|refine yQ J1 f6 ?_|refine zH J1 ?_ ?_<;>intro hb|fail
  ·rename_i h0
   have hc:(!Xs sx Yi)=true:=hb
   have hst:=Vy (c:=fun s=> !Xs s Yi) (b:=pgB) (a:=xs) (fun a s h _=>QnL a s h) h0 hc
   have hlt:=QnL xs sx h0
   rw [hst] at hlp
   have hsy:(pgB xs sx).2.l<:+L.map TX.t:=((Qd2 xs).suf sx).trans hsx
   have e1:(pgB xs sx).1=xs++[(K9 (Xz Qz sx)).1]:=rfl
   have e2:(pgB xs sx).2=(K9 (Xz Qz sx)).2:=rfl
   rw [e2] at hlt hsy
   rw [e1,e2] at hlp
   generalize K9 (Xz Qz sx)=y at*
   obtain⟨t,sy⟩:=y
   dsimp only at*
   refine Yf ([(g3,.cells 91 3 (ofL [.str (sB nm),.str (sB tp),gs og 7 n]))]) [(0,0),(1,0),(2,0),(3,1),(4,1),(5,1),(6,0),(7,2)] Qg kR eI ?_
   refine yG J1 ?_
   refine OY rfl f7 rfl rfl rfl (zE J1) (zL J1) (by refine yS J1 ?_;exact Qm (Lf ..) Qf) ?_
   refine Xp J1 ?_
   refine Qs (xs:=[.tmp 29]) (cells:=Zy t) rfl rfl rfl rfl (zE J1) (by refine yS J1 ?_;rfl) rfl om om qd rfl Ag (Qm (Lf ..) Qf) (fun ga n_a=> ?_) (hm:=.inr ⟨rfl,rfl⟩)
   refine yS J1 ?_
   refine YT (pre:=[(g3,.cells 91 3 (ofL [.str (sB nm),.str (sB tp),gs og 7 n])),(g2,.cells 91 3 (ofL [.str (sB []),.str (sB []),.nils])),(g,Ye L sy)]) (og:=og) (n:=n) (s:=27) (d1:=30) (gt:=ga) (v:=.agg (Zy t)) rfl rfl rfl rfl (zE J1) (zE J1) (by rfl) om om (zE J1) (zE J1) hog (by rfl) (by rfl) (by simp only [Ad,Lq,Ln];rfl) qc om (K0 hn t) (XY (Qm (Lf ..) Qf)) (fun gb n_b=> ?_) (hm:=.inr ⟨rfl,rfl⟩)
   replace n_a:=Qa.ne_of n_a
   simp only [Qa.ne] at n_a
   have J2:=oj n_2 (oj n_3 n_a)
   refine Xp J2 ?_
   refine Xm (FP':=[]) rfl rfl rfl rfl rfl (zE J2) (zE J2) (zE J2) (zE J2) (fun _ e=>by cases e) rfl rfl (show 3≤3 from by omega) rfl Qf ?_
   refine Xp J2 ?_
   refine Qb ⟨(sy,xs++[t],n+1,some gb),?_⟩
   refine⟨hlt,?_⟩
   and_intros
   all_goals first|rfl|exact List.Sublist.cons _ (Lr _)|exact True.intro|exact hsy|exact XJ|exact hlp|(dsimp only;rw [La,hn];rfl)|(dsimp only;omega)
  ·have hc:¬(sx.e=0∧(!Xs sx Yi)=true):=fun z=>by rw [hb] at z;exact absurd z.2 Af
   rw [Yn hc] at hlp
   subst hlp
   refine Qb ⟨(n,og),?_⟩
   and_intros<;>first|rfl|exact Lr _|exact True.intro|exact hn|exact hog
  ·have hc:¬(sx.e=0∧(!Xs sx Yi)=true):=fun z=>hb z.1
   rw [Yn hc] at hlp
   subst hlp
   refine Qb ⟨(n,og),?_⟩
   and_intros<;>first|rfl|exact Lr _|exact True.intro|exact hn|exact hog
 rintro ⟨n,og⟩ ⟨hn,hog⟩
 dsimp only at hn hog⊢
 have hs5:F.2.l<:+L.map TX.t:=by
  rw [←hF];exact((ZW Qd2 []).suf s4).trans hs4
 have f6:=XK g L F.2 Yi hs5 om
 subst hn
 refine Y9 fun hnd=> ?_
 have hog2:∀q,og=some q→¬C.own0 q:=fun q hq hown=>by
  subst hq
  have:q=g:=by simpa [Qa.keys] using (hC q).1 hown
  subst this
  simp [Qa.keys,gh] at hnd
 refine Qi (h':=(g3,.cells 91 3 (ofL [.str (sB nm),.str (sB tp),gs og 7 F.1.length]))::(gh og 79 (F.1.length*7) (X7 F.1)++[(g2,.cells 91 3 (ofL [.str (sB []),.str (sB []),.nils])),(g,Ye L F.2)])) (.cons _ (List.perm_append_comm (l₁:=[(g2,.cells 91 3 (ofL [.str (sB []),.str (sB []),.nils])),(g,Ye L F.2)]))) ?_
 refine Xi (j0:=2) (n:=F.1.length) (s:=7) (f':=ofL [.str (sB nm),.str (sB tp),gts true F.1]) rfl rfl (fun j hj hj3=>by
  match j,hj,hj3 with
  |0,_,_=>rfl
  |1,_,_=>rfl
  |j+2,h1,h2=>exact absurd (show j+2=2 from by omega) h2) hog hog2 ?_
 refine Zo J1 f6 ?_
 refine QW (h':=[(g,Ye L (Xz Yi F.2))]) rfl sL fun R r=>?_;simp only[go_sem,n_2,n_3];refine r _ rfl ?_;clear r R
 exact⟨rfl,rfl⟩
end Go.Proofs.YtngjgahldnnapaaGreatDoor
