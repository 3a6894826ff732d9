/- Parts of one proof, laid by a program. -/
import Derived.Test.YtpcpaekpnfkhhaaGreatDoorM00
import Derived.Test.YtpcpaekpnfkhhaaGreatDoorM03
import Derived.Test.YtpcpaekpnfkhhaaGreatDoorProg
import Derived.KernelRfl
import Derived.Test.YtpcpaekpnfkhhaaGreatDoorRows
import Derived.WalkKit
import Derived.ProofKit
import Derived.OpenShut
import Derived.JoinedCond
import Derived.Carry
import Derived.ShutString
set_option linter.unusedSimpArgs false
set_option linter.unusedVariables false
set_option maxRecDepth 100000
set_option maxHeartbeats 12800000
namespace Go.AI
def bitlen (n:Nat):Nat:=if n=0 then 0 else Nat.log2 n+1
theorem POk.indexStr {P:Program} {h:Heap} {ρ:Operand→AV} {t:TypeId} {x ix:Operand} {s:ByteArray} {k:IntKind} {i:Nat} {b:UInt8} (ht:P.underlying t=some .string) (hx:ρ x=.c (.str s)) (hi:ρ ix=.c (.int k (i:Int))) (hb:s[i]?=some b):
  POk P h ρ (.index t x ix) (.c (.int .u8 (b.toNat:Nat))):=fun S w e _ ho _=>by
 have h1:e x=.string s:=by have:=ho x (by simp [Op.operands]);rw [hx] at this;exact this
 have h2:e ix=.int k i:=by have:=ho ix (by simp [Op.operands]);rw [hi] at this;exact this
 refine⟨.int .u8 (b.toNat:Nat),fun o hop=> ?_,rfl⟩
 simp [execOp,hop,h1,h2,Instr.index,asIntOf,run_underlying ht,hb]
theorem aw_idx {E:Env} {K:List It} {σ:Sl} {h:Heap} {all rest:List Oper} {o:Oper} {t:TypeId} {x ix:Operand} {s:ByteArray} {k:IntKind} {i:Nat} (hop:o.op=.index t x ix) (hw:wantA all σ o=some true) (hd:dstOk E.N o.dst=true) (ht:E.P.underlying t=some .string)
  (hx:ev σ x=.c (.str s)) (hi:ev σ ix=.c (.int k (i:Int))) (htab:∀j,j<256→(s[j]?).map UInt8.toNat=some (bitlen j)) (hlt:i<256) (kk:aw E (.ops all rest::K) (σ.setO o.dst (.c (.int .u8 (bitlen i:Nat)))) h):aw E (.ops all (o::rest)::K) σ h:=by
 have h1:=htab i hlt
 cases hs:s[i]? with
 |none=>rw [hs] at h1;cases h1
 |some b=>
  rw [hs] at h1
  injection h1 with h1
  rw [←h1] at kk
  exact aw_pure hw (by rw [hop];exact POk.indexStr ht hx hi hs) hd rfl kk
theorem shr_u32_16 (x:Nat):shrZ .u32 (x:Int) 16=((x/65536:Nat):Int):=by
 rw [shrZ_eq]
 show(x:Int).fdiv 65536=_
 rw [Int.fdiv_eq_ediv_of_nonneg _ om];omega
theorem shr_u32_8 (x:Nat):shrZ .u32 (x:Int) 8=((x/256:Nat):Int):=by
 rw [shrZ_eq]
 show(x:Int).fdiv 256=_
 rw [Int.fdiv_eq_ediv_of_nonneg _ om];omega
theorem bitlen_div {x k:Nat} (hx:2^k≤x):bitlen x=k+bitlen (x/2^k):=by
 have hp:=Nat.two_pow_pos k
 have h0:x≠0:=by omega
 have h1:x/2^k≠0:=by have:=Nat.div_pos hx hp;omega
 unfold bitlen
 rw [if_neg h0,if_neg h1]
 have:Nat.log2 x=Nat.log2 (x/2^k)+k:=by
  clear h1
  induction k generalizing x with
  |zero=>simp
  |succ k ih=>
   have e2:2≤x:=by have:2^1≤2^(k+1):=Nat.pow_le_pow_right om om;omega
   rw [Nat.log2_def,if_pos e2]
   have hk:2^k≤x/2:=by rw [Nat.pow_succ] at hx;omega
   rw [ih hk (Nat.two_pow_pos k) (by have:=Nat.two_pow_pos k;omega),Nat.div_div_eq_div_mul,Nat.pow_succ,Nat.mul_comm 2]
   omega
 omega
end Go.AI
namespace Go.Proofs.YtpcpaekpnfkhhaaGreatDoor
open Go.AI Go.PN
attribute [local irreducible] aw Fa Fh DrK
theorem ty_str:Tryz.prog.underlying 9=some .string:=by kernel_rfl
@[go_sem] theorem ty_i_u8:tInt Tryz.prog 5=some .u8:=by kernel_rfl
theorem wrap_u8_nat {n:Nat} (h:n<256):wrapZ .u8 (n:Int)=(n:Int):=by
 rw [wrapZ_eq];exact wrap_inRange (k:=.u8) ⟨by omega,by omega⟩
theorem bitlen_le8:∀j,j<256→bitlen j≤8:=by decide+kernel
theorem len32_fa (x:Nat) (hx:x<4294967296):Fa Tryz.prog 164 [.c (.int .u32 x)] (.c (.int .i64 (bitlen x:Nat))):=by
 refine fa_of_body Tryz.func164 rfl rfl (by simp [Tryz.ntmps164]) fun C hC=> ?_
 simp only [initS,Nat.reduceAdd]
 refine xG ?_
 refine aw_cond eE (fun hb=> ?_) (fun hb=> ?_)
 ·have hx1:65536≤x:=dT hb
  have e1:bitlen x=16+bitlen (x/65536):=bitlen_div (k:=16) hx1
  refine xG ?_
  rw [shr_u32_16]
  refine xG ?_
  refine aw_cond eE (fun hb=> ?_) (fun hb=> ?_)
  ·have hx2:256≤x/65536:=dT hb
   have e2:bitlen (x/65536)=8+bitlen (x/65536/256):=bitlen_div (k:=8) hx2
   have hb8:=bitlen_le8 (x/65536/256) om
   refine xG ?_
   rw [shr_u32_8]
   refine xG ?_
   rw [wrap_u8_nat (n:=x/65536/256) om]
   refine aw_idx (i:=x/65536/256) rfl rfl rfl ty_str rfl eE (by decide+kernel) om ?_
   refine xSGT hC ?_
   exact .one (.c (ler_int om))
  ·have hx2:x/65536<256:=dF hb
   have hb8:=bitlen_le8 (x/65536) om
   refine xG ?_
   rw [wrap_u8_nat (n:=x/65536) om]
   refine aw_idx (i:=x/65536) rfl rfl rfl ty_str rfl eE (by decide+kernel) om ?_
   refine xSGT hC ?_
   exact .one (.c (ler_int om))
 ·have hx1:x<65536:=dF hb
  refine xG ?_
  refine aw_cond eE (fun hb=> ?_) (fun hb=> ?_)
  ·have hx2:256≤x:=dT hb
   have e2:bitlen x=8+bitlen (x/256):=bitlen_div (k:=8) hx2
   have hb8:=bitlen_le8 (x/256) om
   refine xG ?_
   rw [shr_u32_8]
   refine xG ?_
   rw [wrap_u8_nat (n:=x/256) om]
   refine aw_idx (i:=x/256) rfl rfl rfl ty_str rfl eE (by decide+kernel) om ?_
   refine xSGT hC ?_
   exact .one (.c (ler_int om))
  ·have hx2:x<256:=dF hb
   have hb8:=bitlen_le8 x om
   refine xG ?_
   rw [wrap_u8_nat (n:=x) om]
   refine aw_idx (i:=x) rfl rfl rfl ty_str rfl eE (by decide+kernel) om ?_
   refine xSGT hC ?_
   exact .one (.c (ler_int om))
theorem bitlen_lt {x k:Nat} (h:x<2^k):bitlen x≤k:=by
 unfold bitlen
 split
 ·omega
 ·rename_i h0
  have:=(Nat.log2_lt h0).2 h
  omega
theorem lead_fa (x:Nat) (hx:x<4294967296):Fa Tryz.prog 324 [.c (.int .u32 x)] (.c (.int .i64 (32-bitlen x:Nat))):=by
 refine fa_of_body Tryz.func324 rfl rfl (by simp [Tryz.ntmps324]) fun C hC=> ?_
 simp only [initS,Nat.reduceAdd]
 have hb:bitlen x≤32:=bitlen_lt hx
 refine xG ?_
 refine aw_callq (len32_fa x hx) rfl rfl rfl eL ?_
 refine xSGT hC ?_
 exact .one (.c (ler_int om))
theorem drop_zero {xs:List Nat} {m:Nat} (h:∀j,m≤j→xs.getD j 0=0):val (xs.drop m)=0:=by
 refine val_zero fun x hx=> ?_
 obtain⟨i,hi,rfl⟩:=List.getElem_of_mem hx
 have:=h (m+i) om
 rw [List.getD_eq_getElem?_getD] at this
 simp only [List.length_drop] at hi
 simpa [show m+i<xs.length from by omega] using this
theorem bits_top {xs:List Nat} {m:Nat} (hx:∀x∈xs,x<4294967296) (hm:m<xs.length) (hz:∀j,m+1≤j→xs.getD j 0=0) (h0:xs.getD m 0≠0):bitlen (val xs)=32*m+bitlen (xs.getD m 0):=by
 have h1:=val_split xs (m+1) om
 rw [drop_zero hz,Nat.mul_zero,Nat.add_zero,val_take_succ] at h1
 have h2:=val_take_lt xs hx m om
 have hp:4294967296^m=2^(32*m):=by rw [Nat.pow_mul]
 rw [hp] at h1 h2
 have hle:2^(32*m)≤val xs:=by
  rw [h1]
  have:=Nat.mul_le_mul_left (2^(32*m)) (show 1≤xs.getD m 0 from by omega)
  omega
 rw [bitlen_div hle,h1,Nat.add_mul_div_left _ _ (Nat.two_pow_pos _),Nat.div_eq_of_lt h2,Nat.zero_add]
theorem bits_fa (xs:List Nat) (hx:∀x∈xs,x<4294967296) (hlx:xs.length≤68719476736):Fa Tryz.prog 295 [.c (ws false xs)] (.c (.int .i64 (bitlen (val xs):Nat))):=by
 refine fa_of_body Tryz.func295 rfl rfl (by simp [Tryz.ntmps295]) fun C hC=> ?_
 simp only [initS,Nat.reduceAdd]
 refine xG ?_
 refine aw_lp (fun m:Nat=>[(0,.c (ws false xs)),(3,.c (.int .i64 ((m:Int)-1)))]) (fun _=>[]) (fun m=>m≤xs.length∧(∀j,m≤j→xs.getD j 0=0)) id xs.length eB zZ ⟨Nat.le_refl _,fun j hj=>getD_ge hj⟩ ?_
 rintro m ⟨hm,hz⟩
 refine xG ?_
 refine aw_cond eE (fun hb=> ?_) (fun hb=> ?_)
 ·have hm1:1≤m:=dT hb
  have e1:((m:Int)-1).toNat=m-1:=by omega
  have hxi:=getD_lt hx (m-1)
  refine xG ?_
  refine aw_cond eE (fun hb=> ?_) (fun hb=> ?_)
  ·have h0:xs.getD (m-1) 0≠0:=by simpa using hb
   have hbt:=bits_top hx (m:=m-1) om (by rw [show m-1+1=m from by omega];exact hz) h0
   have hbl:bitlen (xs.getD (m-1) 0)≤32:=bitlen_lt hxi
   refine xG ?_
   refine aw_callq (len32_fa _ hxi) rfl rfl rfl eL ?_
   refine xSGT hC ?_
   exact .one (.c (ler_int om))
  ·have h0:xs.getD (m-1) 0=0:=by simpa using hb
   refine xG ?_
   refine aw_stop ⟨m-1,by simp only [id];omega,eB,zZ,by omega,fun j hj=> ?_⟩
   by_cases e:j=m-1
   ·rw [e];exact h0
   ·exact hz j om
 ·have hm0:m=0:=dF hb
  subst hm0
  refine xGT hC ?_
  have:=drop_zero hz
  rw [List.drop_zero] at this
  exact .one (.c (ler_int (by rw [this];rfl)))
theorem bitlen_zero {n:Nat}:bitlen n=0↔n=0:=by
 unfold bitlen;split<;>simp [*]
end Go.Proofs.YtpcpaekpnfkhhaaGreatDoor
namespace Go.PN
theorem val_one (x:Nat):val [x]=x:=by simp [val]
theorem val_cut {zs:List Nat} {m:Nat} (h:val zs<4294967296^m):val (zs.drop m)=0:=by
 refine val_zero fun x hx=> ?_
 obtain⟨i,hi,rfl⟩:=List.getElem_of_mem hx
 have:=getD_zero_of_lt h (show m≤m+i from by omega)
 rw [List.getD_eq_getElem?_getD] at this
 simp only [List.length_drop] at hi
 simpa [show m+i<zs.length from by omega] using this
theorem val_take_all {zs:List Nat} {k:Nat} (h:zs.length=k):val (zs.take k)=val zs:=by rw [List.take_of_length_le om]
theorem top2 {zs:List Nat} {k:Nat} (hl:zs.length=k+2):val zs=(zs.getD (k+1) 0*4294967296+zs.getD k 0)*4294967296^k+val (zs.take k):=by
 rw [←val_take_all hl,val_take_succ,val_take_succ,Nat.pow_succ,Nat.add_mul,Nat.mul_assoc,Nat.mul_comm (4294967296^k) (4294967296*zs.getD (k+1) 0),Nat.mul_comm (4294967296^k) (zs.getD k 0),Nat.mul_comm 4294967296 (zs.getD (k+1) 0)]
 omega
theorem top3 {zs:List Nat} {k:Nat} (hl:zs.length=k+3):val zs=((zs.getD (k+2) 0*4294967296+zs.getD (k+1) 0)*4294967296+zs.getD k 0)*4294967296^k+val (zs.take k):=by
 rw [←val_take_all hl,val_take_succ,val_take_succ,val_take_succ]
 generalize zs.getD (k+2) 0=a
 generalize zs.getD (k+1) 0=b
 generalize zs.getD k 0=c
 simp only [Nat.pow_succ]
 generalize 4294967296^k=D
 simp only [Nat.add_mul]
 have e1:a*4294967296*4294967296*D=D*4294967296*4294967296*a:=by rw [Nat.mul_comm (D*4294967296*4294967296) a,Nat.mul_comm D,Nat.mul_comm (4294967296*D),←Nat.mul_assoc 4294967296 4294967296 D,←Nat.mul_assoc,←Nat.mul_assoc]
 have e2:b*4294967296*D=D*4294967296*b:=by rw [Nat.mul_comm (D*4294967296) b,Nat.mul_comm D,←Nat.mul_assoc]
 have e3:c*D=D*c:=Nat.mul_comm _ _
 rw [e1,e2,e3]
 omega
theorem win_getD' {us:List Nat} {j L i:Nat} (hi:i<L):((us.drop j).take L).getD i 0=us.getD (j+i) 0:=by
 rw [getD_take hi,List.getD_eq_getElem?_getD,List.getD_eq_getElem?_getD,List.getElem?_drop]
theorem win_win {ys zs zs2:List Nat} {off:Nat} (h:off+zs.length≤ys.length) (he:zs2.length=zs.length):win (win ys off zs) off zs2=win ys off zs2:=by
 unfold win
 have h1:(ys.take off++(zs++ys.drop (off+zs.length))).take off=ys.take off:=by
  rw [List.take_append_of_le_length (by simp;omega),List.take_take,Nat.min_self]
 have h2:(ys.take off++(zs++ys.drop (off+zs.length))).drop (off+zs2.length)=ys.drop (off+zs2.length):=by
  rw [he,←List.append_assoc,List.drop_append_of_le_length (by simp;omega),List.drop_of_length_le (by simp;omega),List.nil_append]
 rw [h1,h2]
theorem win_of_win {ys zs:List Nat} {off L:Nat} (h:off+L≤ys.length) (hz:zs.length=L):zs=((win ys off zs).drop off).take L:=by
 unfold win
 rw [List.drop_append_of_le_length (by simp;omega),List.drop_of_length_le (by simp;omega),List.nil_append,List.take_append_of_le_length om,List.take_of_length_le om]
theorem window {us:List Nat} {j L V:Nat} (hu:∀x∈us,x<4294967296) (hL:j+L+1≤us.length) (hV:V<4294967296^L) (hlt:val us<V*4294967296^(j+1)):
  val us=val (us.take j)+4294967296^j*val ((us.drop j).take (L+1))∧val (us.take j)<4294967296^j∧val (us.drop (j+(L+1)))=0∧val ((us.drop j).take (L+1))<V*4294967296:=by
 have h1:val (us.drop (j+(L+1)))=0:=by
  refine val_cut (Nat.lt_of_lt_of_le hlt ?_)
  rw [show j+(L+1)=L+(j+1) from by omega,Nat.pow_add 4294967296 L (j+1)]
  exact Nat.mul_le_mul_right _ (Nat.le_of_lt hV)
 have h2:=val_split us j om
 have h3:=val_split (us.drop j) (L+1) (by simp;omega)
 rw [List.drop_drop,h1,Nat.mul_zero,Nat.add_zero] at h3
 rw [h3] at h2
 have h4:=val_take_lt us hu j om
 refine⟨h2,h4,h1,?_⟩
 rw [h2,Nat.pow_succ,Nat.mul_comm (4294967296^j) 4294967296,←Nat.mul_assoc,Nat.mul_comm (V*4294967296)] at hlt
 exact Nat.lt_of_mul_lt_mul_left (a:=4294967296^j) om
theorem head_le {W V v1 v2 vr D w0 w1 w2 wr:Nat} (hV:V=(v1*4294967296+v2)*D+vr) (hv2:v2<4294967296) (hvr:vr<D) (hW:W=((w0*4294967296+w1)*4294967296+w2)*D+wr) (hlt:W<V*4294967296):w0≤v1:=by
 rcases Nat.lt_or_ge v1 w0 with h|h
 ·exfalso
  have h1:V+1≤(v1+1)*4294967296*D:=by
   have:(v1*4294967296+v2+1)*D≤(v1+1)*4294967296*D:=Nat.mul_le_mul_right D om
   rw [Nat.add_mul,Nat.one_mul] at this
   omega
  have h2:(v1+1)*4294967296*D*4294967296≤W:=by
   have:(v1+1)*4294967296*4294967296*D≤((w0*4294967296+w1)*4294967296+w2)*D:=Nat.mul_le_mul_right D om
   rw [Nat.mul_assoc _ D,Nat.mul_comm D,←Nat.mul_assoc]
   omega
  have h3:=Nat.mul_le_mul_right 4294967296 h1
  omega
 ·exact h
theorem div_step {A V U lo W P z q j Q:Nat} (hU:U=lo+P*W) (hlo:lo<P) (hz:z+q*V=W) (hzV:z<V) (hA:A=U+V*(P*4294967296*Q)) (hP:P=4294967296^j):
  lo+P*z<V*P∧A=(lo+P*z)+V*(P*(q+4294967296*Q)):=by
 constructor
 ·have:=Nat.mul_le_mul_left P (show z+1≤V from hzV)
  rw [Nat.mul_add,Nat.mul_one,Nat.mul_comm P V] at this
  omega
 ·rw [hA,hU,←hz,Nat.mul_add,Nat.mul_add,Nat.mul_add,←Nat.mul_assoc P 4294967296 Q]
  have:P*(q*V)=V*(P*q):=by rw [←Nat.mul_assoc,Nat.mul_comm]
  omega
theorem digit_ok {W V g z P:Nat} (hV:0<V) (h1:W/V≤g) (h2:g*V<W+V) (h:z+g*V=W+P*0):z+(W/V)*V=W∧z<V∧g=W/V:=by
 have hg:g≤W/V:=(Nat.le_div_iff_mul_le hV).2 om
 have e:g=W/V:=by omega
 subst e
 have:=Nat.div_add_mod W V
 have h3:=Nat.mod_lt W hV
 rw [Nat.mul_comm] at this
 exact⟨by omega,by omega,rfl⟩
theorem digit_back {W V g z z2 P c:Nat} (hV:0<V) (hVP:V≤P) (h1:W/V≤g) (h2:g*V<W+V) (hz:z<P) (hz2:z2<P) (h:z+g*V=W+P*1) (hb:z2+P*c=z+V):1≤g∧z2+(W/V)*V=W∧z2<V∧g-1=W/V:=by
 have hmod:=Nat.div_add_mod W V
 have hlt:=Nat.mod_lt W hV
 rw [Nat.mul_comm] at hmod
 have hg:W/V+1≤g:=by
  rcases Nat.lt_or_ge (W/V) g with h|h'
  ·exact h
  ·exfalso
   have e:g=W/V:=by omega
   rw [e] at h
   omega
 have hg2:g≤W/V+1:=by
  rcases Nat.lt_or_ge (W/V+1) g with h'|h'
  ·exfalso
   have:=Nat.mul_le_mul_right V (show W/V+2≤g from h')
   rw [Nat.add_mul] at this
   omega
  ·exact h'
 have e:g=W/V+1:=by omega
 rw [e,Nat.add_mul,Nat.one_mul] at h
 have hc:z2+P*c=W%V+P:=by omega
 have hc1:c=1:=by
  rcases c with _|_|c
  ·omega
  ·rfl
  ·exfalso
   have:P*(c+1+1)=P*c+P+P:=by rw [Nat.mul_add,Nat.mul_add];omega
   omega
 subst hc1
 exact⟨by rw [e];exact Nat.le_add_left _ _,by omega,by omega,by rw [e];rfl⟩
theorem div_end {a b n U q:Nat} (hb:0<b) (hlt:U<b*2^n) (h:a*2^n=U+b*2^n*q):q=a/b∧U/2^n=a%b:=by
 have hp:=Nat.two_pow_pos n
 have hV:0<b*2^n:=Nat.mul_pos hb hp
 have h1:a*2^n/(b*2^n)=q:=by rw [h,Nat.add_mul_div_left _ _ hV,Nat.div_eq_of_lt hlt,Nat.zero_add]
 have h2:a*2^n%(b*2^n)=U:=by rw [h,Nat.add_mul_mod_self_left,Nat.mod_eq_of_lt hlt]
 rw [Nat.mul_div_mul_right _ _ hp] at h1
 rw [Nat.mul_mod_mul_right] at h2
 exact⟨h1.symm,by rw [←h2,Nat.mul_div_cancel _ hp]⟩
theorem mul4 (p q B D:Nat):p*q*B*D=p*(q*B*D):=by rw [Nat.mul_assoc,Nat.mul_assoc,Nat.mul_assoc]
theorem guess_start {V W D v1 v2 head w2 wr vr:Nat} (hV:V=(v1*4294967296+v2)*D+vr) (hv1:0<v1) (hW:W=(head*4294967296+w2)*D+wr) (hw2:w2<4294967296) (hwr:wr<D):W/V≤head/v1:=by
 have hD:0<D:=by omega
 have hV0:0<V:=by
  have:=Nat.mul_le_mul_right D (show 1≤v1*4294967296+v2 from by omega)
  omega
 have h1:head+1≤(head/v1+1)*v1:=by
  have:=Nat.div_add_mod head v1
  have h2:=Nat.mod_lt head hv1
  rw [Nat.add_mul,Nat.one_mul,Nat.mul_comm (head/v1)]
  omega
 have h2:W<(head+1)*4294967296*D:=by
  have:(head*4294967296+w2+1)*D≤(head+1)*4294967296*D:=Nat.mul_le_mul_right D om
  rw [Nat.add_mul,Nat.one_mul] at this
  omega
 have h3:(head+1)*4294967296*D≤(head/v1+1)*V:=by
  have e1:(head+1)*4294967296*D≤(head/v1+1)*v1*4294967296*D:=Nat.mul_le_mul_right D (Nat.mul_le_mul_right _ h1)
  have e0:v1*4294967296*D≤V:=by rw [hV,Nat.add_mul,Nat.add_assoc];exact Nat.le_add_right _ _
  have e2:=Nat.mul_le_mul_left (head/v1+1) e0
  rw [←mul4] at e2
  exact Nat.le_trans e1 e2
 have:W/V<head/v1+1:=(Nat.div_lt_iff_lt_mul hV0).2 om
 omega
theorem norm_top {bs vs:List Nat} {n k:Nat} (hb:∀x∈bs,x<4294967296) (hl:bs.length=k+2) (hn:n≤32) (h1:2147483648≤bs.getD (k+1) 0*2^n) (h2:bs.getD (k+1) 0*2^n<4294967296) (hv:∀x∈vs,x<4294967296) (hvl:vs.length=k+3) (hvv:val vs=val bs*2^n):
  val (vs.take (k+2))=val bs*2^n∧2147483648≤vs.getD (k+1) 0∧val bs*2^n<4294967296^(k+2):=by
 have hB:=two_pow_split hn
 have hp:=Nat.two_pow_pos n
 have e1:=val_take_succ bs (k+1)
 rw [val_take_all hl] at e1
 have e2:=val_take_lt bs hb (k+1) om
 generalize bs.getD (k+1) 0=t at*
 generalize hP:4294967296^(k+1)=P at*
 have ht:t+1≤2^(32-n):=by
  have:2^n*t<2^n*2^(32-n):=by rw [Nat.mul_comm];omega
  exact Nat.lt_of_mul_lt_mul_left this
 have hlt:val bs*2^n<P*4294967296:=by
  have a1:val bs<P*(t+1):=by rw [Nat.mul_add];omega
  have a2:=Nat.mul_lt_mul_of_pos_right a1 hp
  have a3:P*(t+1)*2^n≤P*4294967296:=by
   rw [Nat.mul_assoc]
   refine Nat.mul_le_mul_left P ?_
   rw [hB,Nat.mul_comm]
   exact Nat.mul_le_mul_left _ ht
  omega
 have hP2:4294967296^(k+2)=P*4294967296:=by rw [show k+2=(k+1)+1 from rfl,Nat.pow_succ,hP]
 have hs:=val_split vs (k+2) om
 rw [val_cut (zs:=vs) (m:=k+2) (by rw [hvv,hP2];exact hlt),Nat.mul_zero,Nat.add_zero] at hs
 refine⟨by omega,?_,by rw [hP2];exact hlt⟩
 have e3:val (vs.take (k+2))=val (vs.take (k+1))+4294967296^(k+1)*vs.getD (k+1) 0:=val_take_succ vs (k+1)
 have e4:=val_take_lt vs hv (k+1) om
 rw [hP] at e3 e4
 have hge:P*2147483648≤val bs*2^n:=by
  rw [e1,Nat.add_mul,Nat.mul_assoc]
  have:=Nat.mul_le_mul_left P h1
  omega
 have:P*2147483648<P*(vs.getD (k+1) 0+1):=by
  rw [Nat.mul_add,Nat.mul_one]
  omega
 have:=Nat.lt_of_mul_lt_mul_left this
 omega
theorem div_start {a b n la lb:Nat} (ha:a<4294967296^la) (hb:4294967296^(lb-1)≤b) (hl:lb≤la) (h0:1≤lb):a*2^n<b*2^n*4294967296^(la+1-lb):=by
 have hp:=Nat.two_pow_pos n
 have h1:4294967296^la=4294967296^(lb-1)*4294967296^(la+1-lb):=by rw [←Nat.pow_add];congr 1;omega
 have h2:=Nat.mul_le_mul_right (4294967296^(la+1-lb)) hb
 rw [←h1] at h2
 have h3:=Nat.mul_lt_mul_of_pos_right (Nat.lt_of_lt_of_le ha h2) hp
 rw [Nat.mul_right_comm]
 exact h3
end Go.PN
namespace Go.Proofs.YtpcpaekpnfkhhaaGreatDoor
open Go.AI Go.PN
attribute [local irreducible] aw Fa Fh DrK
theorem shift_top {t:Nat} (h0:t≠0) (hl:t<4294967296):32-bitlen t<32∧2147483648≤t*2^(32-bitlen t)∧t*2^(32-bitlen t)<4294967296:=by
 have h1:bitlen t≤32:=bitlen_lt (k:=32) hl
 have h2:bitlen t=Nat.log2 t+1:=by unfold bitlen;rw [if_neg h0]
 have h3:=Nat.log2_self_le h0
 have h4:=Nat.lt_log2_self (n:=t)
 have hk:32-bitlen t+bitlen t=32:=by omega
 refine⟨by omega,?_,?_⟩
 ·have:=Nat.mul_le_mul_right (2^(32-bitlen t)) h3
  rw [←Nat.pow_add,show t.log2+(32-bitlen t)=31 from by omega] at this
  exact this
 ·have:=Nat.mul_lt_mul_of_pos_right h4 (Nat.two_pow_pos (32-bitlen t))
  rw [←Nat.pow_add,show t.log2+1+(32-bitlen t)=32 from by omega] at this
  exact this
theorem div_fa (xs ys:List Nat) (hx:∀x∈xs,x<4294967296) (hy:∀x∈ys,x<4294967296) (hlx:xs.length≤68719476736) (hly:ys.length≤68719476736) (h0:val ys≠0):
  Fa Tryz.prog 297 [.c (ws false xs),.c (ws false ys)] (.tup [.c (ws true (words (val xs/val ys))),.c (ws true (words (val xs%val ys))),.c .nilI]):=by
 refine fa_of_body Tryz.func297 rfl rfl (by simp [Tryz.ntmps297]) fun C hC=> ?_
 simp only [initS,Nat.reduceAdd]
 refine xG ?_
 refine aw_callq (trim_fa xs hx om) rfl rfl rfl eL ?_
 refine xSG ?_
 refine aw_callq (trim_fa ys hy om) rfl rfl rfl eL ?_
 refine xS ?_
 have hla:(words (val xs)).length≤68719476736:=Nat.le_trans (words_val_len xs hx) hlx
 have hlb:(words (val ys)).length≤68719476736:=Nat.le_trans (words_val_len ys hy) hly
 generalize val xs=a at hla⊢
 generalize val ys=b at hlb h0⊢
 have hwa:=words_lt a
 have hwb:=words_lt b
 have hva:=val_words a
 have hvb:=val_words b
 have hbne:(words b).length≠0:=fun e=>h0 (words_eq_nil.1 (List.length_eq_zero_iff.1 e))
 refine xG ?_
 refine aw_cond eE (fun hb=> ?_) (fun _=> ?_)
 ·have:=eq_of_beq hb;omega
 refine xG ?_
 refine aw_callq (cmp_fa (words a) (words b) hwa hwb hla hlb) rfl rfl rfl eL ?_
 refine xS ?_
 rw [hva,hvb]
 refine xG ?_
 refine aw_cond eE (fun hb=> ?_) (fun hb=> ?_)
 ·have hlt:a<b:=by
   have:=of_decide_eq_true hb
   unfold cmpN at this
   split at this
   ·assumption
   ·split at this<;>omega
  refine xGT hC ?_
  rw [Nat.div_eq_of_lt hlt,Nat.mod_eq_of_lt hlt,words_zero]
  exact .tup ⟨.c .nils,.c ler_ws,.c .nilI,trivial⟩
 have hge:b≤a:=by
  have:=of_decide_eq_false hb
  unfold cmpN at this
  split at this
  ·omega
  ·omega
 have hlab:(words b).length≤(words a).length:=words_len_mono hge
 refine xG ?_
 refine aw_cond eE (fun hb=> ?_) (fun hb=> ?_)
 ·have hl1:(words b).length=1:=by have:=eq_of_beq hb;omega
  have hbw:b=(words b).getD 0 0:=by
   match hws:words b,hl1 with
   |[w],_=>rw [hws,val_one] at hvb;exact hvb.symm
  have hb32:=getD_lt hwb 0
  refine xG ?_
  refine aw_callq (small_fa (words a) ((words b).getD 0 0) hwa hla om hb32) rfl rfl rfl eL ?_
  refine xS ?_
  rw [hva,←hbw]
  have hml:a%b<4294967296:=by have:=Nat.mod_lt a (show 0<b from by omega);omega
  refine xG ?_
  refine aw_callq (of_fa ((a%b:Nat):Int) om om) rfl rfl rfl eL ?_
  refine xSGT hC ?_
  exact .tup ⟨.c ler_ws,.c ler_ws,.c .nilI,trivial⟩
 have hl2:(words b).length≠1:=fun e=>by rw [e] at hb;cases hb
 obtain⟨k,hk⟩:∃k,(words b).length=k+2:=⟨(words b).length-2,by omega⟩
 have htop:(words b).getD ((words b).length-1) 0≠0:=(words_plain b).resolve_left (fun e=>by rw [e] at hbne;exact hbne rfl)
 have htl:=getD_lt hwb ((words b).length-1)
 obtain⟨hn,hn1,hn2⟩:=shift_top htop htl
 refine xG ?_
 refine aw_callq (lead_fa _ htl) rfl rfl rfl eL ?_
 refine xS ?_
 generalize hnn:32-bitlen ((words b).getD ((words b).length-1) 0)=n at hn hn1 hn2⊢
 refine xG ?_
 refine aw_callh (left_fh (words b) n hwb hlb hn) rfl rfl rfl (.refl _) eL ?_
 rintro r h' ⟨gv,vs,rfl,rfl,hvl,hvw,hvv⟩ hfr
 refine xSG ?_
 have hkk:(words b).length-1=k+1:=by omega
 rw [hkk] at hn1 hn2
 obtain⟨hv1,hv2,hv3⟩:=norm_top (n:=n) hwb hk om hn1 hn2 hvw om hvv
 refine aw_frzw (t:=10) (ys:=vs.take (k+2)) eE eE om (hC gv) (by simp;omega) (fun j hj=>by rw [Nat.zero_add,getD_take om]) eE eE ?_
 refine aw_weak (σ':=[(0,.c (ws true (words a))),(9,.c (.int .i64 n)),(10,.c (ws true (vs.take (k+2)))),(59,.c (ws true (words a))),(60,.c (.int .i64 n))]) (h':=[]) (Sl.sub_le eB) zZ ?_
 have hvvl:(vs.take (k+2)).length=k+2:=by simp;omega
 have hvvw:∀x∈vs.take (k+2),x<4294967296:=fun x hx=>hvw x (List.mem_of_mem_take hx)
 rw [←getD_take (show k+1<k+2 from by omega)] at hv2
 rw [hvb] at hv1 hv3
 generalize vs.take (k+2)=v at hv1 hv2 hvvl hvvw⊢
 refine aw_callh (left_fh (words a) n hwa hla hn) rfl rfl rfl (.refl _) eL ?_
 rintro r h' ⟨gu,us,rfl,rfl,hul,huw,huv⟩ hfr
 refine xSG ?_
 refine aw_dr 16 ty_mixed (by kernel_rfl) ?_
 have hb1:=getD_lt hvvw (v.length-1)
 have hb2:=getD_lt hvvw (v.length-2)
 have e2:((v.length:Int)-2).toNat=v.length-2:=by omega
 refine yI e2 ?_
 have hvm1:v.length-1=k+1:=by omega
 have hvm2:v.length-2=k:=by omega
 rw [hvm1] at hb1
 rw [hvm2] at hb2
 have eq0:(((words a).length+1:Nat):Int)-(v.length:Int)=(((words a).length+1-(k+2):Nat):Int):=by omega
 rw [hvm1,hvm2,eq0]
 refine aw_make (n:=(words a).length+1-(k+2)) (c:=(words a).length+1-(k+2)) rfl rfl rfl ty_e_ws ty_z_u32 rfl om eE eE rfl rfl om om om fun gq hgq=> ?_
 rw [make_wf ((words a).length+1-(k+2))]
 have hne:¬gq=gu:=fun e=>hgq (by simp [Heap.keys,e])
 have hne2:¬gu=gq:=fun e=>hne e.symm
 refine xS ?_
 refine xI ?_
 have hst:=div_start (n:=n) (words_pow_lt a) (words_pow_le h0) hlab om
 rw [hva] at huv
 rw [hk,←hv1] at hst
 rw [←huv] at hst
 rw [←hv1] at hv3
 generalize (words a).length=la at hla hlab hul eq0 hst⊢
 apply aw_block
 generalize hlq:la+1-(k+2)=lq at hst⊢
 refine aw_lp (fun x:Nat×List Nat×List Nat=>[(4,.c (.osl gq 1 0 lq)),(9,.c (.int .i64 n)),(10,.c (ws true v)),(11,.c (.osl gu 1 0 (la+1))),(12,.c (.int .u64 (v.getD (k+1) 0:Nat))),(13,.c (.int .u64 (v.getD k 0:Nat))),(14,.c (.int .i64 ((x.1:Int)-1)))])
  (fun x=>[(gq,.cells 168 lq (wf x.2.2)),(gu,.cells 168 (la+1) (wf x.2.1))])
  (fun x=>x.1≤lq∧x.2.1.length=la+1∧(∀y∈x.2.1,y<4294967296)∧x.2.2.length=lq∧(∀y∈x.2.2,y<4294967296)∧val x.2.1<val v*4294967296^x.1∧a*2^n=val x.2.1+val v*(4294967296^x.1*val (x.2.2.drop x.1))) (fun x=>x.1) (lq,us,List.replicate lq 0) eB zZ
  ⟨Nat.le_refl _,hul,huw,by simp,replicate_lt _,hst,by simp [val,huv]⟩ ?_
 clear hst huv huw hul hfr hgq us
 rintro ⟨m,us,qs⟩ ⟨hm,hul,huw,hql,hqw,hlt,hA⟩
 dsimp only at hm hul huw hql hqw hlt hA⊢
 refine xI ?_
 refine aw_cond eE (fun hb=> ?_) (fun hb=> ?_)
 ·have hm1:1≤m:=dT hb
  obtain⟨j,rfl⟩:∃j,m=j+1:=⟨m-1,by omega⟩
  have e14:((j+1:Nat):Int)-1=(j:Int):=by omega
  rw [e14]
  have hLL:j+(k+2)+1≤us.length:=by omega
  obtain⟨w1,w2,w3,w4⟩:=window (V:=val v) huw hLL hv3 hlt
  have hWl:((us.drop j).take (k+2+1)).length=k+3:=by simp;omega
  have hWw:∀x∈(us.drop j).take (k+2+1),x<4294967296:=fun x hx=>huw x (List.mem_of_mem_drop (List.mem_of_mem_take hx))
  have t3:=top3 hWl
  rw [win_getD' om,win_getD' om,win_getD' om] at t3
  have t3l:=val_take_lt _ hWw k om
  have t2:=top2 hvvl
  have t2l:=val_take_lt _ hvvw k om
  have hhead:=head_le t2 hb2 t2l t3 w4
  have hw0:=getD_lt huw (j+(k+2))
  have hw1:=getD_lt huw (j+(k+1))
  have hw2:=getD_lt huw (j+k)
  have hVpos:0<val v:=by rw [hv1];exact Nat.mul_pos (Nat.pos_of_ne_zero h0) (Nat.two_pow_pos n)
  have e3:((j:Int)+((k+2:Nat):Int)-1).toNat=j+(k+1):=by omega
  have e4:((j:Int)+((k+2:Nat):Int)-2).toNat=j+k:=by omega
  have e5:((j:Int)+((k+2:Nat):Int)+1).toNat=j+(k+3):=by omega
  apply aw_skip
  apply aw_seq
  apply aw_block
  apply aw_seq
  refine aw_dr 20 ty_mixed (by kernel_rfl) ?_
  refine yI (oj hvvl (oj e3 (oj e4 (oj e5 (oj hne (oj hne2 @Nat.add_sub_cancel_left)))))) ?_
  rw [shl_u64_32 _ hw0,or_u64_j32 _ _ hw0 hw1]
  have hhl:j32 (us.getD (j+(k+2)) 0) (us.getD (j+(k+1)) 0)<18446744073709551616:=by unfold j32;omega
  have hhv:j32 (us.getD (j+(k+2)) 0) (us.getD (j+(k+1)) 0)≤v.getD (k+1) 0*4294967296+us.getD (j+(k+1)) 0:=by unfold j32;omega
  replace t3:val ((us.drop j).take (k+2+1))=(j32 (us.getD (j+(k+2)) 0) (us.getD (j+(k+1)) 0)*4294967296+us.getD (j+k) 0)*4294967296^k+val (((us.drop j).take (k+2+1)).take k):=t3
  generalize j32 (us.getD (j+(k+2)) 0) (us.getD (j+(k+1)) 0)=hd at t3 hhl hhv⊢
  have gs:=guess_start t2 om t3 hw2 t3l
  generalize hWv:val ((us.drop j).take (k+2+1))=W at t3 gs w1 w4
  have hhq:hd/v.getD (k+1) 0*v.getD (k+1) 0+hd%v.getD (k+1) 0=hd:=by rw [Nat.mul_comm];exact Nat.div_add_mod _ _
  have hhr:hd%v.getD (k+1) 0<v.getD (k+1) 0:=Nat.mod_lt _ om
  refine aw_dr 8 ty_mixed (by kernel_rfl) ?_
  have J1:=oj hvvl (oj e3 (oj e4 (oj e5 (oj hne (oj hne2 @Nat.add_sub_cancel_left)))))
  refine yI J1 ?_
  rw [quo_u64 _ _ hhl,rem_nat]
  refine aw_weak (σ':=[(4,.c (.osl gq 1 0 lq)),(9,.c (.int .i64 n)),(10,.c (ws true v)),(11,.c (.osl gu 1 0 (la+1))),(12,.c (.int .u64 (v.getD (k+1) 0:Nat))),(13,.c (.int .u64 (v.getD k 0:Nat))),(14,.c (.int .i64 j)),(16,.c (.int .u64 (hd/v.getD (k+1) 0:Nat))),(17,.c (.int .u64 (hd%v.getD (k+1) 0:Nat)))]) (h':=[(gq,.cells 168 lq (wf qs)),(gu,.cells 168 (la+1) (wf us))]) (Sl.sub_le (zB J1)) zZ ?_
  refine aw_cut (fun g:Nat=>[(4,.c (.osl gq 1 0 lq)),(9,.c (.int .i64 n)),(10,.c (ws true v)),(11,.c (.osl gu 1 0 (la+1))),(12,.c (.int .u64 (v.getD (k+1) 0:Nat))),(13,.c (.int .u64 (v.getD k 0:Nat))),(14,.c (.int .i64 j)),(16,.c (.int .u64 g))]) (fun _=>[(gq,.cells 168 lq (wf qs)),(gu,.cells 168 (la+1) (wf us))]) (fun g=>W/val v≤g∧g*val v<W+val v∧g<4294967296) ?_ ?_
  ·apply aw_block
   refine aw_lp (fun x:Nat×Nat=>[(4,.c (.osl gq 1 0 lq)),(9,.c (.int .i64 n)),(10,.c (ws true v)),(11,.c (.osl gu 1 0 (la+1))),(12,.c (.int .u64 (v.getD (k+1) 0:Nat))),(13,.c (.int .u64 (v.getD k 0:Nat))),(14,.c (.int .i64 j)),(16,.c (.int .u64 x.1)),(17,.c (.int .u64 x.2))]) (fun _=>[(gq,.cells 168 lq (wf qs)),(gu,.cells 168 (la+1) (wf us))])
    (fun x=>W/val v≤x.1∧x.1*v.getD (k+1) 0+x.2=hd∧x.2<4294967296) (fun x=>x.1) (hd/v.getD (k+1) 0,hd%v.getD (k+1) 0) (zB (oj hvvl (oj e3 (oj e4 (oj e5 (oj hne (oj hne2 @Nat.add_sub_cancel_left))))))) zZ ⟨gs,hhq,by dsimp only;omega⟩ ?_
   rintro ⟨g,rest⟩ ⟨hg1,hg2,hg3⟩
   dsimp only at hg1 hg2 hg3⊢
   apply aw_seq
   apply aw_seq
   refine aw_cut (fun tt:Bool=>[(4,.c (.osl gq 1 0 lq)),(9,.c (.int .i64 n)),(10,.c (ws true v)),(11,.c (.osl gu 1 0 (la+1))),(12,.c (.int .u64 (v.getD (k+1) 0:Nat))),(13,.c (.int .u64 (v.getD k 0:Nat))),(14,.c (.int .i64 j)),(16,.c (.int .u64 g)),(17,.c (.int .u64 rest)),(133,.c (.bool tt))]) (fun _=>[(gq,.cells 168 lq (wf qs)),(gu,.cells 168 (la+1) (wf us))])
    (fun tt=>(tt=true→W/val v<g)∧(tt=false→g<4294967296∧g*v.getD k 0≤rest*4294967296+us.getD (j+k) 0)) ?_ ?_
   ·by_cases hgB:g<4294967296
    ·have hdec:decide ((g:Int)≥4294967296)=false:=by simp;omega
     have hmb:=mul_bound hgB hb2
     have J2:=oj hvvl (oj e3 (oj e4 (oj e5 (oj hne (oj hne2 (oj @Nat.add_sub_cancel_left hdec))))))
     refine yI J2 ?_
     rw [shl_u64_32 _ hg3,or_u64_j32 _ _ hg3 hw2]
     refine aw_stop ⟨_,(zB J2),zZ,fun h=> ?_,fun h=>⟨hgB,?_⟩⟩
     ·have:=of_decide_eq_true h
      unfold j32 at this
      have hlt2:=guess_down (D:=4294967296^k) (V:=val v) (v2:=v.getD k 0) (by rw [t2];exact Nat.le_add_right _ _) t3 t3l hg2 (by rw [←Int.natCast_mul] at this;omega)
      exact(Nat.div_lt_iff_lt_mul hVpos).2 hlt2
     ·have:=of_decide_eq_false h
      unfold j32 at this
      rw [←Int.natCast_mul] at this
      omega
    ·have hdec:decide ((g:Int)≥4294967296)=true:=by simp;omega
     have J3:=oj hvvl (oj e3 (oj e4 (oj e5 (oj hne (oj hne2 (oj @Nat.add_sub_cancel_left hdec))))))
     refine yI J3 ?_
     refine aw_stop ⟨true,(zB J3),zZ,fun _=> ?_,fun h=>by cases h⟩
     have:W/val v<4294967296:=(Nat.div_lt_iff_lt_mul hVpos).2 (by rw [Nat.mul_comm];exact w4)
     omega
   ·rintro tt ⟨htt,htf⟩
    refine aw_cond (zE (oj hvvl (oj e3 (oj e4 (oj e5 (oj hne (oj hne2 @Nat.add_sub_cancel_left))))))) (fun h=> ?_) (fun h=> ?_)
    ·have hgt:=htt h
     have hg0:0<g:=Nat.lt_of_le_of_lt (Nat.zero_le _) hgt
     have hgle:g≤g*v.getD (k+1) 0:=Nat.le_mul_of_pos_right g om
     have hgm:(g-1)*v.getD (k+1) 0+(rest+v.getD (k+1) 0)=hd:=by
      obtain⟨g',rfl⟩:∃g',g=g'+1:=⟨g-1,by omega⟩
      rw [Nat.add_mul,Nat.one_mul] at hg2
      simp only [Nat.add_sub_cancel]
      omega
     refine yG (oj hvvl (oj e3 (oj e4 (oj e5 (oj hne (oj hne2 @Nat.add_sub_cancel_left)))))) ?_
     have eg:(g:Int)-1=((g-1:Nat):Int):=by omega
     have er:(rest:Int)+((v.getD (k+1) 0:Nat):Int)=((rest+v.getD (k+1) 0:Nat):Int):=by omega
     rw [eg,er]
     refine aw_cond (zE (oj hvvl (oj e3 (oj e4 (oj e5 (oj hne (oj hne2 @Nat.add_sub_cancel_left))))))) (fun h=> ?_) (fun h=> ?_)
     ·have hr:=of_decide_eq_true h
      have J4:=oj hvvl (oj e3 (oj e4 (oj e5 (oj hne (oj hne2 @Nat.add_sub_cancel_left)))))
      refine yI J4 ?_
      have hgs:=guess_small hhv hw1 hgm om
      refine aw_stop ⟨g-1,(zB J4),zZ,by omega,?_,hgs⟩
      refine guess_up t2 t2l om t3 hgm hgs ?_
      have m1:=mul_bound hgs hb2
      have m2:4294967296*4294967296≤(rest+v.getD (k+1) 0)*4294967296:=Nat.mul_le_mul_right _ om
      omega
     ·have hr:=of_decide_eq_false h
      have J5:=oj hvvl (oj e3 (oj e4 (oj e5 (oj hne (oj hne2 @Nat.add_sub_cancel_left)))))
      refine yI J5 ?_
      refine aw_stop ⟨(g-1,rest+v.getD (k+1) 0),by dsimp only;omega,(zB J5),zZ,by dsimp only;omega,hgm,by dsimp only;omega⟩
    ·obtain⟨hf1,hf2⟩:=htf h
     have J6:=oj hvvl (oj e3 (oj e4 (oj e5 (oj hne (oj hne2 @Nat.add_sub_cancel_left)))))
     refine yI J6 ?_
     exact aw_stop ⟨g,(zB J6),zZ,hg1,guess_up t2 t2l om t3 hg2 hf1 hf2,hf1⟩
  ·rintro g ⟨hg1,hg2,hg3⟩
   have hqd:W/val v<4294967296:=(Nat.div_lt_iff_lt_mul hVpos).2 (by rw [Nat.mul_comm];exact w4)
   apply aw_seq
   refine aw_cut (fun zs:List Nat=>[(4,.c (.osl gq 1 0 lq)),(9,.c (.int .i64 n)),(10,.c (ws true v)),(11,.c (.osl gu 1 0 (la+1))),(12,.c (.int .u64 (v.getD (k+1) 0:Nat))),(13,.c (.int .u64 (v.getD k 0:Nat))),(14,.c (.int .i64 j)),(16,.c (.int .u64 (W/val v:Nat)))]) (fun zs=>[(gu,.cells 168 (la+1) (wf (win us j zs))),(gq,.cells 168 lq (wf qs))])
    (fun zs=>zs.length=k+3∧(∀y∈zs,y<4294967296)∧val zs+(W/val v)*val v=W∧val zs<val v) ?_ ?_
   ·have J7:=oj hvvl (oj e3 (oj e4 (oj e5 (oj hne (oj hne2 @Nat.add_sub_cancel_left)))))
    refine yI J7 ?_
    have tf:=take_fh gu j (k+3) g us _ v rfl om huw hvvw om hg3 om
    rw [hul] at tf
    refine aw_callh tf rfl rfl rfl (.swap _ _ []) (zL J7) ?_
    rintro r h' ⟨bb,zs,rfl,rfl,hzl,hzw,hbb,hzv⟩ hfr
    rw [hWv] at hzv
    have hzlt:=val_lt zs hzw
    rw [hzl] at hzlt
    refine yS J7 ?_
    refine yI J7 ?_
    refine aw_cond (zE J7) (fun h=> ?_) (fun h=> ?_)
    ·have hb1':bb=1:=by have:=eq_of_beq h;omega
     subst hb1'
     have hg0:1≤g:=by
      rcases Nat.eq_zero_or_pos g with e|e
      ·exfalso;rw [e,Nat.zero_mul] at hzv;omega
      ·exact e
     refine yI (oj hvvl (oj e3 (oj e4 (oj e5 (oj hne (oj hne2 @Nat.add_sub_cancel_left)))))) ?_
     have eg:(g:Int)-1=((g-1:Nat):Int):=by omega
     rw [eg]
     have hwl:(win us j zs).length=la+1:=by rw [win_length om,hul]
     have gf:=give_fh gu j (k+3) (win us j zs) zs v (win_of_win om hzl) om (win_lt huw hzw) hvvw om om
     rw [hwl] at gf
     refine aw_callh gf rfl rfl rfl (.refl _) (zL (oj hvvl (oj e3 (oj e4 (oj e5 (oj hne (oj hne2 @Nat.add_sub_cancel_left))))))) ?_
     rintro r h' ⟨cc,zs2,rfl,rfl,hzl2,hzw2,hzv2⟩ hfr
     have hzlt2:=val_lt zs2 hzw2
     rw [hzl2] at hzlt2
     have hVP:val v≤4294967296^(k+3):=by
      rw [Nat.pow_succ]
      omega
     obtain⟨d1,d2,d3,d4⟩:=digit_back hVpos hVP hg1 hg2 hzlt hzlt2 hzv hzv2
     rw [win_win om om,d4]
     have J8:=oj hvvl (oj e3 (oj e4 (oj e5 (oj hne (oj hne2 @Nat.add_sub_cancel_left)))))
     refine yS J8 ?_
     refine yI J8 ?_
     exact aw_stop ⟨zs2,(zB J8),zZ,hzl2,hzw2,d2,d3⟩
    ·have hb0:bb=0:=by
      have:¬((bb:Int)=1):=fun e=>by rw [e] at h;cases h
      omega
     subst hb0
     obtain⟨d1,d2,d3⟩:=digit_ok hVpos hg1 hg2 hzv
     subst d3
     have J9:=oj hvvl (oj e3 (oj e4 (oj e5 (oj hne (oj hne2 @Nat.add_sub_cancel_left)))))
     refine yI J9 ?_
     exact aw_stop ⟨zs,(zB J9),zZ,hzl,hzw,d1,d2⟩
   ·rintro zs ⟨hzl,hzw,hz1,hz2⟩
    refine yI (oj hvvl (oj e3 (oj e4 (oj e5 (oj hne (oj hne2 @Nat.add_sub_cancel_left)))))) ?_
    rw [wrap_u32_nat,Nat.mod_eq_of_lt hqd]
    have J10:=oj hvvl (oj e3 (oj e4 (oj e5 (oj hne (oj hne2 @Nat.add_sub_cancel_left)))))
    refine yW J10 ?_
    refine yS J10 ?_
    rw [updF_wf om]
    refine aw_perm (.swap _ _ []) ?_
    refine yI J10 ?_
    have hwv:val (win us j zs)=val (us.take j)+4294967296^j*val zs:=by
     rw [val_win om,hzl,w3,Nat.mul_zero,Nat.add_zero]
    have hds:=drop_set (zs:=qs) (i:=j) (v:=W/val v) om
    have hpw:4294967296^(j+1)=4294967296^j*4294967296:=Nat.pow_succ ..
    rw [hpw] at hA
    obtain⟨s1,s2⟩:=div_step (A:=a*2^n) w1 w2 hz1 hz2 hA rfl
    refine aw_stop ⟨(j,win us j zs,qs.set j (W/val v)),by dsimp only;omega,(zB (oj hvvl (oj e3 (oj e4 (oj e5 (oj hne (oj hne2 @Nat.add_sub_cancel_left))))))),zZ,by dsimp only;omega,by rw [win_length om];exact hul,win_lt huw hzw,by simpa using hql,set_lt hqw hqd,?_,?_⟩
    ·dsimp only;rw [hwv];exact s1
    ·dsimp only;rw [hwv,hds,val];exact s2
 ·have hm0:m=0:=dF hb
  subst hm0
  simp only [Nat.pow_zero,Nat.mul_one,Nat.one_mul,List.drop_zero] at hlt hA
  rw [hv1] at hlt hA
  obtain⟨hq,hr⟩:=div_end (Nat.pos_of_ne_zero h0) hlt hA
  have J11:=oj hne hne2
  refine yG J11 ?_
  refine aw_callq (trim_fa qs hqw om) rfl rfl rfl (by refine yS J11 ?_;exact .c (lec_oslws (zE J11) om om (fun j _=>by rw [Nat.zero_add];rfl))) ?_
  refine ySG J11 ?_
  refine aw_callq (right_fa us n huw om hn) rfl rfl rfl (by refine yS J11 ?_;exact⟨.c (lec_oslws (zE J11) om om (fun j _=>by rw [Nat.zero_add];rfl)),.c (.refl _)⟩) ?_
  refine ySG J11 ?_
  refine aw_callq (trim_fa (rgt n us) (rgt_lt n us) (by rw [rgt_length];omega)) rfl rfl rfl (zL J11) ?_
  refine ySG J11 ?_
  refine yT hC J11 ?_
  rw [rgt_val om us huw,hr,hq]
  exact .tup ⟨.c ler_ws,.c ler_ws,.c .nilI,trivial⟩
theorem gcd_fa (xs ys:List Nat) (hx:∀x∈xs,x<4294967296) (hy:∀x∈ys,x<4294967296) (hlx:xs.length≤68719476736) (hly:ys.length≤68719476736):
  Fa Tryz.prog 296 [.c (ws false xs),.c (ws false ys)] (.c (ws true (words (Nat.gcd (val xs) (val ys))))):=by
 refine fa_of_body Tryz.func296 rfl rfl (by simp [Tryz.ntmps296]) fun C hC=> ?_
 simp only [initS,Nat.reduceAdd]
 refine xG ?_
 refine aw_callq (trim_fa xs hx om) rfl rfl rfl eL ?_
 refine xSG ?_
 refine aw_callq (trim_fa ys hy om) rfl rfl rfl eL ?_
 refine xS ?_
 have hla:(words (val xs)).length≤68719476736:=Nat.le_trans (words_val_len xs hx) hlx
 have hlb:(words (val ys)).length≤68719476736:=Nat.le_trans (words_val_len ys hy) hly
 refine xI ?_
 apply aw_block
 refine aw_lp (fun x:Nat×Nat=>[(0,.c (ws true (words x.1))),(1,.c (ws true (words x.2)))]) (fun _=>[]) (fun x=>(words x.1).length≤68719476736∧(words x.2).length≤68719476736∧Nat.gcd x.1 x.2=Nat.gcd (val xs) (val ys)) (fun x=>x.2) (val xs,val ys) eB zZ ⟨hla,hlb,rfl⟩ ?_
 rintro ⟨a,b⟩ ⟨hla,hlb,hg⟩
 dsimp only at hla hlb hg⊢
 refine xG ?_
 refine aw_cond eE (fun hb=> ?_) (fun hb=> ?_)
 ·have hb0:b≠0:=fun e=>by have:=of_decide_eq_true hb;rw [e,words_zero] at this;simp at this
  refine xG ?_
  refine aw_callq (div_fa (words a) (words b) (words_lt a) (words_lt b) hla hlb (by rw [val_words];exact hb0)) rfl rfl rfl eL ?_
  rw [val_words,val_words]
  refine xSG ?_
  have hlt:a%b<b:=Nat.mod_lt _ (Nat.pos_of_ne_zero hb0)
  refine aw_stop ⟨(b,a%b),hlt,eB,zZ,hlb,Nat.le_trans (words_len_mono (Nat.le_of_lt hlt)) hlb,?_⟩
  dsimp only
  rw [←hg,Nat.gcd_comm a b,Nat.gcd_rec b a,Nat.gcd_comm]
 ·have hb0:b=0:=by
   have:=of_decide_eq_false hb
   exact words_eq_nil.1 (List.length_eq_zero_iff.1 om)
  subst hb0
  refine xGT hC ?_
  rw [←hg,Nat.gcd_zero_right]
  exact .one (.c ler_ws)
end Go.Proofs.YtpcpaekpnfkhhaaGreatDoor
namespace Go.PN
structure RD where
 neg:Bool
 num:List Nat
 den:List Nat
def RD.wf (r:RD) (L:Nat):Prop:=(∀x∈r.num,x<4294967296)∧(∀x∈r.den,x<4294967296)∧r.num.length≤L∧r.den.length≤L
def plainB (xs:List Nat):Bool:=decide (0<xs.length)&& !decide (xs.getD (xs.length-1) 0=0)
def RD.valid (r:RD):Bool:=if r.num.length=0∧r.den.length=0 then !r.neg else plainB r.num&&plainB r.den&&decide (Nat.gcd (val r.num) (val r.den)=1)
def RD.some (r:RD):Bool:=r.valid&&decide (r.num.length≠0)
def RD.pn (r:RD):Nat:=if r.some then val r.num else 0
def RD.pd (r:RD):Nat:=if r.some then val r.den else 1
def RD.ps (r:RD):Bool:=if r.some then r.neg else false
def sgn (neg:Bool) (n:Nat):Int:=if neg then-(n:Int) else n
def sq (neg:Bool) (n d:Nat):Rat:=mkRat (sgn neg n) d
def RD.q (r:RD):Rat:=sq r.ps r.pn r.pd
def rd (q:Rat):RD:=⟨decide (q.num<0),words q.num.natAbs,if q.num=0 then [] else words q.den⟩
theorem sgn_abs (b:Bool) (n:Nat):(sgn b n).natAbs=n:=by unfold sgn;cases b<;>simp
theorem mkRat_nd {n:Int} {d:Nat} (hd:d≠0):(mkRat n d).num=n/(n.natAbs.gcd d:Nat)∧(mkRat n d).den=d/n.natAbs.gcd d:=by
 rw [←Rat.normalize_eq_mkRat hd,Rat.normalize_eq]
 exact⟨rfl,rfl⟩
theorem plain_words {xs:List Nat} (hx:∀x∈xs,x<4294967296) (hp:plainB xs=true):words (val xs)=xs∧val xs≠0:=by
 simp only [plainB,Bool.and_eq_true,decide_eq_true_eq,Bool.not_eq_true',decide_eq_false_iff_not] at hp
 have h:=words_val hx (.inr hp.2)
 refine⟨h,fun e=> ?_⟩
 rw [e,words_zero] at h
 rw [←h] at hp
 simp at hp
theorem RD.some_spec {r:RD} {L:Nat} (hw:r.wf L) (hs:r.some=true):words (val r.num)=r.num∧words (val r.den)=r.den∧val r.num≠0∧val r.den≠0∧Nat.gcd (val r.num) (val r.den)=1:=by
 simp only [RD.some,Bool.and_eq_true,decide_eq_true_eq] at hs
 obtain⟨hv,hn⟩:=hs
 unfold RD.valid at hv
 rw [if_neg (fun h=>hn h.1)] at hv
 simp only [Bool.and_eq_true,decide_eq_true_eq] at hv
 obtain⟨⟨h1,h2⟩,h3⟩:=hv
 have p1:=plain_words hw.1 h1
 have p2:=plain_words hw.2.1 h2
 exact⟨p1.1,p2.1,p1.2,p2.2,h3⟩
theorem RD.pd_ne {r:RD} {L:Nat} (hw:r.wf L):r.pd≠0:=by
 unfold RD.pd
 split
 ·rename_i h;exact(RD.some_spec hw h).2.2.2.1
 ·simp
theorem words_one:words 1=[1]:=by rw [words_cons om];simp [words_zero]
theorem RD.pn_words {r:RD} {L:Nat} (hw:r.wf L) (hs:r.some=true):words r.pn=r.num∧words r.pd=r.den∧r.ps=r.neg:=by
 obtain⟨h1,h2,_⟩:=RD.some_spec hw hs
 unfold RD.pn RD.pd RD.ps
 simp only [hs,if_true]
 exact⟨h1,h2,trivial⟩
theorem RD.pn_none {r:RD} (hs:r.some=false):words r.pn=[]∧words r.pd=[1]∧r.ps=false:=by
 unfold RD.pn RD.pd RD.ps
 simp [hs,words_zero,words_one]
theorem RD.p_len {r:RD} {L:Nat} (hw:r.wf L) (hL:1≤L):(words r.pn).length≤L∧(words r.pd).length≤L:=by
 cases hs:r.some with
 |true=>obtain⟨h1,h2,_⟩:=RD.pn_words hw hs;rw [h1,h2];exact⟨hw.2.2.1,hw.2.2.2⟩
 |false=>obtain⟨h1,h2,_⟩:=RD.pn_none hs;rw [h1,h2];exact⟨by simp,by simpa using hL⟩
theorem rd_sq {neg:Bool} {n d:Nat} (hn:n≠0) (hd:d≠0):rd (sq neg n d)=⟨neg,words (n/Nat.gcd n d),words (d/Nat.gcd n d)⟩:=by
 obtain⟨h1,h2⟩:=mkRat_nd (n:=sgn neg n) hd
 rw [sgn_abs] at h1 h2
 have hg:0<Nat.gcd n d:=Nat.gcd_pos_of_pos_left _ (Nat.pos_of_ne_zero hn)
 have hdv:Nat.gcd n d∣n:=Nat.gcd_dvd_left n d
 have hq:0<n/Nat.gcd n d:=Nat.div_pos (Nat.le_of_dvd (Nat.pos_of_ne_zero hn) hdv) hg
 have hnum:(sq neg n d).num=sgn neg (n/Nat.gcd n d):=by
  unfold sq
  rw [h1]
  unfold sgn
  cases neg with
  |false=>simp
  |true=>
   simp only [if_true]
   rw [Int.neg_ediv_of_dvd (Int.ofNat_dvd.2 hdv)]
   simp
 unfold rd
 rw [hnum]
 have h0:sgn neg (n/Nat.gcd n d)≠0:=fun e=>by
  have:=congrArg Int.natAbs e
  rw [sgn_abs] at this
  rw [this] at hq
  simp at hq
 rw [if_neg h0,sgn_abs]
 have e2:(sq neg n d).den=d/Nat.gcd n d:=h2
 rw [e2]
 congr 1
 generalize n/Nat.gcd n d=m at hq
 unfold sgn
 cases neg with
 |false=>simp
 |true=>simp;omega
theorem rd_zero:rd 0=⟨false,[],[]⟩:=by simp [rd,words_zero]
theorem sq_zero (neg:Bool) (d:Nat):sq neg 0 d=0:=by unfold sq sgn;cases neg<;>simp [Rat.zero_mkRat]
theorem plainB_words {n:Nat} (h:n≠0):plainB (words n)=true:=by
 have hp:=(words_plain n).resolve_left (fun e=>h (words_eq_nil.1 e))
 have hl:(words n).length≠0:=fun e=>h (words_eq_nil.1 (List.length_eq_zero_iff.1 e))
 simp only [plainB,Bool.and_eq_true,decide_eq_true_eq,Bool.not_eq_true',decide_eq_false_iff_not]
 exact⟨by omega,hp⟩
theorem rd_some {q:Rat} (h:q≠0):(rd q).some=true∧(rd q).valid=true:=by
 have hn:q.num≠0:=fun e=>h (Rat.num_eq_zero.1 e)
 have hl:(words q.num.natAbs).length≠0:=fun e=>hn (by have:=words_eq_nil.1 (List.length_eq_zero_iff.1 e);omega)
 have hv:(rd q).valid=true:=by
  unfold RD.valid rd
  simp only [hn,if_false]
  rw [if_neg (fun x=>hl x.1),plainB_words om,plainB_words q.den_nz,val_words,val_words]
  have:=q.reduced
  simp only [Bool.and_self,Bool.true_and,decide_eq_true_eq]
  exact this
 refine⟨?_,hv⟩
 unfold RD.some
 rw [hv]
 simp only [Bool.true_and,decide_eq_true_eq]
 exact hl
theorem rd_q (q:Rat):(rd q).q=q:=by
 by_cases h:q=0
 ·subst h
  rw [rd_zero]
  rfl
 ·obtain⟨h1,_⟩:=rd_some h
  have hn:q.num≠0:=fun e=>h (Rat.num_eq_zero.1 e)
  have e:(rd q).q=sq (decide (q.num<0)) q.num.natAbs q.den:=by
   unfold RD.q RD.ps RD.pn RD.pd
   rw [h1]
   simp only [if_true]
   unfold rd
   simp only [hn,if_false,val_words]
  rw [e]
  unfold sq
  have:sgn (decide (q.num<0)) q.num.natAbs=q.num:=by
   unfold sgn
   split
   ·rename_i hlt;simp only [decide_eq_true_eq] at hlt;omega
   ·rename_i hlt;simp only [decide_eq_true_eq] at hlt;omega
  rw [this]
  exact Rat.mkRat_self q
theorem rd_valid (q:Rat):(rd q).valid=true:=by
 by_cases h:q=0
 ·subst h;rw [rd_zero];rfl
 ·exact(rd_some h).2
def fits (q:Rat) (L:Nat):Prop:=q.num.natAbs<4294967296^L∧q.den<4294967296^L
theorem rd_wf {q:Rat} {L:Nat} (h:fits q L):(rd q).wf L:=by
 refine⟨words_lt _,?_,words_len_le h.1,?_⟩
 ·unfold rd
  simp only
  split
  ·simp
  ·exact words_lt _
 ·unfold rd
  simp only
  split
  ·simp
  ·exact words_len_le h.2
theorem fits_sq {neg:Bool} {n d L:Nat} (hd:d≠0) (h1:n<4294967296^L) (h2:d<4294967296^L):fits (sq neg n d) L:=by
 obtain⟨e1,e2⟩:=mkRat_nd (n:=sgn neg n) hd
 rw [sgn_abs] at e1 e2
 unfold fits sq
 rw [e1,e2]
 refine⟨Nat.lt_of_le_of_lt ?_ h1,Nat.lt_of_le_of_lt (Nat.div_le_self _ _) h2⟩
 have:=Int.natAbs_ediv_le_natAbs (sgn neg n) ((Nat.gcd n d:Nat):Int)
 rw [sgn_abs] at this
 exact this
theorem RD.fits {r:RD} {L:Nat} (hw:r.wf L) (hL:1≤L):fits r.q L:=by
 obtain⟨h1,h2⟩:=RD.p_len hw hL
 have hp:=RD.pd_ne hw
 exact fits_sq hp (Nat.lt_of_lt_of_le (words_pow_lt _) (Nat.pow_le_pow_right om h1)) (Nat.lt_of_lt_of_le (words_pow_lt _) (Nat.pow_le_pow_right om h2))
def signQ (q:Rat):Int:=if q=0 then 0 else if q<0 then-1 else 1
theorem sq_ne {neg:Bool} {n d:Nat} (hn:n≠0) (hd:d≠0):sq neg n d≠0:=by
 unfold sq
 rw [Ne,Rat.mkRat_eq_zero hd]
 intro e
 have:=congrArg Int.natAbs e
 rw [sgn_abs] at this
 simp at this
 exact hn this
theorem sq_lt {neg:Bool} {n d:Nat} (hn:n≠0) (hd:d≠0):sq neg n d<0↔neg=true:=by
 have h:=rd_sq (neg:=neg) hn hd
 have h1:decide ((sq neg n d).num<0)=neg:=congrArg RD.neg h
 have h2:sq neg n d<0↔(sq neg n d).num<0:=by rw [Rat.lt_iff];simp
 rw [h2]
 constructor
 ·intro h3;rw [←h1];simpa using h3
 ·intro h3;rw [h3] at h1;rw [h3];simpa using h1
end Go.PN
namespace Go.Proofs.YtpcpaekpnfkhhaaGreatDoor
open Go.AI
@[go_sem] theorem tya_s_2:tSz Tryz.prog 2=some (false,1)∧tZI Tryz.prog 2=some (.i64,0)∧tInt Tryz.prog 2=some .i64∧tZero Tryz.prog 2=some [.int .i64 0]:=by and_intros<;>kernel_rfl
@[go_sem] theorem tya_s_3:tSz Tryz.prog 3=some (false,1)∧tZI Tryz.prog 3=some (.i64,0)∧tInt Tryz.prog 3=some .i64∧tZero Tryz.prog 3=some [.int .i64 0]:=by and_intros<;>kernel_rfl
@[go_sem] theorem tya_s_4:tSz Tryz.prog 4=some (false,1)∧tBool Tryz.prog 4=true∧tZero Tryz.prog 4=some [.bool false]:=by and_intros<;>kernel_rfl
@[go_sem] theorem tya_s_5:tSz Tryz.prog 5=some (false,1)∧tZI Tryz.prog 5=some (.u8,0)∧tInt Tryz.prog 5=some .u8∧tZero Tryz.prog 5=some [.int .u8 0]:=by and_intros<;>kernel_rfl
@[go_sem] theorem tya_s_6:tSz Tryz.prog 6=some (false,1)∧tZI Tryz.prog 6=some (.u8,0)∧tInt Tryz.prog 6=some .u8∧tZero Tryz.prog 6=some [.int .u8 0]:=by and_intros<;>kernel_rfl
@[go_sem] theorem tya_s_7:tSz Tryz.prog 7=some (true,4)∧tFlds Tryz.prog 7=some [(0,1),(1,1),(2,1),(3,1)]∧tFld Tryz.prog 7 0=some 0∧tFld Tryz.prog 7 1=some 1∧tFld Tryz.prog 7 2=some 2∧tFld Tryz.prog 7 3=some 3∧tZero Tryz.prog 7=some [.int .i64 0,.int .i64 0,.bool false,.int .u8 0]:=by and_intros<;>kernel_rfl
@[go_sem] theorem tya_s_8:tSz Tryz.prog 8=some (true,4)∧tFlds Tryz.prog 8=some [(0,1),(1,1),(2,1),(3,1)]∧tFld Tryz.prog 8 0=some 0∧tFld Tryz.prog 8 1=some 1∧tFld Tryz.prog 8 2=some 2∧tFld Tryz.prog 8 3=some 3∧tZero Tryz.prog 8=some [.int .i64 0,.int .i64 0,.bool false,.int .u8 0]:=by and_intros<;>kernel_rfl
@[go_sem] theorem tya_s_9:tSz Tryz.prog 9=some (false,1)∧tStr Tryz.prog 9=true:=by and_intros<;>kernel_rfl
@[go_sem] theorem tya_z_9:tZero Tryz.prog 9=some [.str ⟨#[]⟩]:=by kernel_rfl
@[go_sem] theorem tya_s_10:tSz Tryz.prog 10=some (false,1)∧tStr Tryz.prog 10=true∧tZero Tryz.prog 10=some [.str ⟨#[]⟩]:=by and_intros<;>kernel_rfl
@[go_sem] theorem tya_s_11:tSz Tryz.prog 11=some (false,1)∧tStr Tryz.prog 11=true∧tZero Tryz.prog 11=some [.str ⟨#[]⟩]:=by and_intros<;>kernel_rfl
@[go_sem] theorem tya_s_12:tSz Tryz.prog 12=some (false,1)∧tZI Tryz.prog 12=some (.u64,0)∧tInt Tryz.prog 12=some .u64∧tZero Tryz.prog 12=some [.int .u64 0]:=by and_intros<;>kernel_rfl
@[go_sem] theorem tya_s_13:tSz Tryz.prog 13=some (true,2)∧tFlds Tryz.prog 13=some [(0,1),(1,1)]∧tFld Tryz.prog 13 0=some 0∧tFld Tryz.prog 13 1=some 1∧tZero Tryz.prog 13=some [.str ⟨#[]⟩,.int .u64 0]:=by and_intros<;>kernel_rfl
@[go_sem] theorem tya_s_14:tSz Tryz.prog 14=some (true,2)∧tFlds Tryz.prog 14=some [(0,1),(1,1)]∧tFld Tryz.prog 14 0=some 0∧tFld Tryz.prog 14 1=some 1∧tZero Tryz.prog 14=some [.str ⟨#[]⟩,.int .u64 0]:=by and_intros<;>kernel_rfl
@[go_sem] theorem tya_s_15:tSz Tryz.prog 15=some (false,1)∧tZero Tryz.prog 15=some [.raw (.pointer none)]:=by and_intros<;>kernel_rfl
@[go_sem] theorem tya_s_16:tSz Tryz.prog 16=some (false,1)∧tZero Tryz.prog 16=some [.raw (.pointer none)]:=by and_intros<;>kernel_rfl
@[go_sem] theorem tya_s_17:tSz Tryz.prog 17=some (false,1)∧tZero Tryz.prog 17=some [.raw (.pointer none)]:=by and_intros<;>kernel_rfl
@[go_sem] theorem tya_s_18:tSz Tryz.prog 18=some (true,1)∧tFlds Tryz.prog 18=some [(0,1)]∧tFld Tryz.prog 18 0=some 0∧tZero Tryz.prog 18=some [.raw (.pointer none)]:=by and_intros<;>kernel_rfl
@[go_sem] theorem tya_s_19:tSz Tryz.prog 19=some (true,1)∧tFlds Tryz.prog 19=some [(0,1)]∧tFld Tryz.prog 19 0=some 0∧tZero Tryz.prog 19=some [.raw (.pointer none)]:=by and_intros<;>kernel_rfl
@[go_sem] theorem tya_s_20:tSz Tryz.prog 20=some (false,1)∧tIfc Tryz.prog 20=true∧tZero Tryz.prog 20=some [.nilI]:=by and_intros<;>kernel_rfl
@[go_sem] theorem tya_s_21:tSz Tryz.prog 21=some (false,1)∧tZI Tryz.prog 21=some (.i32,0)∧tInt Tryz.prog 21=some .i32∧tZero Tryz.prog 21=some [.int .i32 0]:=by and_intros<;>kernel_rfl
@[go_sem] theorem tya_e_22:tElem Tryz.prog 22=some (54,11,192)∧tSz Tryz.prog 22=some (false,1)∧tZero Tryz.prog 22=some [.nils]:=by and_intros<;>kernel_rfl
@[go_sem] theorem tya_e_23:tElem Tryz.prog 23=some (105,2,24):=by kernel_rfl
@[go_sem] theorem tya_s_23:tSz Tryz.prog 23=some (false,1)∧tZero Tryz.prog 23=some [.nils]:=by and_intros<;>kernel_rfl
@[go_sem] theorem tya_e_24:tElem Tryz.prog 24=some (140,7,112)∧tSz Tryz.prog 24=some (false,1)∧tZero Tryz.prog 24=some [.nils]:=by and_intros<;>kernel_rfl
@[go_sem] theorem tya_e_25:tElem Tryz.prog 25=some (91,3,56)∧tSz Tryz.prog 25=some (false,1)∧tZero Tryz.prog 25=some [.nils]:=by and_intros<;>kernel_rfl
@[go_sem] theorem tya_e_26:tElem Tryz.prog 26=some (95,4,72)∧tSz Tryz.prog 26=some (false,1)∧tZero Tryz.prog 26=some [.nils]:=by and_intros<;>kernel_rfl
@[go_sem] theorem tya_e_27:tElem Tryz.prog 27=some (98,3,56)∧tSz Tryz.prog 27=some (false,1)∧tZero Tryz.prog 27=some [.nils]:=by and_intros<;>kernel_rfl
@[go_sem] theorem tya_s_28:tSz Tryz.prog 28=some (true,8)∧tFlds Tryz.prog 28=some [(0,1),(1,1),(2,1),(3,1),(4,1),(5,1),(6,1),(7,1)]∧tFld Tryz.prog 28 0=some 0∧tFld Tryz.prog 28 1=some 1∧tFld Tryz.prog 28 2=some 2∧tFld Tryz.prog 28 3=some 3∧tFld Tryz.prog 28 4=some 4∧tFld Tryz.prog 28 5=some 5∧tFld Tryz.prog 28 6=some 6∧tFld Tryz.prog 28 7=some 7∧tZero Tryz.prog 28=some [.str ⟨#[]⟩,.str ⟨#[]⟩,.nils,.nils,.nils,.nils,.nils,.nils]:=by and_intros<;>kernel_rfl
@[go_sem] theorem tya_s_29:tSz Tryz.prog 29=some (true,8)∧tFlds Tryz.prog 29=some [(0,1),(1,1),(2,1),(3,1),(4,1),(5,1),(6,1),(7,1)]∧tFld Tryz.prog 29 0=some 0∧tFld Tryz.prog 29 1=some 1∧tFld Tryz.prog 29 2=some 2∧tFld Tryz.prog 29 3=some 3∧tFld Tryz.prog 29 4=some 4∧tFld Tryz.prog 29 5=some 5∧tFld Tryz.prog 29 6=some 6∧tFld Tryz.prog 29 7=some 7∧tZero Tryz.prog 29=some [.str ⟨#[]⟩,.str ⟨#[]⟩,.nils,.nils,.nils,.nils,.nils,.nils]:=by and_intros<;>kernel_rfl
@[go_sem] theorem tya_s_32:tSz Tryz.prog 32=some (false,1)∧tIfc Tryz.prog 32=true∧tZero Tryz.prog 32=some [.nilI]:=by and_intros<;>kernel_rfl
@[go_sem] theorem tya_s_33:tSz Tryz.prog 33=some (false,1)∧tIfc Tryz.prog 33=true∧tZero Tryz.prog 33=some [.nilI]:=by and_intros<;>kernel_rfl
@[go_sem] theorem tya_s_39:tSz Tryz.prog 39=some (false,1)∧tZI Tryz.prog 39=some (.u64,0)∧tInt Tryz.prog 39=some .u64∧tZero Tryz.prog 39=some [.int .u64 0]:=by and_intros<;>kernel_rfl
@[go_sem] theorem tya_e_43:tElem Tryz.prog 43=some (29,8,176)∧tSz Tryz.prog 43=some (false,1)∧tZero Tryz.prog 43=some [.nils]:=by and_intros<;>kernel_rfl
@[go_sem] theorem tya_e_50:tElem Tryz.prog 50=some (168,1,4)∧tSz Tryz.prog 50=some (false,1)∧tZero Tryz.prog 50=some [.nils]:=by and_intros<;>kernel_rfl
@[go_sem] theorem tya_s_51:tSz Tryz.prog 51=some (true,3)∧tFlds Tryz.prog 51=some [(0,1),(1,1),(2,1)]∧tFld Tryz.prog 51 0=some 0∧tFld Tryz.prog 51 1=some 1∧tFld Tryz.prog 51 2=some 2∧tZero Tryz.prog 51=some [.bool false,.nils,.nils]:=by and_intros<;>kernel_rfl
@[go_sem] theorem tya_s_52:tSz Tryz.prog 52=some (true,3)∧tFlds Tryz.prog 52=some [(0,1),(1,1),(2,1)]∧tFld Tryz.prog 52 0=some 0∧tFld Tryz.prog 52 1=some 1∧tFld Tryz.prog 52 2=some 2∧tZero Tryz.prog 52=some [.bool false,.nils,.nils]:=by and_intros<;>kernel_rfl
@[go_sem] theorem tya_s_53:tSz Tryz.prog 53=some (true,11)∧tFlds Tryz.prog 53=some [(0,1),(1,3),(4,3),(7,3),(10,1)]∧tFld Tryz.prog 53 0=some 0∧tFld Tryz.prog 53 1=some 1∧tFld Tryz.prog 53 2=some 4∧tFld Tryz.prog 53 3=some 7∧tFld Tryz.prog 53 4=some 10∧tZero Tryz.prog 53=some [.str ⟨#[]⟩,.bool false,.nils,.nils,.bool false,.nils,.nils,.bool false,.nils,.nils,.int .i64 0]:=by and_intros<;>kernel_rfl
@[go_sem] theorem tya_s_54:tSz Tryz.prog 54=some (true,11)∧tFlds Tryz.prog 54=some [(0,1),(1,3),(4,3),(7,3),(10,1)]∧tFld Tryz.prog 54 0=some 0∧tFld Tryz.prog 54 1=some 1∧tFld Tryz.prog 54 2=some 4∧tFld Tryz.prog 54 3=some 7∧tFld Tryz.prog 54 4=some 10∧tZero Tryz.prog 54=some [.str ⟨#[]⟩,.bool false,.nils,.nils,.bool false,.nils,.nils,.bool false,.nils,.nils,.int .i64 0]:=by and_intros<;>kernel_rfl
@[go_sem] theorem tya_s_55:tSz Tryz.prog 55=some (true,4)∧tFlds Tryz.prog 55=some [(0,1),(1,1),(2,1),(3,1)]∧tFld Tryz.prog 55 0=some 0∧tFld Tryz.prog 55 1=some 1∧tFld Tryz.prog 55 2=some 2∧tFld Tryz.prog 55 3=some 3∧tZero Tryz.prog 55=some [.int .u8 0,.int .u8 0,.str ⟨#[]⟩,.str ⟨#[]⟩]:=by and_intros<;>kernel_rfl
@[go_sem] theorem tya_s_56:tSz Tryz.prog 56=some (true,4)∧tFlds Tryz.prog 56=some [(0,1),(1,1),(2,1),(3,1)]∧tFld Tryz.prog 56 0=some 0∧tFld Tryz.prog 56 1=some 1∧tFld Tryz.prog 56 2=some 2∧tFld Tryz.prog 56 3=some 3∧tZero Tryz.prog 56=some [.int .u8 0,.int .u8 0,.str ⟨#[]⟩,.str ⟨#[]⟩]:=by and_intros<;>kernel_rfl
@[go_sem] theorem tya_s_57:tSz Tryz.prog 57=some (false,1)∧tZero Tryz.prog 57=some [.raw (.pointer none)]:=by and_intros<;>kernel_rfl
@[go_sem] theorem tya_e_67:tElem Tryz.prog 67=some (56,4,40)∧tSz Tryz.prog 67=some (false,1)∧tZero Tryz.prog 67=some [.nils]:=by and_intros<;>kernel_rfl
@[go_sem] theorem tya_s_69:tSz Tryz.prog 69=some (false,1)∧tZI Tryz.prog 69=some (.i64,0)∧tInt Tryz.prog 69=some .i64∧tZero Tryz.prog 69=some [.int .i64 0]:=by and_intros<;>kernel_rfl
@[go_sem] theorem tya_e_70:tElem Tryz.prog 70=some (133,3,48)∧tSz Tryz.prog 70=some (false,1)∧tZero Tryz.prog 70=some [.nils]:=by and_intros<;>kernel_rfl
@[go_sem] theorem tya_s_71:tSz Tryz.prog 71=some (true,2)∧tFlds Tryz.prog 71=some [(0,1),(1,1)]∧tFld Tryz.prog 71 0=some 0∧tFld Tryz.prog 71 1=some 1∧tZero Tryz.prog 71=some [.int .i64 0,.nils]:=by and_intros<;>kernel_rfl
@[go_sem] theorem tya_s_72:tSz Tryz.prog 72=some (true,2)∧tFlds Tryz.prog 72=some [(0,1),(1,1)]∧tFld Tryz.prog 72 0=some 0∧tFld Tryz.prog 72 1=some 1∧tZero Tryz.prog 72=some [.int .i64 0,.nils]:=by and_intros<;>kernel_rfl
@[go_sem] theorem tya_e_81:tElem Tryz.prog 81=some (39,1,8):=by kernel_rfl
@[go_sem] theorem tya_s_81:tSz Tryz.prog 81=some (false,1)∧tZero Tryz.prog 81=some [.nils]:=by and_intros<;>kernel_rfl
@[go_sem] theorem tya_e_85:tElem Tryz.prog 85=some (5,1,1):=by kernel_rfl
@[go_sem] theorem tya_s_85:tSz Tryz.prog 85=some (false,1)∧tZero Tryz.prog 85=some [.nils]:=by and_intros<;>kernel_rfl
@[go_sem] theorem tya_s_90:tSz Tryz.prog 90=some (true,3)∧tFlds Tryz.prog 90=some [(0,1),(1,1),(2,1)]∧tFld Tryz.prog 90 0=some 0∧tFld Tryz.prog 90 1=some 1∧tFld Tryz.prog 90 2=some 2∧tZero Tryz.prog 90=some [.str ⟨#[]⟩,.str ⟨#[]⟩,.nils]:=by and_intros<;>kernel_rfl
@[go_sem] theorem tya_s_91:tSz Tryz.prog 91=some (true,3)∧tFlds Tryz.prog 91=some [(0,1),(1,1),(2,1)]∧tFld Tryz.prog 91 0=some 0∧tFld Tryz.prog 91 1=some 1∧tFld Tryz.prog 91 2=some 2∧tZero Tryz.prog 91=some [.str ⟨#[]⟩,.str ⟨#[]⟩,.nils]:=by and_intros<;>kernel_rfl
@[go_sem] theorem tya_e_92:tElem Tryz.prog 92=some (9,1,16):=by kernel_rfl
@[go_sem] theorem tya_s_92:tSz Tryz.prog 92=some (false,1)∧tZero Tryz.prog 92=some [.nils]:=by and_intros<;>kernel_rfl
@[go_sem] theorem tya_e_93:tElem Tryz.prog 93=some (52,3,56)∧tSz Tryz.prog 93=some (false,1)∧tZero Tryz.prog 93=some [.nils]:=by and_intros<;>kernel_rfl
@[go_sem] theorem tya_s_94:tSz Tryz.prog 94=some (true,4)∧tFlds Tryz.prog 94=some [(0,1),(1,1),(2,1),(3,1)]∧tFld Tryz.prog 94 0=some 0∧tFld Tryz.prog 94 1=some 1∧tFld Tryz.prog 94 2=some 2∧tFld Tryz.prog 94 3=some 3∧tZero Tryz.prog 94=some [.str ⟨#[]⟩,.int .i64 0,.nils,.nils]:=by and_intros<;>kernel_rfl
@[go_sem] theorem tya_s_95:tSz Tryz.prog 95=some (true,4)∧tFlds Tryz.prog 95=some [(0,1),(1,1),(2,1),(3,1)]∧tFld Tryz.prog 95 0=some 0∧tFld Tryz.prog 95 1=some 1∧tFld Tryz.prog 95 2=some 2∧tFld Tryz.prog 95 3=some 3∧tZero Tryz.prog 95=some [.str ⟨#[]⟩,.int .i64 0,.nils,.nils]:=by and_intros<;>kernel_rfl
@[go_sem] theorem tya_e_96:tElem Tryz.prog 96=some (100,4,72)∧tSz Tryz.prog 96=some (false,1)∧tZero Tryz.prog 96=some [.nils]:=by and_intros<;>kernel_rfl
@[go_sem] theorem tya_s_97:tSz Tryz.prog 97=some (true,3)∧tFlds Tryz.prog 97=some [(0,1),(1,1),(2,1)]∧tFld Tryz.prog 97 0=some 0∧tFld Tryz.prog 97 1=some 1∧tFld Tryz.prog 97 2=some 2∧tZero Tryz.prog 97=some [.str ⟨#[]⟩,.str ⟨#[]⟩,.nils]:=by and_intros<;>kernel_rfl
@[go_sem] theorem tya_s_98:tSz Tryz.prog 98=some (true,3)∧tFlds Tryz.prog 98=some [(0,1),(1,1),(2,1)]∧tFld Tryz.prog 98 0=some 0∧tFld Tryz.prog 98 1=some 1∧tFld Tryz.prog 98 2=some 2∧tZero Tryz.prog 98=some [.str ⟨#[]⟩,.str ⟨#[]⟩,.nils]:=by and_intros<;>kernel_rfl
@[go_sem] theorem tya_s_99:tSz Tryz.prog 99=some (true,4)∧tFlds Tryz.prog 99=some [(0,1),(1,3)]∧tFld Tryz.prog 99 0=some 0∧tFld Tryz.prog 99 1=some 1∧tZero Tryz.prog 99=some [.str ⟨#[]⟩,.bool false,.nils,.nils]:=by and_intros<;>kernel_rfl
@[go_sem] theorem tya_s_100:tSz Tryz.prog 100=some (true,4)∧tFlds Tryz.prog 100=some [(0,1),(1,3)]∧tFld Tryz.prog 100 0=some 0∧tFld Tryz.prog 100 1=some 1∧tZero Tryz.prog 100=some [.str ⟨#[]⟩,.bool false,.nils,.nils]:=by and_intros<;>kernel_rfl
@[go_sem] theorem tya_s_104:tSz Tryz.prog 104=some (true,2)∧tFlds Tryz.prog 104=some [(0,1),(1,1)]∧tFld Tryz.prog 104 0=some 0∧tFld Tryz.prog 104 1=some 1∧tZero Tryz.prog 104=some [.str ⟨#[]⟩,.bool false]:=by and_intros<;>kernel_rfl
@[go_sem] theorem tya_s_105:tSz Tryz.prog 105=some (true,2)∧tFlds Tryz.prog 105=some [(0,1),(1,1)]∧tFld Tryz.prog 105 0=some 0∧tFld Tryz.prog 105 1=some 1:=by and_intros<;>kernel_rfl
@[go_sem] theorem tya_z_105:tZero Tryz.prog 105=some [.str ⟨#[]⟩,.bool false]:=by kernel_rfl
@[go_sem] theorem tya_s_125:tSz Tryz.prog 125=some (false,1)∧tZero Tryz.prog 125=some [.raw (.map none)]:=by and_intros<;>kernel_rfl
@[go_sem] theorem tya_s_126:tSz Tryz.prog 126=some (true,2)∧tFlds Tryz.prog 126=some [(0,1),(1,1)]∧tFld Tryz.prog 126 0=some 0∧tFld Tryz.prog 126 1=some 1∧tZero Tryz.prog 126=some [.int .i64 0,.raw (.map none)]:=by and_intros<;>kernel_rfl
@[go_sem] theorem tya_s_127:tSz Tryz.prog 127=some (true,2)∧tFlds Tryz.prog 127=some [(0,1),(1,1)]∧tFld Tryz.prog 127 0=some 0∧tFld Tryz.prog 127 1=some 1∧tZero Tryz.prog 127=some [.int .i64 0,.raw (.map none)]:=by and_intros<;>kernel_rfl
@[go_sem] theorem tya_s_128:tSz Tryz.prog 128=some (true,2)∧tFlds Tryz.prog 128=some [(0,1),(1,1)]∧tFld Tryz.prog 128 0=some 0∧tFld Tryz.prog 128 1=some 1∧tZero Tryz.prog 128=some [.str ⟨#[]⟩,.str ⟨#[]⟩]:=by and_intros<;>kernel_rfl
@[go_sem] theorem tya_s_129:tSz Tryz.prog 129=some (true,2)∧tFlds Tryz.prog 129=some [(0,1),(1,1)]∧tFld Tryz.prog 129 0=some 0∧tFld Tryz.prog 129 1=some 1∧tZero Tryz.prog 129=some [.str ⟨#[]⟩,.str ⟨#[]⟩]:=by and_intros<;>kernel_rfl
@[go_sem] theorem tya_s_132:tSz Tryz.prog 132=some (true,3)∧tFlds Tryz.prog 132=some [(0,1),(1,1),(2,1)]∧tFld Tryz.prog 132 0=some 0∧tFld Tryz.prog 132 1=some 1∧tFld Tryz.prog 132 2=some 2∧tZero Tryz.prog 132=some [.str ⟨#[]⟩,.str ⟨#[]⟩,.str ⟨#[]⟩]:=by and_intros<;>kernel_rfl
@[go_sem] theorem tya_s_133:tSz Tryz.prog 133=some (true,3)∧tFlds Tryz.prog 133=some [(0,1),(1,1),(2,1)]∧tFld Tryz.prog 133 0=some 0∧tFld Tryz.prog 133 1=some 1∧tFld Tryz.prog 133 2=some 2∧tZero Tryz.prog 133=some [.str ⟨#[]⟩,.str ⟨#[]⟩,.str ⟨#[]⟩]:=by and_intros<;>kernel_rfl
@[go_sem] theorem tya_e_136:tElem Tryz.prog 136=some (3,1,8)∧tSz Tryz.prog 136=some (false,1)∧tZero Tryz.prog 136=some [.nils]:=by and_intros<;>kernel_rfl
@[go_sem] theorem tya_s_139:tSz Tryz.prog 139=some (true,7)∧tFlds Tryz.prog 139=some [(0,1),(1,1),(2,1),(3,1),(4,3)]∧tFld Tryz.prog 139 0=some 0∧tFld Tryz.prog 139 1=some 1∧tFld Tryz.prog 139 2=some 2∧tFld Tryz.prog 139 3=some 3∧tFld Tryz.prog 139 4=some 4∧tZero Tryz.prog 139=some [.str ⟨#[]⟩,.int .i64 0,.int .i64 0,.nils,.bool false,.nils,.nils]:=by and_intros<;>kernel_rfl
@[go_sem] theorem tya_s_140:tSz Tryz.prog 140=some (true,7)∧tFlds Tryz.prog 140=some [(0,1),(1,1),(2,1),(3,1),(4,3)]∧tFld Tryz.prog 140 0=some 0∧tFld Tryz.prog 140 1=some 1∧tFld Tryz.prog 140 2=some 2∧tFld Tryz.prog 140 3=some 3∧tFld Tryz.prog 140 4=some 4∧tZero Tryz.prog 140=some [.str ⟨#[]⟩,.int .i64 0,.int .i64 0,.nils,.bool false,.nils,.nils]:=by and_intros<;>kernel_rfl
@[go_sem] theorem tya_s_141:tSz Tryz.prog 141=some (false,1)∧tZero Tryz.prog 141=some [.raw (.pointer none)]:=by and_intros<;>kernel_rfl
@[go_sem] theorem tya_s_142:tSz Tryz.prog 142=some (false,1)∧tZero Tryz.prog 142=some [.raw (.pointer none)]:=by and_intros<;>kernel_rfl
@[go_sem] theorem tya_s_143:tSz Tryz.prog 143=some (true,2)∧tFlds Tryz.prog 143=some [(0,1),(1,1)]∧tFld Tryz.prog 143 0=some 0∧tFld Tryz.prog 143 1=some 1∧tZero Tryz.prog 143=some [.raw (.pointer none),.nils]:=by and_intros<;>kernel_rfl
@[go_sem] theorem tya_s_144:tSz Tryz.prog 144=some (true,2)∧tFlds Tryz.prog 144=some [(0,1),(1,1)]∧tFld Tryz.prog 144 0=some 0∧tFld Tryz.prog 144 1=some 1∧tZero Tryz.prog 144=some [.raw (.pointer none),.nils]:=by and_intros<;>kernel_rfl
@[go_sem] theorem tya_s_145:tSz Tryz.prog 145=some (true,3)∧tFlds Tryz.prog 145=some [(0,2),(2,1)]∧tFld Tryz.prog 145 0=some 0∧tFld Tryz.prog 145 1=some 2∧tZero Tryz.prog 145=some [.raw (.pointer none),.nils,.bool false]:=by and_intros<;>kernel_rfl
@[go_sem] theorem tya_s_146:tSz Tryz.prog 146=some (true,3)∧tFlds Tryz.prog 146=some [(0,2),(2,1)]∧tFld Tryz.prog 146 0=some 0∧tFld Tryz.prog 146 1=some 2∧tZero Tryz.prog 146=some [.raw (.pointer none),.nils,.bool false]:=by and_intros<;>kernel_rfl
@[go_sem] theorem tya_s_155:tSz Tryz.prog 155=some (true,4)∧tZero Tryz.prog 155=some [.nils,.nils,.nils,.nils]:=by and_intros<;>kernel_rfl
@[go_sem] theorem tya_s_166:tSz Tryz.prog 166=some (false,1)∧tZI Tryz.prog 166=some (.u64,0)∧tInt Tryz.prog 166=some .u64∧tZero Tryz.prog 166=some [.int .u64 0]:=by and_intros<;>kernel_rfl
@[go_sem] theorem tya_s_168:tSz Tryz.prog 168=some (false,1)∧tZI Tryz.prog 168=some (.u32,0)∧tInt Tryz.prog 168=some .u32∧tZero Tryz.prog 168=some [.int .u32 0]:=by and_intros<;>kernel_rfl
@[go_sem] theorem tya_e_179:tElem Tryz.prog 179=some (136,1,24)∧tSz Tryz.prog 179=some (false,1)∧tZero Tryz.prog 179=some [.nils]:=by and_intros<;>kernel_rfl
@[go_sem] theorem tya_e_181:tElem Tryz.prog 181=some (4,1,1)∧tSz Tryz.prog 181=some (false,1)∧tZero Tryz.prog 181=some [.nils]:=by and_intros<;>kernel_rfl
@[go_sem] theorem tya_s_186:tSz Tryz.prog 186=some (true,4)∧tFlds Tryz.prog 186=some [(0,1),(1,3)]∧tFld Tryz.prog 186 0=some 0∧tFld Tryz.prog 186 1=some 1∧tZero Tryz.prog 186=some [.str ⟨#[]⟩,.bool false,.nils,.nils]:=by and_intros<;>kernel_rfl
@[go_sem] theorem tya_e_188:tElem Tryz.prog 188=some (186,4,72)∧tSz Tryz.prog 188=some (false,1)∧tZero Tryz.prog 188=some [.nils]:=by and_intros<;>kernel_rfl
@[go_sem] theorem tya_s_190:tSz Tryz.prog 190=some (false,1)∧tZero Tryz.prog 190=some [.raw (.pointer none)]:=by and_intros<;>kernel_rfl
@[go_sem] theorem tya_s_209:tSz Tryz.prog 209=some (false,1)∧tZero Tryz.prog 209=some [.raw (.map none)]:=by and_intros<;>kernel_rfl
@[go_sem] theorem tya_s_211:tSz Tryz.prog 211=some (true,3)∧tFlds Tryz.prog 211=some [(0,1),(1,1),(2,1)]∧tFld Tryz.prog 211 0=some 0∧tFld Tryz.prog 211 1=some 1∧tFld Tryz.prog 211 2=some 2∧tEqS Tryz.prog 211=some 3∧tZero Tryz.prog 211=some [.int .i64 0,.int .i64 0,.int .i64 0]:=by and_intros<;>kernel_rfl
@[go_sem] theorem tya_s_212:tSz Tryz.prog 212=some (true,3)∧tFlds Tryz.prog 212=some [(0,1),(1,1),(2,1)]∧tFld Tryz.prog 212 0=some 0∧tFld Tryz.prog 212 1=some 1∧tFld Tryz.prog 212 2=some 2∧tEqS Tryz.prog 212=some 3∧tZero Tryz.prog 212=some [.int .i64 0,.int .i64 0,.int .i64 0]:=by and_intros<;>kernel_rfl
@[go_sem] theorem tya_s_216:tSz Tryz.prog 216=some (false,1)∧tZI Tryz.prog 216=some (.i64,0)∧tInt Tryz.prog 216=some .i64∧tZero Tryz.prog 216=some [.int .i64 0]:=by and_intros<;>kernel_rfl
@[go_sem] theorem tya_s_284:tSz Tryz.prog 284=some (false,1)∧tZI Tryz.prog 284=some (.u64,0)∧tInt Tryz.prog 284=some .u64∧tZero Tryz.prog 284=some [.int .u64 0]:=by and_intros<;>kernel_rfl
@[go_sem] theorem tya_s_288:tSz Tryz.prog 288=some (false,1)∧tZero Tryz.prog 288=some [.raw (.pointer none)]:=by and_intros<;>kernel_rfl
@[go_sem] theorem tya_s_308:tSz Tryz.prog 308=some (false,1)∧tZero Tryz.prog 308=some [.raw (.pointer none)]:=by and_intros<;>kernel_rfl
@[go_sem] theorem tya_s_323:tSz Tryz.prog 323=some (false,1)∧tZero Tryz.prog 323=some [.raw (.pointer none)]:=by and_intros<;>kernel_rfl
@[go_sem] theorem tya_s_335:tSz Tryz.prog 335=some (true,9)∧tZero Tryz.prog 335=some [.int .u8 0,.int .u8 0,.int .u8 0,.int .u8 0,.int .u8 0,.int .u8 0,.int .u8 0,.int .u8 0,.int .u8 0]:=by and_intros<;>kernel_rfl
@[go_sem] theorem tya_s_337:tSz Tryz.prog 337=some (true,256):=by kernel_rfl
@[go_sem] theorem tya_s_338:tSz Tryz.prog 338=some (true,256):=by kernel_rfl
@[go_sem] theorem tya_s_342:tSz Tryz.prog 342=some (false,1)∧tZero Tryz.prog 342=some [.raw (.pointer none)]:=by and_intros<;>kernel_rfl
@[go_sem] theorem tya_s_343:tSz Tryz.prog 343=some (true,24)∧tZero Tryz.prog 343=some [.int .u8 0,.int .u8 0,.int .u8 0,.int .u8 0,.int .u8 0,.int .u8 0,.int .u8 0,.int .u8 0,.int .u8 0,.int .u8 0,.int .u8 0,.int .u8 0,.int .u8 0,.int .u8 0,.int .u8 0,.int .u8 0,.int .u8 0,.int .u8 0,.int .u8 0,.int .u8 0,.int .u8 0,.int .u8 0,.int .u8 0,.int .u8 0]:=by and_intros<;>kernel_rfl
@[go_sem] theorem tya_s_353:tSz Tryz.prog 353=some (true,20)∧tZero Tryz.prog 353=some [.int .u64 0,.int .u64 0,.int .u64 0,.int .u64 0,.int .u64 0,.int .u64 0,.int .u64 0,.int .u64 0,.int .u64 0,.int .u64 0,.int .u64 0,.int .u64 0,.int .u64 0,.int .u64 0,.int .u64 0,.int .u64 0,.int .u64 0,.int .u64 0,.int .u64 0,.int .u64 0]:=by and_intros<;>kernel_rfl
@[go_sem] theorem tya_s_354:tSz Tryz.prog 354=some (true,65):=by kernel_rfl
@[go_sem] theorem tya_s_357:tSz Tryz.prog 357=some (true,256):=by kernel_rfl
@[go_sem] theorem tya_s_358:tSz Tryz.prog 358=some (true,2)∧tFlds Tryz.prog 358=some [(0,1),(1,1)]∧tFld Tryz.prog 358 0=some 0∧tFld Tryz.prog 358 1=some 1∧tEqS Tryz.prog 358=some 2∧tZero Tryz.prog 358=some [.int .u8 0,.int .u8 0]:=by and_intros<;>kernel_rfl
@[go_sem] theorem tya_s_359:tSz Tryz.prog 359=some (true,2)∧tFlds Tryz.prog 359=some [(0,1),(1,1)]∧tFld Tryz.prog 359 0=some 0∧tFld Tryz.prog 359 1=some 1∧tEqS Tryz.prog 359=some 2∧tZero Tryz.prog 359=some [.int .u8 0,.int .u8 0]:=by and_intros<;>kernel_rfl
@[go_sem] theorem tya_s_360:tSz Tryz.prog 360=some (true,32)∧tZero Tryz.prog 360=some [.int .u8 0,.int .u8 0,.int .u8 0,.int .u8 0,.int .u8 0,.int .u8 0,.int .u8 0,.int .u8 0,.int .u8 0,.int .u8 0,.int .u8 0,.int .u8 0,.int .u8 0,.int .u8 0,.int .u8 0,.int .u8 0,.int .u8 0,.int .u8 0,.int .u8 0,.int .u8 0,.int .u8 0,.int .u8 0,.int .u8 0,.int .u8 0,.int .u8 0,.int .u8 0,.int .u8 0,.int .u8 0,.int .u8 0,.int .u8 0,.int .u8 0,.int .u8 0]:=by and_intros<;>kernel_rfl
@[go_sem] theorem tya_s_363:tSz Tryz.prog 363=some (true,32)∧tZero Tryz.prog 363=some [.int .u8 0,.int .u8 0,.int .u8 0,.int .u8 0,.int .u8 0,.int .u8 0,.int .u8 0,.int .u8 0,.int .u8 0,.int .u8 0,.int .u8 0,.int .u8 0,.int .u8 0,.int .u8 0,.int .u8 0,.int .u8 0,.int .u8 0,.int .u8 0,.int .u8 0,.int .u8 0,.int .u8 0,.int .u8 0,.int .u8 0,.int .u8 0,.int .u8 0,.int .u8 0,.int .u8 0,.int .u8 0,.int .u8 0,.int .u8 0,.int .u8 0,.int .u8 0]:=by and_intros<;>kernel_rfl
@[go_sem] theorem tya_s_364:tSz Tryz.prog 364=some (true,64):=by kernel_rfl
@[go_sem] theorem tya_s_365:tSz Tryz.prog 365=some (true,4)∧tFlds Tryz.prog 365=some [(0,1),(1,1),(2,1),(3,1)]∧tFld Tryz.prog 365 0=some 0∧tFld Tryz.prog 365 1=some 1∧tFld Tryz.prog 365 2=some 2∧tFld Tryz.prog 365 3=some 3∧tZero Tryz.prog 365=some [.raw (.pointer none),.raw (.pointer none),.raw (.pointer none),.str ⟨#[]⟩]:=by and_intros<;>kernel_rfl
@[go_sem] theorem tya_s_366:tSz Tryz.prog 366=some (true,4)∧tFlds Tryz.prog 366=some [(0,1),(1,1),(2,1),(3,1)]∧tFld Tryz.prog 366 0=some 0∧tFld Tryz.prog 366 1=some 1∧tFld Tryz.prog 366 2=some 2∧tFld Tryz.prog 366 3=some 3∧tZero Tryz.prog 366=some [.raw (.pointer none),.raw (.pointer none),.raw (.pointer none),.str ⟨#[]⟩]:=by and_intros<;>kernel_rfl
@[go_sem] theorem tya_s_370:tSz Tryz.prog 370=some (false,1)∧tZI Tryz.prog 370=some (.u8,0)∧tInt Tryz.prog 370=some .u8∧tZero Tryz.prog 370=some [.int .u8 0]:=by and_intros<;>kernel_rfl
@[go_sem] theorem tya_s_371:tSz Tryz.prog 371=some (false,1)∧tZI Tryz.prog 371=some (.u8,0)∧tInt Tryz.prog 371=some .u8∧tZero Tryz.prog 371=some [.int .u8 0]:=by and_intros<;>kernel_rfl
@[go_sem] theorem tya_s_373:tSz Tryz.prog 373=some (false,1)∧tZI Tryz.prog 373=some (.i32,0)∧tInt Tryz.prog 373=some .i32∧tZero Tryz.prog 373=some [.int .i32 0]:=by and_intros<;>kernel_rfl
@[go_sem] theorem tya_s_374:tSz Tryz.prog 374=some (false,1)∧tZI Tryz.prog 374=some (.i32,0)∧tInt Tryz.prog 374=some .i32∧tZero Tryz.prog 374=some [.int .i32 0]:=by and_intros<;>kernel_rfl
@[go_sem] theorem tya_s_375:tSz Tryz.prog 375=some (true,11)∧tFlds Tryz.prog 375=some [(0,1),(1,1),(2,1),(3,1),(4,1),(5,1),(6,1),(7,1),(8,1),(9,1),(10,1)]∧tFld Tryz.prog 375 0=some 0∧tFld Tryz.prog 375 1=some 1∧tFld Tryz.prog 375 2=some 2∧tFld Tryz.prog 375 3=some 3∧tFld Tryz.prog 375 4=some 4∧tFld Tryz.prog 375 5=some 5∧tFld Tryz.prog 375 6=some 6∧tFld Tryz.prog 375 7=some 7∧tFld Tryz.prog 375 8=some 8∧tFld Tryz.prog 375 9=some 9∧tFld Tryz.prog 375 10=some 10∧tZero Tryz.prog 375=some [.int .u64 0,.int .u64 0,.int .u32 0,.int .u8 0,.int .u8 0,.int .u8 0,.int .u8 0,.raw .nilFunc,.raw (.pointer none),.int .i32 0,.int .i32 0]:=by and_intros<;>kernel_rfl
@[go_sem] theorem tya_s_376:tSz Tryz.prog 376=some (true,11)∧tFlds Tryz.prog 376=some [(0,1),(1,1),(2,1),(3,1),(4,1),(5,1),(6,1),(7,1),(8,1),(9,1),(10,1)]∧tFld Tryz.prog 376 0=some 0∧tFld Tryz.prog 376 1=some 1∧tFld Tryz.prog 376 2=some 2∧tFld Tryz.prog 376 3=some 3∧tFld Tryz.prog 376 4=some 4∧tFld Tryz.prog 376 5=some 5∧tFld Tryz.prog 376 6=some 6∧tFld Tryz.prog 376 7=some 7∧tFld Tryz.prog 376 8=some 8∧tFld Tryz.prog 376 9=some 9∧tFld Tryz.prog 376 10=some 10∧tZero Tryz.prog 376=some [.int .u64 0,.int .u64 0,.int .u32 0,.int .u8 0,.int .u8 0,.int .u8 0,.int .u8 0,.raw .nilFunc,.raw (.pointer none),.int .i32 0,.int .i32 0]:=by and_intros<;>kernel_rfl
end Go.Proofs.YtpcpaekpnfkhhaaGreatDoor
namespace Go.Proofs.YtpcpaekpnfkhhaaGreatDoor
open Go.AI Go.PN
attribute [local irreducible] aw Fa Fh DrK
abbrev rdc (r:RD):List CV:=[.bool r.neg,ws true r.num,ws true r.den]
theorem cmp_one {n:Nat}:(cmpN n (val [1])==0)=decide (n=1):=by
 have:val [1]=1:=rfl
 rw [this]
 unfold cmpN
 by_cases h:n=1
 ·subst h;rfl
 ·have:¬(n=1):=h
  simp only [this,decide_false,if_false]
  by_cases h0:n<1<;>simp [h0]
theorem plain_eq {xs:List Nat} (h0:0<xs.length):plainB xs=(((xs.getD (xs.length-1) 0:Nat):Int) !=0):=by
 simp only [plainB,h0,decide_true,Bool.true_and,bne]
 congr 1
 rw [Bool.eq_iff_iff];simp
theorem plain_no {xs:List Nat} (h0:¬0<xs.length):plainB xs=false:=by simp [plainB,h0]
theorem one_fa:Fa Tryz.prog 229 [] (.c (ws true [1])):=by
 refine fa_of_body Tryz.func229 rfl rfl (by simp [Tryz.ntmps229]) fun C hC=> ?_
 simp only [initS]
 refine xG ?_
 refine aw_buildSlice (xs:=[.const (.int .u32 1)]) (cells:=[.int .u32 1]) rfl rfl rfl ty_e_ws (by rw [envP,ty_z_u32];rfl) rfl om om (by intro x hx;simp only [List.mem_cons,List.not_mem_nil,or_false] at hx;subst hx;exact⟨rfl,rfl,rfl⟩) rfl fun g hg=> ?_
 refine xSGT hC ?_
 exact .one (.c (ler_oslws eE om rfl (fun j hj=>by match j,hj with|0,_=>rfl)))
theorem plain_fa (xs:List Nat) (hlx:xs.length≤68719476738):Fa Tryz.prog 308 [.c (ws false xs)] (.c (.bool (plainB xs))):=by
 refine fa_of_body Tryz.func308 rfl rfl (by simp [Tryz.ntmps308]) fun C hC=> ?_
 simp only [initS,Nat.reduceAdd]
 refine xG ?_
 refine aw_split 6 eE (fun hb=> ?_) (fun hb=> ?_)<;>refine xS ?_
 ·have h0:0<xs.length:=dT hb
  refine xGT hC ?_
  exact .one (.c (ler_bool (plain_eq h0).symm))
 ·have h0:¬0<xs.length:=dF hb
  refine xGT hC ?_
  exact .one (.c (ler_bool (plain_no h0).symm))
theorem valid_zero {r:RD} (h1:((r.num.length:Int)==0)=true) (h2:((r.den.length:Int)==0)=true):(!r.neg)=r.valid:=by
 have h1':r.num.length=0:=by have:=eq_of_beq h1;omega
 have h2':r.den.length=0:=by have:=eq_of_beq h2;omega
 simp [RD.valid,h1',h2']
theorem valid_else {r:RD} (h:((r.num.length:Int)==0)=false∨((r.den.length:Int)==0)=false):r.valid=(plainB r.num&&plainB r.den&&decide (Nat.gcd (val r.num) (val r.den)=1)):=by
 unfold RD.valid
 rw [if_neg]
 rintro ⟨h1,h2⟩
 rcases h with h|h
 ·rw [h1] at h;cases h
 ·rw [h2] at h;cases h
theorem rvalid_fa (r:RD) (hw:r.wf 68719476736):Fa Tryz.prog 243 [.agg (rdc r)] (.c (.bool r.valid)):=by
 have hp1:r.num.length≤68719476738:=by have:=hw.2.2.1;omega
 have hp2:r.den.length≤68719476738:=by have:=hw.2.2.2;omega
 have hg:(words (Nat.gcd (val r.num) (val r.den))).length≤68719476736:=by
  by_cases h:val r.num=0
  ·rw [h,Nat.gcd_zero_left];exact Nat.le_trans (words_val_len _ hw.2.1) hw.2.2.2
  ·exact Nat.le_trans (words_len_mono (Nat.gcd_le_left _ (Nat.pos_of_ne_zero h))) (Nat.le_trans (words_val_len _ hw.1) hw.2.2.1)
 refine fa_of_body Tryz.func243 rfl rfl (by simp [Tryz.ntmps243]) fun C hC=> ?_
 simp only [initS,Nat.reduceAdd]
 refine xG ?_
 refine xB fun g1 hn_g1=>?_
 refine yH hn_g1 ?_
 apply aw_seq
 refine aw_cut (fun _:Unit=>[(1,.c (.optr g1 0))]) (fun _=>[(g1,.cells 52 3 (ofL (rdc r)))]) (fun _=>((r.num.length:Int)==0)=false∨((r.den.length:Int)==0)=false) ?_ ?_
 ·refine yG hn_g1 ?_
  refine aw_split 7 (zE hn_g1) (fun hb=> ?_) (fun hb=> ?_)<;>refine yS hn_g1 ?_
  ·refine yG hn_g1 ?_
   refine yF hn_g1 (fun hd=>?_) fun hd=>?_
   ·refine yGT hC hn_g1 ?_
    exact .one (.c (ler_bool (valid_zero hb hd)))
   ·refine yG hn_g1 ?_
    exact aw_stop ⟨(),(zB hn_g1),zZ,.inr hd⟩
  ·refine yG hn_g1 ?_
   refine yN hn_g1 ?_
   refine yG hn_g1 ?_
   exact aw_stop ⟨(),(zB hn_g1),zZ,.inl hb⟩
 rintro _ hd
 rw [valid_else hd]
 refine yG hn_g1 ?_
 refine yC hn_g1 (plain_fa r.num hp1) ?_
 refine yG hn_g1 ?_
 refine aw_split 19 (zE hn_g1) (fun h1=> ?_) (fun h1=> ?_)<;>refine yS hn_g1 ?_
 ·refine yG hn_g1 ?_
  refine yC hn_g1 (plain_fa r.den hp2) ?_
  refine yG hn_g1 ?_
  refine aw_split 24 (zE hn_g1) (fun h2=> ?_) (fun h2=> ?_)<;>refine yS hn_g1 ?_
  ·refine yG hn_g1 ?_
   refine yC hn_g1 (gcd_fa _ _ hw.1 hw.2.1 hw.2.2.1 hw.2.2.2) ?_
   refine yG hn_g1 ?_
   refine yC hn_g1 (one_fa) ?_
   refine yG hn_g1 ?_
   refine yC hn_g1 (cmp_fa _ [1] (words_lt _) ?_ hg ?_) ?_
   ·simp
   ·simp
   refine yGT hC hn_g1 ?_
   refine .one (.c (ler_bool ?_))
   rw [h1,h2,val_words,cmp_one];rfl
  ·refine yGT hC hn_g1 ?_
   refine .one (.c (ler_bool ?_))
   rw [h2,Bool.and_false,Bool.false_and]
 ·refine yGT hC hn_g1 ?_
  refine .one (.c (ler_bool ?_))
  rw [h1,Bool.false_and,Bool.false_and]
theorem cmpW (a b:Nat) (ha:(words a).length≤68719476736) (hb:(words b).length≤68719476736):Fa Tryz.prog 233 [.c (ws false (words a)),.c (ws false (words b))] (.c (.int .i64 (cmpN a b))):=by
 have:=cmp_fa (words a) (words b) (words_lt a) (words_lt b) ha hb
 rwa [val_words,val_words] at this
theorem gcdW (a b:Nat) (ha:(words a).length≤68719476736) (hb:(words b).length≤68719476736):Fa Tryz.prog 296 [.c (ws false (words a)),.c (ws false (words b))] (.c (ws true (words (Nat.gcd a b)))):=by
 have:=gcd_fa (words a) (words b) (words_lt a) (words_lt b) ha hb
 rwa [val_words,val_words] at this
theorem divW (a b:Nat) (ha:(words a).length≤68719476736) (hb:(words b).length≤68719476736) (h:b≠0):Fa Tryz.prog 297 [.c (ws false (words a)),.c (ws false (words b))] (.tup [.c (ws true (words (a/b))),.c (ws true (words (a%b))),.c .nilI]):=by
 have:=div_fa (words a) (words b) (words_lt a) (words_lt b) ha hb (by rw [val_words];exact h)
 rwa [val_words,val_words] at this
theorem bitsW (a:Nat) (ha:(words a).length≤68719476736):Fa Tryz.prog 295 [.c (ws false (words a))] (.c (.int .i64 (bitlen a:Nat))):=by
 have:=bits_fa (words a) (words_lt a) ha
 rwa [val_words] at this
theorem some_of {r:RD} (h1:r.valid=true) (h2:((r.num.length:Int)==0)=false):r.some=true:=by
 have:r.num.length≠0:=fun e=>by rw [e] at h2;cases h2
 simp [RD.some,h1,this]
theorem none_of {r:RD} (h:r.valid=false∨((r.num.length:Int)==0)=true):r.some=false:=by
 rcases h with h|h
 ·simp [RD.some,h]
 ·have:r.num.length=0:=by have:=eq_of_beq h;omega
  simp [RD.some,this]
theorem wf_mono {r:RD} {L M:Nat} (h:r.wf L) (hm:L≤M):r.wf M:=⟨h.1,h.2.1,Nat.le_trans h.2.2.1 hm,Nat.le_trans h.2.2.2 hm⟩
abbrev partsAV (r:RD):AV:=.tup [.c (.bool r.ps),.c (ws true (words r.pn)),.c (ws true (words r.pd))]
theorem rparts_fa (r:RD) (hw:r.wf 1073741824):Fa Tryz.prog 230 [.agg (rdc r)] (partsAV r):=by
 refine fa_of_body Tryz.func230 rfl rfl (by simp [Tryz.ntmps230]) fun C hC=> ?_
 simp only [initS,Nat.reduceAdd]
 refine xG ?_
 refine xB fun g1 hn_g1=>?_
 refine yG hn_g1 ?_
 refine yC hn_g1 (rvalid_fa r (wf_mono hw ?_)) ?_
 ·omega
 refine yG hn_g1 ?_
 refine aw_split 8 (zE hn_g1) (fun hv=> ?_) (fun hv=> ?_)<;>refine yS hn_g1 ?_
 ·have hs:=RD.pn_none (none_of (r:=r) (.inl (by simpa using hv)))
  refine yG hn_g1 ?_
  refine yP hn_g1 ?_
  refine yG hn_g1 ?_
  refine yC hn_g1 (one_fa) ?_
  refine yGT hC hn_g1 ?_
  refine .tup ⟨.c (ler_bool hs.2.2.symm),.c ?_,.c ?_,trivial⟩
  ·rw [hs.1];exact .nils
  ·rw [hs.2.1];exact ler_ws
 ·have hv':r.valid=true:=by simpa using hv
  refine yG hn_g1 ?_
  refine yF hn_g1 (fun hn=>?_) fun hn=>?_
  ·have hs:=RD.pn_none (none_of (r:=r) (.inr hn))
   refine yG hn_g1 ?_
   refine yC hn_g1 (one_fa) ?_
   refine yGT hC hn_g1 ?_
   refine .tup ⟨.c (ler_bool hs.2.2.symm),.c ?_,.c ?_,trivial⟩
   ·rw [hs.1];exact .nils
   ·rw [hs.2.1];exact ler_ws
  ·have hs:=RD.pn_words hw (some_of hv' hn)
   refine yG hn_g1 ?_
   refine aw_dr 9 ty_mixed (by kernel_rfl) ?_
   refine yGT hC hn_g1 ?_
   refine .tup ⟨.c (ler_bool hs.2.2.symm),.c ?_,.c ?_,trivial⟩
   ·rw [hs.1];exact ler_ws
   ·rw [hs.2.1];exact ler_ws
theorem lerl_rd {h:Heap} {r:RD}:LeRL h (rdc r) (rdc r):=⟨.bool _,ler_ws,ler_ws,trivial⟩
theorem ler_rd {h:Heap} {r s:RD} (e:r=s):LeRA h (.agg (rdc r)) (.agg (rdc s)):=by subst e;exact .one (.agg lerl_rd)
theorem rform_fa (neg:Bool) (n d:Nat) (hn:(words n).length≤68719476736) (hd:(words d).length≤68719476736) (h0:d≠0):
  Fa Tryz.prog 227 [.c (.bool neg),.c (ws false (words n)),.c (ws false (words d))] (.agg (rdc (rd (sq neg n d)))):=by
 refine fa_of_body Tryz.func227 rfl rfl (by simp [Tryz.ntmps227]) fun C hC=> ?_
 simp only [initS,Nat.reduceAdd]
 refine xG ?_
 refine xA fun g6 hn_g6=>?_
 refine yG hn_g6 ?_
 refine yC hn_g6 (bitsW n hn) ?_
 refine yG hn_g6 ?_
 refine yF hn_g6 (fun hb=>?_) fun hb=>?_
 ·have hz:n=0:=bitlen_zero.1 (by have:=eq_of_beq hb;omega)
  refine yG hn_g6 ?_
  refine yW hn_g6 ?_
  refine ySG hn_g6 ?_
  refine yT hC hn_g6 ?_
  rw [hz,sq_zero,rd_zero]
  exact .one (.agg ⟨.bool _,.nils,.nils,trivial⟩)
 ·have hz:n≠0:=fun e=>by rw [e] at hb;cases hb
  have hg:Nat.gcd n d≠0:=fun e=>h0 (Nat.eq_zero_of_gcd_eq_zero_right e)
  have hgl:(words (Nat.gcd n d)).length≤68719476736:=Nat.le_trans (words_len_mono (Nat.gcd_le_left _ (Nat.pos_of_ne_zero hz))) hn
  refine yG hn_g6 ?_
  refine yC hn_g6 (gcdW n d hn hd) ?_
  refine yG hn_g6 ?_
  refine yC hn_g6 (divW n (Nat.gcd n d) hn hgl hg) ?_
  refine yG hn_g6 ?_
  refine yC hn_g6 (divW d (Nat.gcd n d) hd hgl hg) ?_
  refine yG hn_g6 ?_
  refine yW hn_g6 ?_
  refine ySG hn_g6 ?_
  refine yT hC hn_g6 ?_
  rw [rd_sq hz h0]
  exact .one (.agg ⟨.bool _,ler_ws,ler_ws,trivial⟩)
theorem words_min:words 9223372036854775808=[0,2147483648]:=by
 rw [words_cons om,words_cons om,show(9223372036854775808/4294967296/4294967296:Nat)=0 from rfl,words_zero]
theorem int_neg {n:Int} (h0: -9223372036854775808<n) (h1:n≤9223372036854775807):wrapZ .i64 (0-n)= -n:=by
 rw [wrapZ_eq,wrap_inRange (k:=.i64) (by simp only [inRange];omega)];omega
theorem words_small {n:Nat} (h:n≤9223372036854775808):(words n).length≤2:=words_len_le (Nat.lt_of_le_of_lt h (by decide))
theorem rsize_fa (n:Int) (h0: -9223372036854775808≤n) (h1:n≤9223372036854775807):Fa Tryz.prog 228 [.c (.int .i64 n)] (.c (ws true (words n.natAbs))):=by
 refine fa_of_body Tryz.func228 rfl rfl (by simp [Tryz.ntmps228]) fun C hC=> ?_
 simp only [initS,Nat.reduceAdd]
 refine xG ?_
 refine xF (fun hb=>?_) fun hb=>?_
 ·have hn:n= -9223372036854775808:=eq_of_beq hb
  refine xG ?_
  refine aw_buildSlice (xs:=[.const (.int .u32 0),.const (.int .u32 2147483648)]) (cells:=[.int .u32 0,.int .u32 2147483648]) rfl rfl rfl ty_e_ws (by rw [envP,ty_z_u32];rfl) rfl om om (by intro x hx;simp only [List.mem_cons,List.not_mem_nil,or_false] at hx;rcases hx with rfl|rfl<;>exact⟨rfl,rfl,rfl⟩) rfl fun g hg=> ?_
  refine xSGT hC ?_
  subst hn
  rw [show((-9223372036854775808:Int).natAbs)=9223372036854775808 from rfl,words_min]
  exact .one (.c (ler_oslws eE (by simp) rfl (fun j hj=>by match j,hj with|0,_=>rfl|1,_=>rfl)))
 ·have hn:n≠ -9223372036854775808:=fun e=>by rw [e] at hb;cases hb
  refine xG ?_
  rw [int_neg om h1]
  have hm:(if-n>n then-n else n)=(n.natAbs:Int):=by split<;>omega
  rw [hm]
  refine xC (of_fa (n.natAbs:Int) ?_ ?_) ?_
  ·omega
  ·omega
  refine xGT hC ?_
  exact .one (.c ler_ws)
theorem sq_int (n:Int):sq (decide (n<0)) n.natAbs 1=(n:Rat):=by
 unfold sq sgn
 rw [Rat.mkRat_one]
 congr 1
 split
 ·rename_i h;simp only [decide_eq_true_eq] at h;omega
 ·rename_i h;simp only [decide_eq_true_eq] at h;omega
theorem rof_fa (n:Int) (h0: -9223372036854775808≤n) (h1:n≤9223372036854775807):Fa Tryz.prog 123 [.c (.int .i64 n)] (.agg (rdc (rd (n:Rat)))):=by
 have hl:=words_small (n:=n.natAbs) om
 refine fa_of_body Tryz.func123 rfl rfl (by simp [Tryz.ntmps123]) fun C hC=> ?_
 simp only [initS,Nat.reduceAdd]
 refine xG ?_
 refine xA fun g2 hn_g2=>?_
 refine yG hn_g2 ?_
 refine yC hn_g2 (rsize_fa n h0 h1) ?_
 refine yG hn_g2 ?_
 refine yC hn_g2 (one_fa) ?_
 refine yG hn_g2 ?_
 rw [show([1]:List Nat)=words 1 from words_one.symm]
 refine yC hn_g2 (rform_fa _ n.natAbs 1 ?_ ?_ ?_) ?_
 ·omega
 ·rw [words_one];simp
 ·omega
 refine yG hn_g2 ?_
 refine yW hn_g2 ?_
 refine ySG hn_g2 ?_
 refine yT hC hn_g2 ?_
 exact ler_rd (by rw [sq_int])
theorem sign_zero {r:RD} {L:Nat} (hw:r.wf L) (h:(((words r.pn).length:Int)==0)=true):0=signQ r.q:=by
 have h1:r.pn=0:=words_eq_nil.1 (List.length_eq_zero_iff.1 (by have:=eq_of_beq h;omega))
 unfold RD.q
 rw [h1,sq_zero];rfl
theorem sign_some {r:RD} {L:Nat} (hw:r.wf L) (h:(((words r.pn).length:Int)==0)=false):signQ r.q=if r.ps then-1 else 1:=by
 have h1:r.pn≠0:=fun e=>by rw [e,words_zero] at h;cases h
 unfold signQ RD.q
 rw [if_neg (sq_ne h1 (RD.pd_ne hw))]
 have:=sq_lt (neg:=r.ps) h1 (RD.pd_ne hw)
 simp only [this]
theorem rsign_fa (r:RD) (hw:r.wf 1073741824):Fa Tryz.prog 124 [.agg (rdc r)] (.c (.int .i64 (signQ r.q))):=by
 refine fa_of_body Tryz.func124 rfl rfl (by simp [Tryz.ntmps124]) fun C hC=> ?_
 simp only [initS,Nat.reduceAdd]
 refine xG ?_
 refine xB fun g1 hn_g1=>?_
 refine yG hn_g1 ?_
 refine yC hn_g1 (rparts_fa r hw) ?_
 refine yG hn_g1 ?_
 refine yF hn_g1 (fun hb=>?_) fun hb=>?_
 ·refine yGT hC hn_g1 ?_
  exact .one (.c (ler_int (sign_zero hw hb)))
 ·refine yG hn_g1 ?_
  refine yF hn_g1 (fun hp=>?_) fun hp=>?_
  ·refine yGT hC hn_g1 ?_
   refine .one (.c (ler_int ?_))
   rw [sign_some hw hb,hp];rfl
  ·refine yGT hC hn_g1 ?_
   refine .one (.c (ler_int ?_))
   rw [sign_some hw hb,hp];rfl
theorem some_ne {g:Nat} {n:Nat}:(some g:Option Nat)=none→n=0:=fun e=>by cases e
def two (u:Nat):List Nat:=[u%4294967296,u/4294967296]
end Go.Proofs.YtpcpaekpnfkhhaaGreatDoor
namespace Go.AI
open Go.PN
def isF (xs:List Int) (j:Nat):CV:=.int .i64 (xs.getD j 0)
@[go_sem] theorem isF_at (xs:List Int) (j:Nat):isF xs j=.int .i64 (xs.getD j 0):=rfl
abbrev is (t:Bool) (xs:List Int):CV:=.row t 1 xs.length (isF xs)
def bsF (xs:List Bool) (j:Nat):CV:=.bool (xs.getD j false)
@[go_sem] theorem bsF_at (xs:List Bool) (j:Nat):bsF xs j=.bool (xs.getD j false):=rfl
abbrev bs (t:Bool) (xs:List Bool):CV:=.row t 1 xs.length (bsF xs)
def rd0:RD:=⟨false,[],[]⟩
def ratsF (ps:List RD):Nat→CV:=lf 3 (fun r:RD=>[CV.bool r.neg,ws true r.num,ws true r.den]) rd0 ps
@[go_sem] theorem ratsF_0 (ps:List RD) (i:Nat):ratsF ps (i*3)=.bool (ps.getD i rd0).neg:=by
  have:=lf_at (s:=3) (c:=fun r:RD=>[CV.bool r.neg,ws true r.num,ws true r.den]) (d:=rd0) (xs:=ps) (i:=i) (k:=0) om
  exact this
@[go_sem] theorem ratsF_1 (ps:List RD) (i:Nat):ratsF ps (i*3+1)=ws true (ps.getD i rd0).num:=by
  have:=lf_at (s:=3) (c:=fun r:RD=>[CV.bool r.neg,ws true r.num,ws true r.den]) (d:=rd0) (xs:=ps) (i:=i) (k:=1) om
  exact this
@[go_sem] theorem ratsF_2 (ps:List RD) (i:Nat):ratsF ps (i*3+2)=ws true (ps.getD i rd0).den:=by
  have:=lf_at (s:=3) (c:=fun r:RD=>[CV.bool r.neg,ws true r.num,ws true r.den]) (d:=rd0) (xs:=ps) (i:=i) (k:=2) om
  exact this
abbrev rats (t:Bool) (ps:List RD):CV:=.row t 3 ps.length (ratsF ps)
structure DN where
 v:Int
 lo:Int
 hi:Int
 deriving DecidableEq
def dn0:DN:=⟨0,0,0⟩
def dnsF (ns:List DN):Nat→CV:=lf 3 (fun r:DN=>[CV.int .i64 r.v,.int .i64 r.lo,.int .i64 r.hi]) dn0 ns
@[go_sem] theorem dnsF_0 (ps:List DN) (i:Nat):dnsF ps (i*3)=.int .i64 (ps.getD i dn0).v:=by
  have:=lf_at (s:=3) (c:=fun r:DN=>[CV.int .i64 r.v,.int .i64 r.lo,.int .i64 r.hi]) (d:=dn0) (xs:=ps) (i:=i) (k:=0) om
  exact this
@[go_sem] theorem dnsF_1 (ps:List DN) (i:Nat):dnsF ps (i*3+1)=.int .i64 (ps.getD i dn0).lo:=by
  have:=lf_at (s:=3) (c:=fun r:DN=>[CV.int .i64 r.v,.int .i64 r.lo,.int .i64 r.hi]) (d:=dn0) (xs:=ps) (i:=i) (k:=1) om
  exact this
@[go_sem] theorem dnsF_2 (ps:List DN) (i:Nat):dnsF ps (i*3+2)=.int .i64 (ps.getD i dn0).hi:=by
  have:=lf_at (s:=3) (c:=fun r:DN=>[CV.int .i64 r.v,.int .i64 r.lo,.int .i64 r.hi]) (d:=dn0) (xs:=ps) (i:=i) (k:=2) om
  exact this
structure DG where
 order:List Int
 nodes:List DN
 root:Int
structure FN where
 kind:Int
 k:Int
 args:List Int
def fn0:FN:=⟨0,0,[]⟩
def fnsF (ns:List FN):Nat→CV:=lf 3 (fun r:FN=>[CV.int .i64 r.kind,.int .i64 r.k,is true r.args]) fn0 ns
@[go_sem] theorem fnsF_0 (ps:List FN) (i:Nat):fnsF ps (i*3)=.int .i64 (ps.getD i fn0).kind:=by
  have:=lf_at (s:=3) (c:=fun r:FN=>[CV.int .i64 r.kind,.int .i64 r.k,is true r.args]) (d:=fn0) (xs:=ps) (i:=i) (k:=0) om
  exact this
@[go_sem] theorem fnsF_1 (ps:List FN) (i:Nat):fnsF ps (i*3+1)=.int .i64 (ps.getD i fn0).k:=by
  have:=lf_at (s:=3) (c:=fun r:FN=>[CV.int .i64 r.kind,.int .i64 r.k,is true r.args]) (d:=fn0) (xs:=ps) (i:=i) (k:=1) om
  exact this
@[go_sem] theorem fnsF_2 (ps:List FN) (i:Nat):fnsF ps (i*3+2)=is true (ps.getD i fn0).args:=by
  have:=lf_at (s:=3) (c:=fun r:FN=>[CV.int .i64 r.kind,.int .i64 r.k,is true r.args]) (d:=fn0) (xs:=ps) (i:=i) (k:=2) om
  exact this
structure FM where
 vars:Int
 nodes:List FN
 top:Int
def errC (T:TypeId) (c:Int):CV:=if c=0 then .nilI else .ifc T (.int .i64 c)
@[go_sem] theorem errC_solid (T:TypeId) (c:Int):(errC T c).solid=true:=by unfold errC;split<;>rfl
theorem binAV_errE {P:Program} {nw:Bool} {t T:TypeId} {y:Operand} {c:Int} (hy:isNil y=true):binAV P nw .eql t y (.c (errC T c)) (.c .nilI)=some (tIfc P t=true,.c (.bool (decide (c=0)))):=by
 unfold errC
 split
 ·rename_i h;simp [binAV,hy,nilAV,h]
 ·rename_i h;simp [binAV,hy,nilAV,h]
theorem binAV_errN {P:Program} {nw:Bool} {t T:TypeId} {y:Operand} {c:Int} (hy:isNil y=true):binAV P nw .neq t y (.c (errC T c)) (.c .nilI)=some (tIfc P t=true,.c (.bool (!decide (c=0)))):=by
 unfold errC
 split
 ·rename_i h;simp [binAV,hy,nilAV,h]
 ·rename_i h;simp [binAV,hy,nilAV,h]
@[go_sem ↓] theorem binAV_errE' (P:Program) (nw:Bool) (t T:TypeId) (c:Int):binAV P nw .eql t (.const .nilIface) (.c (errC T c)) (.c .nilI)=some (tIfc P t=true,.c (.bool (decide (c=0)))):=binAV_errE rfl
@[go_sem ↓] theorem binAV_errN' (P:Program) (nw:Bool) (t T:TypeId) (c:Int):binAV P nw .neq t (.const .nilIface) (.c (errC T c)) (.c .nilI)=some (tIfc P t=true,.c (.bool (!decide (c=0)))):=binAV_errN rfl
theorem ler_err {h:Heap} {T:TypeId} {c:Int}:LeR h (errC T c) (errC T c):=by unfold errC;split;exact .nilI;exact .ifc (.int _ _)
theorem ler_err0 {h:Heap} {T:TypeId} {c:Int} (e:c=0):LeR h .nilI (errC T c):=by unfold errC;rw [if_pos e];exact .nilI
theorem ler_errN {h:Heap} {T:TypeId} {n c:Int} (e:n=c) (h0:c≠0):LeR h (.ifc T (.int .i64 n)) (errC T c):=by unfold errC;rw [if_neg h0,e];exact .ifc (.int _ _)
theorem lf_ler {α:Type} {h:Heap} {s:Nat} {c:α→List CV} {d:α} {xs:List α} (hs:0<s) (hc:∀x∈xs,∀k,k<s→LeR h (ofL (c x) k) (ofL (c x) k)):∀j,j<xs.length*s→LeR h (lf s c d xs j) (lf s c d xs j):=fun j hj=>by
 unfold lf
 have h1:j/s<xs.length:=(Nat.div_lt_iff_lt_mul hs).2 hj
 rw [List.getD_eq_getElem?_getD,List.getElem?_eq_getElem h1]
 exact hc _ (List.getElem_mem h1) _ (Nat.mod_lt _ hs)
theorem ler_rats {h:Heap} {t:Bool} {ps:List RD}:LeR h (rats true ps) (rats t ps):=
 .row (lf_ler om fun x _ k hk=>by match k,hk with|0,_=>exact .bool _|1,_=>exact ler_ws|2,_=>exact ler_ws)
end Go.AI
namespace Go.Proofs.YtpcpaekpnfkhhaaGreatDoor
open Go.AI Go.PN
attribute [local irreducible] aw Fa Fh DrK
abbrev errA (c:Int):CV:=errC 69 c
theorem num_fa (c:Int):Fa Tryz.prog 12 [.c (errA c)] (.c (.int .i64 c)):=by
 by_cases h:c=0
 ·have e:errA c=.nilI:=by unfold errA errC;rw [if_pos h]
  rw [e]
  refine fa_of_body Tryz.func12 rfl rfl (by simp [Tryz.ntmps12]) fun C hC=> ?_
  simp only [initS,Nat.reduceAdd]
  refine xGPG ?_
  refine xT hC ?_
  exact .one (.c (ler_int h.symm))
 ·have e:errA c=.ifc 69 (.int .i64 c):=by unfold errA errC;rw [if_neg h]
  rw [e]
  refine fa_of_body Tryz.func12 rfl rfl (by simp [Tryz.ntmps12]) fun C hC=> ?_
  simp only [initS,Nat.reduceAdd]
  refine xG ?_
  refine xN ?_
  refine xGPG ?_
  refine xT hC ?_
  exact .one (.c (.int _ _))
theorem list_ext {xs ys:List Nat} (hl:xs.length=ys.length) (h:∀j,j<xs.length→xs.getD j 0=ys.getD j 0):xs=ys:=by
 apply List.ext_getElem hl
 intro i h1 h2
 have:=h i h1
 rw [List.getD_eq_getElem?_getD,List.getD_eq_getElem?_getD,List.getElem?_eq_getElem h1,List.getElem?_eq_getElem h2] at this
 exact this
theorem words_fa (xs ys:List Nat) (hl:xs.length≤68719476736):Fa Tryz.prog 107 [.c (ws false xs),.c (ws false ys)] (.c (.bool (decide (xs=ys)))):=by
 refine fa_of_body Tryz.func107 rfl rfl (by simp [Tryz.ntmps107]) fun C hC=> ?_
 simp only [initS,Nat.reduceAdd]
 refine xG ?_
 refine xF (fun hb=>?_) fun hb=>?_
 ·refine xGT hC ?_
  refine .one (.c (ler_bool ?_))
  have:xs≠ys:=fun e=>by rw [e] at hb;simp at hb
  simp [this]
 ·have hlen:xs.length=ys.length:=by
   have h0:=hb
   simp at h0
   omega
  refine xG ?_
  refine aw_lp (fun i:Nat=>[(0,.c (ws false xs)),(1,.c (ws false ys)),(12,.c (.int .i64 xs.length)),(13,.c (.int .i64 i))]) (fun _=>[]) (fun i=>i≤xs.length∧∀j,j<i→xs.getD j 0=ys.getD j 0) (fun i=>xs.length-i) 0 eB zZ ⟨Nat.zero_le _,fun j hj=>by omega⟩ ?_
  rintro i ⟨hi,hs⟩
  refine xG ?_
  refine xF (fun hb=>?_) fun hb=>?_
  ·have hin:i<xs.length:=dT hb
   refine xG ?_
   refine aw_dr 9 ty_mixed (by kernel_rfl) ?_
   refine xG ?_
   refine xF (fun hc=>?_) fun hc=>?_
   ·refine xGT hC ?_
    refine .one (.c (ler_bool ?_))
    have:xs≠ys:=fun e=>by rw [e] at hc;simp at hc
    simp [this]
   ·have he:xs.getD i 0=ys.getD i 0:=by
     by_cases e:xs.getD i 0=ys.getD i 0
     ·exact e
     ·exfalso
      have e2:((xs.getD i 0:Nat):Int)≠((ys.getD i 0:Nat):Int):=fun z=>e (Int.ofNat.inj z)
      first
       |(rw [bne,beq_eq_false_iff_ne.2 e2] at hc;cases hc)
       |(rw [bne,beq_eq_false_iff_ne.2 e] at hc;cases hc)
    refine xG ?_
    refine aw_stop ⟨i+1,by omega,eB,zZ,by omega,fun j hj=> ?_⟩
    by_cases hji:j=i
    ·rw [hji];exact he
    ·exact hs j om
  ·have hin:i=xs.length:=dF hb
   subst hin
   refine xGT hC ?_
   refine .one (.c (ler_bool ?_))
   have:xs=ys:=list_ext hlen hs
   simp [this]
instance:DecidableEq RD:=fun a b=>decidable_of_iff (a.neg=b.neg∧a.num=b.num∧a.den=b.den) (by cases a;cases b;simp)
theorem ratEq_fa (a b:RD) (hw:a.wf 68719476736):Fa Tryz.prog 60 [.agg (rdc a),.agg (rdc b)] (.c (.bool (decide (a=b)))):=by
 have he:decide (a=b)=(decide (a.neg=b.neg)&&(decide (a.num=b.num)&&decide (a.den=b.den))):=by
  rw [Bool.eq_iff_iff]
  simp only [decide_eq_true_eq,Bool.and_eq_true]
  cases a;cases b;simp
 rw [he]
 refine fa_of_body Tryz.func60 rfl rfl (by simp [Tryz.ntmps60]) fun C hC=> ?_
 simp only [initS,Nat.reduceAdd]
 refine xG ?_
 refine xB fun g2 hn_g2=>?_
 refine yB hn_g2 fun g3 hn_g3=>?_
 have J1:=oj hn_g2 hn_g3
 refine yG J1 ?_
 refine aw_split 10 (zE J1) (fun h1=> ?_) (fun h1=> ?_)<;>refine yS J1 ?_
 ·have h1':a.neg=b.neg:=eq_of_beq h1
  refine yG J1 ?_
  refine yC J1 (words_fa _ _ hw.2.2.1) ?_
  refine yG J1 ?_
  refine aw_split 17 (zE J1) (fun h2=> ?_) (fun h2=> ?_)<;>refine yS J1 ?_
  ·refine yG J1 ?_
   refine yC J1 (words_fa _ _ hw.2.2.2) ?_
   refine yGT hC J1 ?_
   exact .one (.c (ler_bool (by rw [h2,h1'];simp)))
  ·refine yGT hC J1 ?_
   exact .one (.c (ler_bool (by rw [h2];simp)))
 ·have h1':a.neg≠b.neg:=fun e=>by rw [e] at h1;simp at h1
  refine yGT hC J1 ?_
  exact .one (.c (ler_bool (by simp [h1'])))
end Go.Proofs.YtpcpaekpnfkhhaaGreatDoor
namespace Go.AI
open Go.PN
def AllB (w:World):Bool→Nat→Prop:=fun _ b=>b<w.heap.size
theorem Fa.below {P:Program} {f:FuncId} {args:List AV} {b:Bool} (hf:Fa P f args (.c (.bool b))) {w:World} {vs:List Value} (hr:RepT (AllB w) w args vs):
  Calls P f vs.toArray w fun e w'=>e=.returned (.bool b)∧RowKit.Below w.heap.size w w':=by
 refine(hf.2 (AllB w) w vs (fun _ h=>h) (fun _ _ h=>h) hr).mono ?_
 rintro e w' ⟨v,rfl,hv,hfr⟩
 have hv':v=.bool b:=hv
 subst hv'
 exact⟨rfl,hfr.os,hfr.tape,hfr.output,hfr.size,fun k hk=>hfr.block k hk (fun x=>x)⟩
end Go.AI
namespace Go.Proofs.YtpcpaekpnfkhhaaGreatDoor
open Go.AI Go.PN Go.ChangeShapes
section
variable {P : Program}
def Rdr (P:Program) (t:TypeId) {α:Type} (c:α→List CV) (B:α→Nat→Prop):Prop:=
 ∀(H:Type) (enc:TypeId×Value→H) (w:World) (fuel:Nat) (cs:List Value) (x:DataW H×List MemPlace),DataW.trod enc P w 0 (fun _=>true) true fuel t cs=some x→∃y,RepL (AllB w) w (c y) cs∧B y (Rows.uptoBulk x.1)
theorem rdr_int {t:TypeId} {k:IntKind} (ht:P.underlying t=some (.int k)):Rdr P t (fun n:Int=>[.int k n]) (fun n _=>(Lit.int k n).wf=true):=fun H enc w fuel cs x h=>by
 obtain⟨n,rfl,rfl,hw⟩:=DataW.trod_int ht h
 exact⟨n,⟨rfl,trivial⟩,hw⟩
theorem rdr_u32w {t:TypeId} (ht:P.underlying t=some (.int .u32)):Rdr P t (fun n:Nat=>[.int .u32 n]) (fun n _=>n<4294967296):=fun H enc w fuel cs x h=>by
 obtain⟨n,rfl,rfl,hw⟩:=DataW.trod_int ht h
 have hb:0≤n∧n≤4294967295:=by simpa [Lit.wf,IntKind.min,IntKind.max,IntKind.signed,IntKind.bits] using hw
 refine⟨n.toNat,⟨?_,trivial⟩,by omega⟩
 show Value.int .u32 n=Value.int .u32 ((n.toNat:Nat):Int)
 rw [show((n.toNat:Nat):Int)=n from by omega]
theorem rdr_bool {t:TypeId} (ht:P.underlying t=some .bool):Rdr P t (fun b:Bool=>[.bool b]) (fun _ _=>True):=fun H enc w fuel cs x h=>by
 obtain⟨n,rfl,rfl⟩:=DataW.trod_bool ht h
 exact⟨n,⟨rfl,trivial⟩,trivial⟩
theorem bulk_mem {H:Type} {d:DataW H}:∀{l:List (DataW H)},d∈l→Rows.uptoBulk d≤Rows.uptoBulkAll l
 |x::r,h=>by
  simp only [Rows.uptoBulkAll]
  cases List.mem_cons.1 h with
  |inl e=>subst e;omega
  |inr e=>have:=bulk_mem e;omega
theorem bulk_one {H:Type} (d:DataW H):1≤Rows.uptoBulk d:=by
 cases d with
 |lit l=>cases l<;>simp [Rows.uptoBulk]
 |nil=>simp [Rows.uptoBulk]
 |ptr d=>simp [Rows.uptoBulk]
 |slice elems spare=>simp [Rows.uptoBulk]
 |agg parts=>simp [Rows.uptoBulk]
 |iface t d=>simp [Rows.uptoBulk]
 |map entries=>simp [Rows.uptoBulk]
 |held h=>simp [Rows.uptoBulk]
theorem bulk_len {H:Type}:∀(l:List (DataW H)),l.length≤Rows.uptoBulkAll l
 |[]=>by simp [Rows.uptoBulkAll]
 |x::r=>by have:=bulk_one x;have:=bulk_len r;simp only [Rows.uptoBulkAll,List.length_cons];omega
theorem rdr_slice {t e:TypeId} {α:Type} {c:α→List CV} {B:α→Nat→Prop} {s:Nat} (z:α) (tg:Bool) (ht:P.underlying t=some (.slice e)) (hs:P.cellsOf e=s) (hs0:0<s) (hB:∀y m n,B y m→m≤n→B y n) (hr:Rdr P e c B):
  Rdr P t (fun ys:List α=>[CV.row tg s ys.length (lf s c z ys)]) (fun ys n=>ys.length≤n∧∀y∈ys,B y n):=fun H enc w fuel cs x h=>by
 rcases DataW.trod_slice ht h with ⟨rfl,rfl⟩|⟨a,len,cap,elems,rest,n,rfl,rfl,rfl,_,hlc,_,hlen,hel,_,_⟩
 ·exact⟨[],⟨⟨none,0,rfl,Nat.le_refl _,fun h0=>by simp at h0⟩,trivial⟩,by simp,by simp⟩
 ·have key:∀i,∃y:α,i<len→∃d∈elems.map (·.1),B y (Rows.uptoBulk d)∧∀k,k<s→∃u,w.cell? (a.add (i*s+k))=some u∧RepC (AllB w) w (ofL (c y) k) u:=by
   intro i
   by_cases hi:i<len
   ·have h1:=hel i hi
    have h2:i<elems.length:=by omega
    rw [List.getElem?_eq_getElem h2,hs] at h1
    obtain⟨us,hus,htr⟩:=Option.bind_eq_some_iff.1 h1
    obtain⟨y,hy,hb⟩:=hr H enc w n us _ htr
    obtain⟨_,hul,hue⟩:=World.cells?_some hus
    refine⟨y,fun _=>⟨_,List.mem_map.2 ⟨_,List.getElem_mem h2,rfl⟩,hb,fun k hk=> ?_⟩⟩
    have hlen2:=hy.length
    obtain⟨u,hu,hru⟩:=hy.get k ((c y)[k]'om) (List.getElem?_eq_getElem om)
    refine⟨u,?_,by rw [ofL_get (c y) k _ (List.getElem?_eq_getElem om)];exact hru⟩
    rw [←add_add]
    exact(hue k hk).trans hu
   ·exact⟨z,fun h=>absurd h hi⟩
  obtain⟨g,hg⟩:∃g:Nat→α,∀i,i<len→∃d∈elems.map (·.1),B (g i) (Rows.uptoBulk d)∧∀k,k<s→∃u,w.cell? (a.add (i*s+k))=some u∧RepC (AllB w) w (ofL (c (g i)) k) u:=⟨fun i=>Classical.choose (key i),fun i=>Classical.choose_spec (key i)⟩
  have hbl:∀d∈elems.map (·.1),Rows.uptoBulk d≤Rows.uptoBulk (.slice (elems.map (·.1)) (rest.map (·.1))):=fun d hd=>by
   have:=bulk_mem hd
   simp only [Rows.uptoBulk];omega
  refine⟨(List.range len).map g,⟨⟨some a,cap,by simp,by simpa using hlc,fun h0=>⟨a,rfl,?_,fun j hj=> ?_⟩⟩,trivial⟩,?_,fun y hy=> ?_⟩
  ·simp only [List.length_map,List.length_range] at h0
   have hl0:0<len:=Nat.pos_of_ne_zero (fun e=>by subst e;simp at h0)
   obtain⟨_,_,_,hk⟩:=hg 0 hl0
   obtain⟨u,hu,_⟩:=hk 0 hs0
   have hb:=AI.block_add a (0*s+0)
   unfold World.cell? at hu
   rw [hb] at hu
   show a.block<w.heap.size
   by_cases hlt:a.block<w.heap.size
   ·exact hlt
   ·rw [Array.getElem?_eq_none om] at hu
    cases hu
  ·simp only [List.length_map,List.length_range] at hj
   have hi:j/s<len:=(Nat.div_lt_iff_lt_mul hs0).2 hj
   obtain⟨_,_,_,hk⟩:=hg (j/s) hi
   obtain⟨u,hu,hru⟩:=hk (j%s) (Nat.mod_lt _ hs0)
   refine⟨u,?_,?_⟩
   ·rw [Nat.mul_comm,Nat.div_add_mod] at hu;exact hu
   ·unfold lf
    rw [List.getD_eq_getElem?_getD]
    simpa [hi] using hru
  ·rw [List.length_map,List.length_range]
   have:=bulk_len (elems.map (·.1))
   simp only [Rows.uptoBulk]
   rw [List.length_map] at this
   omega
  ·obtain⟨i,hi,rfl⟩:=List.mem_map.1 hy
   obtain⟨d,hd,hb,_⟩:=hg i (List.mem_range.1 hi)
   exact hB _ _ _ hb (hbl d hd)
theorem Rdr.to {t:TypeId} {α β:Type} {c:α→List CV} {c':β→List CV} {B:α→Nat→Prop} {B':β→Nat→Prop} (hr:Rdr P t c B) (f:α→β) (hc:∀y,c' (f y)=c y) (hB:∀y n,B y n→B' (f y) n):Rdr P t c' B':=fun H enc w fuel cs x h=>by
 obtain⟨y,h1,h2⟩:=hr H enc w fuel cs x h
 exact⟨f y,by rw [hc];exact h1,hB _ _ h2⟩
end
end Go.Proofs.YtpcpaekpnfkhhaaGreatDoor
namespace Go.Proofs.YtpcpaekpnfkhhaaGreatDoor
open Go.AI Go.PN Go.ChangeShapes Go.WideShapes Go.RowKit
theorem glue_laid:laidOutB Tryz.prog=true:=by kernel_rfl
theorem own:ownKnob Tryz.prog.godebug=none:=by kernel_rfl
section
variable {H : Type} {enc : TypeId × Value → H} {P : Program}
theorem trodAll_stays (hl:laidOutB P=true) {W W':World} {sp:Nat→Bool}:∀{ts:List TypeId} {vs:List Value} {ds:List (DataW H)} {p:List MemPlace},(∀t∈ts,P.readableRec t=true∧t<P.types.size)→DataW.TrodAll enc P W 0 (fun _=>true) true ts vs ds p→(∀x∈p,W.sameAt W' x)→(∀x∈p,sp x.block=true)→DataW.TrodAll enc P W' 0 sp true ts vs ds p
 |[],_,_,_,_,h,_,_=>by
  obtain⟨rfl,rfl,rfl⟩:=trodAll_nil h
  exact rfl
 |t::ts,_,_,_,hts,h,hs,hp=>by
  obtain⟨v,vs,d,ds,a,b,rfl,rfl,rfl,h1,h2⟩:=trodAll_cons h
  exact⟨a,b,WideElems.Trod_stays hl (hts t (List.mem_cons_self ..)).1 (hts t (List.mem_cons_self ..)).2 h1 (fun x hx=>hs x (List.mem_append_left _ hx)) (fun x hx=>hp x (List.mem_append_left _ hx)),
   trodAll_stays hl (fun t' ht=>hts t' (List.mem_cons_of_mem _ ht)) h2 (fun x hx=>hs x (List.mem_append_right _ hx)) (fun x hx=>hp x (List.mem_append_right _ hx)),rfl⟩
theorem post_of_below {fn:Func} {s:ChangeSpec} {W W':World} {args:Array Value} {ds gs:List (DataW H)} {before:List MemPlace} {tb:TypeId} (hl:laidOutB P=true) (hts:∀t∈fn.params.toList,P.readableRec t=true∧t<P.types.size) (hrt:fn.resultTypes= #[tb]) (hbt:P.underlying tb=some .bool) (hvars:s.vars=[])
  (hW:DataW.Whole enc P fn.params.toList s.vars false W args.toList ds gs before) (hfn:∀gs':List (DataW H),gs'=[]→s.fn H (ds++gs')={results:=[.lit (.bool true)],args:=ds}) (hb:Below W.heap.size W W'):s.post enc P fn false true false false W args (.bool true) W':=by
 have hWk:=hW
 obtain⟨p,q,hA,hV,rfl,hfz,_⟩:=hW
 rw [hvars] at hV
 obtain⟨rfl,rfl⟩:=trodVars_none hV
 have hlt:∀x∈p++[],x.block<W.heap.size:=fun x hx=>by simpa using hWk.lt x hx
 have hlt':∀x∈p,x.block<W.heap.size:=fun x hx=>hlt x (List.mem_append_left _ hx)
 have hres:∀(b:Nat) (sp:Nat→Bool) (hd:Bool),DataW.TrodAll enc P W' b sp hd fn.resultTypes.toList ((Value.bool true).resultList fn.resultTypes.size) (s.fn H (ds++[])).results []:=fun b sp hd=>by
  rw [hrt,hfn [] rfl]
  exact trodAll_cons_mk (shut_bool hbt _) trodAll_mk0
 have hargs:∀sp:Nat→Bool,(∀x∈p,sp x.block=true)→DataW.TrodAll enc P W' 0 sp true fn.params.toList args.toList (s.fn H (ds++[])).args p:=fun sp hsp=>by
  rw [hfn [] rfl]
  exact trodAll_stays hl hts hA (fun x hx=>hb.same (hlt' x hx)) hsp
 have hvr:∀sp:Nat→Bool,DataW.TrodVars enc P W' sp s.vars (s.fn H (ds++[])).vars []:=fun sp=>by
  rw [hvars,hfn [] rfl];exact rfl
 refine⟨ds,[],p++[],[],p,[],hWk,hres _ _ _,hargs _ (fun x hx=>by simpa using hlt' x hx),hvr _,hb.frame _,fun _=> ?_⟩
 refine⟨ok_one hrt rfl (okWide_bool_mk hbt _),_,_,([]++p)++[],⟨[]++p,[],trodAll_append (hargs _ (fun _ _=>rfl)) (hres _ _ _),hvr _,rfl,?_,fun h=>by cases h⟩,?_⟩
 ·intro b off hp
  have hp':MemPlace.cell b off∈p++[]:=by simpa using hp
  rw [Below.frozen hb (hlt _ hp')]
  exact hfz b off hp'
 ·intro x hx _
  simpa using hx
theorem arg_agg {α:Type} {c:α→List CV} {B:α→Nat→Prop} {t:TypeId} {fs:Array Field} (hr:Rdr P t c B) (ht:P.underlying t=some (.struct fs)) {W:World} {base:Nat} {v:Value} {d:DataW H} {p:List MemPlace} (ho:Value.okWide P W .any base t v) (h:DataW.Trod enc P W 0 (fun _=>true) true t v d p):
  ∃y,Rep0 (AllB W) W (.agg (c y)) v∧B y (Rows.uptoBulk d):=by
 obtain⟨cs,rfl,_⟩:=okWide_struct ht ho
 obtain⟨fuel,hf⟩:=h
 obtain⟨y,h1,h2⟩:=hr H enc W fuel _ _ hf
 exact⟨y,⟨cs.toList,by simp,h1⟩,h2⟩
end
theorem rdr_str {P:Program} {t:TypeId} (ht:P.underlying t=some .string):Rdr P t (fun l:BS=>[.str (sB l)]) (fun l n=>l.length+1≤n):=fun H enc w fuel cs x h=>by
 obtain⟨s,rfl,rfl,_⟩:=DataW.trod_string ht h
 exact⟨s.data.toList,⟨rfl,trivial⟩,Nat.le_refl _⟩
end Go.Proofs.YtpcpaekpnfkhhaaGreatDoor
