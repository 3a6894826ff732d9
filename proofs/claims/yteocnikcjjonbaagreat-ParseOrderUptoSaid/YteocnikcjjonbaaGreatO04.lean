/- Parts of one proof, laid by a program. -/
import Derived.Test.YteocnikcjjonbaaGreatO00
import Derived.Test.YteocnikcjjonbaaGreatO03
import Derived.Test.YteocnikcjjonbaaGreatProg
import Derived.KernelRfl
set_option linter.unusedSimpArgs false
set_option linter.unusedVariables false
set_option maxRecDepth 100000
set_option maxHeartbeats 12800000
namespace Go.Proofs.YteocnikcjjonbaaGreat
open Go.AI Go.PN
attribute [local irreducible] aw Fa Fh DrK
theorem take_fh (g off L n:Nat) (ys us vs:List Nat) (hus:us=(ys.drop off).take L) (hL:off+L≤ys.length) (hy:∀x∈ys,x<4294967296) (hv:∀x∈vs,x<4294967296) (hly:ys.length≤68719476738) (hn:n<4294967296) (hvl:vs.length<L):
  Fh Tryz.prog 200 [(g,.cells 166 ys.length (wf ys))] [.c (.osl g 1 off L),.c (ws false vs),.c (.int .u64 n)]
   (fun r h=>∃(b:Nat) (zs:List Nat),r=.c (.bool ((b:Int)==1))∧h=[(g,.cells 166 ys.length (wf (win ys off zs)))]∧zs.length=L∧(∀y∈zs,y<4294967296)∧b≤1∧val zs+n*val vs=val us+4294967296^L*b):=by
 refine fh_of_body Tryz.func200 rfl rfl (by simp [Tryz.ntmps200]) fun C hC=> ?_
 have hu:∀x∈us,x<4294967296:=fun x hx=>hy x (List.mem_of_mem_drop (List.mem_of_mem_take (hus▸hx)))
 have hul:us.length=L:=by rw [hus];simp;omega
 have hself:win ys off us=ys:=by rw [hus];exact win_self hL
 simp only [initS,Nat.reduceAdd]
 refine xG ?_
 refine aw_lp (fun x:Nat×Nat×Nat×List Nat=>[(0,.c (.osl g 1 off L)),(1,.c (ws false vs)),(2,.c (.int .u64 n)),(7,.c (.int .u64 x.2.1)),(8,.c (.int .u64 x.2.2.1)),(12,.c (.int .i64 L)),(13,.c (.int .i64 x.1))]) (fun x=>[(g,.cells 166 ys.length (wf (win ys off x.2.2.2)))])
  (fun x=>x.1≤L∧x.2.1<4294967296∧x.2.2.1≤1∧x.2.2.2.length=L∧(∀y∈x.2.2.2,y<4294967296)∧(∀j,x.1≤j→x.2.2.2.getD j 0=us.getD j 0)∧(vs.length<x.1→x.2.1=0)∧val (x.2.2.2.take x.1)+n*val (vs.take x.1)=val (us.take x.1)+4294967296^x.1*(x.2.1+x.2.2.1)) (fun x=>L-x.1) (0,0,0,us) eB (by rw [hself];exact zZ)
  ⟨Nat.zero_le _,by simp,Nat.zero_le _,hul,hu,fun _ _=>rfl,fun _=>rfl,by simp [val]⟩ ?_
 rintro ⟨i,c,b,zs⟩ ⟨hi,hc,hbb,hzl,hz,hsame,hc0,hval⟩
 dsimp only at hi hc hbb hzl hz hsame hc0 hval⊢
 refine xG ?_
 refine aw_cond eE (fun hb=> ?_) (fun hb=> ?_)
 ·have hin:i<L:=dT hb
  have hui:=getD_lt hu i
  have hvi:=getD_lt hv i
  have hwi:(win ys off zs).getD (off+i) 0=us.getD i 0:=by rw [win_getD om om,hsame i (Nat.le_refl _)]
  obtain⟨hcl,hcq⟩:=take_carry hc hn hvi
  refine xG ?_
  refine aw_callq (word_fa vs i hv) rfl rfl rfl eL ?_
  refine xSG ?_
  obtain⟨st1,st2⟩:=take_step (zs:=zs) (n:=n) (vs:=vs) om hui hbb hval
  have hT:(c:Int)+(n:Int)*((vs.getD i 0:Nat):Int)=((c+n*vs.getD i 0:Nat):Int):=by rw [Int.natCast_add,Int.natCast_mul]
  have hc2:vs.length<i+1→(c+n*vs.getD i 0)/4294967296=0:=fun hlt=>by rw [getD_ge om];omega
  rw [hwi,hT]
  generalize c+n*vs.getD i 0=T at hcl hcq st1 st2 hc2⊢
  have hTm:T%4294967296<4294967296:=Nat.mod_lt _ om
  rw [wrap_u32_nat]
  refine xO ?_
  (refine aw_2q false rfl (fun R hR=> ?_);simp only [go_sem];(with_reducible refine hR _ _ ?_ ?_);(focus (((try simp only [inRange])<;>and_intros<;>first|exact True.intro|omega|trivial);done));clear hR R)
  refine xO ?_
  (refine aw_2q false rfl (fun R hR=> ?_);simp only [go_sem];(with_reducible refine hR _ _ ?_ ?_);(focus (((try simp only [inRange])<;>and_intros<;>first|exact True.intro|omega|trivial);done));clear hR R)
  rw [wrap_subD hui hTm hbb]
  generalize subD (us.getD i 0) (T%4294967296) b=D at st1 st2⊢
  obtain⟨v,b2,e1,e2,hvl,st⟩:∃v b2:Nat,wrapZ .u32 (D:Int)=(v:Int)∧shrZ .u64 (D:Int) 63=(b2:Int)∧v<4294967296∧(val ((zs.set i v).take (i+1))+n*val (vs.take (i+1))=val (us.take (i+1))+4294967296^(i+1)*(T/4294967296+b2)∧b2≤1):=
   ⟨_,_,wrap_u32_nat D,shr63_nat D,Nat.mod_lt _ om,st1,st2⟩
  clear st1 st2
  refine xG ?_
  rw [e1]
  refine xW ?_
  refine xS ?_
  rw [updF_wf (by rw [win_length om];omega),win_set om om]
  refine xG ?_
  rw [e2,nat_div_32]
  refine aw_stop ⟨(i+1,T/4294967296,b2,zs.set i v),by dsimp only;omega,eB,zZ,by dsimp only;omega,hcq,st.2,by simpa using hzl,set_lt hz hvl,fun j hj=> ?_,hc2,st.1⟩
  dsimp only at hj⊢
  rw [PN.getD_set_ne om];exact hsame j om
 ·have hin:i=L:=dF hb
  subst hin
  refine xG ?_
  refine xU ?_
  rw [hc0 hvl,List.take_of_length_le (show zs.length≤i from by omega),List.take_of_length_le (show vs.length≤i from by omega),List.take_of_length_le (show us.length≤i from by omega),Nat.zero_add] at hval
  exact⟨b,zs,rfl,rfl,hzl,hz,hbb,hval⟩
theorem give_fh (g off L:Nat) (ys us vs:List Nat) (hus:us=(ys.drop off).take L) (hL:off+L≤ys.length) (hy:∀x∈ys,x<4294967296) (hv:∀x∈vs,x<4294967296) (hly:ys.length≤68719476738) (hvl:vs.length<L):
  Fh Tryz.prog 201 [(g,.cells 166 ys.length (wf ys))] [.c (.osl g 1 off L),.c (ws false vs)]
   (fun r h=>∃(c:Nat) (zs:List Nat),r=.tup []∧h=[(g,.cells 166 ys.length (wf (win ys off zs)))]∧zs.length=L∧(∀y∈zs,y<4294967296)∧val zs+4294967296^L*c=val us+val vs):=by
 refine fh_of_body Tryz.func201 rfl rfl (by simp [Tryz.ntmps201]) fun C hC=> ?_
 have hu:∀x∈us,x<4294967296:=fun x hx=>hy x (List.mem_of_mem_drop (List.mem_of_mem_take (hus▸hx)))
 have hul:us.length=L:=by rw [hus];simp;omega
 have hself:win ys off us=ys:=by rw [hus];exact win_self hL
 simp only [initS,Nat.reduceAdd]
 refine xG ?_
 refine aw_lp (fun x:Nat×Nat×List Nat=>[(0,.c (.osl g 1 off L)),(1,.c (ws false vs)),(4,.c (.int .u64 x.2.1)),(7,.c (.int .i64 L)),(8,.c (.int .i64 x.1))]) (fun x=>[(g,.cells 166 ys.length (wf (win ys off x.2.2)))])
  (fun x=>x.1≤L∧x.2.1≤1∧x.2.2.length=L∧(∀y∈x.2.2,y<4294967296)∧(∀j,x.1≤j→x.2.2.getD j 0=us.getD j 0)∧val (x.2.2.take x.1)+4294967296^x.1*x.2.1=val (us.take x.1)+val (vs.take x.1)) (fun x=>L-x.1) (0,0,us) eB (by rw [hself];exact zZ)
  ⟨Nat.zero_le _,Nat.zero_le _,hul,hu,fun _ _=>rfl,by simp [val]⟩ ?_
 rintro ⟨i,c,zs⟩ ⟨hi,hc,hzl,hz,hsame,hval⟩
 dsimp only at hi hc hzl hz hsame hval⊢
 refine xG ?_
 refine aw_cond eE (fun hb=> ?_) (fun hb=> ?_)
 ·have hin:i<L:=dT hb
  have hui:=getD_lt hu i
  have hvi:=getD_lt hv i
  have hwi:(win ys off zs).getD (off+i) 0=us.getD i 0:=by rw [win_getD om om,hsame i (Nat.le_refl _)]
  refine xG ?_
  refine aw_dr 12 ty_mixed (by kernel_rfl) ?_
  refine xO ?_
  refine xO ?_
  refine xO ?_
  refine xO ?_
  refine xO ?_
  rw [hwi]
  refine xG ?_
  refine drk_call (word_fa vs i hv) rfl rfl rfl eL ?_
  refine xSG ?_
  have ew:wrapZ .u32 ((c:Int)+(((us.getD i 0:Nat):Int)+((vs.getD i 0:Nat):Int)))=(((c+(us.getD i 0+vs.getD i 0))%4294967296:Nat):Int):=by rw [wrapZ_eq,IntKind.wrap_u32];omega
  rw [ew]
  refine xW ?_
  refine xS ?_
  rw [updF_wf (by rw [win_length om];omega),win_set om om]
  refine xG ?_
  refine aw_stop ⟨(i+1,(c+(us.getD i 0+vs.getD i 0))/4294967296,zs.set i ((c+(us.getD i 0+vs.getD i 0))%4294967296)),by dsimp only;omega,eB,zZ,by dsimp only;omega,by dsimp only;omega,by simpa using hzl,set_lt hz om,fun j hj=> ?_,add_step om hval⟩
  dsimp only at hj⊢
  rw [PN.getD_set_ne om];exact hsame j om
 ·have hin:i=L:=dF hb
  subst hin
  refine xG ?_
  refine xV ?_
  rw [List.take_of_length_le (show zs.length≤i from by omega),List.take_of_length_le (show vs.length≤i from by omega),List.take_of_length_le (show us.length≤i from by omega)] at hval
  exact⟨c,zs,rfl,rfl,hzl,hz,hval⟩
end Go.Proofs.YteocnikcjjonbaaGreat
namespace Go.AI
def bitlen (n:Nat):Nat:=if n=0 then 0 else Nat.log2 n+1
theorem POk.indexStr {P:Program} {h:Heap} {ρ:Operand→AV} {t:TypeId} {x ix:Operand} {s:ByteArray} {k:IntKind} {i:Nat} {b:UInt8} (ht:P.underlying t=some .string) (hx:ρ x=.c (.str s)) (hi:ρ ix=.c (.int k (i:Int))) (hb:s[i]?=some b):
  POk P h ρ (.index t x ix) (.c (.int .u8 (b.toNat:Nat))):=fun S w e _ ho _=>by
 have h1:e x=.string s:=by have:=ho x (by simp [Op.operands]);rw [hx] at this;exact this
 have h2:e ix=.int k i:=by have:=ho ix (by simp [Op.operands]);rw [hi] at this;exact this
 refine⟨.int .u8 (b.toNat:Nat),fun o hop=> ?_,rfl⟩
 simp [execOp,hop,h1,h2,Instr.index,asIntOf,run_underlying ht,hb]
theorem aw_idx {E:Env} {K:List It} {σ:Sl} {h:Heap} {all rest:List Oper} {o:Oper} {t:TypeId} {x ix:Operand} {s:ByteArray} {k:IntKind} {i:Nat} (hop:o.op=.index t x ix) (hw:wantA all σ o=some true) (hd:dstOk E.N o.dst=true) (ht:E.P.underlying t=some .string)
  (hx:ev σ x=.c (.str s)) (hi:ev σ ix=.c (.int k (i:Int))) (htab:∀j,j<256→(s[j]?).map UInt8.toNat=some (bitlen j)) (hlt:i<256) (kk:aw E (.ops all rest::K) (σ.setO o.dst (.c (.int .u8 (bitlen i:Nat)))) h):aw E (.ops all (o::rest)::K) σ h:=by
 have h1:=htab i hlt
 cases hs:s[i]? with
 |none=>rw [hs] at h1;cases h1
 |some b=>
  rw [hs] at h1
  injection h1 with h1
  rw [←h1] at kk
  exact aw_pure hw (by rw [hop];exact POk.indexStr ht hx hi hs) hd rfl kk
theorem shr_u32_16 (x:Nat):shrZ .u32 (x:Int) 16=((x/65536:Nat):Int):=by
 rw [shrZ_eq]
 show(x:Int).fdiv 65536=_
 rw [Int.fdiv_eq_ediv_of_nonneg _ om];omega
theorem shr_u32_8 (x:Nat):shrZ .u32 (x:Int) 8=((x/256:Nat):Int):=by
 rw [shrZ_eq]
 show(x:Int).fdiv 256=_
 rw [Int.fdiv_eq_ediv_of_nonneg _ om];omega
theorem bitlen_div {x k:Nat} (hx:2^k≤x):bitlen x=k+bitlen (x/2^k):=by
 have hp:=Nat.two_pow_pos k
 have h0:x≠0:=by omega
 have h1:x/2^k≠0:=by have:=Nat.div_pos hx hp;omega
 unfold bitlen
 rw [if_neg h0,if_neg h1]
 have:Nat.log2 x=Nat.log2 (x/2^k)+k:=by
  clear h1
  induction k generalizing x with
  |zero=>simp
  |succ k ih=>
   have e2:2≤x:=by have:2^1≤2^(k+1):=Nat.pow_le_pow_right om om;omega
   rw [Nat.log2_def,if_pos e2]
   have hk:2^k≤x/2:=by rw [Nat.pow_succ] at hx;omega
   rw [ih hk (Nat.two_pow_pos k) (by have:=Nat.two_pow_pos k;omega),Nat.div_div_eq_div_mul,Nat.pow_succ,Nat.mul_comm 2]
   omega
 omega
end Go.AI
namespace Go.Proofs.YteocnikcjjonbaaGreat
open Go.AI Go.PN
attribute [local irreducible] aw Fa Fh DrK
theorem ty_str:Tryz.prog.underlying 9=some .string:=by kernel_rfl
@[go_sem] theorem ty_i_u8:tInt Tryz.prog 5=some .u8:=by kernel_rfl
theorem wrap_u8_nat {n:Nat} (h:n<256):wrapZ .u8 (n:Int)=(n:Int):=by
 rw [wrapZ_eq];exact wrap_inRange (k:=.u8) ⟨by omega,by omega⟩
theorem bitlen_le8:∀j,j<256→bitlen j≤8:=by decide+kernel
theorem len32_fa (x:Nat) (hx:x<4294967296):Fa Tryz.prog 203 [.c (.int .u32 x)] (.c (.int .i64 (bitlen x:Nat))):=by
 refine fa_of_body Tryz.func203 rfl rfl (by simp [Tryz.ntmps203]) fun C hC=> ?_
 simp only [initS,Nat.reduceAdd]
 refine xG ?_
 refine aw_cond eE (fun hb=> ?_) (fun hb=> ?_)
 ·have hx1:65536≤x:=dT hb
  have e1:bitlen x=16+bitlen (x/65536):=bitlen_div (k:=16) hx1
  refine xG ?_
  rw [shr_u32_16]
  refine xG ?_
  refine aw_cond eE (fun hb=> ?_) (fun hb=> ?_)
  ·have hx2:256≤x/65536:=dT hb
   have e2:bitlen (x/65536)=8+bitlen (x/65536/256):=bitlen_div (k:=8) hx2
   have hb8:=bitlen_le8 (x/65536/256) om
   refine xG ?_
   rw [shr_u32_8]
   refine xG ?_
   rw [wrap_u8_nat (n:=x/65536/256) om]
   refine aw_idx (i:=x/65536/256) rfl rfl rfl ty_str rfl eE (by decide+kernel) om ?_
   refine xSGT hC ?_
   exact .one (.c (ler_int om))
  ·have hx2:x/65536<256:=dF hb
   have hb8:=bitlen_le8 (x/65536) om
   refine xG ?_
   rw [wrap_u8_nat (n:=x/65536) om]
   refine aw_idx (i:=x/65536) rfl rfl rfl ty_str rfl eE (by decide+kernel) om ?_
   refine xSGT hC ?_
   exact .one (.c (ler_int om))
 ·have hx1:x<65536:=dF hb
  refine xG ?_
  refine aw_cond eE (fun hb=> ?_) (fun hb=> ?_)
  ·have hx2:256≤x:=dT hb
   have e2:bitlen x=8+bitlen (x/256):=bitlen_div (k:=8) hx2
   have hb8:=bitlen_le8 (x/256) om
   refine xG ?_
   rw [shr_u32_8]
   refine xG ?_
   rw [wrap_u8_nat (n:=x/256) om]
   refine aw_idx (i:=x/256) rfl rfl rfl ty_str rfl eE (by decide+kernel) om ?_
   refine xSGT hC ?_
   exact .one (.c (ler_int om))
  ·have hx2:x<256:=dF hb
   have hb8:=bitlen_le8 x om
   refine xG ?_
   rw [wrap_u8_nat (n:=x) om]
   refine aw_idx (i:=x) rfl rfl rfl ty_str rfl eE (by decide+kernel) om ?_
   refine xSGT hC ?_
   exact .one (.c (ler_int om))
theorem bitlen_lt {x k:Nat} (h:x<2^k):bitlen x≤k:=by
 unfold bitlen
 split
 ·omega
 ·rename_i h0
  have:=(Nat.log2_lt h0).2 h
  omega
theorem lead_fa (x:Nat) (hx:x<4294967296):Fa Tryz.prog 198 [.c (.int .u32 x)] (.c (.int .i64 (32-bitlen x:Nat))):=by
 refine fa_of_body Tryz.func198 rfl rfl (by simp [Tryz.ntmps198]) fun C hC=> ?_
 simp only [initS,Nat.reduceAdd]
 have hb:bitlen x≤32:=bitlen_lt hx
 refine xG ?_
 refine aw_callq (len32_fa x hx) rfl rfl rfl eL ?_
 refine xSGT hC ?_
 exact .one (.c (ler_int om))
theorem drop_zero {xs:List Nat} {m:Nat} (h:∀j,m≤j→xs.getD j 0=0):val (xs.drop m)=0:=by
 refine val_zero fun x hx=> ?_
 obtain⟨i,hi,rfl⟩:=List.getElem_of_mem hx
 have:=h (m+i) om
 rw [List.getD_eq_getElem?_getD] at this
 simp only [List.length_drop] at hi
 simpa [show m+i<xs.length from by omega] using this
theorem bits_top {xs:List Nat} {m:Nat} (hx:∀x∈xs,x<4294967296) (hm:m<xs.length) (hz:∀j,m+1≤j→xs.getD j 0=0) (h0:xs.getD m 0≠0):bitlen (val xs)=32*m+bitlen (xs.getD m 0):=by
 have h1:=val_split xs (m+1) om
 rw [drop_zero hz,Nat.mul_zero,Nat.add_zero,val_take_succ] at h1
 have h2:=val_take_lt xs hx m om
 have hp:4294967296^m=2^(32*m):=by rw [Nat.pow_mul]
 rw [hp] at h1 h2
 have hle:2^(32*m)≤val xs:=by
  rw [h1]
  have:=Nat.mul_le_mul_left (2^(32*m)) (show 1≤xs.getD m 0 from by omega)
  omega
 rw [bitlen_div hle,h1,Nat.add_mul_div_left _ _ (Nat.two_pow_pos _),Nat.div_eq_of_lt h2,Nat.zero_add]
theorem bits_fa (xs:List Nat) (hx:∀x∈xs,x<4294967296) (hlx:xs.length≤68719476736):Fa Tryz.prog 180 [.c (ws false xs)] (.c (.int .i64 (bitlen (val xs):Nat))):=by
 refine fa_of_body Tryz.func180 rfl rfl (by simp [Tryz.ntmps180]) fun C hC=> ?_
 simp only [initS,Nat.reduceAdd]
 refine xG ?_
 refine aw_lp (fun m:Nat=>[(0,.c (ws false xs)),(3,.c (.int .i64 ((m:Int)-1)))]) (fun _=>[]) (fun m=>m≤xs.length∧(∀j,m≤j→xs.getD j 0=0)) id xs.length eB zZ ⟨Nat.le_refl _,fun j hj=>getD_ge hj⟩ ?_
 rintro m ⟨hm,hz⟩
 refine xG ?_
 refine aw_cond eE (fun hb=> ?_) (fun hb=> ?_)
 ·have hm1:1≤m:=dT hb
  have e1:((m:Int)-1).toNat=m-1:=by omega
  have hxi:=getD_lt hx (m-1)
  refine xG ?_
  refine aw_cond eE (fun hb=> ?_) (fun hb=> ?_)
  ·have h0:xs.getD (m-1) 0≠0:=by simpa using hb
   have hbt:=bits_top hx (m:=m-1) om (by rw [show m-1+1=m from by omega];exact hz) h0
   have hbl:bitlen (xs.getD (m-1) 0)≤32:=bitlen_lt hxi
   refine xG ?_
   refine aw_callq (len32_fa _ hxi) rfl rfl rfl eL ?_
   refine xSGT hC ?_
   exact .one (.c (ler_int om))
  ·have h0:xs.getD (m-1) 0=0:=by simpa using hb
   refine xG ?_
   refine aw_stop ⟨m-1,by simp only [id];omega,eB,zZ,by omega,fun j hj=> ?_⟩
   by_cases e:j=m-1
   ·rw [e];exact h0
   ·exact hz j om
 ·have hm0:m=0:=dF hb
  subst hm0
  refine xGT hC ?_
  have:=drop_zero hz
  rw [List.drop_zero] at this
  exact .one (.c (ler_int (by rw [this];rfl)))
theorem bitlen_zero {n:Nat}:bitlen n=0↔n=0:=by
 unfold bitlen;split<;>simp [*]
end Go.Proofs.YteocnikcjjonbaaGreat
namespace Go.PN
theorem val_one (x:Nat):val [x]=x:=by simp [val]
theorem val_cut {zs:List Nat} {m:Nat} (h:val zs<4294967296^m):val (zs.drop m)=0:=by
 refine val_zero fun x hx=> ?_
 obtain⟨i,hi,rfl⟩:=List.getElem_of_mem hx
 have:=getD_zero_of_lt h (show m≤m+i from by omega)
 rw [List.getD_eq_getElem?_getD] at this
 simp only [List.length_drop] at hi
 simpa [show m+i<zs.length from by omega] using this
theorem val_take_all {zs:List Nat} {k:Nat} (h:zs.length=k):val (zs.take k)=val zs:=by rw [List.take_of_length_le om]
theorem top2 {zs:List Nat} {k:Nat} (hl:zs.length=k+2):val zs=(zs.getD (k+1) 0*4294967296+zs.getD k 0)*4294967296^k+val (zs.take k):=by
 rw [←val_take_all hl,val_take_succ,val_take_succ,Nat.pow_succ,Nat.add_mul,Nat.mul_assoc,Nat.mul_comm (4294967296^k) (4294967296*zs.getD (k+1) 0),Nat.mul_comm (4294967296^k) (zs.getD k 0),Nat.mul_comm 4294967296 (zs.getD (k+1) 0)]
 omega
theorem top3 {zs:List Nat} {k:Nat} (hl:zs.length=k+3):val zs=((zs.getD (k+2) 0*4294967296+zs.getD (k+1) 0)*4294967296+zs.getD k 0)*4294967296^k+val (zs.take k):=by
 rw [←val_take_all hl,val_take_succ,val_take_succ,val_take_succ]
 generalize zs.getD (k+2) 0=a
 generalize zs.getD (k+1) 0=b
 generalize zs.getD k 0=c
 simp only [Nat.pow_succ]
 generalize 4294967296^k=D
 simp only [Nat.add_mul]
 have e1:a*4294967296*4294967296*D=D*4294967296*4294967296*a:=by rw [Nat.mul_comm (D*4294967296*4294967296) a,Nat.mul_comm D,Nat.mul_comm (4294967296*D),←Nat.mul_assoc 4294967296 4294967296 D,←Nat.mul_assoc,←Nat.mul_assoc]
 have e2:b*4294967296*D=D*4294967296*b:=by rw [Nat.mul_comm (D*4294967296) b,Nat.mul_comm D,←Nat.mul_assoc]
 have e3:c*D=D*c:=Nat.mul_comm _ _
 rw [e1,e2,e3]
 omega
theorem win_getD' {us:List Nat} {j L i:Nat} (hi:i<L):((us.drop j).take L).getD i 0=us.getD (j+i) 0:=by
 rw [getD_take hi,List.getD_eq_getElem?_getD,List.getD_eq_getElem?_getD,List.getElem?_drop]
theorem win_win {ys zs zs2:List Nat} {off:Nat} (h:off+zs.length≤ys.length) (he:zs2.length=zs.length):win (win ys off zs) off zs2=win ys off zs2:=by
 unfold win
 have h1:(ys.take off++(zs++ys.drop (off+zs.length))).take off=ys.take off:=by
  rw [List.take_append_of_le_length (by simp;omega),List.take_take,Nat.min_self]
 have h2:(ys.take off++(zs++ys.drop (off+zs.length))).drop (off+zs2.length)=ys.drop (off+zs2.length):=by
  rw [he,←List.append_assoc,List.drop_append_of_le_length (by simp;omega),List.drop_of_length_le (by simp;omega),List.nil_append]
 rw [h1,h2]
theorem win_of_win {ys zs:List Nat} {off L:Nat} (h:off+L≤ys.length) (hz:zs.length=L):zs=((win ys off zs).drop off).take L:=by
 unfold win
 rw [List.drop_append_of_le_length (by simp;omega),List.drop_of_length_le (by simp;omega),List.nil_append,List.take_append_of_le_length om,List.take_of_length_le om]
theorem window {us:List Nat} {j L V:Nat} (hu:∀x∈us,x<4294967296) (hL:j+L+1≤us.length) (hV:V<4294967296^L) (hlt:val us<V*4294967296^(j+1)):
  val us=val (us.take j)+4294967296^j*val ((us.drop j).take (L+1))∧val (us.take j)<4294967296^j∧val (us.drop (j+(L+1)))=0∧val ((us.drop j).take (L+1))<V*4294967296:=by
 have h1:val (us.drop (j+(L+1)))=0:=by
  refine val_cut (Nat.lt_of_lt_of_le hlt ?_)
  rw [show j+(L+1)=L+(j+1) from by omega,Nat.pow_add 4294967296 L (j+1)]
  exact Nat.mul_le_mul_right _ (Nat.le_of_lt hV)
 have h2:=val_split us j om
 have h3:=val_split (us.drop j) (L+1) (by simp;omega)
 rw [List.drop_drop,h1,Nat.mul_zero,Nat.add_zero] at h3
 rw [h3] at h2
 have h4:=val_take_lt us hu j om
 refine⟨h2,h4,h1,?_⟩
 rw [h2,Nat.pow_succ,Nat.mul_comm (4294967296^j) 4294967296,←Nat.mul_assoc,Nat.mul_comm (V*4294967296)] at hlt
 exact Nat.lt_of_mul_lt_mul_left (a:=4294967296^j) om
theorem head_le {W V v1 v2 vr D w0 w1 w2 wr:Nat} (hV:V=(v1*4294967296+v2)*D+vr) (hv2:v2<4294967296) (hvr:vr<D) (hW:W=((w0*4294967296+w1)*4294967296+w2)*D+wr) (hlt:W<V*4294967296):w0≤v1:=by
 rcases Nat.lt_or_ge v1 w0 with h|h
 ·exfalso
  have h1:V+1≤(v1+1)*4294967296*D:=by
   have:(v1*4294967296+v2+1)*D≤(v1+1)*4294967296*D:=Nat.mul_le_mul_right D om
   rw [Nat.add_mul,Nat.one_mul] at this
   omega
  have h2:(v1+1)*4294967296*D*4294967296≤W:=by
   have:(v1+1)*4294967296*4294967296*D≤((w0*4294967296+w1)*4294967296+w2)*D:=Nat.mul_le_mul_right D om
   rw [Nat.mul_assoc _ D,Nat.mul_comm D,←Nat.mul_assoc]
   omega
  have h3:=Nat.mul_le_mul_right 4294967296 h1
  omega
 ·exact h
theorem div_step {A V U lo W P z q j Q:Nat} (hU:U=lo+P*W) (hlo:lo<P) (hz:z+q*V=W) (hzV:z<V) (hA:A=U+V*(P*4294967296*Q)) (hP:P=4294967296^j):
  lo+P*z<V*P∧A=(lo+P*z)+V*(P*(q+4294967296*Q)):=by
 constructor
 ·have:=Nat.mul_le_mul_left P (show z+1≤V from hzV)
  rw [Nat.mul_add,Nat.mul_one,Nat.mul_comm P V] at this
  omega
 ·rw [hA,hU,←hz,Nat.mul_add,Nat.mul_add,Nat.mul_add,←Nat.mul_assoc P 4294967296 Q]
  have:P*(q*V)=V*(P*q):=by rw [←Nat.mul_assoc,Nat.mul_comm]
  omega
theorem digit_ok {W V g z P:Nat} (hV:0<V) (h1:W/V≤g) (h2:g*V<W+V) (h:z+g*V=W+P*0):z+(W/V)*V=W∧z<V∧g=W/V:=by
 have hg:g≤W/V:=(Nat.le_div_iff_mul_le hV).2 om
 have e:g=W/V:=by omega
 subst e
 have:=Nat.div_add_mod W V
 have h3:=Nat.mod_lt W hV
 rw [Nat.mul_comm] at this
 exact⟨by omega,by omega,rfl⟩
theorem digit_back {W V g z z2 P c:Nat} (hV:0<V) (hVP:V≤P) (h1:W/V≤g) (h2:g*V<W+V) (hz:z<P) (hz2:z2<P) (h:z+g*V=W+P*1) (hb:z2+P*c=z+V):1≤g∧z2+(W/V)*V=W∧z2<V∧g-1=W/V:=by
 have hmod:=Nat.div_add_mod W V
 have hlt:=Nat.mod_lt W hV
 rw [Nat.mul_comm] at hmod
 have hg:W/V+1≤g:=by
  rcases Nat.lt_or_ge (W/V) g with h|h'
  ·exact h
  ·exfalso
   have e:g=W/V:=by omega
   rw [e] at h
   omega
 have hg2:g≤W/V+1:=by
  rcases Nat.lt_or_ge (W/V+1) g with h'|h'
  ·exfalso
   have:=Nat.mul_le_mul_right V (show W/V+2≤g from h')
   rw [Nat.add_mul] at this
   omega
  ·exact h'
 have e:g=W/V+1:=by omega
 rw [e,Nat.add_mul,Nat.one_mul] at h
 have hc:z2+P*c=W%V+P:=by omega
 have hc1:c=1:=by
  rcases c with _|_|c
  ·omega
  ·rfl
  ·exfalso
   have:P*(c+1+1)=P*c+P+P:=by rw [Nat.mul_add,Nat.mul_add];omega
   omega
 subst hc1
 exact⟨by rw [e];exact Nat.le_add_left _ _,by omega,by omega,by rw [e];rfl⟩
theorem div_end {a b n U q:Nat} (hb:0<b) (hlt:U<b*2^n) (h:a*2^n=U+b*2^n*q):q=a/b∧U/2^n=a%b:=by
 have hp:=Nat.two_pow_pos n
 have hV:0<b*2^n:=Nat.mul_pos hb hp
 have h1:a*2^n/(b*2^n)=q:=by rw [h,Nat.add_mul_div_left _ _ hV,Nat.div_eq_of_lt hlt,Nat.zero_add]
 have h2:a*2^n%(b*2^n)=U:=by rw [h,Nat.add_mul_mod_self_left,Nat.mod_eq_of_lt hlt]
 rw [Nat.mul_div_mul_right _ _ hp] at h1
 rw [Nat.mul_mod_mul_right] at h2
 exact⟨h1.symm,by rw [←h2,Nat.mul_div_cancel _ hp]⟩
theorem mul4 (p q B D:Nat):p*q*B*D=p*(q*B*D):=by rw [Nat.mul_assoc,Nat.mul_assoc,Nat.mul_assoc]
theorem guess_start {V W D v1 v2 head w2 wr vr:Nat} (hV:V=(v1*4294967296+v2)*D+vr) (hv1:0<v1) (hW:W=(head*4294967296+w2)*D+wr) (hw2:w2<4294967296) (hwr:wr<D):W/V≤head/v1:=by
 have hD:0<D:=by omega
 have hV0:0<V:=by
  have:=Nat.mul_le_mul_right D (show 1≤v1*4294967296+v2 from by omega)
  omega
 have h1:head+1≤(head/v1+1)*v1:=by
  have:=Nat.div_add_mod head v1
  have h2:=Nat.mod_lt head hv1
  rw [Nat.add_mul,Nat.one_mul,Nat.mul_comm (head/v1)]
  omega
 have h2:W<(head+1)*4294967296*D:=by
  have:(head*4294967296+w2+1)*D≤(head+1)*4294967296*D:=Nat.mul_le_mul_right D om
  rw [Nat.add_mul,Nat.one_mul] at this
  omega
 have h3:(head+1)*4294967296*D≤(head/v1+1)*V:=by
  have e1:(head+1)*4294967296*D≤(head/v1+1)*v1*4294967296*D:=Nat.mul_le_mul_right D (Nat.mul_le_mul_right _ h1)
  have e0:v1*4294967296*D≤V:=by rw [hV,Nat.add_mul,Nat.add_assoc];exact Nat.le_add_right _ _
  have e2:=Nat.mul_le_mul_left (head/v1+1) e0
  rw [←mul4] at e2
  exact Nat.le_trans e1 e2
 have:W/V<head/v1+1:=(Nat.div_lt_iff_lt_mul hV0).2 om
 omega
theorem norm_top {bs vs:List Nat} {n k:Nat} (hb:∀x∈bs,x<4294967296) (hl:bs.length=k+2) (hn:n≤32) (h1:2147483648≤bs.getD (k+1) 0*2^n) (h2:bs.getD (k+1) 0*2^n<4294967296) (hv:∀x∈vs,x<4294967296) (hvl:vs.length=k+3) (hvv:val vs=val bs*2^n):
  val (vs.take (k+2))=val bs*2^n∧2147483648≤vs.getD (k+1) 0∧val bs*2^n<4294967296^(k+2):=by
 have hB:=two_pow_split hn
 have hp:=Nat.two_pow_pos n
 have e1:=val_take_succ bs (k+1)
 rw [val_take_all hl] at e1
 have e2:=val_take_lt bs hb (k+1) om
 generalize bs.getD (k+1) 0=t at*
 generalize hP:4294967296^(k+1)=P at*
 have ht:t+1≤2^(32-n):=by
  have:2^n*t<2^n*2^(32-n):=by rw [Nat.mul_comm];omega
  exact Nat.lt_of_mul_lt_mul_left this
 have hlt:val bs*2^n<P*4294967296:=by
  have a1:val bs<P*(t+1):=by rw [Nat.mul_add];omega
  have a2:=Nat.mul_lt_mul_of_pos_right a1 hp
  have a3:P*(t+1)*2^n≤P*4294967296:=by
   rw [Nat.mul_assoc]
   refine Nat.mul_le_mul_left P ?_
   rw [hB,Nat.mul_comm]
   exact Nat.mul_le_mul_left _ ht
  omega
 have hP2:4294967296^(k+2)=P*4294967296:=by rw [show k+2=(k+1)+1 from rfl,Nat.pow_succ,hP]
 have hs:=val_split vs (k+2) om
 rw [val_cut (zs:=vs) (m:=k+2) (by rw [hvv,hP2];exact hlt),Nat.mul_zero,Nat.add_zero] at hs
 refine⟨by omega,?_,by rw [hP2];exact hlt⟩
 have e3:val (vs.take (k+2))=val (vs.take (k+1))+4294967296^(k+1)*vs.getD (k+1) 0:=val_take_succ vs (k+1)
 have e4:=val_take_lt vs hv (k+1) om
 rw [hP] at e3 e4
 have hge:P*2147483648≤val bs*2^n:=by
  rw [e1,Nat.add_mul,Nat.mul_assoc]
  have:=Nat.mul_le_mul_left P h1
  omega
 have:P*2147483648<P*(vs.getD (k+1) 0+1):=by
  rw [Nat.mul_add,Nat.mul_one]
  omega
 have:=Nat.lt_of_mul_lt_mul_left this
 omega
theorem div_start {a b n la lb:Nat} (ha:a<4294967296^la) (hb:4294967296^(lb-1)≤b) (hl:lb≤la) (h0:1≤lb):a*2^n<b*2^n*4294967296^(la+1-lb):=by
 have hp:=Nat.two_pow_pos n
 have h1:4294967296^la=4294967296^(lb-1)*4294967296^(la+1-lb):=by rw [←Nat.pow_add];congr 1;omega
 have h2:=Nat.mul_le_mul_right (4294967296^(la+1-lb)) hb
 rw [←h1] at h2
 have h3:=Nat.mul_lt_mul_of_pos_right (Nat.lt_of_lt_of_le ha h2) hp
 rw [Nat.mul_right_comm]
 exact h3
end Go.PN
namespace Go.Proofs.YteocnikcjjonbaaGreat
open Go.AI Go.PN
attribute [local irreducible] aw Fa Fh DrK
theorem shift_top {t:Nat} (h0:t≠0) (hl:t<4294967296):32-bitlen t<32∧2147483648≤t*2^(32-bitlen t)∧t*2^(32-bitlen t)<4294967296:=by
 have h1:bitlen t≤32:=bitlen_lt (k:=32) hl
 have h2:bitlen t=Nat.log2 t+1:=by unfold bitlen;rw [if_neg h0]
 have h3:=Nat.log2_self_le h0
 have h4:=Nat.lt_log2_self (n:=t)
 have hk:32-bitlen t+bitlen t=32:=by omega
 refine⟨by omega,?_,?_⟩
 ·have:=Nat.mul_le_mul_right (2^(32-bitlen t)) h3
  rw [←Nat.pow_add,show t.log2+(32-bitlen t)=31 from by omega] at this
  exact this
 ·have:=Nat.mul_lt_mul_of_pos_right h4 (Nat.two_pow_pos (32-bitlen t))
  rw [←Nat.pow_add,show t.log2+1+(32-bitlen t)=32 from by omega] at this
  exact this
theorem div_fa (xs ys:List Nat) (hx:∀x∈xs,x<4294967296) (hy:∀x∈ys,x<4294967296) (hlx:xs.length≤68719476736) (hly:ys.length≤68719476736) (h0:val ys≠0):
  Fa Tryz.prog 178 [.c (ws false xs),.c (ws false ys)] (.tup [.c (ws true (words (val xs/val ys))),.c (ws true (words (val xs%val ys))),.c .nilI]):=by
 refine fa_of_body Tryz.func178 rfl rfl (by simp [Tryz.ntmps178]) fun C hC=> ?_
 simp only [initS,Nat.reduceAdd]
 refine xG ?_
 refine aw_callq (trim_fa xs hx om) rfl rfl rfl eL ?_
 refine xSG ?_
 refine aw_callq (trim_fa ys hy om) rfl rfl rfl eL ?_
 refine xS ?_
 have hla:(words (val xs)).length≤68719476736:=Nat.le_trans (words_val_len xs hx) hlx
 have hlb:(words (val ys)).length≤68719476736:=Nat.le_trans (words_val_len ys hy) hly
 generalize val xs=a at hla⊢
 generalize val ys=b at hlb h0⊢
 have hwa:=words_lt a
 have hwb:=words_lt b
 have hva:=val_words a
 have hvb:=val_words b
 have hbne:(words b).length≠0:=fun e=>h0 (words_eq_nil.1 (List.length_eq_zero_iff.1 e))
 refine xG ?_
 refine aw_cond eE (fun hb=> ?_) (fun _=> ?_)
 ·have:=eq_of_beq hb;omega
 refine xG ?_
 refine aw_callq (cmp_fa (words a) (words b) hwa hwb hla hlb) rfl rfl rfl eL ?_
 refine xS ?_
 rw [hva,hvb]
 refine xG ?_
 refine aw_cond eE (fun hb=> ?_) (fun hb=> ?_)
 ·have hlt:a<b:=by
   have:=of_decide_eq_true hb
   unfold cmpN at this
   split at this
   ·assumption
   ·split at this<;>omega
  refine xGT hC ?_
  rw [Nat.div_eq_of_lt hlt,Nat.mod_eq_of_lt hlt,words_zero]
  exact .tup ⟨.c .nils,.c ler_ws,.c .nilI,trivial⟩
 have hge:b≤a:=by
  have:=of_decide_eq_false hb
  unfold cmpN at this
  split at this
  ·omega
  ·omega
 have hlab:(words b).length≤(words a).length:=words_len_mono hge
 refine xG ?_
 refine aw_cond eE (fun hb=> ?_) (fun hb=> ?_)
 ·have hl1:(words b).length=1:=by have:=eq_of_beq hb;omega
  have hbw:b=(words b).getD 0 0:=by
   match hws:words b,hl1 with
   |[w],_=>rw [hws,val_one] at hvb;exact hvb.symm
  have hb32:=getD_lt hwb 0
  refine xG ?_
  refine aw_callq (small_fa (words a) ((words b).getD 0 0) hwa hla om hb32) rfl rfl rfl eL ?_
  refine xS ?_
  rw [hva,←hbw]
  have hml:a%b<4294967296:=by have:=Nat.mod_lt a (show 0<b from by omega);omega
  refine xG ?_
  refine aw_callq (of_fa ((a%b:Nat):Int) om om) rfl rfl rfl eL ?_
  refine xSGT hC ?_
  exact .tup ⟨.c ler_ws,.c ler_ws,.c .nilI,trivial⟩
 have hl2:(words b).length≠1:=fun e=>by rw [e] at hb;cases hb
 obtain⟨k,hk⟩:∃k,(words b).length=k+2:=⟨(words b).length-2,by omega⟩
 have htop:(words b).getD ((words b).length-1) 0≠0:=(words_plain b).resolve_left (fun e=>by rw [e] at hbne;exact hbne rfl)
 have htl:=getD_lt hwb ((words b).length-1)
 obtain⟨hn,hn1,hn2⟩:=shift_top htop htl
 refine xG ?_
 refine aw_callq (lead_fa _ htl) rfl rfl rfl eL ?_
 refine xS ?_
 generalize hnn:32-bitlen ((words b).getD ((words b).length-1) 0)=n at hn hn1 hn2⊢
 refine xG ?_
 refine aw_callh (left_fh (words b) n hwb hlb hn) rfl rfl rfl (.refl _) eL ?_
 rintro r h' ⟨gv,vs,rfl,rfl,hvl,hvw,hvv⟩ hfr
 refine xSG ?_
 have hkk:(words b).length-1=k+1:=by omega
 rw [hkk] at hn1 hn2
 obtain⟨hv1,hv2,hv3⟩:=norm_top (n:=n) hwb hk om hn1 hn2 hvw om hvv
 refine aw_frzw (t:=10) (ys:=vs.take (k+2)) eE eE om (hC gv) (by simp;omega) (fun j hj=>by rw [Nat.zero_add,getD_take om]) eE eE ?_
 refine aw_weak (σ':=[(0,.c (ws true (words a))),(9,.c (.int .i64 n)),(10,.c (ws true (vs.take (k+2)))),(59,.c (ws true (words a))),(60,.c (.int .i64 n))]) (h':=[]) (Sl.sub_le eB) zZ ?_
 have hvvl:(vs.take (k+2)).length=k+2:=by simp;omega
 have hvvw:∀x∈vs.take (k+2),x<4294967296:=fun x hx=>hvw x (List.mem_of_mem_take hx)
 rw [←getD_take (show k+1<k+2 from by omega)] at hv2
 rw [hvb] at hv1 hv3
 generalize vs.take (k+2)=v at hv1 hv2 hvvl hvvw⊢
 refine aw_callh (left_fh (words a) n hwa hla hn) rfl rfl rfl (.refl _) eL ?_
 rintro r h' ⟨gu,us,rfl,rfl,hul,huw,huv⟩ hfr
 refine xSG ?_
 refine aw_dr 16 ty_mixed (by kernel_rfl) ?_
 have hb1:=getD_lt hvvw (v.length-1)
 have hb2:=getD_lt hvvw (v.length-2)
 have e2:((v.length:Int)-2).toNat=v.length-2:=by omega
 refine yI e2 ?_
 have hvm1:v.length-1=k+1:=by omega
 have hvm2:v.length-2=k:=by omega
 rw [hvm1] at hb1
 rw [hvm2] at hb2
 have eq0:(((words a).length+1:Nat):Int)-(v.length:Int)=(((words a).length+1-(k+2):Nat):Int):=by omega
 rw [hvm1,hvm2,eq0]
 refine aw_make (n:=(words a).length+1-(k+2)) (c:=(words a).length+1-(k+2)) rfl rfl rfl ty_e_ws ty_z_u32 rfl om eE eE rfl rfl om om om fun gq hgq=> ?_
 rw [make_wf ((words a).length+1-(k+2))]
 have hne:¬gq=gu:=fun e=>hgq (by simp [Heap.keys,e])
 have hne2:¬gu=gq:=fun e=>hne e.symm
 refine xS ?_
 refine xI ?_
 have hst:=div_start (n:=n) (words_pow_lt a) (words_pow_le h0) hlab om
 rw [hva] at huv
 rw [hk,←hv1] at hst
 rw [←huv] at hst
 rw [←hv1] at hv3
 generalize (words a).length=la at hla hlab hul eq0 hst⊢
 apply aw_block
 generalize hlq:la+1-(k+2)=lq at hst⊢
 refine aw_lp (fun x:Nat×List Nat×List Nat=>[(4,.c (.osl gq 1 0 lq)),(9,.c (.int .i64 n)),(10,.c (ws true v)),(11,.c (.osl gu 1 0 (la+1))),(12,.c (.int .u64 (v.getD (k+1) 0:Nat))),(13,.c (.int .u64 (v.getD k 0:Nat))),(14,.c (.int .i64 ((x.1:Int)-1)))])
  (fun x=>[(gq,.cells 166 lq (wf x.2.2)),(gu,.cells 166 (la+1) (wf x.2.1))])
  (fun x=>x.1≤lq∧x.2.1.length=la+1∧(∀y∈x.2.1,y<4294967296)∧x.2.2.length=lq∧(∀y∈x.2.2,y<4294967296)∧val x.2.1<val v*4294967296^x.1∧a*2^n=val x.2.1+val v*(4294967296^x.1*val (x.2.2.drop x.1))) (fun x=>x.1) (lq,us,List.replicate lq 0) eB zZ
  ⟨Nat.le_refl _,hul,huw,by simp,replicate_lt _,hst,by simp [val,huv]⟩ ?_
 clear hst huv huw hul hfr hgq us
 rintro ⟨m,us,qs⟩ ⟨hm,hul,huw,hql,hqw,hlt,hA⟩
 dsimp only at hm hul huw hql hqw hlt hA⊢
 refine xI ?_
 refine aw_cond eE (fun hb=> ?_) (fun hb=> ?_)
 ·have hm1:1≤m:=dT hb
  obtain⟨j,rfl⟩:∃j,m=j+1:=⟨m-1,by omega⟩
  have e14:((j+1:Nat):Int)-1=(j:Int):=by omega
  rw [e14]
  have hLL:j+(k+2)+1≤us.length:=by omega
  obtain⟨w1,w2,w3,w4⟩:=window (V:=val v) huw hLL hv3 hlt
  have hWl:((us.drop j).take (k+2+1)).length=k+3:=by simp;omega
  have hWw:∀x∈(us.drop j).take (k+2+1),x<4294967296:=fun x hx=>huw x (List.mem_of_mem_drop (List.mem_of_mem_take hx))
  have t3:=top3 hWl
  rw [win_getD' om,win_getD' om,win_getD' om] at t3
  have t3l:=val_take_lt _ hWw k om
  have t2:=top2 hvvl
  have t2l:=val_take_lt _ hvvw k om
  have hhead:=head_le t2 hb2 t2l t3 w4
  have hw0:=getD_lt huw (j+(k+2))
  have hw1:=getD_lt huw (j+(k+1))
  have hw2:=getD_lt huw (j+k)
  have hVpos:0<val v:=by rw [hv1];exact Nat.mul_pos (Nat.pos_of_ne_zero h0) (Nat.two_pow_pos n)
  have e3:((j:Int)+((k+2:Nat):Int)-1).toNat=j+(k+1):=by omega
  have e4:((j:Int)+((k+2:Nat):Int)-2).toNat=j+k:=by omega
  have e5:((j:Int)+((k+2:Nat):Int)+1).toNat=j+(k+3):=by omega
  apply aw_skip
  apply aw_seq
  apply aw_block
  apply aw_seq
  refine aw_dr 20 ty_mixed (by kernel_rfl) ?_
  refine yI (oj hvvl (oj e3 (oj e4 (oj e5 (oj hne (oj hne2 @Nat.add_sub_cancel_left)))))) ?_
  rw [shl_u64_32 _ hw0,or_u64_j32 _ _ hw0 hw1]
  have hhl:j32 (us.getD (j+(k+2)) 0) (us.getD (j+(k+1)) 0)<18446744073709551616:=by unfold j32;omega
  have hhv:j32 (us.getD (j+(k+2)) 0) (us.getD (j+(k+1)) 0)≤v.getD (k+1) 0*4294967296+us.getD (j+(k+1)) 0:=by unfold j32;omega
  replace t3:val ((us.drop j).take (k+2+1))=(j32 (us.getD (j+(k+2)) 0) (us.getD (j+(k+1)) 0)*4294967296+us.getD (j+k) 0)*4294967296^k+val (((us.drop j).take (k+2+1)).take k):=t3
  generalize j32 (us.getD (j+(k+2)) 0) (us.getD (j+(k+1)) 0)=hd at t3 hhl hhv⊢
  have gs:=guess_start t2 om t3 hw2 t3l
  generalize hWv:val ((us.drop j).take (k+2+1))=W at t3 gs w1 w4
  have hhq:hd/v.getD (k+1) 0*v.getD (k+1) 0+hd%v.getD (k+1) 0=hd:=by rw [Nat.mul_comm];exact Nat.div_add_mod _ _
  have hhr:hd%v.getD (k+1) 0<v.getD (k+1) 0:=Nat.mod_lt _ om
  refine aw_dr 8 ty_mixed (by kernel_rfl) ?_
  have J1:=oj hvvl (oj e3 (oj e4 (oj e5 (oj hne (oj hne2 @Nat.add_sub_cancel_left)))))
  refine yI J1 ?_
  rw [quo_u64 _ _ hhl,rem_nat]
  refine aw_weak (σ':=[(4,.c (.osl gq 1 0 lq)),(9,.c (.int .i64 n)),(10,.c (ws true v)),(11,.c (.osl gu 1 0 (la+1))),(12,.c (.int .u64 (v.getD (k+1) 0:Nat))),(13,.c (.int .u64 (v.getD k 0:Nat))),(14,.c (.int .i64 j)),(16,.c (.int .u64 (hd/v.getD (k+1) 0:Nat))),(17,.c (.int .u64 (hd%v.getD (k+1) 0:Nat)))]) (h':=[(gq,.cells 166 lq (wf qs)),(gu,.cells 166 (la+1) (wf us))]) (Sl.sub_le (zB J1)) zZ ?_
  refine aw_cut (fun g:Nat=>[(4,.c (.osl gq 1 0 lq)),(9,.c (.int .i64 n)),(10,.c (ws true v)),(11,.c (.osl gu 1 0 (la+1))),(12,.c (.int .u64 (v.getD (k+1) 0:Nat))),(13,.c (.int .u64 (v.getD k 0:Nat))),(14,.c (.int .i64 j)),(16,.c (.int .u64 g))]) (fun _=>[(gq,.cells 166 lq (wf qs)),(gu,.cells 166 (la+1) (wf us))]) (fun g=>W/val v≤g∧g*val v<W+val v∧g<4294967296) ?_ ?_
  ·apply aw_block
   refine aw_lp (fun x:Nat×Nat=>[(4,.c (.osl gq 1 0 lq)),(9,.c (.int .i64 n)),(10,.c (ws true v)),(11,.c (.osl gu 1 0 (la+1))),(12,.c (.int .u64 (v.getD (k+1) 0:Nat))),(13,.c (.int .u64 (v.getD k 0:Nat))),(14,.c (.int .i64 j)),(16,.c (.int .u64 x.1)),(17,.c (.int .u64 x.2))]) (fun _=>[(gq,.cells 166 lq (wf qs)),(gu,.cells 166 (la+1) (wf us))])
    (fun x=>W/val v≤x.1∧x.1*v.getD (k+1) 0+x.2=hd∧x.2<4294967296) (fun x=>x.1) (hd/v.getD (k+1) 0,hd%v.getD (k+1) 0) (zB (oj hvvl (oj e3 (oj e4 (oj e5 (oj hne (oj hne2 @Nat.add_sub_cancel_left))))))) zZ ⟨gs,hhq,by dsimp only;omega⟩ ?_
   rintro ⟨g,rest⟩ ⟨hg1,hg2,hg3⟩
   dsimp only at hg1 hg2 hg3⊢
   apply aw_seq
   apply aw_seq
   refine aw_cut (fun tt:Bool=>[(4,.c (.osl gq 1 0 lq)),(9,.c (.int .i64 n)),(10,.c (ws true v)),(11,.c (.osl gu 1 0 (la+1))),(12,.c (.int .u64 (v.getD (k+1) 0:Nat))),(13,.c (.int .u64 (v.getD k 0:Nat))),(14,.c (.int .i64 j)),(16,.c (.int .u64 g)),(17,.c (.int .u64 rest)),(133,.c (.bool tt))]) (fun _=>[(gq,.cells 166 lq (wf qs)),(gu,.cells 166 (la+1) (wf us))])
    (fun tt=>(tt=true→W/val v<g)∧(tt=false→g<4294967296∧g*v.getD k 0≤rest*4294967296+us.getD (j+k) 0)) ?_ ?_
   ·by_cases hgB:g<4294967296
    ·have hdec:decide ((g:Int)≥4294967296)=false:=by simp;omega
     have hmb:=mul_bound hgB hb2
     have J2:=oj hvvl (oj e3 (oj e4 (oj e5 (oj hne (oj hne2 (oj @Nat.add_sub_cancel_left hdec))))))
     refine yI J2 ?_
     rw [shl_u64_32 _ hg3,or_u64_j32 _ _ hg3 hw2]
     refine aw_stop ⟨_,(zB J2),zZ,fun h=> ?_,fun h=>⟨hgB,?_⟩⟩
     ·have:=of_decide_eq_true h
      unfold j32 at this
      have hlt2:=guess_down (D:=4294967296^k) (V:=val v) (v2:=v.getD k 0) (by rw [t2];exact Nat.le_add_right _ _) t3 t3l hg2 (by rw [←Int.natCast_mul] at this;omega)
      exact(Nat.div_lt_iff_lt_mul hVpos).2 hlt2
     ·have:=of_decide_eq_false h
      unfold j32 at this
      rw [←Int.natCast_mul] at this
      omega
    ·have hdec:decide ((g:Int)≥4294967296)=true:=by simp;omega
     have J3:=oj hvvl (oj e3 (oj e4 (oj e5 (oj hne (oj hne2 (oj @Nat.add_sub_cancel_left hdec))))))
     refine yI J3 ?_
     refine aw_stop ⟨true,(zB J3),zZ,fun _=> ?_,fun h=>by cases h⟩
     have:W/val v<4294967296:=(Nat.div_lt_iff_lt_mul hVpos).2 (by rw [Nat.mul_comm];exact w4)
     omega
   ·rintro tt ⟨htt,htf⟩
    refine aw_cond (zE (oj hvvl (oj e3 (oj e4 (oj e5 (oj hne (oj hne2 @Nat.add_sub_cancel_left))))))) (fun h=> ?_) (fun h=> ?_)
    ·have hgt:=htt h
     have hg0:0<g:=Nat.lt_of_le_of_lt (Nat.zero_le _) hgt
     have hgle:g≤g*v.getD (k+1) 0:=Nat.le_mul_of_pos_right g om
     have hgm:(g-1)*v.getD (k+1) 0+(rest+v.getD (k+1) 0)=hd:=by
      obtain⟨g',rfl⟩:∃g',g=g'+1:=⟨g-1,by omega⟩
      rw [Nat.add_mul,Nat.one_mul] at hg2
      simp only [Nat.add_sub_cancel]
      omega
     refine yG (oj hvvl (oj e3 (oj e4 (oj e5 (oj hne (oj hne2 @Nat.add_sub_cancel_left)))))) ?_
     have eg:(g:Int)-1=((g-1:Nat):Int):=by omega
     have er:(rest:Int)+((v.getD (k+1) 0:Nat):Int)=((rest+v.getD (k+1) 0:Nat):Int):=by omega
     rw [eg,er]
     refine aw_cond (zE (oj hvvl (oj e3 (oj e4 (oj e5 (oj hne (oj hne2 @Nat.add_sub_cancel_left))))))) (fun h=> ?_) (fun h=> ?_)
     ·have hr:=of_decide_eq_true h
      have J4:=oj hvvl (oj e3 (oj e4 (oj e5 (oj hne (oj hne2 @Nat.add_sub_cancel_left)))))
      refine yI J4 ?_
      have hgs:=guess_small hhv hw1 hgm om
      refine aw_stop ⟨g-1,(zB J4),zZ,by omega,?_,hgs⟩
      refine guess_up t2 t2l om t3 hgm hgs ?_
      have m1:=mul_bound hgs hb2
      have m2:4294967296*4294967296≤(rest+v.getD (k+1) 0)*4294967296:=Nat.mul_le_mul_right _ om
      omega
     ·have hr:=of_decide_eq_false h
      have J5:=oj hvvl (oj e3 (oj e4 (oj e5 (oj hne (oj hne2 @Nat.add_sub_cancel_left)))))
      refine yI J5 ?_
      refine aw_stop ⟨(g-1,rest+v.getD (k+1) 0),by dsimp only;omega,(zB J5),zZ,by dsimp only;omega,hgm,by dsimp only;omega⟩
    ·obtain⟨hf1,hf2⟩:=htf h
     have J6:=oj hvvl (oj e3 (oj e4 (oj e5 (oj hne (oj hne2 @Nat.add_sub_cancel_left)))))
     refine yI J6 ?_
     exact aw_stop ⟨g,(zB J6),zZ,hg1,guess_up t2 t2l om t3 hg2 hf1 hf2,hf1⟩
  ·rintro g ⟨hg1,hg2,hg3⟩
   have hqd:W/val v<4294967296:=(Nat.div_lt_iff_lt_mul hVpos).2 (by rw [Nat.mul_comm];exact w4)
   apply aw_seq
   refine aw_cut (fun zs:List Nat=>[(4,.c (.osl gq 1 0 lq)),(9,.c (.int .i64 n)),(10,.c (ws true v)),(11,.c (.osl gu 1 0 (la+1))),(12,.c (.int .u64 (v.getD (k+1) 0:Nat))),(13,.c (.int .u64 (v.getD k 0:Nat))),(14,.c (.int .i64 j)),(16,.c (.int .u64 (W/val v:Nat)))]) (fun zs=>[(gu,.cells 166 (la+1) (wf (win us j zs))),(gq,.cells 166 lq (wf qs))])
    (fun zs=>zs.length=k+3∧(∀y∈zs,y<4294967296)∧val zs+(W/val v)*val v=W∧val zs<val v) ?_ ?_
   ·have J7:=oj hvvl (oj e3 (oj e4 (oj e5 (oj hne (oj hne2 @Nat.add_sub_cancel_left)))))
    refine yI J7 ?_
    have tf:=take_fh gu j (k+3) g us _ v rfl om huw hvvw om hg3 om
    rw [hul] at tf
    refine aw_callh tf rfl rfl rfl (.swap _ _ []) (zL J7) ?_
    rintro r h' ⟨bb,zs,rfl,rfl,hzl,hzw,hbb,hzv⟩ hfr
    rw [hWv] at hzv
    have hzlt:=val_lt zs hzw
    rw [hzl] at hzlt
    refine yS J7 ?_
    refine yI J7 ?_
    refine aw_cond (zE J7) (fun h=> ?_) (fun h=> ?_)
    ·have hb1':bb=1:=by have:=eq_of_beq h;omega
     subst hb1'
     have hg0:1≤g:=by
      rcases Nat.eq_zero_or_pos g with e|e
      ·exfalso;rw [e,Nat.zero_mul] at hzv;omega
      ·exact e
     refine yI (oj hvvl (oj e3 (oj e4 (oj e5 (oj hne (oj hne2 @Nat.add_sub_cancel_left)))))) ?_
     have eg:(g:Int)-1=((g-1:Nat):Int):=by omega
     rw [eg]
     have hwl:(win us j zs).length=la+1:=by rw [win_length om,hul]
     have gf:=give_fh gu j (k+3) (win us j zs) zs v (win_of_win om hzl) om (win_lt huw hzw) hvvw om om
     rw [hwl] at gf
     refine aw_callh gf rfl rfl rfl (.refl _) (zL (oj hvvl (oj e3 (oj e4 (oj e5 (oj hne (oj hne2 @Nat.add_sub_cancel_left))))))) ?_
     rintro r h' ⟨cc,zs2,rfl,rfl,hzl2,hzw2,hzv2⟩ hfr
     have hzlt2:=val_lt zs2 hzw2
     rw [hzl2] at hzlt2
     have hVP:val v≤4294967296^(k+3):=by
      rw [Nat.pow_succ]
      omega
     obtain⟨d1,d2,d3,d4⟩:=digit_back hVpos hVP hg1 hg2 hzlt hzlt2 hzv hzv2
     rw [win_win om om,d4]
     have J8:=oj hvvl (oj e3 (oj e4 (oj e5 (oj hne (oj hne2 @Nat.add_sub_cancel_left)))))
     refine yS J8 ?_
     refine yI J8 ?_
     exact aw_stop ⟨zs2,(zB J8),zZ,hzl2,hzw2,d2,d3⟩
    ·have hb0:bb=0:=by
      have:¬((bb:Int)=1):=fun e=>by rw [e] at h;cases h
      omega
     subst hb0
     obtain⟨d1,d2,d3⟩:=digit_ok hVpos hg1 hg2 hzv
     subst d3
     have J9:=oj hvvl (oj e3 (oj e4 (oj e5 (oj hne (oj hne2 @Nat.add_sub_cancel_left)))))
     refine yI J9 ?_
     exact aw_stop ⟨zs,(zB J9),zZ,hzl,hzw,d1,d2⟩
   ·rintro zs ⟨hzl,hzw,hz1,hz2⟩
    refine yI (oj hvvl (oj e3 (oj e4 (oj e5 (oj hne (oj hne2 @Nat.add_sub_cancel_left)))))) ?_
    rw [wrap_u32_nat,Nat.mod_eq_of_lt hqd]
    have J10:=oj hvvl (oj e3 (oj e4 (oj e5 (oj hne (oj hne2 @Nat.add_sub_cancel_left)))))
    refine yW J10 ?_
    refine yS J10 ?_
    rw [updF_wf om]
    refine aw_perm (.swap _ _ []) ?_
    refine yI J10 ?_
    have hwv:val (win us j zs)=val (us.take j)+4294967296^j*val zs:=by
     rw [val_win om,hzl,w3,Nat.mul_zero,Nat.add_zero]
    have hds:=drop_set (zs:=qs) (i:=j) (v:=W/val v) om
    have hpw:4294967296^(j+1)=4294967296^j*4294967296:=Nat.pow_succ ..
    rw [hpw] at hA
    obtain⟨s1,s2⟩:=div_step (A:=a*2^n) w1 w2 hz1 hz2 hA rfl
    refine aw_stop ⟨(j,win us j zs,qs.set j (W/val v)),by dsimp only;omega,(zB (oj hvvl (oj e3 (oj e4 (oj e5 (oj hne (oj hne2 @Nat.add_sub_cancel_left))))))),zZ,by dsimp only;omega,by rw [win_length om];exact hul,win_lt huw hzw,by simpa using hql,set_lt hqw hqd,?_,?_⟩
    ·dsimp only;rw [hwv];exact s1
    ·dsimp only;rw [hwv,hds,val];exact s2
 ·have hm0:m=0:=dF hb
  subst hm0
  simp only [Nat.pow_zero,Nat.mul_one,Nat.one_mul,List.drop_zero] at hlt hA
  rw [hv1] at hlt hA
  obtain⟨hq,hr⟩:=div_end (Nat.pos_of_ne_zero h0) hlt hA
  have J11:=oj hne hne2
  refine yG J11 ?_
  refine aw_callq (trim_fa qs hqw om) rfl rfl rfl (by refine yS J11 ?_;exact .c (lec_oslws (zE J11) om om (fun j _=>by rw [Nat.zero_add];rfl))) ?_
  refine ySG J11 ?_
  refine aw_callq (right_fa us n huw om hn) rfl rfl rfl (by refine yS J11 ?_;exact⟨.c (lec_oslws (zE J11) om om (fun j _=>by rw [Nat.zero_add];rfl)),.c (.refl _)⟩) ?_
  refine ySG J11 ?_
  refine aw_callq (trim_fa (rgt n us) (rgt_lt n us) (by rw [rgt_length];omega)) rfl rfl rfl (zL J11) ?_
  refine ySG J11 ?_
  refine yT hC J11 ?_
  rw [rgt_val om us huw,hr,hq]
  exact .tup ⟨.c ler_ws,.c ler_ws,.c .nilI,trivial⟩
end Go.Proofs.YteocnikcjjonbaaGreat
namespace Go.Proofs.YteocnikcjjonbaaGreat
open Go.AI Go.PN
attribute [local irreducible] aw Fa Fh DrK
theorem gcd_fa (xs ys:List Nat) (hx:∀x∈xs,x<4294967296) (hy:∀x∈ys,x<4294967296) (hlx:xs.length≤68719476736) (hly:ys.length≤68719476736):
  Fa Tryz.prog 156 [.c (ws false xs),.c (ws false ys)] (.c (ws true (words (Nat.gcd (val xs) (val ys))))):=by
 refine fa_of_body Tryz.func156 rfl rfl (by simp [Tryz.ntmps156]) fun C hC=> ?_
 simp only [initS,Nat.reduceAdd]
 refine xG ?_
 refine aw_callq (trim_fa xs hx om) rfl rfl rfl eL ?_
 refine xSG ?_
 refine aw_callq (trim_fa ys hy om) rfl rfl rfl eL ?_
 refine xS ?_
 have hla:(words (val xs)).length≤68719476736:=Nat.le_trans (words_val_len xs hx) hlx
 have hlb:(words (val ys)).length≤68719476736:=Nat.le_trans (words_val_len ys hy) hly
 refine xI ?_
 apply aw_block
 refine aw_lp (fun x:Nat×Nat=>[(0,.c (ws true (words x.1))),(1,.c (ws true (words x.2)))]) (fun _=>[]) (fun x=>(words x.1).length≤68719476736∧(words x.2).length≤68719476736∧Nat.gcd x.1 x.2=Nat.gcd (val xs) (val ys)) (fun x=>x.2) (val xs,val ys) eB zZ ⟨hla,hlb,rfl⟩ ?_
 rintro ⟨a,b⟩ ⟨hla,hlb,hg⟩
 dsimp only at hla hlb hg⊢
 refine xG ?_
 refine aw_cond eE (fun hb=> ?_) (fun hb=> ?_)
 ·have hb0:b≠0:=fun e=>by have:=of_decide_eq_true hb;rw [e,words_zero] at this;simp at this
  refine xG ?_
  refine aw_callq (div_fa (words a) (words b) (words_lt a) (words_lt b) hla hlb (by rw [val_words];exact hb0)) rfl rfl rfl eL ?_
  rw [val_words,val_words]
  refine xSG ?_
  have hlt:a%b<b:=Nat.mod_lt _ (Nat.pos_of_ne_zero hb0)
  refine aw_stop ⟨(b,a%b),hlt,eB,zZ,hlb,Nat.le_trans (words_len_mono (Nat.le_of_lt hlt)) hlb,?_⟩
  dsimp only
  rw [←hg,Nat.gcd_comm a b,Nat.gcd_rec b a,Nat.gcd_comm]
 ·have hb0:b=0:=by
   have:=of_decide_eq_false hb
   exact words_eq_nil.1 (List.length_eq_zero_iff.1 om)
  subst hb0
  refine xGT hC ?_
  rw [←hg,Nat.gcd_zero_right]
  exact .one (.c ler_ws)
end Go.Proofs.YteocnikcjjonbaaGreat
namespace Go.PN
structure RD where
 neg:Bool
 num:List Nat
 den:List Nat
def RD.wf (r:RD) (L:Nat):Prop:=(∀x∈r.num,x<4294967296)∧(∀x∈r.den,x<4294967296)∧r.num.length≤L∧r.den.length≤L
def plainB (xs:List Nat):Bool:=decide (0<xs.length)&& !decide (xs.getD (xs.length-1) 0=0)
def RD.valid (r:RD):Bool:=if r.num.length=0∧r.den.length=0 then !r.neg else plainB r.num&&plainB r.den&&decide (Nat.gcd (val r.num) (val r.den)=1)
def RD.some (r:RD):Bool:=r.valid&&decide (r.num.length≠0)
def RD.pn (r:RD):Nat:=if r.some then val r.num else 0
def RD.pd (r:RD):Nat:=if r.some then val r.den else 1
def RD.ps (r:RD):Bool:=if r.some then r.neg else false
def sgn (neg:Bool) (n:Nat):Int:=if neg then-(n:Int) else n
def sq (neg:Bool) (n d:Nat):Rat:=mkRat (sgn neg n) d
def RD.q (r:RD):Rat:=sq r.ps r.pn r.pd
def rd (q:Rat):RD:=⟨decide (q.num<0),words q.num.natAbs,if q.num=0 then [] else words q.den⟩
theorem sgn_abs (b:Bool) (n:Nat):(sgn b n).natAbs=n:=by unfold sgn;cases b<;>simp
theorem sgn_neg (b:Bool) (n:Nat):sgn (!b) n= -sgn b n:=by unfold sgn;cases b<;>simp
theorem sgn_mul (a b:Bool) (n m:Nat):sgn (a !=b) (n*m)=sgn a n*sgn b m:=by unfold sgn;cases a<;>cases b<;>simp [Int.natCast_mul,Int.neg_mul,Int.mul_neg]
theorem mkRat_nd {n:Int} {d:Nat} (hd:d≠0):(mkRat n d).num=n/(n.natAbs.gcd d:Nat)∧(mkRat n d).den=d/n.natAbs.gcd d:=by
 rw [←Rat.normalize_eq_mkRat hd,Rat.normalize_eq]
 exact⟨rfl,rfl⟩
theorem plain_words {xs:List Nat} (hx:∀x∈xs,x<4294967296) (hp:plainB xs=true):words (val xs)=xs∧val xs≠0:=by
 simp only [plainB,Bool.and_eq_true,decide_eq_true_eq,Bool.not_eq_true',decide_eq_false_iff_not] at hp
 have h:=words_val hx (.inr hp.2)
 refine⟨h,fun e=> ?_⟩
 rw [e,words_zero] at h
 rw [←h] at hp
 simp at hp
theorem RD.some_spec {r:RD} {L:Nat} (hw:r.wf L) (hs:r.some=true):words (val r.num)=r.num∧words (val r.den)=r.den∧val r.num≠0∧val r.den≠0∧Nat.gcd (val r.num) (val r.den)=1:=by
 simp only [RD.some,Bool.and_eq_true,decide_eq_true_eq] at hs
 obtain⟨hv,hn⟩:=hs
 unfold RD.valid at hv
 rw [if_neg (fun h=>hn h.1)] at hv
 simp only [Bool.and_eq_true,decide_eq_true_eq] at hv
 obtain⟨⟨h1,h2⟩,h3⟩:=hv
 have p1:=plain_words hw.1 h1
 have p2:=plain_words hw.2.1 h2
 exact⟨p1.1,p2.1,p1.2,p2.2,h3⟩
theorem RD.pd_ne {r:RD} {L:Nat} (hw:r.wf L):r.pd≠0:=by
 unfold RD.pd
 split
 ·rename_i h;exact(RD.some_spec hw h).2.2.2.1
 ·simp
theorem words_one:words 1=[1]:=by rw [words_cons om];simp [words_zero]
theorem RD.pn_words {r:RD} {L:Nat} (hw:r.wf L) (hs:r.some=true):words r.pn=r.num∧words r.pd=r.den∧r.ps=r.neg:=by
 obtain⟨h1,h2,_⟩:=RD.some_spec hw hs
 unfold RD.pn RD.pd RD.ps
 simp only [hs,if_true]
 exact⟨h1,h2,trivial⟩
theorem RD.pn_none {r:RD} (hs:r.some=false):words r.pn=[]∧words r.pd=[1]∧r.ps=false:=by
 unfold RD.pn RD.pd RD.ps
 simp [hs,words_zero,words_one]
theorem RD.p_len {r:RD} {L:Nat} (hw:r.wf L) (hL:1≤L):(words r.pn).length≤L∧(words r.pd).length≤L:=by
 cases hs:r.some with
 |true=>obtain⟨h1,h2,_⟩:=RD.pn_words hw hs;rw [h1,h2];exact⟨hw.2.2.1,hw.2.2.2⟩
 |false=>obtain⟨h1,h2,_⟩:=RD.pn_none hs;rw [h1,h2];exact⟨by simp,by simpa using hL⟩
theorem rd_sq {neg:Bool} {n d:Nat} (hn:n≠0) (hd:d≠0):rd (sq neg n d)=⟨neg,words (n/Nat.gcd n d),words (d/Nat.gcd n d)⟩:=by
 obtain⟨h1,h2⟩:=mkRat_nd (n:=sgn neg n) hd
 rw [sgn_abs] at h1 h2
 have hg:0<Nat.gcd n d:=Nat.gcd_pos_of_pos_left _ (Nat.pos_of_ne_zero hn)
 have hdv:Nat.gcd n d∣n:=Nat.gcd_dvd_left n d
 have hq:0<n/Nat.gcd n d:=Nat.div_pos (Nat.le_of_dvd (Nat.pos_of_ne_zero hn) hdv) hg
 have hnum:(sq neg n d).num=sgn neg (n/Nat.gcd n d):=by
  unfold sq
  rw [h1]
  unfold sgn
  cases neg with
  |false=>simp
  |true=>
   simp only [if_true]
   rw [Int.neg_ediv_of_dvd (Int.ofNat_dvd.2 hdv)]
   simp
 unfold rd
 rw [hnum]
 have h0:sgn neg (n/Nat.gcd n d)≠0:=fun e=>by
  have:=congrArg Int.natAbs e
  rw [sgn_abs] at this
  rw [this] at hq
  simp at hq
 rw [if_neg h0,sgn_abs]
 have e2:(sq neg n d).den=d/Nat.gcd n d:=h2
 rw [e2]
 congr 1
 generalize n/Nat.gcd n d=m at hq
 unfold sgn
 cases neg with
 |false=>simp
 |true=>simp;omega
theorem rd_zero:rd 0=⟨false,[],[]⟩:=by simp [rd,words_zero]
theorem sq_zero (neg:Bool) (d:Nat):sq neg 0 d=0:=by unfold sq sgn;cases neg<;>simp [Rat.zero_mkRat]
theorem plainB_words {n:Nat} (h:n≠0):plainB (words n)=true:=by
 have hp:=(words_plain n).resolve_left (fun e=>h (words_eq_nil.1 e))
 have hl:(words n).length≠0:=fun e=>h (words_eq_nil.1 (List.length_eq_zero_iff.1 e))
 simp only [plainB,Bool.and_eq_true,decide_eq_true_eq,Bool.not_eq_true',decide_eq_false_iff_not]
 exact⟨by omega,hp⟩
theorem rd_some {q:Rat} (h:q≠0):(rd q).some=true∧(rd q).valid=true:=by
 have hn:q.num≠0:=fun e=>h (Rat.num_eq_zero.1 e)
 have hl:(words q.num.natAbs).length≠0:=fun e=>hn (by have:=words_eq_nil.1 (List.length_eq_zero_iff.1 e);omega)
 have hv:(rd q).valid=true:=by
  unfold RD.valid rd
  simp only [hn,if_false]
  rw [if_neg (fun x=>hl x.1),plainB_words om,plainB_words q.den_nz,val_words,val_words]
  have:=q.reduced
  simp only [Bool.and_self,Bool.true_and,decide_eq_true_eq]
  exact this
 refine⟨?_,hv⟩
 unfold RD.some
 rw [hv]
 simp only [Bool.true_and,decide_eq_true_eq]
 exact hl
theorem rd_q (q:Rat):(rd q).q=q:=by
 by_cases h:q=0
 ·subst h
  rw [rd_zero]
  rfl
 ·obtain⟨h1,_⟩:=rd_some h
  have hn:q.num≠0:=fun e=>h (Rat.num_eq_zero.1 e)
  have e:(rd q).q=sq (decide (q.num<0)) q.num.natAbs q.den:=by
   unfold RD.q RD.ps RD.pn RD.pd
   rw [h1]
   simp only [if_true]
   unfold rd
   simp only [hn,if_false,val_words]
  rw [e]
  unfold sq
  have:sgn (decide (q.num<0)) q.num.natAbs=q.num:=by
   unfold sgn
   split
   ·rename_i hlt;simp only [decide_eq_true_eq] at hlt;omega
   ·rename_i hlt;simp only [decide_eq_true_eq] at hlt;omega
  rw [this]
  exact Rat.mkRat_self q
def fits (q:Rat) (L:Nat):Prop:=q.num.natAbs<4294967296^L∧q.den<4294967296^L
theorem fits_mono {q:Rat} {L M:Nat} (h:fits q L) (hm:L≤M):fits q M:=
 ⟨Nat.lt_of_lt_of_le h.1 (Nat.pow_le_pow_right om hm),Nat.lt_of_lt_of_le h.2 (Nat.pow_le_pow_right om hm)⟩
theorem rd_wf {q:Rat} {L:Nat} (h:fits q L):(rd q).wf L:=by
 refine⟨words_lt _,?_,words_len_le h.1,?_⟩
 ·unfold rd
  simp only
  split
  ·simp
  ·exact words_lt _
 ·unfold rd
  simp only
  split
  ·simp
  ·exact words_len_le h.2
theorem fits_sq {neg:Bool} {n d L:Nat} (hd:d≠0) (h1:n<4294967296^L) (h2:d<4294967296^L):fits (sq neg n d) L:=by
 obtain⟨e1,e2⟩:=mkRat_nd (n:=sgn neg n) hd
 rw [sgn_abs] at e1 e2
 unfold fits sq
 rw [e1,e2]
 refine⟨Nat.lt_of_le_of_lt ?_ h1,Nat.lt_of_le_of_lt (Nat.div_le_self _ _) h2⟩
 have:=Int.natAbs_ediv_le_natAbs (sgn neg n) ((Nat.gcd n d:Nat):Int)
 rw [sgn_abs] at this
 exact this
theorem RD.fits {r:RD} {L:Nat} (hw:r.wf L) (hL:1≤L):fits r.q L:=by
 obtain⟨h1,h2⟩:=RD.p_len hw hL
 have hp:=RD.pd_ne hw
 exact fits_sq hp (Nat.lt_of_lt_of_le (words_pow_lt _) (Nat.pow_le_pow_right om h1)) (Nat.lt_of_lt_of_le (words_pow_lt _) (Nat.pow_le_pow_right om h2))
theorem norm_le {n:Int} {d L:Nat} (hd:d≠0) (h1:n.natAbs<4294967296^L) (h2:d<4294967296^L):PN.fits (mkRat n d) L:=by
 obtain⟨e1,e2⟩:=mkRat_nd (n:=n) hd
 unfold PN.fits
 rw [e1,e2]
 exact⟨Nat.lt_of_le_of_lt (Int.natAbs_ediv_le_natAbs _ _) h1,Nat.lt_of_le_of_lt (Nat.div_le_self _ _) h2⟩
theorem pow_mul_lt {a b L M:Nat} (h1:a<4294967296^L) (h2:b<4294967296^M):a*b<4294967296^(L+M):=by
 rw [Nat.pow_add]
 exact Nat.mul_lt_mul'' h1 h2
theorem fits_mul {a b:Rat} {L M:Nat} (ha:PN.fits a L) (hb:PN.fits b M):PN.fits (a*b) (L+M):=by
 rw [Rat.mul_def,Rat.normalize_eq_mkRat]
 refine norm_le (Nat.mul_ne_zero a.den_nz b.den_nz) ?_ (pow_mul_lt ha.2 hb.2)
 rw [Int.natAbs_mul]
 exact pow_mul_lt ha.1 hb.1
theorem sq_add_same (x:Bool) {n m d e:Nat} (hd:d≠0) (he:e≠0):sq x (n*e+m*d) (d*e)=sq x n d+sq x m e:=by
 unfold sq
 rw [Rat.mkRat_add_mkRat _ _ hd he]
 congr 1
 unfold sgn
 cases x<;>simp [Int.natCast_mul,Int.neg_add,Int.neg_mul]
theorem sq_add_ge (x:Bool) {n m d e:Nat} (hd:d≠0) (he:e≠0) (h:m*d≤n*e):sq x (n*e-m*d) (d*e)=sq x n d+sq (!x) m e:=by
 unfold sq
 rw [Rat.mkRat_add_mkRat _ _ hd he,sgn_neg]
 congr 1
 unfold sgn
 cases x
 ·simp only [Bool.false_eq_true,if_false]
  rw [Int.ofNat_sub h,Int.natCast_mul,Int.natCast_mul,Int.neg_mul];omega
 ·simp only [if_true]
  rw [Int.ofNat_sub h,Int.natCast_mul,Int.natCast_mul,Int.neg_neg,Int.neg_mul];omega
theorem sq_add_lt (x:Bool) {n m d e:Nat} (hd:d≠0) (he:e≠0) (h:n*e≤m*d):sq (!x) (m*d-n*e) (d*e)=sq x n d+sq (!x) m e:=by
 have:=sq_add_ge (!x) (n:=m) (m:=n) (d:=e) (e:=d) he hd h
 rw [Bool.not_not,Nat.mul_comm e d] at this
 rw [this]
 exact Rat.add_comm _ _
theorem sq_mul (x y:Bool) (n m d e:Nat):sq (x !=y) (n*m) (d*e)=sq x n d*sq y m e:=by
 unfold sq
 rw [Rat.mkRat_mul_mkRat,sgn_mul]
def signQ (q:Rat):Int:=if q=0 then 0 else if q<0 then-1 else 1
theorem sq_ne {neg:Bool} {n d:Nat} (hn:n≠0) (hd:d≠0):sq neg n d≠0:=by
 unfold sq
 rw [Ne,Rat.mkRat_eq_zero hd]
 intro e
 have:=congrArg Int.natAbs e
 rw [sgn_abs] at this
 simp at this
 exact hn this
theorem sq_lt {neg:Bool} {n d:Nat} (hn:n≠0) (hd:d≠0):sq neg n d<0↔neg=true:=by
 have h:=rd_sq (neg:=neg) hn hd
 have h1:decide ((sq neg n d).num<0)=neg:=congrArg RD.neg h
 have h2:sq neg n d<0↔(sq neg n d).num<0:=by rw [Rat.lt_iff];simp
 rw [h2]
 constructor
 ·intro h3;rw [←h1];simpa using h3
 ·intro h3;rw [h3] at h1;rw [h3];simpa using h1
end Go.PN
namespace Go.Proofs.YteocnikcjjonbaaGreat
open Go.AI
@[go_sem] theorem tya_s_2:tSz Tryz.prog 2=some (false,1):=by kernel_rfl
@[go_sem] theorem tya_zi_2:tZI Tryz.prog 2=some (.i64,0):=by kernel_rfl
@[go_sem] theorem tya_i_2:tInt Tryz.prog 2=some .i64:=by kernel_rfl
@[go_sem] theorem tya_z_2:tZero Tryz.prog 2=some [.int .i64 0]:=by kernel_rfl
@[go_sem] theorem tya_s_3:tSz Tryz.prog 3=some (false,1):=by kernel_rfl
@[go_sem] theorem tya_zi_3:tZI Tryz.prog 3=some (.i64,0):=by kernel_rfl
@[go_sem] theorem tya_i_3:tInt Tryz.prog 3=some .i64:=by kernel_rfl
@[go_sem] theorem tya_z_3:tZero Tryz.prog 3=some [.int .i64 0]:=by kernel_rfl
@[go_sem] theorem tya_s_4:tSz Tryz.prog 4=some (false,1):=by kernel_rfl
@[go_sem] theorem tya_b_4:tBool Tryz.prog 4=true:=by kernel_rfl
@[go_sem] theorem tya_z_4:tZero Tryz.prog 4=some [.bool false]:=by kernel_rfl
@[go_sem] theorem tya_s_5:tSz Tryz.prog 5=some (false,1):=by kernel_rfl
@[go_sem] theorem tya_zi_5:tZI Tryz.prog 5=some (.u8,0):=by kernel_rfl
@[go_sem] theorem tya_i_5:tInt Tryz.prog 5=some .u8:=by kernel_rfl
@[go_sem] theorem tya_z_5:tZero Tryz.prog 5=some [.int .u8 0]:=by kernel_rfl
@[go_sem] theorem tya_s_6:tSz Tryz.prog 6=some (false,1):=by kernel_rfl
@[go_sem] theorem tya_zi_6:tZI Tryz.prog 6=some (.u8,0):=by kernel_rfl
@[go_sem] theorem tya_i_6:tInt Tryz.prog 6=some .u8:=by kernel_rfl
@[go_sem] theorem tya_z_6:tZero Tryz.prog 6=some [.int .u8 0]:=by kernel_rfl
@[go_sem] theorem tya_s_7:tSz Tryz.prog 7=some (true,4):=by kernel_rfl
@[go_sem] theorem tya_fl_7:tFlds Tryz.prog 7=some [(0,1),(1,1),(2,1),(3,1)]:=by kernel_rfl
@[go_sem] theorem tya_f0_7:tFld Tryz.prog 7 0=some 0:=by kernel_rfl
@[go_sem] theorem tya_f1_7:tFld Tryz.prog 7 1=some 1:=by kernel_rfl
@[go_sem] theorem tya_f2_7:tFld Tryz.prog 7 2=some 2:=by kernel_rfl
@[go_sem] theorem tya_f3_7:tFld Tryz.prog 7 3=some 3:=by kernel_rfl
@[go_sem] theorem tya_z_7:tZero Tryz.prog 7=some [.int .i64 0,.int .i64 0,.bool false,.int .u8 0]:=by kernel_rfl
@[go_sem] theorem tya_s_8:tSz Tryz.prog 8=some (true,4):=by kernel_rfl
@[go_sem] theorem tya_fl_8:tFlds Tryz.prog 8=some [(0,1),(1,1),(2,1),(3,1)]:=by kernel_rfl
@[go_sem] theorem tya_f0_8:tFld Tryz.prog 8 0=some 0:=by kernel_rfl
@[go_sem] theorem tya_f1_8:tFld Tryz.prog 8 1=some 1:=by kernel_rfl
@[go_sem] theorem tya_f2_8:tFld Tryz.prog 8 2=some 2:=by kernel_rfl
@[go_sem] theorem tya_f3_8:tFld Tryz.prog 8 3=some 3:=by kernel_rfl
@[go_sem] theorem tya_z_8:tZero Tryz.prog 8=some [.int .i64 0,.int .i64 0,.bool false,.int .u8 0]:=by kernel_rfl
@[go_sem] theorem tya_s_9:tSz Tryz.prog 9=some (false,1):=by kernel_rfl
@[go_sem] theorem tya_st_9:tStr Tryz.prog 9=true:=by kernel_rfl
@[go_sem] theorem tya_z_9:tZero Tryz.prog 9=some [.str ⟨#[]⟩]:=by kernel_rfl
@[go_sem] theorem tya_s_10:tSz Tryz.prog 10=some (false,1):=by kernel_rfl
@[go_sem] theorem tya_st_10:tStr Tryz.prog 10=true:=by kernel_rfl
@[go_sem] theorem tya_z_10:tZero Tryz.prog 10=some [.str ⟨#[]⟩]:=by kernel_rfl
@[go_sem] theorem tya_s_11:tSz Tryz.prog 11=some (false,1):=by kernel_rfl
@[go_sem] theorem tya_st_11:tStr Tryz.prog 11=true:=by kernel_rfl
@[go_sem] theorem tya_z_11:tZero Tryz.prog 11=some [.str ⟨#[]⟩]:=by kernel_rfl
@[go_sem] theorem tya_s_12:tSz Tryz.prog 12=some (false,1):=by kernel_rfl
@[go_sem] theorem tya_zi_12:tZI Tryz.prog 12=some (.u64,0):=by kernel_rfl
@[go_sem] theorem tya_i_12:tInt Tryz.prog 12=some .u64:=by kernel_rfl
@[go_sem] theorem tya_z_12:tZero Tryz.prog 12=some [.int .u64 0]:=by kernel_rfl
@[go_sem] theorem tya_s_13:tSz Tryz.prog 13=some (true,2):=by kernel_rfl
@[go_sem] theorem tya_fl_13:tFlds Tryz.prog 13=some [(0,1),(1,1)]:=by kernel_rfl
@[go_sem] theorem tya_f0_13:tFld Tryz.prog 13 0=some 0:=by kernel_rfl
@[go_sem] theorem tya_f1_13:tFld Tryz.prog 13 1=some 1:=by kernel_rfl
@[go_sem] theorem tya_z_13:tZero Tryz.prog 13=some [.str ⟨#[]⟩,.int .u64 0]:=by kernel_rfl
@[go_sem] theorem tya_s_14:tSz Tryz.prog 14=some (true,2):=by kernel_rfl
@[go_sem] theorem tya_fl_14:tFlds Tryz.prog 14=some [(0,1),(1,1)]:=by kernel_rfl
@[go_sem] theorem tya_f0_14:tFld Tryz.prog 14 0=some 0:=by kernel_rfl
@[go_sem] theorem tya_f1_14:tFld Tryz.prog 14 1=some 1:=by kernel_rfl
@[go_sem] theorem tya_z_14:tZero Tryz.prog 14=some [.str ⟨#[]⟩,.int .u64 0]:=by kernel_rfl
@[go_sem] theorem tya_s_15:tSz Tryz.prog 15=some (false,1):=by kernel_rfl
@[go_sem] theorem tya_z_15:tZero Tryz.prog 15=some [.raw (.pointer none)]:=by kernel_rfl
@[go_sem] theorem tya_s_16:tSz Tryz.prog 16=some (false,1):=by kernel_rfl
@[go_sem] theorem tya_z_16:tZero Tryz.prog 16=some [.raw (.pointer none)]:=by kernel_rfl
@[go_sem] theorem tya_s_17:tSz Tryz.prog 17=some (false,1):=by kernel_rfl
@[go_sem] theorem tya_z_17:tZero Tryz.prog 17=some [.raw (.pointer none)]:=by kernel_rfl
@[go_sem] theorem tya_s_18:tSz Tryz.prog 18=some (true,1):=by kernel_rfl
@[go_sem] theorem tya_fl_18:tFlds Tryz.prog 18=some [(0,1)]:=by kernel_rfl
@[go_sem] theorem tya_f0_18:tFld Tryz.prog 18 0=some 0:=by kernel_rfl
@[go_sem] theorem tya_z_18:tZero Tryz.prog 18=some [.raw (.pointer none)]:=by kernel_rfl
@[go_sem] theorem tya_s_19:tSz Tryz.prog 19=some (true,1):=by kernel_rfl
@[go_sem] theorem tya_fl_19:tFlds Tryz.prog 19=some [(0,1)]:=by kernel_rfl
@[go_sem] theorem tya_f0_19:tFld Tryz.prog 19 0=some 0:=by kernel_rfl
@[go_sem] theorem tya_z_19:tZero Tryz.prog 19=some [.raw (.pointer none)]:=by kernel_rfl
@[go_sem] theorem tya_s_20:tSz Tryz.prog 20=some (false,1):=by kernel_rfl
@[go_sem] theorem tya_c_20:tIfc Tryz.prog 20=true:=by kernel_rfl
@[go_sem] theorem tya_z_20:tZero Tryz.prog 20=some [.nilI]:=by kernel_rfl
@[go_sem] theorem tya_s_21:tSz Tryz.prog 21=some (false,1):=by kernel_rfl
@[go_sem] theorem tya_zi_21:tZI Tryz.prog 21=some (.i32,0):=by kernel_rfl
@[go_sem] theorem tya_i_21:tInt Tryz.prog 21=some .i32:=by kernel_rfl
@[go_sem] theorem tya_z_21:tZero Tryz.prog 21=some [.int .i32 0]:=by kernel_rfl
@[go_sem] theorem tya_e_23:tElem Tryz.prog 23=some (61,11,192):=by kernel_rfl
@[go_sem] theorem tya_s_23:tSz Tryz.prog 23=some (false,1):=by kernel_rfl
@[go_sem] theorem tya_z_23:tZero Tryz.prog 23=some [.nils]:=by kernel_rfl
@[go_sem] theorem tya_e_24:tElem Tryz.prog 24=some (125,2,24):=by kernel_rfl
@[go_sem] theorem tya_s_24:tSz Tryz.prog 24=some (false,1):=by kernel_rfl
@[go_sem] theorem tya_z_24:tZero Tryz.prog 24=some [.nils]:=by kernel_rfl
@[go_sem] theorem tya_e_25:tElem Tryz.prog 25=some (65,7,112):=by kernel_rfl
@[go_sem] theorem tya_s_25:tSz Tryz.prog 25=some (false,1):=by kernel_rfl
@[go_sem] theorem tya_z_25:tZero Tryz.prog 25=some [.nils]:=by kernel_rfl
@[go_sem] theorem tya_e_26:tElem Tryz.prog 26=some (128,3,56):=by kernel_rfl
@[go_sem] theorem tya_s_26:tSz Tryz.prog 26=some (false,1):=by kernel_rfl
@[go_sem] theorem tya_z_26:tZero Tryz.prog 26=some [.nils]:=by kernel_rfl
@[go_sem] theorem tya_e_27:tElem Tryz.prog 27=some (100,4,72):=by kernel_rfl
@[go_sem] theorem tya_s_27:tSz Tryz.prog 27=some (false,1):=by kernel_rfl
@[go_sem] theorem tya_z_27:tZero Tryz.prog 27=some [.nils]:=by kernel_rfl
@[go_sem] theorem tya_e_28:tElem Tryz.prog 28=some (104,3,56):=by kernel_rfl
@[go_sem] theorem tya_s_28:tSz Tryz.prog 28=some (false,1):=by kernel_rfl
@[go_sem] theorem tya_z_28:tZero Tryz.prog 28=some [.nils]:=by kernel_rfl
@[go_sem] theorem tya_s_29:tSz Tryz.prog 29=some (true,8):=by kernel_rfl
@[go_sem] theorem tya_fl_29:tFlds Tryz.prog 29=some [(0,1),(1,1),(2,1),(3,1),(4,1),(5,1),(6,1),(7,1)]:=by kernel_rfl
@[go_sem] theorem tya_f0_29:tFld Tryz.prog 29 0=some 0:=by kernel_rfl
@[go_sem] theorem tya_f1_29:tFld Tryz.prog 29 1=some 1:=by kernel_rfl
@[go_sem] theorem tya_f2_29:tFld Tryz.prog 29 2=some 2:=by kernel_rfl
@[go_sem] theorem tya_f3_29:tFld Tryz.prog 29 3=some 3:=by kernel_rfl
@[go_sem] theorem tya_f4_29:tFld Tryz.prog 29 4=some 4:=by kernel_rfl
@[go_sem] theorem tya_f5_29:tFld Tryz.prog 29 5=some 5:=by kernel_rfl
@[go_sem] theorem tya_f6_29:tFld Tryz.prog 29 6=some 6:=by kernel_rfl
@[go_sem] theorem tya_f7_29:tFld Tryz.prog 29 7=some 7:=by kernel_rfl
@[go_sem] theorem tya_z_29:tZero Tryz.prog 29=some [.str ⟨#[]⟩,.str ⟨#[]⟩,.nils,.nils,.nils,.nils,.nils,.nils]:=by kernel_rfl
@[go_sem] theorem tya_s_30:tSz Tryz.prog 30=some (true,8):=by kernel_rfl
@[go_sem] theorem tya_fl_30:tFlds Tryz.prog 30=some [(0,1),(1,1),(2,1),(3,1),(4,1),(5,1),(6,1),(7,1)]:=by kernel_rfl
@[go_sem] theorem tya_f0_30:tFld Tryz.prog 30 0=some 0:=by kernel_rfl
@[go_sem] theorem tya_f1_30:tFld Tryz.prog 30 1=some 1:=by kernel_rfl
@[go_sem] theorem tya_f2_30:tFld Tryz.prog 30 2=some 2:=by kernel_rfl
@[go_sem] theorem tya_f3_30:tFld Tryz.prog 30 3=some 3:=by kernel_rfl
@[go_sem] theorem tya_f4_30:tFld Tryz.prog 30 4=some 4:=by kernel_rfl
@[go_sem] theorem tya_f5_30:tFld Tryz.prog 30 5=some 5:=by kernel_rfl
@[go_sem] theorem tya_f6_30:tFld Tryz.prog 30 6=some 6:=by kernel_rfl
@[go_sem] theorem tya_f7_30:tFld Tryz.prog 30 7=some 7:=by kernel_rfl
@[go_sem] theorem tya_z_30:tZero Tryz.prog 30=some [.str ⟨#[]⟩,.str ⟨#[]⟩,.nils,.nils,.nils,.nils,.nils,.nils]:=by kernel_rfl
@[go_sem] theorem tya_s_31:tSz Tryz.prog 31=some (false,1):=by kernel_rfl
@[go_sem] theorem tya_c_31:tIfc Tryz.prog 31=true:=by kernel_rfl
@[go_sem] theorem tya_z_31:tZero Tryz.prog 31=some [.nilI]:=by kernel_rfl
@[go_sem] theorem tya_s_32:tSz Tryz.prog 32=some (false,1):=by kernel_rfl
@[go_sem] theorem tya_c_32:tIfc Tryz.prog 32=true:=by kernel_rfl
@[go_sem] theorem tya_z_32:tZero Tryz.prog 32=some [.nilI]:=by kernel_rfl
@[go_sem] theorem tya_e_41:tElem Tryz.prog 41=some (45,5,48):=by kernel_rfl
@[go_sem] theorem tya_s_41:tSz Tryz.prog 41=some (false,1):=by kernel_rfl
@[go_sem] theorem tya_z_41:tZero Tryz.prog 41=some [.nils]:=by kernel_rfl
@[go_sem] theorem tya_s_44:tSz Tryz.prog 44=some (true,5):=by kernel_rfl
@[go_sem] theorem tya_fl_44:tFlds Tryz.prog 44=some [(0,1),(1,1),(2,1),(3,1),(4,1)]:=by kernel_rfl
@[go_sem] theorem tya_f0_44:tFld Tryz.prog 44 0=some 0:=by kernel_rfl
@[go_sem] theorem tya_f1_44:tFld Tryz.prog 44 1=some 1:=by kernel_rfl
@[go_sem] theorem tya_f2_44:tFld Tryz.prog 44 2=some 2:=by kernel_rfl
@[go_sem] theorem tya_f3_44:tFld Tryz.prog 44 3=some 3:=by kernel_rfl
@[go_sem] theorem tya_f4_44:tFld Tryz.prog 44 4=some 4:=by kernel_rfl
@[go_sem] theorem tya_z_44:tZero Tryz.prog 44=some [.int .i64 0,.str ⟨#[]⟩,.int .i64 0,.int .i64 0,.int .i64 0]:=by kernel_rfl
@[go_sem] theorem tya_s_45:tSz Tryz.prog 45=some (true,5):=by kernel_rfl
@[go_sem] theorem tya_fl_45:tFlds Tryz.prog 45=some [(0,1),(1,1),(2,1),(3,1),(4,1)]:=by kernel_rfl
@[go_sem] theorem tya_f0_45:tFld Tryz.prog 45 0=some 0:=by kernel_rfl
@[go_sem] theorem tya_f1_45:tFld Tryz.prog 45 1=some 1:=by kernel_rfl
@[go_sem] theorem tya_f2_45:tFld Tryz.prog 45 2=some 2:=by kernel_rfl
@[go_sem] theorem tya_f3_45:tFld Tryz.prog 45 3=some 3:=by kernel_rfl
@[go_sem] theorem tya_f4_45:tFld Tryz.prog 45 4=some 4:=by kernel_rfl
@[go_sem] theorem tya_z_45:tZero Tryz.prog 45=some [.int .i64 0,.str ⟨#[]⟩,.int .i64 0,.int .i64 0,.int .i64 0]:=by kernel_rfl
@[go_sem] theorem tya_e_46:tElem Tryz.prog 46=some (5,1,1):=by kernel_rfl
@[go_sem] theorem tya_s_46:tSz Tryz.prog 46=some (false,1):=by kernel_rfl
@[go_sem] theorem tya_z_46:tZero Tryz.prog 46=some [.nils]:=by kernel_rfl
@[go_sem] theorem tya_s_47:tSz Tryz.prog 47=some (false,1):=by kernel_rfl
@[go_sem] theorem tya_zi_47:tZI Tryz.prog 47=some (.u16,0):=by kernel_rfl
@[go_sem] theorem tya_i_47:tInt Tryz.prog 47=some .u16:=by kernel_rfl
@[go_sem] theorem tya_z_47:tZero Tryz.prog 47=some [.int .u16 0]:=by kernel_rfl
@[go_sem] theorem tya_e_49:tElem Tryz.prog 49=some (9,1,16):=by kernel_rfl
@[go_sem] theorem tya_s_49:tSz Tryz.prog 49=some (false,1):=by kernel_rfl
@[go_sem] theorem tya_z_49:tZero Tryz.prog 49=some [.nils]:=by kernel_rfl
@[go_sem] theorem tya_s_51:tSz Tryz.prog 51=some (false,1):=by kernel_rfl
@[go_sem] theorem tya_zi_51:tZI Tryz.prog 51=some (.i64,0):=by kernel_rfl
@[go_sem] theorem tya_i_51:tInt Tryz.prog 51=some .i64:=by kernel_rfl
@[go_sem] theorem tya_z_51:tZero Tryz.prog 51=some [.int .i64 0]:=by kernel_rfl
@[go_sem] theorem tya_e_53:tElem Tryz.prog 53=some (47,1,2):=by kernel_rfl
@[go_sem] theorem tya_s_53:tSz Tryz.prog 53=some (false,1):=by kernel_rfl
@[go_sem] theorem tya_z_53:tZero Tryz.prog 53=some [.nils]:=by kernel_rfl
@[go_sem] theorem tya_e_54:tElem Tryz.prog 54=some (3,1,8):=by kernel_rfl
@[go_sem] theorem tya_s_54:tSz Tryz.prog 54=some (false,1):=by kernel_rfl
@[go_sem] theorem tya_z_54:tZero Tryz.prog 54=some [.nils]:=by kernel_rfl
@[go_sem] theorem tya_s_55:tSz Tryz.prog 55=some (true,256):=by kernel_rfl
@[go_sem] theorem tya_e_57:tElem Tryz.prog 57=some (166,1,4):=by kernel_rfl
@[go_sem] theorem tya_s_57:tSz Tryz.prog 57=some (false,1):=by kernel_rfl
@[go_sem] theorem tya_z_57:tZero Tryz.prog 57=some [.nils]:=by kernel_rfl
@[go_sem] theorem tya_s_58:tSz Tryz.prog 58=some (true,3):=by kernel_rfl
@[go_sem] theorem tya_fl_58:tFlds Tryz.prog 58=some [(0,1),(1,1),(2,1)]:=by kernel_rfl
@[go_sem] theorem tya_f0_58:tFld Tryz.prog 58 0=some 0:=by kernel_rfl
@[go_sem] theorem tya_f1_58:tFld Tryz.prog 58 1=some 1:=by kernel_rfl
@[go_sem] theorem tya_f2_58:tFld Tryz.prog 58 2=some 2:=by kernel_rfl
@[go_sem] theorem tya_z_58:tZero Tryz.prog 58=some [.bool false,.nils,.nils]:=by kernel_rfl
@[go_sem] theorem tya_s_59:tSz Tryz.prog 59=some (true,3):=by kernel_rfl
@[go_sem] theorem tya_fl_59:tFlds Tryz.prog 59=some [(0,1),(1,1),(2,1)]:=by kernel_rfl
@[go_sem] theorem tya_f0_59:tFld Tryz.prog 59 0=some 0:=by kernel_rfl
@[go_sem] theorem tya_f1_59:tFld Tryz.prog 59 1=some 1:=by kernel_rfl
@[go_sem] theorem tya_f2_59:tFld Tryz.prog 59 2=some 2:=by kernel_rfl
@[go_sem] theorem tya_z_59:tZero Tryz.prog 59=some [.bool false,.nils,.nils]:=by kernel_rfl
@[go_sem] theorem tya_s_60:tSz Tryz.prog 60=some (true,11):=by kernel_rfl
@[go_sem] theorem tya_fl_60:tFlds Tryz.prog 60=some [(0,1),(1,3),(4,3),(7,3),(10,1)]:=by kernel_rfl
@[go_sem] theorem tya_f0_60:tFld Tryz.prog 60 0=some 0:=by kernel_rfl
@[go_sem] theorem tya_f1_60:tFld Tryz.prog 60 1=some 1:=by kernel_rfl
@[go_sem] theorem tya_f2_60:tFld Tryz.prog 60 2=some 4:=by kernel_rfl
@[go_sem] theorem tya_f3_60:tFld Tryz.prog 60 3=some 7:=by kernel_rfl
@[go_sem] theorem tya_f4_60:tFld Tryz.prog 60 4=some 10:=by kernel_rfl
@[go_sem] theorem tya_z_60:tZero Tryz.prog 60=some [.str ⟨#[]⟩,.bool false,.nils,.nils,.bool false,.nils,.nils,.bool false,.nils,.nils,.int .i64 0]:=by kernel_rfl
@[go_sem] theorem tya_s_61:tSz Tryz.prog 61=some (true,11):=by kernel_rfl
@[go_sem] theorem tya_fl_61:tFlds Tryz.prog 61=some [(0,1),(1,3),(4,3),(7,3),(10,1)]:=by kernel_rfl
@[go_sem] theorem tya_f0_61:tFld Tryz.prog 61 0=some 0:=by kernel_rfl
@[go_sem] theorem tya_f1_61:tFld Tryz.prog 61 1=some 1:=by kernel_rfl
@[go_sem] theorem tya_f2_61:tFld Tryz.prog 61 2=some 4:=by kernel_rfl
@[go_sem] theorem tya_f3_61:tFld Tryz.prog 61 3=some 7:=by kernel_rfl
@[go_sem] theorem tya_f4_61:tFld Tryz.prog 61 4=some 10:=by kernel_rfl
@[go_sem] theorem tya_z_61:tZero Tryz.prog 61=some [.str ⟨#[]⟩,.bool false,.nils,.nils,.bool false,.nils,.nils,.bool false,.nils,.nils,.int .i64 0]:=by kernel_rfl
@[go_sem] theorem tya_s_64:tSz Tryz.prog 64=some (true,7):=by kernel_rfl
@[go_sem] theorem tya_fl_64:tFlds Tryz.prog 64=some [(0,1),(1,1),(2,1),(3,1),(4,3)]:=by kernel_rfl
@[go_sem] theorem tya_f0_64:tFld Tryz.prog 64 0=some 0:=by kernel_rfl
@[go_sem] theorem tya_f1_64:tFld Tryz.prog 64 1=some 1:=by kernel_rfl
@[go_sem] theorem tya_f2_64:tFld Tryz.prog 64 2=some 2:=by kernel_rfl
@[go_sem] theorem tya_f3_64:tFld Tryz.prog 64 3=some 3:=by kernel_rfl
@[go_sem] theorem tya_f4_64:tFld Tryz.prog 64 4=some 4:=by kernel_rfl
@[go_sem] theorem tya_z_64:tZero Tryz.prog 64=some [.str ⟨#[]⟩,.int .i64 0,.int .i64 0,.nils,.bool false,.nils,.nils]:=by kernel_rfl
@[go_sem] theorem tya_s_65:tSz Tryz.prog 65=some (true,7):=by kernel_rfl
@[go_sem] theorem tya_fl_65:tFlds Tryz.prog 65=some [(0,1),(1,1),(2,1),(3,1),(4,3)]:=by kernel_rfl
@[go_sem] theorem tya_f0_65:tFld Tryz.prog 65 0=some 0:=by kernel_rfl
@[go_sem] theorem tya_f1_65:tFld Tryz.prog 65 1=some 1:=by kernel_rfl
@[go_sem] theorem tya_f2_65:tFld Tryz.prog 65 2=some 2:=by kernel_rfl
@[go_sem] theorem tya_f3_65:tFld Tryz.prog 65 3=some 3:=by kernel_rfl
@[go_sem] theorem tya_f4_65:tFld Tryz.prog 65 4=some 4:=by kernel_rfl
@[go_sem] theorem tya_z_65:tZero Tryz.prog 65=some [.str ⟨#[]⟩,.int .i64 0,.int .i64 0,.nils,.bool false,.nils,.nils]:=by kernel_rfl
@[go_sem] theorem tya_s_76:tSz Tryz.prog 76=some (false,1):=by kernel_rfl
@[go_sem] theorem tya_z_76:tZero Tryz.prog 76=some [.raw (.pointer none)]:=by kernel_rfl
@[go_sem] theorem tya_s_81:tSz Tryz.prog 81=some (true,3):=by kernel_rfl
@[go_sem] theorem tya_fl_81:tFlds Tryz.prog 81=some [(0,1),(1,1),(2,1)]:=by kernel_rfl
@[go_sem] theorem tya_f0_81:tFld Tryz.prog 81 0=some 0:=by kernel_rfl
@[go_sem] theorem tya_f1_81:tFld Tryz.prog 81 1=some 1:=by kernel_rfl
@[go_sem] theorem tya_f2_81:tFld Tryz.prog 81 2=some 2:=by kernel_rfl
@[go_sem] theorem tya_z_81:tZero Tryz.prog 81=some [.nils,.int .i64 0,.nilI]:=by kernel_rfl
@[go_sem] theorem tya_s_82:tSz Tryz.prog 82=some (true,3):=by kernel_rfl
@[go_sem] theorem tya_fl_82:tFlds Tryz.prog 82=some [(0,1),(1,1),(2,1)]:=by kernel_rfl
@[go_sem] theorem tya_f0_82:tFld Tryz.prog 82 0=some 0:=by kernel_rfl
@[go_sem] theorem tya_f1_82:tFld Tryz.prog 82 1=some 1:=by kernel_rfl
@[go_sem] theorem tya_f2_82:tFld Tryz.prog 82 2=some 2:=by kernel_rfl
@[go_sem] theorem tya_z_82:tZero Tryz.prog 82=some [.nils,.int .i64 0,.nilI]:=by kernel_rfl
@[go_sem] theorem tya_s_84:tSz Tryz.prog 84=some (false,1):=by kernel_rfl
@[go_sem] theorem tya_z_84:tZero Tryz.prog 84=some [.raw (.pointer none)]:=by kernel_rfl
@[go_sem] theorem tya_s_86:tSz Tryz.prog 86=some (true,2):=by kernel_rfl
@[go_sem] theorem tya_fl_86:tFlds Tryz.prog 86=some [(0,1),(1,1)]:=by kernel_rfl
@[go_sem] theorem tya_f0_86:tFld Tryz.prog 86 0=some 0:=by kernel_rfl
@[go_sem] theorem tya_f1_86:tFld Tryz.prog 86 1=some 1:=by kernel_rfl
@[go_sem] theorem tya_z_86:tZero Tryz.prog 86=some [.nils,.int .i64 0]:=by kernel_rfl
@[go_sem] theorem tya_s_87:tSz Tryz.prog 87=some (true,2):=by kernel_rfl
@[go_sem] theorem tya_fl_87:tFlds Tryz.prog 87=some [(0,1),(1,1)]:=by kernel_rfl
@[go_sem] theorem tya_f0_87:tFld Tryz.prog 87 0=some 0:=by kernel_rfl
@[go_sem] theorem tya_f1_87:tFld Tryz.prog 87 1=some 1:=by kernel_rfl
@[go_sem] theorem tya_z_87:tZero Tryz.prog 87=some [.nils,.int .i64 0]:=by kernel_rfl
@[go_sem] theorem tya_e_98:tElem Tryz.prog 98=some (59,3,56):=by kernel_rfl
@[go_sem] theorem tya_s_98:tSz Tryz.prog 98=some (false,1):=by kernel_rfl
@[go_sem] theorem tya_z_98:tZero Tryz.prog 98=some [.nils]:=by kernel_rfl
@[go_sem] theorem tya_s_99:tSz Tryz.prog 99=some (true,4):=by kernel_rfl
@[go_sem] theorem tya_fl_99:tFlds Tryz.prog 99=some [(0,1),(1,1),(2,1),(3,1)]:=by kernel_rfl
@[go_sem] theorem tya_f0_99:tFld Tryz.prog 99 0=some 0:=by kernel_rfl
@[go_sem] theorem tya_f1_99:tFld Tryz.prog 99 1=some 1:=by kernel_rfl
@[go_sem] theorem tya_f2_99:tFld Tryz.prog 99 2=some 2:=by kernel_rfl
@[go_sem] theorem tya_f3_99:tFld Tryz.prog 99 3=some 3:=by kernel_rfl
@[go_sem] theorem tya_z_99:tZero Tryz.prog 99=some [.str ⟨#[]⟩,.int .i64 0,.nils,.nils]:=by kernel_rfl
@[go_sem] theorem tya_s_100:tSz Tryz.prog 100=some (true,4):=by kernel_rfl
@[go_sem] theorem tya_fl_100:tFlds Tryz.prog 100=some [(0,1),(1,1),(2,1),(3,1)]:=by kernel_rfl
@[go_sem] theorem tya_f0_100:tFld Tryz.prog 100 0=some 0:=by kernel_rfl
@[go_sem] theorem tya_f1_100:tFld Tryz.prog 100 1=some 1:=by kernel_rfl
@[go_sem] theorem tya_f2_100:tFld Tryz.prog 100 2=some 2:=by kernel_rfl
@[go_sem] theorem tya_f3_100:tFld Tryz.prog 100 3=some 3:=by kernel_rfl
@[go_sem] theorem tya_z_100:tZero Tryz.prog 100=some [.str ⟨#[]⟩,.int .i64 0,.nils,.nils]:=by kernel_rfl
@[go_sem] theorem tya_e_102:tElem Tryz.prog 102=some (106,4,72):=by kernel_rfl
@[go_sem] theorem tya_s_102:tSz Tryz.prog 102=some (false,1):=by kernel_rfl
@[go_sem] theorem tya_z_102:tZero Tryz.prog 102=some [.nils]:=by kernel_rfl
@[go_sem] theorem tya_s_103:tSz Tryz.prog 103=some (true,3):=by kernel_rfl
@[go_sem] theorem tya_fl_103:tFlds Tryz.prog 103=some [(0,1),(1,1),(2,1)]:=by kernel_rfl
@[go_sem] theorem tya_f0_103:tFld Tryz.prog 103 0=some 0:=by kernel_rfl
@[go_sem] theorem tya_f1_103:tFld Tryz.prog 103 1=some 1:=by kernel_rfl
@[go_sem] theorem tya_f2_103:tFld Tryz.prog 103 2=some 2:=by kernel_rfl
@[go_sem] theorem tya_z_103:tZero Tryz.prog 103=some [.str ⟨#[]⟩,.str ⟨#[]⟩,.nils]:=by kernel_rfl
@[go_sem] theorem tya_s_104:tSz Tryz.prog 104=some (true,3):=by kernel_rfl
@[go_sem] theorem tya_fl_104:tFlds Tryz.prog 104=some [(0,1),(1,1),(2,1)]:=by kernel_rfl
@[go_sem] theorem tya_f0_104:tFld Tryz.prog 104 0=some 0:=by kernel_rfl
@[go_sem] theorem tya_f1_104:tFld Tryz.prog 104 1=some 1:=by kernel_rfl
@[go_sem] theorem tya_f2_104:tFld Tryz.prog 104 2=some 2:=by kernel_rfl
@[go_sem] theorem tya_z_104:tZero Tryz.prog 104=some [.str ⟨#[]⟩,.str ⟨#[]⟩,.nils]:=by kernel_rfl
@[go_sem] theorem tya_s_105:tSz Tryz.prog 105=some (true,4):=by kernel_rfl
@[go_sem] theorem tya_fl_105:tFlds Tryz.prog 105=some [(0,1),(1,3)]:=by kernel_rfl
@[go_sem] theorem tya_f0_105:tFld Tryz.prog 105 0=some 0:=by kernel_rfl
@[go_sem] theorem tya_f1_105:tFld Tryz.prog 105 1=some 1:=by kernel_rfl
@[go_sem] theorem tya_z_105:tZero Tryz.prog 105=some [.str ⟨#[]⟩,.bool false,.nils,.nils]:=by kernel_rfl
@[go_sem] theorem tya_s_106:tSz Tryz.prog 106=some (true,4):=by kernel_rfl
@[go_sem] theorem tya_fl_106:tFlds Tryz.prog 106=some [(0,1),(1,3)]:=by kernel_rfl
@[go_sem] theorem tya_f0_106:tFld Tryz.prog 106 0=some 0:=by kernel_rfl
@[go_sem] theorem tya_f1_106:tFld Tryz.prog 106 1=some 1:=by kernel_rfl
@[go_sem] theorem tya_z_106:tZero Tryz.prog 106=some [.str ⟨#[]⟩,.bool false,.nils,.nils]:=by kernel_rfl
@[go_sem] theorem tya_s_124:tSz Tryz.prog 124=some (true,2):=by kernel_rfl
@[go_sem] theorem tya_fl_124:tFlds Tryz.prog 124=some [(0,1),(1,1)]:=by kernel_rfl
@[go_sem] theorem tya_f0_124:tFld Tryz.prog 124 0=some 0:=by kernel_rfl
@[go_sem] theorem tya_f1_124:tFld Tryz.prog 124 1=some 1:=by kernel_rfl
@[go_sem] theorem tya_z_124:tZero Tryz.prog 124=some [.str ⟨#[]⟩,.bool false]:=by kernel_rfl
@[go_sem] theorem tya_s_125:tSz Tryz.prog 125=some (true,2):=by kernel_rfl
@[go_sem] theorem tya_fl_125:tFlds Tryz.prog 125=some [(0,1),(1,1)]:=by kernel_rfl
@[go_sem] theorem tya_f0_125:tFld Tryz.prog 125 0=some 0:=by kernel_rfl
@[go_sem] theorem tya_f1_125:tFld Tryz.prog 125 1=some 1:=by kernel_rfl
@[go_sem] theorem tya_z_125:tZero Tryz.prog 125=some [.str ⟨#[]⟩,.bool false]:=by kernel_rfl
@[go_sem] theorem tya_s_127:tSz Tryz.prog 127=some (true,3):=by kernel_rfl
@[go_sem] theorem tya_fl_127:tFlds Tryz.prog 127=some [(0,1),(1,1),(2,1)]:=by kernel_rfl
@[go_sem] theorem tya_f0_127:tFld Tryz.prog 127 0=some 0:=by kernel_rfl
@[go_sem] theorem tya_f1_127:tFld Tryz.prog 127 1=some 1:=by kernel_rfl
@[go_sem] theorem tya_f2_127:tFld Tryz.prog 127 2=some 2:=by kernel_rfl
@[go_sem] theorem tya_z_127:tZero Tryz.prog 127=some [.str ⟨#[]⟩,.str ⟨#[]⟩,.nils]:=by kernel_rfl
@[go_sem] theorem tya_s_128:tSz Tryz.prog 128=some (true,3):=by kernel_rfl
@[go_sem] theorem tya_fl_128:tFlds Tryz.prog 128=some [(0,1),(1,1),(2,1)]:=by kernel_rfl
@[go_sem] theorem tya_f0_128:tFld Tryz.prog 128 0=some 0:=by kernel_rfl
@[go_sem] theorem tya_f1_128:tFld Tryz.prog 128 1=some 1:=by kernel_rfl
@[go_sem] theorem tya_f2_128:tFld Tryz.prog 128 2=some 2:=by kernel_rfl
@[go_sem] theorem tya_z_128:tZero Tryz.prog 128=some [.str ⟨#[]⟩,.str ⟨#[]⟩,.nils]:=by kernel_rfl
@[go_sem] theorem tya_s_159:tSz Tryz.prog 159=some (false,1):=by kernel_rfl
@[go_sem] theorem tya_z_159:tZero Tryz.prog 159=some [.raw (.map none)]:=by kernel_rfl
@[go_sem] theorem tya_s_161:tSz Tryz.prog 161=some (true,3):=by kernel_rfl
@[go_sem] theorem tya_fl_161:tFlds Tryz.prog 161=some [(0,1),(1,1),(2,1)]:=by kernel_rfl
@[go_sem] theorem tya_f0_161:tFld Tryz.prog 161 0=some 0:=by kernel_rfl
@[go_sem] theorem tya_f1_161:tFld Tryz.prog 161 1=some 1:=by kernel_rfl
@[go_sem] theorem tya_f2_161:tFld Tryz.prog 161 2=some 2:=by kernel_rfl
@[go_sem] theorem tya_q_161:tEqS Tryz.prog 161=some 3:=by kernel_rfl
@[go_sem] theorem tya_z_161:tZero Tryz.prog 161=some [.int .i64 0,.int .i64 0,.int .i64 0]:=by kernel_rfl
@[go_sem] theorem tya_s_162:tSz Tryz.prog 162=some (true,3):=by kernel_rfl
@[go_sem] theorem tya_fl_162:tFlds Tryz.prog 162=some [(0,1),(1,1),(2,1)]:=by kernel_rfl
@[go_sem] theorem tya_f0_162:tFld Tryz.prog 162 0=some 0:=by kernel_rfl
@[go_sem] theorem tya_f1_162:tFld Tryz.prog 162 1=some 1:=by kernel_rfl
@[go_sem] theorem tya_f2_162:tFld Tryz.prog 162 2=some 2:=by kernel_rfl
@[go_sem] theorem tya_q_162:tEqS Tryz.prog 162=some 3:=by kernel_rfl
@[go_sem] theorem tya_z_162:tZero Tryz.prog 162=some [.int .i64 0,.int .i64 0,.int .i64 0]:=by kernel_rfl
@[go_sem] theorem tya_s_166:tSz Tryz.prog 166=some (false,1):=by kernel_rfl
@[go_sem] theorem tya_zi_166:tZI Tryz.prog 166=some (.u32,0):=by kernel_rfl
@[go_sem] theorem tya_i_166:tInt Tryz.prog 166=some .u32:=by kernel_rfl
@[go_sem] theorem tya_z_166:tZero Tryz.prog 166=some [.int .u32 0]:=by kernel_rfl
@[go_sem] theorem tya_s_177:tSz Tryz.prog 177=some (false,1):=by kernel_rfl
@[go_sem] theorem tya_z_177:tZero Tryz.prog 177=some [.raw (.map none)]:=by kernel_rfl
@[go_sem] theorem tya_s_178:tSz Tryz.prog 178=some (true,4):=by kernel_rfl
@[go_sem] theorem tya_z_178:tZero Tryz.prog 178=some [.bool false,.bool false,.bool false,.bool false]:=by kernel_rfl
@[go_sem] theorem tya_e_180:tElem Tryz.prog 180=some (54,1,24):=by kernel_rfl
@[go_sem] theorem tya_s_180:tSz Tryz.prog 180=some (false,1):=by kernel_rfl
@[go_sem] theorem tya_z_180:tZero Tryz.prog 180=some [.nils]:=by kernel_rfl
@[go_sem] theorem tya_e_182:tElem Tryz.prog 182=some (4,1,1):=by kernel_rfl
@[go_sem] theorem tya_s_182:tSz Tryz.prog 182=some (false,1):=by kernel_rfl
@[go_sem] theorem tya_z_182:tZero Tryz.prog 182=some [.nils]:=by kernel_rfl
@[go_sem] theorem tya_s_225:tSz Tryz.prog 225=some (false,1):=by kernel_rfl
@[go_sem] theorem tya_zi_225:tZI Tryz.prog 225=some (.u64,0):=by kernel_rfl
@[go_sem] theorem tya_i_225:tInt Tryz.prog 225=some .u64:=by kernel_rfl
@[go_sem] theorem tya_z_225:tZero Tryz.prog 225=some [.int .u64 0]:=by kernel_rfl
@[go_sem] theorem tya_s_227:tSz Tryz.prog 227=some (false,1):=by kernel_rfl
@[go_sem] theorem tya_zi_227:tZI Tryz.prog 227=some (.u64,0):=by kernel_rfl
@[go_sem] theorem tya_i_227:tInt Tryz.prog 227=some .u64:=by kernel_rfl
@[go_sem] theorem tya_z_227:tZero Tryz.prog 227=some [.int .u64 0]:=by kernel_rfl
@[go_sem] theorem tya_s_247:tSz Tryz.prog 247=some (true,4):=by kernel_rfl
@[go_sem] theorem tya_fl_247:tFlds Tryz.prog 247=some [(0,1),(1,1),(2,1),(3,1)]:=by kernel_rfl
@[go_sem] theorem tya_f0_247:tFld Tryz.prog 247 0=some 0:=by kernel_rfl
@[go_sem] theorem tya_f1_247:tFld Tryz.prog 247 1=some 1:=by kernel_rfl
@[go_sem] theorem tya_f2_247:tFld Tryz.prog 247 2=some 2:=by kernel_rfl
@[go_sem] theorem tya_f3_247:tFld Tryz.prog 247 3=some 3:=by kernel_rfl
@[go_sem] theorem tya_z_247:tZero Tryz.prog 247=some [.raw (.pointer none),.raw (.pointer none),.raw (.pointer none),.str ⟨#[]⟩]:=by kernel_rfl
@[go_sem] theorem tya_s_248:tSz Tryz.prog 248=some (true,4):=by kernel_rfl
@[go_sem] theorem tya_fl_248:tFlds Tryz.prog 248=some [(0,1),(1,1),(2,1),(3,1)]:=by kernel_rfl
@[go_sem] theorem tya_f0_248:tFld Tryz.prog 248 0=some 0:=by kernel_rfl
@[go_sem] theorem tya_f1_248:tFld Tryz.prog 248 1=some 1:=by kernel_rfl
@[go_sem] theorem tya_f2_248:tFld Tryz.prog 248 2=some 2:=by kernel_rfl
@[go_sem] theorem tya_f3_248:tFld Tryz.prog 248 3=some 3:=by kernel_rfl
@[go_sem] theorem tya_z_248:tZero Tryz.prog 248=some [.raw (.pointer none),.raw (.pointer none),.raw (.pointer none),.str ⟨#[]⟩]:=by kernel_rfl
@[go_sem] theorem tya_s_252:tSz Tryz.prog 252=some (false,1):=by kernel_rfl
@[go_sem] theorem tya_zi_252:tZI Tryz.prog 252=some (.u8,0):=by kernel_rfl
@[go_sem] theorem tya_i_252:tInt Tryz.prog 252=some .u8:=by kernel_rfl
@[go_sem] theorem tya_z_252:tZero Tryz.prog 252=some [.int .u8 0]:=by kernel_rfl
@[go_sem] theorem tya_s_253:tSz Tryz.prog 253=some (false,1):=by kernel_rfl
@[go_sem] theorem tya_zi_253:tZI Tryz.prog 253=some (.u8,0):=by kernel_rfl
@[go_sem] theorem tya_i_253:tInt Tryz.prog 253=some .u8:=by kernel_rfl
@[go_sem] theorem tya_z_253:tZero Tryz.prog 253=some [.int .u8 0]:=by kernel_rfl
@[go_sem] theorem tya_s_255:tSz Tryz.prog 255=some (false,1):=by kernel_rfl
@[go_sem] theorem tya_z_255:tZero Tryz.prog 255=some [.raw (.pointer none)]:=by kernel_rfl
@[go_sem] theorem tya_s_256:tSz Tryz.prog 256=some (false,1):=by kernel_rfl
@[go_sem] theorem tya_zi_256:tZI Tryz.prog 256=some (.i32,0):=by kernel_rfl
@[go_sem] theorem tya_i_256:tInt Tryz.prog 256=some .i32:=by kernel_rfl
@[go_sem] theorem tya_z_256:tZero Tryz.prog 256=some [.int .i32 0]:=by kernel_rfl
@[go_sem] theorem tya_s_257:tSz Tryz.prog 257=some (false,1):=by kernel_rfl
@[go_sem] theorem tya_zi_257:tZI Tryz.prog 257=some (.i32,0):=by kernel_rfl
@[go_sem] theorem tya_i_257:tInt Tryz.prog 257=some .i32:=by kernel_rfl
@[go_sem] theorem tya_z_257:tZero Tryz.prog 257=some [.int .i32 0]:=by kernel_rfl
@[go_sem] theorem tya_s_258:tSz Tryz.prog 258=some (true,11):=by kernel_rfl
@[go_sem] theorem tya_fl_258:tFlds Tryz.prog 258=some [(0,1),(1,1),(2,1),(3,1),(4,1),(5,1),(6,1),(7,1),(8,1),(9,1),(10,1)]:=by kernel_rfl
@[go_sem] theorem tya_f0_258:tFld Tryz.prog 258 0=some 0:=by kernel_rfl
@[go_sem] theorem tya_f1_258:tFld Tryz.prog 258 1=some 1:=by kernel_rfl
@[go_sem] theorem tya_f2_258:tFld Tryz.prog 258 2=some 2:=by kernel_rfl
@[go_sem] theorem tya_f3_258:tFld Tryz.prog 258 3=some 3:=by kernel_rfl
@[go_sem] theorem tya_f4_258:tFld Tryz.prog 258 4=some 4:=by kernel_rfl
@[go_sem] theorem tya_f5_258:tFld Tryz.prog 258 5=some 5:=by kernel_rfl
@[go_sem] theorem tya_f6_258:tFld Tryz.prog 258 6=some 6:=by kernel_rfl
@[go_sem] theorem tya_f7_258:tFld Tryz.prog 258 7=some 7:=by kernel_rfl
@[go_sem] theorem tya_f8_258:tFld Tryz.prog 258 8=some 8:=by kernel_rfl
@[go_sem] theorem tya_f9_258:tFld Tryz.prog 258 9=some 9:=by kernel_rfl
@[go_sem] theorem tya_f10_258:tFld Tryz.prog 258 10=some 10:=by kernel_rfl
@[go_sem] theorem tya_z_258:tZero Tryz.prog 258=some [.int .u64 0,.int .u64 0,.int .u32 0,.int .u8 0,.int .u8 0,.int .u8 0,.int .u8 0,.raw .nilFunc,.raw (.pointer none),.int .i32 0,.int .i32 0]:=by kernel_rfl
@[go_sem] theorem tya_s_259:tSz Tryz.prog 259=some (true,11):=by kernel_rfl
@[go_sem] theorem tya_fl_259:tFlds Tryz.prog 259=some [(0,1),(1,1),(2,1),(3,1),(4,1),(5,1),(6,1),(7,1),(8,1),(9,1),(10,1)]:=by kernel_rfl
@[go_sem] theorem tya_f0_259:tFld Tryz.prog 259 0=some 0:=by kernel_rfl
@[go_sem] theorem tya_f1_259:tFld Tryz.prog 259 1=some 1:=by kernel_rfl
@[go_sem] theorem tya_f2_259:tFld Tryz.prog 259 2=some 2:=by kernel_rfl
@[go_sem] theorem tya_f3_259:tFld Tryz.prog 259 3=some 3:=by kernel_rfl
@[go_sem] theorem tya_f4_259:tFld Tryz.prog 259 4=some 4:=by kernel_rfl
@[go_sem] theorem tya_f5_259:tFld Tryz.prog 259 5=some 5:=by kernel_rfl
@[go_sem] theorem tya_f6_259:tFld Tryz.prog 259 6=some 6:=by kernel_rfl
@[go_sem] theorem tya_f7_259:tFld Tryz.prog 259 7=some 7:=by kernel_rfl
@[go_sem] theorem tya_f8_259:tFld Tryz.prog 259 8=some 8:=by kernel_rfl
@[go_sem] theorem tya_f9_259:tFld Tryz.prog 259 9=some 9:=by kernel_rfl
@[go_sem] theorem tya_f10_259:tFld Tryz.prog 259 10=some 10:=by kernel_rfl
@[go_sem] theorem tya_z_259:tZero Tryz.prog 259=some [.int .u64 0,.int .u64 0,.int .u32 0,.int .u8 0,.int .u8 0,.int .u8 0,.int .u8 0,.raw .nilFunc,.raw (.pointer none),.int .i32 0,.int .i32 0]:=by kernel_rfl
@[go_sem] theorem tya_s_260:tSz Tryz.prog 260=some (false,1):=by kernel_rfl
@[go_sem] theorem tya_z_260:tZero Tryz.prog 260=some [.raw (.pointer none)]:=by kernel_rfl
end Go.Proofs.YteocnikcjjonbaaGreat
namespace Go.Proofs.YteocnikcjjonbaaGreat
open Go.AI Go.PN
attribute [local irreducible] aw Fa Fh DrK
abbrev rdc (r:RD):List CV:=[.bool r.neg,ws true r.num,ws true r.den]
theorem cmp_one {n:Nat}:(cmpN n (val [1])==0)=decide (n=1):=by
 have:val [1]=1:=rfl
 rw [this]
 unfold cmpN
 by_cases h:n=1
 ·subst h;rfl
 ·have:¬(n=1):=h
  simp only [this,decide_false,if_false]
  by_cases h0:n<1<;>simp [h0]
theorem plain_eq {xs:List Nat} (h0:0<xs.length):plainB xs=(((xs.getD (xs.length-1) 0:Nat):Int) !=0):=by
 simp only [plainB,h0,decide_true,Bool.true_and,bne]
 congr 1
 rw [Bool.eq_iff_iff];simp
theorem plain_no {xs:List Nat} (h0:¬0<xs.length):plainB xs=false:=by simp [plainB,h0]
theorem one_fa:Fa Tryz.prog 157 [] (.c (ws true [1])):=by
 refine fa_of_body Tryz.func157 rfl rfl (by simp [Tryz.ntmps157]) fun C hC=> ?_
 simp only [initS]
 refine xG ?_
 refine aw_buildSlice (xs:=[.const (.int .u32 1)]) (cells:=[.int .u32 1]) rfl rfl rfl ty_e_ws (by rw [envP,ty_z_u32];rfl) rfl om om (by intro x hx;simp only [List.mem_cons,List.not_mem_nil,or_false] at hx;subst hx;exact⟨rfl,rfl,rfl⟩) rfl fun g hg=> ?_
 refine xSGT hC ?_
 exact .one (.c (ler_oslws eE om rfl (fun j hj=>by match j,hj with|0,_=>rfl)))
theorem plain_fa (xs:List Nat) (hlx:xs.length≤68719476738):Fa Tryz.prog 155 [.c (ws false xs)] (.c (.bool (plainB xs))):=by
 refine fa_of_body Tryz.func155 rfl rfl (by simp [Tryz.ntmps155]) fun C hC=> ?_
 simp only [initS,Nat.reduceAdd]
 refine xG ?_
 refine aw_split 6 eE (fun hb=> ?_) (fun hb=> ?_)<;>refine xS ?_
 ·have h0:0<xs.length:=dT hb
  refine xGT hC ?_
  exact .one (.c (ler_bool (plain_eq h0).symm))
 ·have h0:¬0<xs.length:=dF hb
  refine xGT hC ?_
  exact .one (.c (ler_bool (plain_no h0).symm))
theorem valid_zero {r:RD} (h1:((r.num.length:Int)==0)=true) (h2:((r.den.length:Int)==0)=true):(!r.neg)=r.valid:=by
 have h1':r.num.length=0:=by have:=eq_of_beq h1;omega
 have h2':r.den.length=0:=by have:=eq_of_beq h2;omega
 simp [RD.valid,h1',h2']
theorem valid_else {r:RD} (h:((r.num.length:Int)==0)=false∨((r.den.length:Int)==0)=false):r.valid=(plainB r.num&&plainB r.den&&decide (Nat.gcd (val r.num) (val r.den)=1)):=by
 unfold RD.valid
 rw [if_neg]
 rintro ⟨h1,h2⟩
 rcases h with h|h
 ·rw [h1] at h;cases h
 ·rw [h2] at h;cases h
theorem rvalid_fa (r:RD) (hw:r.wf 68719476736):Fa Tryz.prog 129 [.agg (rdc r)] (.c (.bool r.valid)):=by
 have hp1:r.num.length≤68719476738:=by have:=hw.2.2.1;omega
 have hp2:r.den.length≤68719476738:=by have:=hw.2.2.2;omega
 have hg:(words (Nat.gcd (val r.num) (val r.den))).length≤68719476736:=by
  by_cases h:val r.num=0
  ·rw [h,Nat.gcd_zero_left];exact Nat.le_trans (words_val_len _ hw.2.1) hw.2.2.2
  ·exact Nat.le_trans (words_len_mono (Nat.gcd_le_left _ (Nat.pos_of_ne_zero h))) (Nat.le_trans (words_val_len _ hw.1) hw.2.2.1)
 refine fa_of_body Tryz.func129 rfl rfl (by simp [Tryz.ntmps129]) fun C hC=> ?_
 simp only [initS,Nat.reduceAdd]
 refine xG ?_
 refine xB fun g1 hn_g1=>?_
 refine yH hn_g1 ?_
 apply aw_seq
 refine aw_cut (fun _:Unit=>[(1,.c (.optr g1 0))]) (fun _=>[(g1,.cells 59 3 (ofL (rdc r)))]) (fun _=>((r.num.length:Int)==0)=false∨((r.den.length:Int)==0)=false) ?_ ?_
 ·refine yG hn_g1 ?_
  refine aw_split 7 (zE hn_g1) (fun hb=> ?_) (fun hb=> ?_)<;>refine yS hn_g1 ?_
  ·refine yG hn_g1 ?_
   refine yF hn_g1 (fun hd=>?_) fun hd=>?_
   ·refine yGT hC hn_g1 ?_
    exact .one (.c (ler_bool (valid_zero hb hd)))
   ·refine yG hn_g1 ?_
    exact aw_stop ⟨(),(zB hn_g1),zZ,.inr hd⟩
  ·refine yG hn_g1 ?_
   refine yN hn_g1 ?_
   refine yG hn_g1 ?_
   exact aw_stop ⟨(),(zB hn_g1),zZ,.inl hb⟩
 rintro _ hd
 rw [valid_else hd]
 refine yG hn_g1 ?_
 refine yC hn_g1 (plain_fa r.num hp1) ?_
 refine yG hn_g1 ?_
 refine aw_split 19 (zE hn_g1) (fun h1=> ?_) (fun h1=> ?_)<;>refine yS hn_g1 ?_
 ·refine yG hn_g1 ?_
  refine yC hn_g1 (plain_fa r.den hp2) ?_
  refine yG hn_g1 ?_
  refine aw_split 24 (zE hn_g1) (fun h2=> ?_) (fun h2=> ?_)<;>refine yS hn_g1 ?_
  ·refine yG hn_g1 ?_
   refine yC hn_g1 (gcd_fa _ _ hw.1 hw.2.1 hw.2.2.1 hw.2.2.2) ?_
   refine yG hn_g1 ?_
   refine yC hn_g1 (one_fa) ?_
   refine yG hn_g1 ?_
   refine yC hn_g1 (cmp_fa _ [1] (words_lt _) ?_ hg ?_) ?_
   ·simp
   ·simp
   refine yGT hC hn_g1 ?_
   refine .one (.c (ler_bool ?_))
   rw [h1,h2,val_words,cmp_one];rfl
  ·refine yGT hC hn_g1 ?_
   refine .one (.c (ler_bool ?_))
   rw [h2,Bool.and_false,Bool.false_and]
 ·refine yGT hC hn_g1 ?_
  refine .one (.c (ler_bool ?_))
  rw [h1,Bool.false_and,Bool.false_and]
end Go.Proofs.YteocnikcjjonbaaGreat
namespace Go.Proofs.YteocnikcjjonbaaGreat
open Go.AI Go.PN
attribute [local irreducible] aw Fa Fh DrK
theorem words_mul_len (m n:Nat):(words (m*n)).length≤(words m).length+(words n).length:=words_len_le (pow_mul_lt (words_pow_lt m) (words_pow_lt n))
theorem words_add_len {m n k:Nat} (hm:(words m).length≤k) (hn:(words n).length≤k):(words (m+n)).length≤k+1:=by
 have h1:=Nat.lt_of_lt_of_le (words_pow_lt m) (Nat.pow_le_pow_right (show 0<4294967296 by omega) hm)
 have h2:=Nat.lt_of_lt_of_le (words_pow_lt n) (Nat.pow_le_pow_right (show 0<4294967296 by omega) hn)
 refine words_len_le ?_
 rw [Nat.pow_succ]
 omega
theorem mulW (a b:Nat) (ha:(words a).length≤68719476736) (hb:(words b).length≤68719476736):Fa Tryz.prog 184 [.c (ws false (words a)),.c (ws false (words b))] (.c (ws true (words (a*b)))):=by
 have:=mul_fa (words a) (words b) (words_lt a) (words_lt b) ha hb
 rwa [val_words,val_words] at this
theorem addW (a b:Nat) (ha:(words a).length≤68719476736) (hb:(words b).length≤68719476736):Fa Tryz.prog 205 [.c (ws false (words a)),.c (ws false (words b))] (.c (ws true (words (a+b)))):=by
 have:=add_fa (words a) (words b) (words_lt a) (words_lt b) ha hb
 rwa [val_words,val_words] at this
theorem subW (a b:Nat) (ha:(words a).length≤68719476736) (hb:(words b).length≤68719476736) (h:b≤a):Fa Tryz.prog 206 [.c (ws false (words a)),.c (ws false (words b))] (.tup [.c (ws true (words (a-b))),.c .nilI]):=by
 have:=sub_fa (words a) (words b) (words_lt a) (words_lt b) ha hb (by rw [val_words,val_words];exact h)
 rwa [val_words,val_words] at this
theorem cmpW (a b:Nat) (ha:(words a).length≤68719476736) (hb:(words b).length≤68719476736):Fa Tryz.prog 130 [.c (ws false (words a)),.c (ws false (words b))] (.c (.int .i64 (cmpN a b))):=by
 have:=cmp_fa (words a) (words b) (words_lt a) (words_lt b) ha hb
 rwa [val_words,val_words] at this
theorem gcdW (a b:Nat) (ha:(words a).length≤68719476736) (hb:(words b).length≤68719476736):Fa Tryz.prog 156 [.c (ws false (words a)),.c (ws false (words b))] (.c (ws true (words (Nat.gcd a b)))):=by
 have:=gcd_fa (words a) (words b) (words_lt a) (words_lt b) ha hb
 rwa [val_words,val_words] at this
theorem divW (a b:Nat) (ha:(words a).length≤68719476736) (hb:(words b).length≤68719476736) (h:b≠0):Fa Tryz.prog 178 [.c (ws false (words a)),.c (ws false (words b))] (.tup [.c (ws true (words (a/b))),.c (ws true (words (a%b))),.c .nilI]):=by
 have:=div_fa (words a) (words b) (words_lt a) (words_lt b) ha hb (by rw [val_words];exact h)
 rwa [val_words,val_words] at this
theorem bitsW (a:Nat) (ha:(words a).length≤68719476736):Fa Tryz.prog 180 [.c (ws false (words a))] (.c (.int .i64 (bitlen a:Nat))):=by
 have:=bits_fa (words a) (words_lt a) ha
 rwa [val_words] at this
theorem some_of {r:RD} (h1:r.valid=true) (h2:((r.num.length:Int)==0)=false):r.some=true:=by
 have:r.num.length≠0:=fun e=>by rw [e] at h2;cases h2
 simp [RD.some,h1,this]
theorem none_of {r:RD} (h:r.valid=false∨((r.num.length:Int)==0)=true):r.some=false:=by
 rcases h with h|h
 ·simp [RD.some,h]
 ·have:r.num.length=0:=by have:=eq_of_beq h;omega
  simp [RD.some,this]
theorem wf_mono {r:RD} {L M:Nat} (h:r.wf L) (hm:L≤M):r.wf M:=⟨h.1,h.2.1,Nat.le_trans h.2.2.1 hm,Nat.le_trans h.2.2.2 hm⟩
abbrev partsAV (r:RD):AV:=.tup [.c (.bool r.ps),.c (ws true (words r.pn)),.c (ws true (words r.pd))]
theorem rparts_fa (r:RD) (hw:r.wf 1073741824):Fa Tryz.prog 159 [.agg (rdc r)] (partsAV r):=by
 refine fa_of_body Tryz.func159 rfl rfl (by simp [Tryz.ntmps159]) fun C hC=> ?_
 simp only [initS,Nat.reduceAdd]
 refine xG ?_
 refine xB fun g1 hn_g1=>?_
 refine yG hn_g1 ?_
 refine yC hn_g1 (rvalid_fa r (wf_mono hw ?_)) ?_
 ·omega
 refine yG hn_g1 ?_
 refine aw_split 8 (zE hn_g1) (fun hv=> ?_) (fun hv=> ?_)<;>refine yS hn_g1 ?_
 ·have hs:=RD.pn_none (none_of (r:=r) (.inl (by simpa using hv)))
  refine yG hn_g1 ?_
  refine yP hn_g1 ?_
  refine yG hn_g1 ?_
  refine yC hn_g1 (one_fa) ?_
  refine yGT hC hn_g1 ?_
  refine .tup ⟨.c (ler_bool hs.2.2.symm),.c ?_,.c ?_,trivial⟩
  ·rw [hs.1];exact .nils
  ·rw [hs.2.1];exact ler_ws
 ·have hv':r.valid=true:=by simpa using hv
  refine yG hn_g1 ?_
  refine yF hn_g1 (fun hn=>?_) fun hn=>?_
  ·have hs:=RD.pn_none (none_of (r:=r) (.inr hn))
   refine yG hn_g1 ?_
   refine yC hn_g1 (one_fa) ?_
   refine yGT hC hn_g1 ?_
   refine .tup ⟨.c (ler_bool hs.2.2.symm),.c ?_,.c ?_,trivial⟩
   ·rw [hs.1];exact .nils
   ·rw [hs.2.1];exact ler_ws
  ·have hs:=RD.pn_words hw (some_of hv' hn)
   refine yG hn_g1 ?_
   refine aw_dr 9 ty_mixed (by kernel_rfl) ?_
   refine yGT hC hn_g1 ?_
   refine .tup ⟨.c (ler_bool hs.2.2.symm),.c ?_,.c ?_,trivial⟩
   ·rw [hs.1];exact ler_ws
   ·rw [hs.2.1];exact ler_ws
theorem lerl_rd {h:Heap} {r:RD}:LeRL h (rdc r) (rdc r):=⟨.bool _,ler_ws,ler_ws,trivial⟩
theorem ler_rd {h:Heap} {r s:RD} (e:r=s):LeRA h (.agg (rdc r)) (.agg (rdc s)):=by subst e;exact .one (.agg lerl_rd)
theorem rform_fa (neg:Bool) (n d:Nat) (hn:(words n).length≤68719476736) (hd:(words d).length≤68719476736) (h0:d≠0):
  Fa Tryz.prog 183 [.c (.bool neg),.c (ws false (words n)),.c (ws false (words d))] (.agg (rdc (rd (sq neg n d)))):=by
 refine fa_of_body Tryz.func183 rfl rfl (by simp [Tryz.ntmps183]) fun C hC=> ?_
 simp only [initS,Nat.reduceAdd]
 refine xG ?_
 refine xA fun g6 hn_g6=>?_
 refine yG hn_g6 ?_
 refine yC hn_g6 (bitsW n hn) ?_
 refine yG hn_g6 ?_
 refine yF hn_g6 (fun hb=>?_) fun hb=>?_
 ·have hz:n=0:=bitlen_zero.1 (by have:=eq_of_beq hb;omega)
  refine yGWSGT hC hn_g6 ?_
  rw [hz,sq_zero,rd_zero]
  exact .one (.agg ⟨.bool _,.nils,.nils,trivial⟩)
 ·have hz:n≠0:=fun e=>by rw [e] at hb;cases hb
  have hg:Nat.gcd n d≠0:=fun e=>h0 (Nat.eq_zero_of_gcd_eq_zero_right e)
  have hgl:(words (Nat.gcd n d)).length≤68719476736:=Nat.le_trans (words_len_mono (Nat.gcd_le_left _ (Nat.pos_of_ne_zero hz))) hn
  refine yG hn_g6 ?_
  refine yC hn_g6 (gcdW n d hn hd) ?_
  refine yG hn_g6 ?_
  refine yC hn_g6 (divW n (Nat.gcd n d) hn hgl hg) ?_
  refine yG hn_g6 ?_
  refine yC hn_g6 (divW d (Nat.gcd n d) hd hgl hg) ?_
  refine yGWSGT hC hn_g6 ?_
  rw [rd_sq hz h0]
  exact .one (.agg ⟨.bool _,ler_ws,ler_ws,trivial⟩)
end Go.Proofs.YteocnikcjjonbaaGreat
namespace Go.Proofs.YteocnikcjjonbaaGreat
open Go.AI Go.PN
attribute [local irreducible] aw Fa Fh DrK
theorem words_min:words 9223372036854775808=[0,2147483648]:=by
 rw [words_cons om,words_cons om,show(9223372036854775808/4294967296/4294967296:Nat)=0 from rfl,words_zero]
theorem int_neg {n:Int} (h0: -9223372036854775808<n) (h1:n≤9223372036854775807):wrapZ .i64 (0-n)= -n:=by
 rw [wrapZ_eq,wrap_inRange (k:=.i64) (by simp only [inRange];omega)];omega
theorem words_small {n:Nat} (h:n≤9223372036854775808):(words n).length≤2:=words_len_le (Nat.lt_of_le_of_lt h (by decide))
theorem rsize_fa (n:Int) (h0: -9223372036854775808≤n) (h1:n≤9223372036854775807):Fa Tryz.prog 160 [.c (.int .i64 n)] (.c (ws true (words n.natAbs))):=by
 refine fa_of_body Tryz.func160 rfl rfl (by simp [Tryz.ntmps160]) fun C hC=> ?_
 simp only [initS,Nat.reduceAdd]
 refine xG ?_
 refine xF (fun hb=>?_) fun hb=>?_
 ·have hn:n= -9223372036854775808:=eq_of_beq hb
  refine xG ?_
  refine aw_buildSlice (xs:=[.const (.int .u32 0),.const (.int .u32 2147483648)]) (cells:=[.int .u32 0,.int .u32 2147483648]) rfl rfl rfl ty_e_ws (by rw [envP,ty_z_u32];rfl) rfl om om (by intro x hx;simp only [List.mem_cons,List.not_mem_nil,or_false] at hx;rcases hx with rfl|rfl<;>exact⟨rfl,rfl,rfl⟩) rfl fun g hg=> ?_
  refine xSGT hC ?_
  subst hn
  rw [show((-9223372036854775808:Int).natAbs)=9223372036854775808 from rfl,words_min]
  exact .one (.c (ler_oslws eE (by simp) rfl (fun j hj=>by match j,hj with|0,_=>rfl|1,_=>rfl)))
 ·have hn:n≠ -9223372036854775808:=fun e=>by rw [e] at hb;cases hb
  refine xG ?_
  rw [int_neg om h1]
  have hm:(if-n>n then-n else n)=(n.natAbs:Int):=by split<;>omega
  rw [hm]
  refine xC (of_fa (n.natAbs:Int) ?_ ?_) ?_
  ·omega
  ·omega
  refine xGT hC ?_
  exact .one (.c ler_ws)
theorem sq_int (n:Int):sq (decide (n<0)) n.natAbs 1=(n:Rat):=by
 unfold sq sgn
 rw [Rat.mkRat_one]
 congr 1
 split
 ·rename_i h;simp only [decide_eq_true_eq] at h;omega
 ·rename_i h;simp only [decide_eq_true_eq] at h;omega
theorem rof_fa (n:Int) (h0: -9223372036854775808≤n) (h1:n≤9223372036854775807):Fa Tryz.prog 165 [.c (.int .i64 n)] (.agg (rdc (rd (n:Rat)))):=by
 have hl:=words_small (n:=n.natAbs) om
 refine fa_of_body Tryz.func165 rfl rfl (by simp [Tryz.ntmps165]) fun C hC=> ?_
 simp only [initS,Nat.reduceAdd]
 refine xG ?_
 refine xA fun g2 hn_g2=>?_
 refine yG hn_g2 ?_
 refine yC hn_g2 (rsize_fa n h0 h1) ?_
 refine yG hn_g2 ?_
 refine yC hn_g2 (one_fa) ?_
 refine yG hn_g2 ?_
 rw [show([1]:List Nat)=words 1 from words_one.symm]
 refine yC hn_g2 (rform_fa _ n.natAbs 1 ?_ ?_ ?_) ?_
 ·omega
 ·rw [words_one];simp
 ·omega
 refine yGWSGT hC hn_g2 ?_
 exact ler_rd (by rw [sq_int])
theorem sign_zero {r:RD} {L:Nat} (hw:r.wf L) (h:(((words r.pn).length:Int)==0)=true):0=signQ r.q:=by
 have h1:r.pn=0:=words_eq_nil.1 (List.length_eq_zero_iff.1 (by have:=eq_of_beq h;omega))
 unfold RD.q
 rw [h1,sq_zero];rfl
theorem sign_some {r:RD} {L:Nat} (hw:r.wf L) (h:(((words r.pn).length:Int)==0)=false):signQ r.q=if r.ps then-1 else 1:=by
 have h1:r.pn≠0:=fun e=>by rw [e,words_zero] at h;cases h
 unfold signQ RD.q
 rw [if_neg (sq_ne h1 (RD.pd_ne hw))]
 have:=sq_lt (neg:=r.ps) h1 (RD.pd_ne hw)
 simp only [this]
theorem rsign_fa (r:RD) (hw:r.wf 1073741824):Fa Tryz.prog 131 [.agg (rdc r)] (.c (.int .i64 (signQ r.q))):=by
 refine fa_of_body Tryz.func131 rfl rfl (by simp [Tryz.ntmps131]) fun C hC=> ?_
 simp only [initS,Nat.reduceAdd]
 refine xG ?_
 refine xB fun g1 hn_g1=>?_
 refine yG hn_g1 ?_
 refine yC hn_g1 (rparts_fa r hw) ?_
 refine yG hn_g1 ?_
 refine yF hn_g1 (fun hb=>?_) fun hb=>?_
 ·refine yGT hC hn_g1 ?_
  exact .one (.c (ler_int (sign_zero hw hb)))
 ·refine yG hn_g1 ?_
  refine yF hn_g1 (fun hp=>?_) fun hp=>?_
  ·refine yGT hC hn_g1 ?_
   refine .one (.c (ler_int ?_))
   rw [sign_some hw hb,hp];rfl
  ·refine yGT hC hn_g1 ?_
   refine .one (.c (ler_int ?_))
   rw [sign_some hw hb,hp];rfl
theorem not_of_bne {a b:Bool} (h:(a==b)=false):b= !a:=by cases a<;>cases b<;>simp_all
theorem radd_fa (a b:RD) (ha:a.wf 1073741824) (hb:b.wf 1073741824):Fa Tryz.prog 185 [.agg (rdc a),.agg (rdc b)] (.agg (rdc (rd (a.q+b.q)))):=by
 obtain⟨l1,l2⟩:=RD.p_len ha om
 obtain⟨l3,l4⟩:=RD.p_len hb om
 have d1:=RD.pd_ne ha
 have d2:=RD.pd_ne hb
 have dd:a.pd*b.pd≠0:=Nat.mul_ne_zero d1 d2
 have m1:=words_mul_len a.pn b.pd
 have m2:=words_mul_len b.pn a.pd
 have m3:=words_mul_len a.pd b.pd
 have m4:=words_add_len (m:=a.pn*b.pd) (n:=b.pn*a.pd) (k:=2147483648) om om
 refine fa_of_body Tryz.func185 rfl rfl (by simp [Tryz.ntmps185]) fun C hC=> ?_
 simp only [initS,Nat.reduceAdd]
 refine xG ?_
 refine xB fun g2 hn_g2=>?_
 refine yB hn_g2 fun g3 hn_g3=>?_
 refine yA (oj hn_g2 hn_g3) fun g4 hn_g4=>?_
 have J1:=oj hn_g2 (oj hn_g3 hn_g4)
 refine yG J1 ?_
 refine yC J1 (rparts_fa a ha) ?_
 refine yG J1 ?_
 refine yC J1 (rparts_fa b hb) ?_
 refine yG J1 ?_
 refine yC J1 (mulW a.pn b.pd ?_ ?_) ?_
 ·omega
 ·omega
 refine yG J1 ?_
 refine yC J1 (mulW b.pn a.pd ?_ ?_) ?_
 ·omega
 ·omega
 refine yG J1 ?_
 refine yC J1 (mulW a.pd b.pd ?_ ?_) ?_
 ·omega
 ·omega
 refine yG J1 ?_
 refine yF J1 (fun hs=>?_) fun hs=>?_
 ·have hs':a.ps=b.ps:=eq_of_beq hs
  refine yG J1 ?_
  refine yC J1 (addW _ _ ?_ ?_) ?_
  ·omega
  ·omega
  refine yG J1 ?_
  refine yC J1 (rform_fa _ _ _ ?_ ?_ dd) ?_
  ·omega
  ·omega
  refine yGWSGT hC J1 ?_
  refine ler_rd ?_
  rw [sq_add_same _ d1 d2]
  unfold RD.q;rw [hs']
 ·have hs':b.ps= !a.ps:=not_of_bne hs
  refine yG J1 ?_
  refine yC J1 (cmpW _ _ ?_ ?_) ?_
  ·omega
  ·omega
  refine yG J1 ?_
  refine yF J1 (fun hc=>?_) fun hc=>?_
  ·have hle:b.pn*a.pd≤a.pn*b.pd:=by
    have:=of_decide_eq_true hc
    unfold cmpN at this
    split at this
    ·omega
    ·omega
   have hl5:=words_len_mono (Nat.sub_le (a.pn*b.pd) (b.pn*a.pd))
   refine yG J1 ?_
   refine yC J1 (subW _ _ ?_ ?_ hle) ?_
   ·omega
   ·omega
   refine yG J1 ?_
   refine yC J1 (rform_fa _ _ _ ?_ ?_ dd) ?_
   ·omega
   ·omega
   refine yGWSGT hC J1 ?_
   refine ler_rd ?_
   rw [sq_add_ge _ d1 d2 hle]
   unfold RD.q;rw [hs']
  ·have hle:a.pn*b.pd≤b.pn*a.pd:=by
    have:=of_decide_eq_false hc
    unfold cmpN at this
    split at this
    ·omega
    ·split at this<;>omega
   have hl5:=words_len_mono (Nat.sub_le (b.pn*a.pd) (a.pn*b.pd))
   refine yG J1 ?_
   refine yC J1 (subW _ _ ?_ ?_ hle) ?_
   ·omega
   ·omega
   refine yG J1 ?_
   refine yC J1 (rform_fa _ _ _ ?_ ?_ dd) ?_
   ·omega
   ·omega
   refine yGWSGT hC J1 ?_
   refine ler_rd ?_
   rw [hs',sq_add_lt _ d1 d2 hle]
   unfold RD.q;rw [hs']
theorem rmul_fa (a b:RD) (ha:a.wf 1073741824) (hb:b.wf 1073741824):Fa Tryz.prog 166 [.agg (rdc a),.agg (rdc b)] (.agg (rdc (rd (a.q*b.q)))):=by
 obtain⟨l1,l2⟩:=RD.p_len ha om
 obtain⟨l3,l4⟩:=RD.p_len hb om
 have d1:=RD.pd_ne ha
 have d2:=RD.pd_ne hb
 have dd:a.pd*b.pd≠0:=Nat.mul_ne_zero d1 d2
 have m1:=words_mul_len a.pn b.pn
 have m3:=words_mul_len a.pd b.pd
 refine fa_of_body Tryz.func166 rfl rfl (by simp [Tryz.ntmps166]) fun C hC=> ?_
 simp only [initS,Nat.reduceAdd]
 refine xG ?_
 refine xB fun g2 hn_g2=>?_
 refine yB hn_g2 fun g3 hn_g3=>?_
 refine yA (oj hn_g2 hn_g3) fun g4 hn_g4=>?_
 have J1:=oj hn_g2 (oj hn_g3 hn_g4)
 refine yG J1 ?_
 refine yC J1 (rparts_fa a ha) ?_
 refine yG J1 ?_
 refine yC J1 (rparts_fa b hb) ?_
 refine yG J1 ?_
 refine yC J1 (mulW _ _ ?_ ?_) ?_
 ·omega
 ·omega
 refine yG J1 ?_
 refine yC J1 (mulW _ _ ?_ ?_) ?_
 ·omega
 ·omega
 refine yG J1 ?_
 refine yC J1 (rform_fa _ _ _ ?_ ?_ dd) ?_
 ·omega
 ·omega
 refine yGWSGT hC J1 ?_
 exact ler_rd (by rw [sq_mul];rfl)
end Go.Proofs.YteocnikcjjonbaaGreat
namespace Go.Proofs.YteocnikcjjonbaaGreat
open Go.AI Go.PN
attribute [local irreducible] aw Fa Fh DrK
theorem some_ne {g:Nat} {n:Nat}:(some g:Option Nat)=none→n=0:=fun e=>by cases e
end Go.Proofs.YteocnikcjjonbaaGreat
namespace Go.Proofs.YteocnikcjjonbaaGreat
open Go.AI Go.PN
attribute [local irreducible] aw Fa Fh DrK
def two (u:Nat):List Nat:=[u%4294967296,u/4294967296]
end Go.Proofs.YteocnikcjjonbaaGreat
