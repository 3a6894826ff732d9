/- Parts of one proof, laid by a program. -/
import Derived.Test.YtfcnbgmclfkfcaaGreatM00
import Derived.Test.YtfcnbgmclfkfcaaGreatM08
set_option linter.unusedSimpArgs false
set_option linter.unusedVariables false
namespace Go.Proofs.YtfcnbgmclfkfcaaGreat
open Go.AI Go.PN
attribute [local irreducible] aw Fa Fh DrK
theorem wrap_subD {x y b:Nat} (hx:x<4294967296) (hy:y<4294967296) (hb:b≤1):wrapZ .u64 (wrapZ .u64 ((x:Int)-(y:Int))-(b:Int))=((subD x y b:Nat):Int):=by
 rw [wrapZ_eq,wrapZ_eq,IntKind.wrap_u64,IntKind.wrap_u64];unfold subD
 rcases Nat.lt_or_ge x y with h|h
 ·have e:((x:Int)-y)%18446744073709551616=x-y+18446744073709551616:=by omega
  rw [e];omega
 ·have e:((x:Int)-y)%18446744073709551616=x-y:=by omega
  rw [e];omega
set_option maxHeartbeats 800000 in
theorem sub_fa (xs ys:List Nat) (hx:∀x∈xs,x<4294967296) (hy:∀x∈ys,x<4294967296) (hlx:xs.length≤68719476736) (hly:ys.length≤68719476736) (hle:val ys≤val xs):
 Fa Tryz.prog 167 [.c (ws false xs),.c (ws false ys)] (.tup [.c (ws true (words (val xs-val ys))),.c .nilI]):=by
 refine fa_of_body Tryz.func167 rfl rfl (by simp [Tryz.ntmps167]) fun C hC=> ?_
 simp only [initS,Nat.reduceAdd]
 refine xG ?_
 refine aw_callq (cmp_fa xs ys hx hy hlx hly) rfl rfl rfl eL ?_
 refine xSG ?_
 refine aw_cond eE (fun hb=> ?_) (fun _=> ?_)
 ·have:=of_decide_eq_true hb
  unfold cmpN at this
  split at this
  ·omega
  ·split at this<;>omega
 refine xG ?_
 refine aw_make (n:=xs.length) (c:=xs.length) rfl rfl rfl ty_e_ws ty_z_u32 rfl om eE eE rfl rfl om om om fun g hg=> ?_
 rw [make_wf xs.length]
 refine xSG ?_
 refine aw_lp (fun x:Nat×Nat×List Nat=>[(0,.c (ws false xs)),(1,.c (ws false ys)),(6,.c (.osl g 1 0 xs.length)),(7,.c (.int .u64 x.2.1)),(19,.c (.int .i64 xs.length)),(20,.c (.int .i64 x.1))]) (fun x=>[(g,.cells 130 xs.length (wf x.2.2))])
  (fun x=>x.1≤xs.length∧x.2.1≤1∧x.2.2.length=xs.length∧(∀y∈x.2.2,y<4294967296)∧val (x.2.2.take x.1)+val (ys.take x.1)=val (xs.take x.1)+4294967296^x.1*x.2.1) (fun x=>xs.length-x.1) (0,0,List.replicate xs.length 0) eB zZ
  ⟨Nat.zero_le _,Nat.zero_le _,by simp,replicate_lt _,by simp [val]⟩ ?_
 rintro ⟨i,b,zs⟩ ⟨hi,hbb,hzl,hz,hv⟩
 dsimp only at hi hbb hzl hz hv⊢
 refine xG ?_
 refine aw_cond eE (fun hb=> ?_) (fun hb=> ?_)
 ·have hin:i<xs.length:=dT hb
  have hxi:=getD_lt hx i
  have hyi:=getD_lt hy i
  refine xG ?_
  refine aw_callq (word_fa xs i hx) rfl rfl rfl eL ?_
  refine xSG ?_
  refine aw_callq (word_fa ys i hy) rfl rfl rfl eL ?_
  refine xS ?_
  (refine aw_2q false rfl (fun R hR=> ?_);simp only [go_sem];(with_reducible refine hR _ _ ?_ ?_);(focus (((try simp only [inRange])<;>and_intros<;>first|exact True.intro|omega|trivial);done));clear hR R)
  refine xG ?_
  (refine aw_2q false rfl (fun R hR=> ?_);simp only [go_sem];(with_reducible refine hR _ _ ?_ ?_);(focus (((try simp only [inRange])<;>and_intros<;>first|exact True.intro|omega|trivial);done));clear hR R)
  rw [wrap_subD hxi hyi hbb]
  obtain⟨st1,st2⟩:=sub_step (zs:=zs) om hxi hyi hbb hv
  generalize subD (xs.getD i 0) (ys.getD i 0) b=D at st1 st2⊢
  obtain⟨v,b2,e1,e2,hvl,st⟩:∃v b2:Nat,wrapZ .u32 (D:Int)=(v:Int)∧shrZ .u64 (D:Int) 63=(b2:Int)∧v<4294967296∧(val ((zs.set i v).take (i+1))+val (ys.take (i+1))=val (xs.take (i+1))+4294967296^(i+1)*b2∧b2≤1):=
   ⟨_,_,wrap_u32_nat D,shr63_nat D,Nat.mod_lt _ om,st1,st2⟩
  clear st1 st2
  refine xG ?_
  rw [e1]
  refine xW ?_
  refine xS ?_
  rw [updF_wf om]
  apply aw_ops_nil
  apply aw_region
  refine xO ?_
  refine xO ?_
  rw [e2]
  refine xG ?_
  refine aw_stop ⟨(i+1,b2,zs.set i v),by dsimp only;omega,eB,zZ,by dsimp only;omega,st.2,by simpa using hzl,set_lt hz hvl,st.1⟩
 ·have hin:i=xs.length:=dF hb
  subst hin
  refine xG ?_
  refine aw_callq (trim_fa zs hz om) rfl rfl rfl (by refine xS ?_;exact .c (lec_oslws eE om om (fun j _=>by rw [Nat.zero_add];rfl))) ?_
  refine xSGT hC ?_
  rw [sub_end hx hz hzl hle hv]
  exact .tup ⟨.c ler_ws,.c .nilI,trivial⟩
set_option maxHeartbeats 1600000 in
theorem mul_fa (xs ys:List Nat) (hx:∀x∈xs,x<4294967296) (hy:∀x∈ys,x<4294967296) (hlx:xs.length≤68719476736) (hly:ys.length≤68719476736):
 Fa Tryz.prog 103 [.c (ws false xs),.c (ws false ys)] (.c (ws true (words (val xs*val ys)))):=by
 refine fa_of_body Tryz.func103 rfl rfl (by simp [Tryz.ntmps103]) fun C hC=> ?_
 simp only [initS,Nat.reduceAdd]
 refine xG ?_
 have hn0:(xs.length:Int)+(ys.length:Int)=((xs.length+ys.length:Nat):Int):=by omega
 rw [hn0]
 generalize hn:xs.length+ys.length=n
 refine aw_make (n:=n) (c:=n) rfl rfl rfl ty_e_ws ty_z_u32 rfl om eE eE rfl rfl om om om fun g hg=> ?_
 rw [make_wf n]
 refine xSG ?_
 refine aw_lp (fun x:Nat×List Nat=>[(0,.c (ws false xs)),(1,.c (ws false ys)),(5,.c (.osl g 1 0 n)),(17,.c (ws false xs)),(18,.c (.int .i64 xs.length)),(19,.c (.int .i64 x.1))]) (fun x=>[(g,.cells 130 n (wf x.2))])
  (fun x=>x.1≤xs.length∧x.2.length=n∧(∀y∈x.2,y<4294967296)∧val x.2=val (xs.take x.1)*val ys) (fun x=>xs.length-x.1) (0,List.replicate n 0) eB zZ
  ⟨Nat.zero_le _,by simp,replicate_lt _,by simp [val,val_replicate]⟩ ?_
 rintro ⟨i,z0⟩ ⟨hi,hzl0,hz0,hv0⟩
 dsimp only at hi hzl0 hz0 hv0⊢
 refine xG ?_
 refine aw_cond eE (fun hb=> ?_) (fun hb=> ?_)
 ·have hin:i<xs.length:=dT hb
  have hxi:=getD_lt hx i
  have hz0':val z0<4294967296^(i+ys.length):=by
   rw [hv0,Nat.pow_add]
   exact Nat.mul_lt_mul_of_lt_of_lt (val_take_lt xs hx i om) (val_lt ys hy)
  refine xG ?_
  generalize hxx:xs.getD i 0=x at*
  refine aw_lp (fun s:Nat×Nat×List Nat=>[(0,.c (ws false xs)),(1,.c (ws false ys)),(5,.c (.osl g 1 0 n)),(6,.c (.int .i64 i)),(7,.c (.int .u32 x)),(8,.c (.int .u64 s.2.1)),(17,.c (ws false xs)),(18,.c (.int .i64 xs.length)),(19,.c (.int .i64 i)),(24,.c (ws false ys)),(25,.c (.int .i64 ys.length)),(26,.c (.int .i64 s.1))]) (fun s=>[(g,.cells 130 n (wf s.2.2))])
   (fun s=>s.1≤ys.length∧s.2.1<4294967296∧s.2.2.length=n∧(∀y∈s.2.2,y<4294967296)∧(∀j,i+s.1≤j→s.2.2.getD j 0=z0.getD j 0)∧val s.2.2+4294967296^(i+s.1)*s.2.1=val z0+4294967296^i*(x*val (ys.take s.1))) (fun s=>ys.length-s.1) (0,0,z0) eB zZ
   ⟨Nat.zero_le _,by simp,hzl0,hz0,fun _ _=>rfl,by simp [val]⟩ ?_
  rintro ⟨k,c,zs⟩ ⟨hk,hc,hzl,hz,hzz,hv⟩
  dsimp only at hk hc hzl hz hzz hv⊢
  refine xG ?_
  refine aw_cond eE (fun hb=> ?_) (fun hb=> ?_)
  ·have hkn:k<ys.length:=dT hb
   have hyk:=getD_lt hy k
   have hzk:=getD_lt hz (i+k)
   have hst:=mul_step (ys:=ys) (x:=x) (zs:=zs) (c:=c) om hv
   have hmb:=mul_bound hxi hyk
   have hmb2:(0:Int)≤(x:Int)*((ys.getD k 0:Nat):Int)∧(x:Int)*((ys.getD k 0:Nat):Int)≤18446744065119617025:=by rw [←Int.natCast_mul];omega
   refine xG ?_
   have ew:(c:Int)+((x:Int)*((ys.getD k 0:Nat):Int)+((zs.getD (i+k) 0:Nat):Int))=((c+(x*ys.getD k 0+zs.getD (i+k) 0):Nat):Int):=by simp
   rw [ew,wrap_u32_nat]
   refine xW ?_
   refine xS ?_
   rw [updF_wf om]
   refine xG ?_
   refine aw_stop ⟨(k+1,(c+(x*ys.getD k 0+zs.getD (i+k) 0))/4294967296,zs.set (i+k) ((c+(x*ys.getD k 0+zs.getD (i+k) 0))%4294967296)),by dsimp only;omega,eB,zZ,by dsimp only;omega,by dsimp only;omega,by simpa using hzl,set_lt hz om,fun j hj=> ?_,hst⟩
   dsimp only at hj⊢
   rw [Go.PN.getD_set_ne om]
   exact hzz j om
  ·have hkn:k=ys.length:=dF hb
   subst hkn
   refine xG ?_
   rw [wrap_u32_nat,Nat.mod_eq_of_lt hc]
   refine xW ?_
   refine xS ?_
   rw [updF_wf om]
   refine xG ?_
   have h0:zs.getD (i+ys.length) 0=0:=by rw [hzz _ (Nat.le_refl _)];exact getD_zero_of_lt hz0' (Nat.le_refl _)
   have h1:=val_set (zs:=zs) (j:=i+ys.length) (v:=c) om
   rw [h0,Nat.mul_zero,Nat.add_zero,hv,List.take_length,hv0] at h1
   refine aw_stop ⟨(i+1,zs.set (i+ys.length) c),by dsimp only;omega,eB,zZ,by dsimp only;omega,by simpa using hzl,set_lt hz hc,?_⟩
   dsimp only
   rw [h1,val_take_succ,hxx,Nat.add_mul,Nat.mul_assoc]
 ·have hin:i=xs.length:=dF hb
  subst hin
  refine xG ?_
  refine aw_callq (trim_fa z0 hz0 om) rfl rfl rfl (by refine xS ?_;exact .c (lec_oslws eE om om (fun j _=>by rw [Nat.zero_add];rfl))) ?_
  refine xSGT hC ?_
  rw [hv0,List.take_length]
  exact .one (.c ler_ws)
end Go.Proofs.YtfcnbgmclfkfcaaGreat
namespace Go.Proofs.YtfcnbgmclfkfcaaGreat
open Go.AI Go.PN
attribute [local irreducible] aw Fa Fh DrK
set_option maxHeartbeats 1600000 in
theorem take_fh (g off L n:Nat) (ys us vs:List Nat) (hus:us=(ys.drop off).take L) (hL:off+L≤ys.length) (hy:∀x∈ys,x<4294967296) (hv:∀x∈vs,x<4294967296) (hly:ys.length≤68719476738) (hn:n<4294967296) (hvl:vs.length<L):
 Fh Tryz.prog 190 [(g,.cells 130 ys.length (wf ys))] [.c (.osl g 1 off L),.c (ws false vs),.c (.int .u64 n)]
  (fun r h=>∃(b:Nat) (zs:List Nat),r=.c (.bool ((b:Int)==1))∧h=[(g,.cells 130 ys.length (wf (win ys off zs)))]∧zs.length=L∧(∀y∈zs,y<4294967296)∧b≤1∧val zs+n*val vs=val us+4294967296^L*b):=by
 refine fh_of_body Tryz.func190 rfl rfl (by simp [Tryz.ntmps190]) fun C hC=> ?_
 have hu:∀x∈us,x<4294967296:=fun x hx=>hy x (List.mem_of_mem_drop (List.mem_of_mem_take (hus▸hx)))
 have hul:us.length=L:=by rw [hus];simp;omega
 have hself:win ys off us=ys:=by rw [hus];exact win_self hL
 simp only [initS,Nat.reduceAdd]
 refine xG ?_
 refine aw_lp (fun x:Nat×Nat×Nat×List Nat=>[(0,.c (.osl g 1 off L)),(1,.c (ws false vs)),(2,.c (.int .u64 n)),(7,.c (.int .u64 x.2.1)),(8,.c (.int .u64 x.2.2.1)),(12,.c (.int .i64 L)),(13,.c (.int .i64 x.1))]) (fun x=>[(g,.cells 130 ys.length (wf (win ys off x.2.2.2)))])
  (fun x=>x.1≤L∧x.2.1<4294967296∧x.2.2.1≤1∧x.2.2.2.length=L∧(∀y∈x.2.2.2,y<4294967296)∧(∀j,x.1≤j→x.2.2.2.getD j 0=us.getD j 0)∧(vs.length<x.1→x.2.1=0)∧val (x.2.2.2.take x.1)+n*val (vs.take x.1)=val (us.take x.1)+4294967296^x.1*(x.2.1+x.2.2.1)) (fun x=>L-x.1) (0,0,0,us) eB (by rw [hself];exact zZ)
  ⟨Nat.zero_le _,by simp,Nat.zero_le _,hul,hu,fun _ _=>rfl,fun _=>rfl,by simp [val]⟩ ?_
 rintro ⟨i,c,b,zs⟩ ⟨hi,hc,hbb,hzl,hz,hsame,hc0,hval⟩
 dsimp only at hi hc hbb hzl hz hsame hc0 hval⊢
 refine xG ?_
 refine aw_cond eE (fun hb=> ?_) (fun hb=> ?_)
 ·have hin:i<L:=dT hb
  have hui:=getD_lt hu i
  have hvi:=getD_lt hv i
  have hwi:(win ys off zs).getD (off+i) 0=us.getD i 0:=by rw [win_getD om om,hsame i (Nat.le_refl _)]
  obtain⟨hcl,hcq⟩:=take_carry hc hn hvi
  refine xG ?_
  refine aw_callq (word_fa vs i hv) rfl rfl rfl eL ?_
  refine xSG ?_
  obtain⟨st1,st2⟩:=take_step (zs:=zs) (n:=n) (vs:=vs) om hui hbb hval
  have hT:(c:Int)+(n:Int)*((vs.getD i 0:Nat):Int)=((c+n*vs.getD i 0:Nat):Int):=by rw [Int.natCast_add,Int.natCast_mul]
  have hc2:vs.length<i+1→(c+n*vs.getD i 0)/4294967296=0:=fun hlt=>by rw [getD_ge om];omega
  rw [hwi,hT]
  generalize c+n*vs.getD i 0=T at hcl hcq st1 st2 hc2⊢
  have hTm:T%4294967296<4294967296:=Nat.mod_lt _ om
  rw [wrap_u32_nat]
  refine xO ?_
  (refine aw_2q false rfl (fun R hR=> ?_);simp only [go_sem];(with_reducible refine hR _ _ ?_ ?_);(focus (((try simp only [inRange])<;>and_intros<;>first|exact True.intro|omega|trivial);done));clear hR R)
  refine xO ?_
  (refine aw_2q false rfl (fun R hR=> ?_);simp only [go_sem];(with_reducible refine hR _ _ ?_ ?_);(focus (((try simp only [inRange])<;>and_intros<;>first|exact True.intro|omega|trivial);done));clear hR R)
  rw [wrap_subD hui hTm hbb]
  generalize subD (us.getD i 0) (T%4294967296) b=D at st1 st2⊢
  obtain⟨v,b2,e1,e2,hvl,st⟩:∃v b2:Nat,wrapZ .u32 (D:Int)=(v:Int)∧shrZ .u64 (D:Int) 63=(b2:Int)∧v<4294967296∧(val ((zs.set i v).take (i+1))+n*val (vs.take (i+1))=val (us.take (i+1))+4294967296^(i+1)*(T/4294967296+b2)∧b2≤1):=
   ⟨_,_,wrap_u32_nat D,shr63_nat D,Nat.mod_lt _ om,st1,st2⟩
  clear st1 st2
  refine xG ?_
  rw [e1]
  refine xW ?_
  refine xS ?_
  rw [updF_wf (by rw [win_length om];omega),win_set om om]
  refine xG ?_
  rw [e2,nat_div_32]
  refine aw_stop ⟨(i+1,T/4294967296,b2,zs.set i v),by dsimp only;omega,eB,zZ,by dsimp only;omega,hcq,st.2,by simpa using hzl,set_lt hz hvl,fun j hj=> ?_,hc2,st.1⟩
  dsimp only at hj⊢
  rw [PN.getD_set_ne om];exact hsame j om
 ·have hin:i=L:=dF hb
  subst hin
  refine xGU ?_
  rw [hc0 hvl,List.take_of_length_le (show zs.length≤i from by omega),List.take_of_length_le (show vs.length≤i from by omega),List.take_of_length_le (show us.length≤i from by omega),Nat.zero_add] at hval
  exact⟨b,zs,rfl,rfl,hzl,hz,hbb,hval⟩
set_option maxHeartbeats 1600000 in
theorem give_fh (g off L:Nat) (ys us vs:List Nat) (hus:us=(ys.drop off).take L) (hL:off+L≤ys.length) (hy:∀x∈ys,x<4294967296) (hv:∀x∈vs,x<4294967296) (hly:ys.length≤68719476738) (hvl:vs.length<L):
 Fh Tryz.prog 191 [(g,.cells 130 ys.length (wf ys))] [.c (.osl g 1 off L),.c (ws false vs)]
  (fun r h=>∃(c:Nat) (zs:List Nat),r=.tup []∧h=[(g,.cells 130 ys.length (wf (win ys off zs)))]∧zs.length=L∧(∀y∈zs,y<4294967296)∧val zs+4294967296^L*c=val us+val vs):=by
 refine fh_of_body Tryz.func191 rfl rfl (by simp [Tryz.ntmps191]) fun C hC=> ?_
 have hu:∀x∈us,x<4294967296:=fun x hx=>hy x (List.mem_of_mem_drop (List.mem_of_mem_take (hus▸hx)))
 have hul:us.length=L:=by rw [hus];simp;omega
 have hself:win ys off us=ys:=by rw [hus];exact win_self hL
 simp only [initS,Nat.reduceAdd]
 refine xG ?_
 refine aw_lp (fun x:Nat×Nat×List Nat=>[(0,.c (.osl g 1 off L)),(1,.c (ws false vs)),(4,.c (.int .u64 x.2.1)),(7,.c (.int .i64 L)),(8,.c (.int .i64 x.1))]) (fun x=>[(g,.cells 130 ys.length (wf (win ys off x.2.2)))])
  (fun x=>x.1≤L∧x.2.1≤1∧x.2.2.length=L∧(∀y∈x.2.2,y<4294967296)∧(∀j,x.1≤j→x.2.2.getD j 0=us.getD j 0)∧val (x.2.2.take x.1)+4294967296^x.1*x.2.1=val (us.take x.1)+val (vs.take x.1)) (fun x=>L-x.1) (0,0,us) eB (by rw [hself];exact zZ)
  ⟨Nat.zero_le _,Nat.zero_le _,hul,hu,fun _ _=>rfl,by simp [val]⟩ ?_
 rintro ⟨i,c,zs⟩ ⟨hi,hc,hzl,hz,hsame,hval⟩
 dsimp only at hi hc hzl hz hsame hval⊢
 refine xG ?_
 refine aw_cond eE (fun hb=> ?_) (fun hb=> ?_)
 ·have hin:i<L:=dT hb
  have hui:=getD_lt hu i
  have hvi:=getD_lt hv i
  have hwi:(win ys off zs).getD (off+i) 0=us.getD i 0:=by rw [win_getD om om,hsame i (Nat.le_refl _)]
  refine xG ?_
  refine aw_dr 12 ty_mixed (by kernel_rfl) ?_
  refine xO ?_
  refine xO ?_
  refine xO ?_
  refine xO ?_
  refine xO ?_
  rw [hwi]
  refine xG ?_
  refine drk_call (word_fa vs i hv) rfl rfl rfl eL ?_
  refine xSG ?_
  have ew:wrapZ .u32 ((c:Int)+(((us.getD i 0:Nat):Int)+((vs.getD i 0:Nat):Int)))=(((c+(us.getD i 0+vs.getD i 0))%4294967296:Nat):Int):=by rw [wrapZ_eq,IntKind.wrap_u32];omega
  rw [ew]
  refine xW ?_
  refine xS ?_
  rw [updF_wf (by rw [win_length om];omega),win_set om om]
  refine xG ?_
  refine aw_stop ⟨(i+1,(c+(us.getD i 0+vs.getD i 0))/4294967296,zs.set i ((c+(us.getD i 0+vs.getD i 0))%4294967296)),by dsimp only;omega,eB,zZ,by dsimp only;omega,by dsimp only;omega,by simpa using hzl,set_lt hz om,fun j hj=> ?_,add_step om hval⟩
  dsimp only at hj⊢
  rw [PN.getD_set_ne om];exact hsame j om
 ·have hin:i=L:=dF hb
  subst hin
  refine xG ?_
  refine xV ?_
  rw [List.take_of_length_le (show zs.length≤i from by omega),List.take_of_length_le (show vs.length≤i from by omega),List.take_of_length_le (show us.length≤i from by omega)] at hval
  exact⟨c,zs,rfl,rfl,hzl,hz,hval⟩
end Go.Proofs.YtfcnbgmclfkfcaaGreat
namespace Go.AI
def bitlen (n:Nat):Nat:=if n=0 then 0 else Nat.log2 n+1
theorem POk.indexStr {P:Program} {h:Heap} {ρ:Operand→AV} {t:TypeId} {x ix:Operand} {s:ByteArray} {k:IntKind} {i:Nat} {b:UInt8} (ht:P.underlying t=some .string) (hx:ρ x=.c (.str s)) (hi:ρ ix=.c (.int k (i:Int))) (hb:s[i]?=some b):
 POk P h ρ (.index t x ix) (.c (.int .u8 (b.toNat:Nat))):=fun S w e _ ho _=>by
 have h1:e x=.string s:=by have:=ho x (by simp [Op.operands]);rw [hx] at this;exact this
 have h2:e ix=.int k i:=by have:=ho ix (by simp [Op.operands]);rw [hi] at this;exact this
 refine⟨.int .u8 (b.toNat:Nat),fun o hop=> ?_,rfl⟩
 simp [execOp,hop,h1,h2,Instr.index,asIntOf,run_underlying ht,hb]
theorem aw_idx {E:Env} {K:List It} {σ:Sl} {h:Heap} {all rest:List Oper} {o:Oper} {t:TypeId} {x ix:Operand} {s:ByteArray} {k:IntKind} {i:Nat} (hop:o.op=.index t x ix) (hw:wantA all σ o=some true) (hd:dstOk E.N o.dst=true) (ht:E.P.underlying t=some .string)
 (hx:ev σ x=.c (.str s)) (hi:ev σ ix=.c (.int k (i:Int))) (htab:∀j,j<256→(s[j]?).map UInt8.toNat=some (bitlen j)) (hlt:i<256) (kk:aw E (.ops all rest::K) (σ.setO o.dst (.c (.int .u8 (bitlen i:Nat)))) h):aw E (.ops all (o::rest)::K) σ h:=by
 have h1:=htab i hlt
 cases hs:s[i]? with
 |none=>rw [hs] at h1;cases h1
 |some b=>
  rw [hs] at h1
  injection h1 with h1
  rw [←h1] at kk
  exact aw_pure hw (by rw [hop];exact POk.indexStr ht hx hi hs) hd rfl kk
theorem shr_u32_16 (x:Nat):shrZ .u32 (x:Int) 16=((x/65536:Nat):Int):=by
 rw [shrZ_eq]
 show(x:Int).fdiv 65536=_
 rw [Int.fdiv_eq_ediv_of_nonneg _ om];omega
theorem shr_u32_8 (x:Nat):shrZ .u32 (x:Int) 8=((x/256:Nat):Int):=by
 rw [shrZ_eq]
 show(x:Int).fdiv 256=_
 rw [Int.fdiv_eq_ediv_of_nonneg _ om];omega
theorem bitlen_div {x k:Nat} (hx:2^k≤x):bitlen x=k+bitlen (x/2^k):=by
 have hp:=Nat.two_pow_pos k
 have h0:x≠0:=by omega
 have h1:x/2^k≠0:=by have:=Nat.div_pos hx hp;omega
 unfold bitlen
 rw [if_neg h0,if_neg h1]
 have:Nat.log2 x=Nat.log2 (x/2^k)+k:=by
  clear h1
  induction k generalizing x with
  |zero=>simp
  |succ k ih=>
   have e2:2≤x:=by have:2^1≤2^(k+1):=Nat.pow_le_pow_right om om;omega
   rw [Nat.log2_def,if_pos e2]
   have hk:2^k≤x/2:=by rw [Nat.pow_succ] at hx;omega
   rw [ih hk (Nat.two_pow_pos k) (by have:=Nat.two_pow_pos k;omega),Nat.div_div_eq_div_mul,Nat.pow_succ,Nat.mul_comm 2]
   omega
 omega
end Go.AI
namespace Go.Proofs.YtfcnbgmclfkfcaaGreat
open Go.AI Go.PN
attribute [local irreducible] aw Fa Fh DrK
theorem ty_str:Tryz.prog.underlying 9=some .string:=by kernel_rfl
@[go_sem] theorem ty_i_u8:tInt Tryz.prog 5=some .u8:=by kernel_rfl
theorem wrap_u8_nat {n:Nat} (h:n<256):wrapZ .u8 (n:Int)=(n:Int):=by
 rw [wrapZ_eq];exact wrap_inRange (k:=.u8) ⟨by omega,by omega⟩
theorem bitlen_le8:∀j,j<256→bitlen j≤8:=by decide+kernel
set_option maxHeartbeats 1600000 in
set_option maxRecDepth 10000 in
theorem len32_fa (x:Nat) (hx:x<4294967296):Fa Tryz.prog 186 [.c (.int .u32 x)] (.c (.int .i64 (bitlen x:Nat))):=by
 refine fa_of_body Tryz.func186 rfl rfl (by simp [Tryz.ntmps186]) fun C hC=> ?_
 simp only [initS,Nat.reduceAdd]
 refine xG ?_
 refine aw_cond eE (fun hb=> ?_) (fun hb=> ?_)
 ·have hx1:65536≤x:=dT hb
  have e1:bitlen x=16+bitlen (x/65536):=bitlen_div (k:=16) hx1
  refine xG ?_
  rw [shr_u32_16]
  refine xG ?_
  refine aw_cond eE (fun hb=> ?_) (fun hb=> ?_)
  ·have hx2:256≤x/65536:=dT hb
   have e2:bitlen (x/65536)=8+bitlen (x/65536/256):=bitlen_div (k:=8) hx2
   have hb8:=bitlen_le8 (x/65536/256) om
   refine xG ?_
   rw [shr_u32_8]
   refine xG ?_
   rw [wrap_u8_nat (n:=x/65536/256) om]
   refine aw_idx (i:=x/65536/256) rfl rfl rfl ty_str rfl eE (by decide+kernel) om ?_
   refine xSGT hC ?_
   exact .one (.c (ler_int om))
  ·have hx2:x/65536<256:=dF hb
   have hb8:=bitlen_le8 (x/65536) om
   refine xG ?_
   rw [wrap_u8_nat (n:=x/65536) om]
   refine aw_idx (i:=x/65536) rfl rfl rfl ty_str rfl eE (by decide+kernel) om ?_
   refine xSGT hC ?_
   exact .one (.c (ler_int om))
 ·have hx1:x<65536:=dF hb
  refine xG ?_
  refine aw_cond eE (fun hb=> ?_) (fun hb=> ?_)
  ·have hx2:256≤x:=dT hb
   have e2:bitlen x=8+bitlen (x/256):=bitlen_div (k:=8) hx2
   have hb8:=bitlen_le8 (x/256) om
   refine xG ?_
   rw [shr_u32_8]
   refine xG ?_
   rw [wrap_u8_nat (n:=x/256) om]
   refine aw_idx (i:=x/256) rfl rfl rfl ty_str rfl eE (by decide+kernel) om ?_
   refine xSGT hC ?_
   exact .one (.c (ler_int om))
  ·have hx2:x<256:=dF hb
   have hb8:=bitlen_le8 x om
   refine xG ?_
   rw [wrap_u8_nat (n:=x) om]
   refine aw_idx (i:=x) rfl rfl rfl ty_str rfl eE (by decide+kernel) om ?_
   refine xSGT hC ?_
   exact .one (.c (ler_int om))
theorem bitlen_lt {x k:Nat} (h:x<2^k):bitlen x≤k:=by
 unfold bitlen
 split
 ·omega
 ·rename_i h0
  have:=(Nat.log2_lt h0).2 h
  omega
set_option maxHeartbeats 1600000 in
theorem lead_fa (x:Nat) (hx:x<4294967296):Fa Tryz.prog 188 [.c (.int .u32 x)] (.c (.int .i64 (32-bitlen x:Nat))):=by
 refine fa_of_body Tryz.func188 rfl rfl (by simp [Tryz.ntmps188]) fun C hC=> ?_
 simp only [initS,Nat.reduceAdd]
 have hb:bitlen x≤32:=bitlen_lt hx
 refine xG ?_
 refine aw_callq (len32_fa x hx) rfl rfl rfl eL ?_
 refine xSGT hC ?_
 exact .one (.c (ler_int om))
theorem drop_zero {xs:List Nat} {m:Nat} (h:∀j,m≤j→xs.getD j 0=0):val (xs.drop m)=0:=by
 refine val_zero fun x hx=> ?_
 obtain⟨i,hi,rfl⟩:=List.getElem_of_mem hx
 have:=h (m+i) om
 rw [List.getD_eq_getElem?_getD] at this
 simp only [List.length_drop] at hi
 simpa [show m+i<xs.length from by omega] using this
theorem bits_top {xs:List Nat} {m:Nat} (hx:∀x∈xs,x<4294967296) (hm:m<xs.length) (hz:∀j,m+1≤j→xs.getD j 0=0) (h0:xs.getD m 0≠0):bitlen (val xs)=32*m+bitlen (xs.getD m 0):=by
 have h1:=val_split xs (m+1) om
 rw [drop_zero hz,Nat.mul_zero,Nat.add_zero,val_take_succ] at h1
 have h2:=val_take_lt xs hx m om
 have hp:4294967296^m=2^(32*m):=by rw [Nat.pow_mul]
 rw [hp] at h1 h2
 have hle:2^(32*m)≤val xs:=by
  rw [h1]
  have:=Nat.mul_le_mul_left (2^(32*m)) (show 1≤xs.getD m 0 from by omega)
  omega
 rw [bitlen_div hle,h1,Nat.add_mul_div_left _ _ (Nat.two_pow_pos _),Nat.div_eq_of_lt h2,Nat.zero_add]
set_option maxHeartbeats 1600000 in
theorem bits_fa (xs:List Nat) (hx:∀x∈xs,x<4294967296) (hlx:xs.length≤68719476736):Fa Tryz.prog 150 [.c (ws false xs)] (.c (.int .i64 (bitlen (val xs):Nat))):=by
 refine fa_of_body Tryz.func150 rfl rfl (by simp [Tryz.ntmps150]) fun C hC=> ?_
 simp only [initS,Nat.reduceAdd]
 refine xG ?_
 refine aw_lp (fun m:Nat=>[(0,.c (ws false xs)),(3,.c (.int .i64 ((m:Int)-1)))]) (fun _=>[]) (fun m=>m≤xs.length∧(∀j,m≤j→xs.getD j 0=0)) id xs.length eB zZ ⟨Nat.le_refl _,fun j hj=>getD_ge hj⟩ ?_
 rintro m ⟨hm,hz⟩
 refine xG ?_
 refine aw_cond eE (fun hb=> ?_) (fun hb=> ?_)
 ·have hm1:1≤m:=dT hb
  have e1:((m:Int)-1).toNat=m-1:=by omega
  have hxi:=getD_lt hx (m-1)
  refine xG ?_
  refine aw_cond eE (fun hb=> ?_) (fun hb=> ?_)
  ·have h0:xs.getD (m-1) 0≠0:=by simpa using hb
   have hbt:=bits_top hx (m:=m-1) om (by rw [show m-1+1=m from by omega];exact hz) h0
   have hbl:bitlen (xs.getD (m-1) 0)≤32:=bitlen_lt hxi
   refine xG ?_
   refine aw_callq (len32_fa _ hxi) rfl rfl rfl eL ?_
   refine xSGT hC ?_
   exact .one (.c (ler_int om))
  ·have h0:xs.getD (m-1) 0=0:=by simpa using hb
   refine xG ?_
   refine aw_stop ⟨m-1,by simp only [id];omega,eB,zZ,by omega,fun j hj=> ?_⟩
   by_cases e:j=m-1
   ·rw [e];exact h0
   ·exact hz j om
 ·have hm0:m=0:=dF hb
  subst hm0
  refine xGT hC ?_
  have:=drop_zero hz
  rw [List.drop_zero] at this
  exact .one (.c (ler_int (by rw [this];rfl)))
theorem bitlen_zero {n:Nat}:bitlen n=0↔n=0:=by
 unfold bitlen;split<;>simp [*]
end Go.Proofs.YtfcnbgmclfkfcaaGreat
namespace Go.PN
theorem val_one (x:Nat):val [x]=x:=by simp [val]
theorem val_cut {zs:List Nat} {m:Nat} (h:val zs<4294967296^m):val (zs.drop m)=0:=by
 refine val_zero fun x hx=> ?_
 obtain⟨i,hi,rfl⟩:=List.getElem_of_mem hx
 have:=getD_zero_of_lt h (show m≤m+i from by omega)
 rw [List.getD_eq_getElem?_getD] at this
 simp only [List.length_drop] at hi
 simpa [show m+i<zs.length from by omega] using this
theorem val_take_all {zs:List Nat} {k:Nat} (h:zs.length=k):val (zs.take k)=val zs:=by rw [List.take_of_length_le om]
theorem top2 {zs:List Nat} {k:Nat} (hl:zs.length=k+2):val zs=(zs.getD (k+1) 0*4294967296+zs.getD k 0)*4294967296^k+val (zs.take k):=by
 rw [←val_take_all hl,val_take_succ,val_take_succ,Nat.pow_succ,Nat.add_mul,Nat.mul_assoc,Nat.mul_comm (4294967296^k) (4294967296*zs.getD (k+1) 0),Nat.mul_comm (4294967296^k) (zs.getD k 0),Nat.mul_comm 4294967296 (zs.getD (k+1) 0)]
 omega
theorem top3 {zs:List Nat} {k:Nat} (hl:zs.length=k+3):val zs=((zs.getD (k+2) 0*4294967296+zs.getD (k+1) 0)*4294967296+zs.getD k 0)*4294967296^k+val (zs.take k):=by
 rw [←val_take_all hl,val_take_succ,val_take_succ,val_take_succ]
 generalize zs.getD (k+2) 0=a
 generalize zs.getD (k+1) 0=b
 generalize zs.getD k 0=c
 simp only [Nat.pow_succ]
 generalize 4294967296^k=D
 simp only [Nat.add_mul]
 have e1:a*4294967296*4294967296*D=D*4294967296*4294967296*a:=by rw [Nat.mul_comm (D*4294967296*4294967296) a,Nat.mul_comm D,Nat.mul_comm (4294967296*D),←Nat.mul_assoc 4294967296 4294967296 D,←Nat.mul_assoc,←Nat.mul_assoc]
 have e2:b*4294967296*D=D*4294967296*b:=by rw [Nat.mul_comm (D*4294967296) b,Nat.mul_comm D,←Nat.mul_assoc]
 have e3:c*D=D*c:=Nat.mul_comm _ _
 rw [e1,e2,e3]
 omega
theorem win_getD' {us:List Nat} {j L i:Nat} (hi:i<L):((us.drop j).take L).getD i 0=us.getD (j+i) 0:=by
 rw [getD_take hi,List.getD_eq_getElem?_getD,List.getD_eq_getElem?_getD,List.getElem?_drop]
theorem win_win {ys zs zs2:List Nat} {off:Nat} (h:off+zs.length≤ys.length) (he:zs2.length=zs.length):win (win ys off zs) off zs2=win ys off zs2:=by
 unfold win
 have h1:(ys.take off++(zs++ys.drop (off+zs.length))).take off=ys.take off:=by
  rw [List.take_append_of_le_length (by simp;omega),List.take_take,Nat.min_self]
 have h2:(ys.take off++(zs++ys.drop (off+zs.length))).drop (off+zs2.length)=ys.drop (off+zs2.length):=by
  rw [he,←List.append_assoc,List.drop_append_of_le_length (by simp;omega),List.drop_of_length_le (by simp;omega),List.nil_append]
 rw [h1,h2]
theorem win_of_win {ys zs:List Nat} {off L:Nat} (h:off+L≤ys.length) (hz:zs.length=L):zs=((win ys off zs).drop off).take L:=by
 unfold win
 rw [List.drop_append_of_le_length (by simp;omega),List.drop_of_length_le (by simp;omega),List.nil_append,List.take_append_of_le_length om,List.take_of_length_le om]
theorem window {us:List Nat} {j L V:Nat} (hu:∀x∈us,x<4294967296) (hL:j+L+1≤us.length) (hV:V<4294967296^L) (hlt:val us<V*4294967296^(j+1)):
 val us=val (us.take j)+4294967296^j*val ((us.drop j).take (L+1))∧val (us.take j)<4294967296^j∧val (us.drop (j+(L+1)))=0∧val ((us.drop j).take (L+1))<V*4294967296:=by
 have h1:val (us.drop (j+(L+1)))=0:=by
  refine val_cut (Nat.lt_of_lt_of_le hlt ?_)
  rw [show j+(L+1)=L+(j+1) from by omega,Nat.pow_add 4294967296 L (j+1)]
  exact Nat.mul_le_mul_right _ (Nat.le_of_lt hV)
 have h2:=val_split us j om
 have h3:=val_split (us.drop j) (L+1) (by simp;omega)
 rw [List.drop_drop,h1,Nat.mul_zero,Nat.add_zero] at h3
 rw [h3] at h2
 have h4:=val_take_lt us hu j om
 refine⟨h2,h4,h1,?_⟩
 rw [h2,Nat.pow_succ,Nat.mul_comm (4294967296^j) 4294967296,←Nat.mul_assoc,Nat.mul_comm (V*4294967296)] at hlt
 exact Nat.lt_of_mul_lt_mul_left (a:=4294967296^j) om
theorem head_le {W V v1 v2 vr D w0 w1 w2 wr:Nat} (hV:V=(v1*4294967296+v2)*D+vr) (hv2:v2<4294967296) (hvr:vr<D) (hW:W=((w0*4294967296+w1)*4294967296+w2)*D+wr) (hlt:W<V*4294967296):w0≤v1:=by
 rcases Nat.lt_or_ge v1 w0 with h|h
 ·exfalso
  have h1:V+1≤(v1+1)*4294967296*D:=by
   have:(v1*4294967296+v2+1)*D≤(v1+1)*4294967296*D:=Nat.mul_le_mul_right D om
   rw [Nat.add_mul,Nat.one_mul] at this
   omega
  have h2:(v1+1)*4294967296*D*4294967296≤W:=by
   have:(v1+1)*4294967296*4294967296*D≤((w0*4294967296+w1)*4294967296+w2)*D:=Nat.mul_le_mul_right D om
   rw [Nat.mul_assoc _ D,Nat.mul_comm D,←Nat.mul_assoc]
   omega
  have h3:=Nat.mul_le_mul_right 4294967296 h1
  omega
 ·exact h
theorem div_step {A V U lo W P z q j Q:Nat} (hU:U=lo+P*W) (hlo:lo<P) (hz:z+q*V=W) (hzV:z<V) (hA:A=U+V*(P*4294967296*Q)) (hP:P=4294967296^j):
 lo+P*z<V*P∧A=(lo+P*z)+V*(P*(q+4294967296*Q)):=by
 constructor
 ·have:=Nat.mul_le_mul_left P (show z+1≤V from hzV)
  rw [Nat.mul_add,Nat.mul_one,Nat.mul_comm P V] at this
  omega
 ·rw [hA,hU,←hz,Nat.mul_add,Nat.mul_add,Nat.mul_add,←Nat.mul_assoc P 4294967296 Q]
  have:P*(q*V)=V*(P*q):=by rw [←Nat.mul_assoc,Nat.mul_comm]
  omega
theorem digit_ok {W V g z P:Nat} (hV:0<V) (h1:W/V≤g) (h2:g*V<W+V) (h:z+g*V=W+P*0):z+(W/V)*V=W∧z<V∧g=W/V:=by
 have hg:g≤W/V:=(Nat.le_div_iff_mul_le hV).2 om
 have e:g=W/V:=by omega
 subst e
 have:=Nat.div_add_mod W V
 have h3:=Nat.mod_lt W hV
 rw [Nat.mul_comm] at this
 exact⟨by omega,by omega,rfl⟩
theorem digit_back {W V g z z2 P c:Nat} (hV:0<V) (hVP:V≤P) (h1:W/V≤g) (h2:g*V<W+V) (hz:z<P) (hz2:z2<P) (h:z+g*V=W+P*1) (hb:z2+P*c=z+V):1≤g∧z2+(W/V)*V=W∧z2<V∧g-1=W/V:=by
 have hmod:=Nat.div_add_mod W V
 have hlt:=Nat.mod_lt W hV
 rw [Nat.mul_comm] at hmod
 have hg:W/V+1≤g:=by
  rcases Nat.lt_or_ge (W/V) g with h|h'
  ·exact h
  ·exfalso
   have e:g=W/V:=by omega
   rw [e] at h
   omega
 have hg2:g≤W/V+1:=by
  rcases Nat.lt_or_ge (W/V+1) g with h'|h'
  ·exfalso
   have:=Nat.mul_le_mul_right V (show W/V+2≤g from h')
   rw [Nat.add_mul] at this
   omega
  ·exact h'
 have e:g=W/V+1:=by omega
 rw [e,Nat.add_mul,Nat.one_mul] at h
 have hc:z2+P*c=W%V+P:=by omega
 have hc1:c=1:=by
  rcases c with _|_|c
  ·omega
  ·rfl
  ·exfalso
   have:P*(c+1+1)=P*c+P+P:=by rw [Nat.mul_add,Nat.mul_add];omega
   omega
 subst hc1
 exact⟨by rw [e];exact Nat.le_add_left _ _,by omega,by omega,by rw [e];rfl⟩
theorem div_end {a b n U q:Nat} (hb:0<b) (hlt:U<b*2^n) (h:a*2^n=U+b*2^n*q):q=a/b∧U/2^n=a%b:=by
 have hp:=Nat.two_pow_pos n
 have hV:0<b*2^n:=Nat.mul_pos hb hp
 have h1:a*2^n/(b*2^n)=q:=by rw [h,Nat.add_mul_div_left _ _ hV,Nat.div_eq_of_lt hlt,Nat.zero_add]
 have h2:a*2^n%(b*2^n)=U:=by rw [h,Nat.add_mul_mod_self_left,Nat.mod_eq_of_lt hlt]
 rw [Nat.mul_div_mul_right _ _ hp] at h1
 rw [Nat.mul_mod_mul_right] at h2
 exact⟨h1.symm,by rw [←h2,Nat.mul_div_cancel _ hp]⟩
theorem mul4 (p q B D:Nat):p*q*B*D=p*(q*B*D):=by rw [Nat.mul_assoc,Nat.mul_assoc,Nat.mul_assoc]
theorem guess_start {V W D v1 v2 head w2 wr vr:Nat} (hV:V=(v1*4294967296+v2)*D+vr) (hv1:0<v1) (hW:W=(head*4294967296+w2)*D+wr) (hw2:w2<4294967296) (hwr:wr<D):W/V≤head/v1:=by
 have hD:0<D:=by omega
 have hV0:0<V:=by
  have:=Nat.mul_le_mul_right D (show 1≤v1*4294967296+v2 from by omega)
  omega
 have h1:head+1≤(head/v1+1)*v1:=by
  have:=Nat.div_add_mod head v1
  have h2:=Nat.mod_lt head hv1
  rw [Nat.add_mul,Nat.one_mul,Nat.mul_comm (head/v1)]
  omega
 have h2:W<(head+1)*4294967296*D:=by
  have:(head*4294967296+w2+1)*D≤(head+1)*4294967296*D:=Nat.mul_le_mul_right D om
  rw [Nat.add_mul,Nat.one_mul] at this
  omega
 have h3:(head+1)*4294967296*D≤(head/v1+1)*V:=by
  have e1:(head+1)*4294967296*D≤(head/v1+1)*v1*4294967296*D:=Nat.mul_le_mul_right D (Nat.mul_le_mul_right _ h1)
  have e0:v1*4294967296*D≤V:=by rw [hV,Nat.add_mul,Nat.add_assoc];exact Nat.le_add_right _ _
  have e2:=Nat.mul_le_mul_left (head/v1+1) e0
  rw [←mul4] at e2
  exact Nat.le_trans e1 e2
 have:W/V<head/v1+1:=(Nat.div_lt_iff_lt_mul hV0).2 om
 omega
theorem norm_top {bs vs:List Nat} {n k:Nat} (hb:∀x∈bs,x<4294967296) (hl:bs.length=k+2) (hn:n≤32) (h1:2147483648≤bs.getD (k+1) 0*2^n) (h2:bs.getD (k+1) 0*2^n<4294967296) (hv:∀x∈vs,x<4294967296) (hvl:vs.length=k+3) (hvv:val vs=val bs*2^n):
 val (vs.take (k+2))=val bs*2^n∧2147483648≤vs.getD (k+1) 0∧val bs*2^n<4294967296^(k+2):=by
 have hB:=two_pow_split hn
 have hp:=Nat.two_pow_pos n
 have e1:=val_take_succ bs (k+1)
 rw [val_take_all hl] at e1
 have e2:=val_take_lt bs hb (k+1) om
 generalize bs.getD (k+1) 0=t at*
 generalize hP:4294967296^(k+1)=P at*
 have ht:t+1≤2^(32-n):=by
  have:2^n*t<2^n*2^(32-n):=by rw [Nat.mul_comm];omega
  exact Nat.lt_of_mul_lt_mul_left this
 have hlt:val bs*2^n<P*4294967296:=by
  have a1:val bs<P*(t+1):=by rw [Nat.mul_add];omega
  have a2:=Nat.mul_lt_mul_of_pos_right a1 hp
  have a3:P*(t+1)*2^n≤P*4294967296:=by
   rw [Nat.mul_assoc]
   refine Nat.mul_le_mul_left P ?_
   rw [hB,Nat.mul_comm]
   exact Nat.mul_le_mul_left _ ht
  omega
 have hP2:4294967296^(k+2)=P*4294967296:=by rw [show k+2=(k+1)+1 from rfl,Nat.pow_succ,hP]
 have hs:=val_split vs (k+2) om
 rw [val_cut (zs:=vs) (m:=k+2) (by rw [hvv,hP2];exact hlt),Nat.mul_zero,Nat.add_zero] at hs
 refine⟨by omega,?_,by rw [hP2];exact hlt⟩
 have e3:val (vs.take (k+2))=val (vs.take (k+1))+4294967296^(k+1)*vs.getD (k+1) 0:=val_take_succ vs (k+1)
 have e4:=val_take_lt vs hv (k+1) om
 rw [hP] at e3 e4
 have hge:P*2147483648≤val bs*2^n:=by
  rw [e1,Nat.add_mul,Nat.mul_assoc]
  have:=Nat.mul_le_mul_left P h1
  omega
 have:P*2147483648<P*(vs.getD (k+1) 0+1):=by
  rw [Nat.mul_add,Nat.mul_one]
  omega
 have:=Nat.lt_of_mul_lt_mul_left this
 omega
theorem div_start {a b n la lb:Nat} (ha:a<4294967296^la) (hb:4294967296^(lb-1)≤b) (hl:lb≤la) (h0:1≤lb):a*2^n<b*2^n*4294967296^(la+1-lb):=by
 have hp:=Nat.two_pow_pos n
 have h1:4294967296^la=4294967296^(lb-1)*4294967296^(la+1-lb):=by rw [←Nat.pow_add];congr 1;omega
 have h2:=Nat.mul_le_mul_right (4294967296^(la+1-lb)) hb
 rw [←h1] at h2
 have h3:=Nat.mul_lt_mul_of_pos_right (Nat.lt_of_lt_of_le ha h2) hp
 rw [Nat.mul_right_comm]
 exact h3
end Go.PN
