/- Parts of one proof, laid by a program. -/
import Derived.Test.YtfcnbgmclfkfcaaGreatM00
import Derived.Test.YtfcnbgmclfkfcaaGreatM09
set_option linter.unusedSimpArgs false
set_option linter.unusedVariables false
namespace Go.Proofs.YtfcnbgmclfkfcaaGreat
open Go.AI Go.PN
attribute [local irreducible] aw Fa Fh DrK
theorem val_ext {xs ys:List Nat} (h:∀j,xs.getD j 0=ys.getD j 0):val xs=val ys:=by
 induction xs generalizing ys with
 |nil=>
  refine(val_zero fun y hy=> ?_).symm
  obtain⟨i,hi,rfl⟩:=List.mem_iff_getElem.1 hy
  have:=h i
  rw [List.getD_eq_getElem?_getD,List.getD_eq_getElem?_getD,List.getElem?_eq_getElem hi] at this
  simpa using this.symm
 |cons x xs ih=>
  cases ys with
  |nil=>
   refine val_zero fun y hy=> ?_
   obtain⟨i,hi,rfl⟩:=List.mem_iff_getElem.1 hy
   have:=h i
   rw [List.getD_eq_getElem?_getD,List.getD_eq_getElem?_getD,List.getElem?_eq_getElem hi] at this
   simpa using this
  |cons y ys=>
   have h0:=h 0
   simp only [List.getD_cons_zero] at h0
   have h1:=ih (ys:=ys) fun j=>by have:=h (j+1);simpa only [List.getD_cons_succ] using this
   simp only [val,h0,h1]
theorem val_lt_of {xs ys:List Nat} {i:Nat} (hx:∀x∈xs,x<4294967296) (hlt:xs.getD i 0<ys.getD i 0) (hz:∀j,i<j→xs.getD j 0=ys.getD j 0):val xs<val ys:=by
 induction xs generalizing ys i with
 |nil=>
  have hy0:val ys≠0:=fun e=>by
   have:∀(l:List Nat) (k:Nat),val l=0→l.getD k 0=0:=by
    intro l
    induction l with
    |nil=>intro k _;simp
    |cons a l ih=>
     intro k hk
     simp only [val] at hk
     cases k with
     |zero=>simp only [List.getD_cons_zero];omega
     |succ k=>simp only [List.getD_cons_succ];exact ih k om
   rw [this ys i e] at hlt
   omega
  simp only [val];omega
 |cons x xs ih=>
  have hxl:x<4294967296:=hx x (by simp)
  cases ys with
  |nil=>simp at hlt
  |cons y ys=>
   cases i with
   |zero=>
    simp only [List.getD_cons_zero] at hlt
    have:=val_ext (xs:=xs) (ys:=ys) fun j=>by have:=hz (j+1) om;simpa only [List.getD_cons_succ] using this
    simp only [val,this];omega
   |succ i=>
    simp only [List.getD_cons_succ] at hlt
    have:=ih (ys:=ys) (i:=i) (fun z hz=>hx z (by simp [hz])) hlt (fun j hj=>by have:=hz (j+1) om;simpa only [List.getD_cons_succ] using this)
    simp only [val];omega
theorem word_lt' {xs ys:List Nat} {i:Nat} (hx:∀x∈xs,x<4294967296) (_hy:∀x∈ys,x<4294967296) (hlt:xs.getD i 0<ys.getD i 0) (hz:∀j,i<j→xs.getD j 0=ys.getD j 0):val xs<val ys:=val_lt_of hx hlt hz
set_option maxHeartbeats 400000 in
theorem qword_fa (xs:List Nat) (i:Nat) (hx:∀x∈xs,x<4294967296):Fa Tryz.prog 141 [.c (ws false xs),.c (.int .i64 i)] (.c (.int .u64 (xs.getD i 0:Nat))):=by
 have hb:=getD_lt hx i
 refine fa_of_body Tryz.func141 rfl rfl (by simp [Tryz.ntmps141]) fun C hC=> ?_
 simp only [initS,Nat.reduceAdd]
 refine xG ?_
 refine xF (fun hb=>?_) fun hb=>?_
 ·simp only [decide_eq_true_eq] at hb
  refine xGT hC ?_
  exact .one (.c (ler_int rfl))
 ·simp only [decide_eq_false_iff_not] at hb
  refine xGT hC ?_
  refine .one (.c (ler_int ?_))
  rw [getD_ge om];rfl
set_option maxHeartbeats 800000 in
theorem qtrim_fa (xs:List Nat) (hx:∀x∈xs,x<4294967296) (hl:xs.length≤1099511627776):Fa Tryz.prog 142 [.c (ws false xs)] (.c (ws true (words (val xs)))):=by
 refine fa_of_body Tryz.func142 rfl rfl (by simp [Tryz.ntmps142]) fun C hC=> ?_
 simp only [initS,Nat.reduceAdd]
 apply aw_seq
 apply aw_region
 refine xH ?_
 apply aw_seq
 apply aw_region
 refine xH ?_
 apply aw_seq
 refine aw_cut (fun m:Nat=>[(0,.c (ws false xs)),(3,.c (.int .i64 m))]) (fun _=>[]) (fun m=>m≤xs.length∧words (val xs)=xs.take m) ?_ ?_
 ·apply aw_block
  refine aw_lp (fun m:Nat=>[(0,.c (ws false xs)),(3,.c (.int .i64 m))]) (fun _=>[]) (fun m=>m≤xs.length∧(∀j,m≤j→xs.getD j 0=0)) id xs.length eB zZ ⟨Nat.le_refl _,fun j hj=>getD_ge hj⟩ ?_
  rintro m ⟨hm,hz⟩
  have hend:(m=0∨xs.getD (m-1) 0≠0)→words (val xs)=xs.take m:=trim_eq xs m hx hm hz
  refine xG ?_
  refine aw_split 8 eE (fun h0=> ?_) (fun h0=> ?_)<;>refine xS ?_
  ·have h0':0<m:=dT h0
   refine xG ?_
   refine xF (fun hb=>?_) fun hb=>?_
   ·have hb':xs.getD (m-1) 0=0:=by have:=eq_of_beq hb;omega
    refine xG ?_
    refine aw_stop ⟨m-1,by simp only [id];omega,eB,zZ,by omega,fun j hj=> ?_⟩
    by_cases hjm:j=m-1
    ·rw [hjm];exact hb'
    ·exact hz j om
   ·have hb':xs.getD (m-1) 0≠0:=fun e=>by rw [e] at hb;cases hb
    refine xG ?_
    exact aw_stop ⟨m,eB,zZ,hm,hend (.inr hb')⟩
  ·have h0':m=0:=dF h0
   refine xG ?_
   refine xN ?_
   refine xG ?_
   exact aw_stop ⟨m,eB,zZ,hm,hend (.inl h0')⟩
 rintro m ⟨hm,hw⟩
 refine xG ?_
 refine aw_buildSlice (xs:=[]) (cells:=[]) rfl rfl rfl ty_e_ws (by rw [envP,ty_z_u32];rfl) rfl om om (by simp) rfl fun g hg=> ?_
 refine xSG ?_
 by_cases h0:0<m
 ·refine aw_append rfl rfl rfl ty_e_ws ty_z_u32 rfl om eE eE om eE .row (fun _ _=>rfl) h0 (by unfold maxLen;omega) om eE fun g' hg'=> ?_
  refine xSGT hC ?_
  refine .one (.c ?_)
  rw [hw]
  refine ler_oslws eE om (by simp;omega) (fun j hj=> ?_)
  simp only [appF,Nat.not_lt_zero,if_false,Nat.sub_zero,Nat.zero_add]
  rw [getD_take hj]
 ·have hm0:m=0:=by omega
  subst hm0
  refine aw_append0 rfl rfl rfl ty_e_ws eE rfl eE .row eE ?_
  refine xSGT hC ?_
  refine .one (.c ?_)
  rw [hw]
  exact ler_oslws eE om rfl (fun j hj=>by omega)
set_option maxHeartbeats 800000 in
theorem qcmp_fa (xs ys:List Nat) (hx:∀x∈xs,x<4294967296) (hy:∀x∈ys,x<4294967296) (hlx:xs.length≤68719476736) (hly:ys.length≤68719476736):
 Fa Tryz.prog 120 [.c (ws false xs),.c (ws false ys)] (.c (.int .i64 (cmpN (val xs) (val ys)))):=by
 refine fa_of_body Tryz.func120 rfl rfl (by simp [Tryz.ntmps120]) fun C hC=> ?_
 simp only [initS,Nat.reduceAdd]
 refine xG ?_
 have hmx:(if(ys.length:Int)>xs.length then(ys.length:Int) else xs.length)=((max xs.length ys.length:Nat):Int):=by split<;>omega
 rw [hmx]
 refine aw_lp (fun m:Nat=>[(0,.c (ws false xs)),(1,.c (ws false ys)),(5,.c (.int .i64 ((m:Int)-1)))]) (fun _=>[]) (fun m=>m≤max xs.length ys.length∧∀j,m≤j→xs.getD j 0=ys.getD j 0) id (max xs.length ys.length) eB zZ ⟨Nat.le_refl _,fun j hj=>by rw [getD_ge om,getD_ge om]⟩ ?_
 rintro m ⟨hm,hz⟩
 refine xG ?_
 refine xF (fun hb=>?_) fun hb=>?_
 ·obtain⟨i,rfl⟩:∃i,m=i+1:=⟨m-1,dT hb⟩
  have e14:((i+1:Nat):Int)-1=(i:Int):=by omega
  rw [e14]
  refine xG ?_
  refine xC (qword_fa xs i hx) ?_
  refine xG ?_
  refine xC (qword_fa ys i hy) ?_
  refine xG ?_
  refine xF (fun hlt=>?_) fun hlt=>?_
  ·have hlt':xs.getD i 0<ys.getD i 0:=dT hlt
   refine xGT hC ?_
   refine .one (.c (ler_int ?_))
   rw [cmpN,if_pos (word_lt' hx hy hlt' (fun j hj=>hz j om))]
  ·refine xG ?_
   refine xC (qword_fa xs i hx) ?_
   refine xG ?_
   refine xC (qword_fa ys i hy) ?_
   refine xG ?_
   refine xF (fun hgt=>?_) fun hgt=>?_
   ·have hgt':ys.getD i 0<xs.getD i 0:=dT hgt
    have hv:=word_lt' hy hx hgt' (fun j hj=>(hz j om).symm)
    refine xGT hC ?_
    refine .one (.c (ler_int ?_))
    rw [cmpN,if_neg om,if_neg om]
   ·have heq:xs.getD i 0=ys.getD i 0:=by have:=of_decide_eq_false hgt;have:=of_decide_eq_false hlt;omega
    refine xG ?_
    refine aw_stop ⟨i,by simp only [id];omega,eB,zZ,by omega,fun j hj=> ?_⟩
    by_cases hji:j=i
    ·rw [hji];exact heq
    ·exact hz j om
 ·have hm0:m=0:=dF hb
  subst hm0
  refine xGT hC ?_
  refine .one (.c (ler_int ?_))
  rw [cmpN,val_ext (fun j=>hz j om)];simp
end Go.Proofs.YtfcnbgmclfkfcaaGreat
namespace Go.Proofs.YtfcnbgmclfkfcaaGreat
open Go.AI Go.PN
attribute [local irreducible] aw Fa Fh DrK
theorem set_push {zs:List Nat} {i v:Nat} (h:zs.length=i):((zs++[0]).set i v).take (i+1)=zs++[v]:=by
 subst h
 rw [List.set_append_right _ _ (Nat.le_refl _),List.take_of_length_le (by simp)]
 simp
theorem take_push {zs:List Nat} {i:Nat} (h:zs.length=i):(zs++[0]).take i=zs:=by subst h;simp
theorem push_lt {zs:List Nat} {v:Nat} (hz:∀x∈zs,x<4294967296) (hv:v<4294967296):∀x∈zs++[v],x<4294967296:=fun x hx=>by
 rcases List.mem_append.1 hx with h|h
 ·exact hz x h
 ·rw [List.mem_singleton.1 h];exact hv
theorem some_ne {g:Nat} {n:Nat}:(some g:Option Nat)=none→n=0:=fun e=>by cases e
set_option maxHeartbeats 800000 in
theorem qadd_fa (xs ys:List Nat) (hx:∀x∈xs,x<4294967296) (hy:∀x∈ys,x<4294967296) (hlx:xs.length≤68719476736) (hly:ys.length≤68719476736):
 Fa Tryz.prog 119 [.c (ws false xs),.c (ws false ys)] (.c (ws true (words (val xs+val ys)))):=by
 refine fa_of_body Tryz.func119 rfl rfl (by simp [Tryz.ntmps119]) fun C hC=> ?_
 simp only [initS,Nat.reduceAdd]
 refine xG ?_
 have hmx:(if(ys.length:Int)>xs.length then(ys.length:Int) else xs.length)+1=((max xs.length ys.length+1:Nat):Int):=by split<;>omega
 rw [hmx]
 generalize hn:max xs.length ys.length+1=n
 refine aw_lp (fun x:Option Nat×Nat×Nat×List Nat=>[(0,.c (ws false xs)),(1,.c (ws false ys)),(5,.c (gs x.1 1 x.2.1)),(6,.c (.int .u64 x.2.2.1)),(14,.c (.int .i64 n)),(15,.c (.int .i64 x.2.1))]) (fun x=>gh x.1 130 x.2.1 (wf x.2.2.2))
  (fun x=>(x.1=none→x.2.1=0)∧x.2.1≤n∧x.2.2.1≤1∧x.2.2.2.length=x.2.1∧(∀y∈x.2.2.2,y<4294967296)∧val x.2.2.2+4294967296^x.2.1*x.2.2.1=val (xs.take x.2.1)+val (ys.take x.2.1)) (fun x=>n-x.2.1) (none,0,0,[]) eB zZ
  ⟨fun _=>rfl,Nat.zero_le _,Nat.zero_le _,rfl,by simp,by simp [val]⟩ ?_
 rintro ⟨og,i,c,zs⟩ ⟨hog,hi,hc,hzl,hz,hv⟩
 dsimp only at hog hi hc hzl hz hv⊢
 refine xG ?_
 refine xF (fun hb=>?_) fun hb=>?_
 ·have hin:i<n:=dT hb
  have hxi:=getD_lt hx i
  have hyi:=getD_lt hy i
  refine xG ?_
  refine xC (qword_fa xs i hx) ?_
  refine xG ?_
  refine xC (qword_fa ys i hy) ?_
  refine xG ?_
  have ew:wrapZ .u32 ((((xs.getD i 0:Nat):Int)+((ys.getD i 0:Nat):Int))+(c:Int))=(((c+(xs.getD i 0+ys.getD i 0))%4294967296:Nat):Int):=by rw [wrapZ_eq,IntKind.wrap_u32];omega
  rw [ew]
  have hst:=add_step (zs:=zs++[0]) (i:=i) (c:=c) (xs:=xs) (ys:=ys) (by simp;omega) (by rw [take_push hzl];exact hv)
  rw [set_push hzl] at hst
  refine aw_push (pre:=[]) rfl rfl rfl rfl rfl rfl rfl eE eE (by rfl) om om eE om (by exact hog) eE (by rfl) (by rfl) (by first|rfl|simp only [Nat.mul_one,List.nil_append,List.cons_append]<;>rfl) (by unfold maxLen;omega) om (by exact wf_push hzl _) fun g hn_g=> ?_
  replace hn_g:=Heap.ne_of hn_g
  first|dsimp only [Heap.ne,gh] at hn_g|dsimp only [Heap.ne] at hn_g|skip
  refine ySG hn_g ?_
  refine aw_stop ⟨(some g,i+1,(c+(xs.getD i 0+ys.getD i 0))/4294967296,zs++[(c+(xs.getD i 0+ys.getD i 0))%4294967296]),by dsimp only;omega,(zB hn_g),zZ,some_ne,by dsimp only;omega,by dsimp only;omega,by simp;omega,push_lt hz om,hst⟩
 ·have hin:i=n:=dF hb
  subst hin
  refine xG ?_
  refine aw_callq (qtrim_fa zs hz om) rfl rfl rfl ⟨.c (le_gsw hog hzl),trivial⟩ ?_
  refine xSGT hC ?_
  rw [add_end hx hy om (by rw [hzl,List.take_of_length_le om];exact hv)]
  exact .one (.c ler_ws)
set_option maxHeartbeats 1600000 in
theorem qsub_fa (xs ys:List Nat) (hx:∀x∈xs,x<4294967296) (hy:∀x∈ys,x<4294967296) (hlx:xs.length≤68719476736) (hly:ys.length≤68719476736) (hle:val ys≤val xs):
 Fa Tryz.prog 121 [.c (ws false xs),.c (ws false ys)] (.tup [.c (ws true (words (val xs-val ys))),.c (.int .i64 0)]):=by
 refine fa_of_body Tryz.func121 rfl rfl (by simp [Tryz.ntmps121]) fun C hC=> ?_
 simp only [initS,Nat.reduceAdd]
 refine xG ?_
 refine xC (qcmp_fa xs ys hx hy hlx hly) ?_
 refine xG ?_
 refine xF (fun hb=>?_) fun hb=>?_
 ·have:=of_decide_eq_true hb
  unfold cmpN at this
  split at this
  ·omega
  ·split at this<;>omega
 refine xG ?_
 refine aw_lp (fun x:Option Nat×Nat×Nat×List Nat=>[(0,.c (ws false xs)),(1,.c (ws false ys)),(6,.c (gs x.1 1 x.2.1)),(7,.c (.int .u64 x.2.2.1)),(15,.c (.int .i64 xs.length)),(16,.c (.int .i64 x.2.1))]) (fun x=>gh x.1 130 x.2.1 (wf x.2.2.2))
  (fun x=>(x.1=none→x.2.1=0)∧x.2.1≤xs.length∧x.2.2.1≤1∧x.2.2.2.length=x.2.1∧(∀y∈x.2.2.2,y<4294967296)∧val x.2.2.2+val (ys.take x.2.1)=val (xs.take x.2.1)+4294967296^x.2.1*x.2.2.1) (fun x=>xs.length-x.2.1) (none,0,0,[]) eB zZ
  ⟨fun _=>rfl,Nat.zero_le _,Nat.zero_le _,rfl,by simp,by simp [val]⟩ ?_
 rintro ⟨og,i,b,zs⟩ ⟨hog,hi,hbb,hzl,hz,hv⟩
 dsimp only at hog hi hbb hzl hz hv⊢
 refine xG ?_
 refine xF (fun hb=>?_) fun hb=>?_
 ·have hin:i<xs.length:=dT hb
  have hxi:=getD_lt hx i
  have hyi:=getD_lt hy i
  refine xG ?_
  refine xC (qword_fa xs i hx) ?_
  refine xG ?_
  refine xC (qword_fa ys i hy) ?_
  (refine aw_2q false rfl (fun R hR=> ?_);simp only [go_sem];(with_reducible refine hR _ _ ?_ ?_);(focus (((try simp only [inRange])<;>and_intros<;>first|exact True.intro|omega|trivial);done));clear hR R)
  refine xG ?_
  (refine aw_2q false rfl (fun R hR=> ?_);simp only [go_sem];(with_reducible refine hR _ _ ?_ ?_);(focus (((try simp only [inRange])<;>and_intros<;>first|exact True.intro|omega|trivial);done));clear hR R)
  rw [wrap_subD hxi hyi hbb]
  obtain⟨st1,st2⟩:=sub_step (zs:=zs++[0]) (i:=i) (by simp;omega) hxi hyi hbb (by rw [take_push hzl];exact hv)
  rw [set_push hzl] at st1
  generalize subD (xs.getD i 0) (ys.getD i 0) b=D at st1 st2⊢
  obtain⟨v,b2,e1,e2,hvl,st⟩:∃v b2:Nat,wrapZ .u32 (D:Int)=(v:Int)∧shrZ .u64 (D:Int) 63=(b2:Int)∧v<4294967296∧(val (zs++[v])+val (ys.take (i+1))=val (xs.take (i+1))+4294967296^(i+1)*b2∧b2≤1):=
   ⟨_,_,wrap_u32_nat D,shr63_nat D,Nat.mod_lt _ om,st1,st2⟩
  clear st1 st2
  refine xG ?_
  rw [e1]
  refine aw_push (pre:=[]) rfl rfl rfl rfl rfl rfl rfl eE eE (by rfl) om om eE om (by exact hog) eE (by rfl) (by rfl) (by first|rfl|simp only [Nat.mul_one,List.nil_append,List.cons_append]<;>rfl) (by unfold maxLen;omega) om (by exact wf_push hzl _) fun g hn_g=> ?_
  replace hn_g:=Heap.ne_of hn_g
  first|dsimp only [Heap.ne,gh] at hn_g|dsimp only [Heap.ne] at hn_g|skip
  refine yS hn_g ?_
  refine yG (oj hn_g e2) ?_
  refine aw_stop ⟨(some g,i+1,b2,zs++[v]),by dsimp only;omega,(zB (oj hn_g e2)),zZ,some_ne,by dsimp only;omega,st.2,by simp;omega,push_lt hz hvl,st.1⟩
 ·have hin:i=xs.length:=dF hb
  subst hin
  refine xG ?_
  refine aw_callq (qtrim_fa zs hz om) rfl rfl rfl ⟨.c (le_gsw hog hzl),trivial⟩ ?_
  refine xSGT hC ?_
  rw [sub_end hx hz hzl hle (by rw [List.take_of_length_le om];exact hv)]
  exact .tup ⟨.c ler_ws,.c (.int _ _),trivial⟩
set_option maxHeartbeats 1600000 in
theorem qmul_fa (xs ys:List Nat) (hx:∀x∈xs,x<4294967296) (hy:∀x∈ys,x<4294967296) (hlx:xs.length≤68719476736) (hly:ys.length≤68719476736):
 Fa Tryz.prog 90 [.c (ws false xs),.c (ws false ys)] (.c (ws true (words (val xs*val ys)))):=by
 refine fa_of_body Tryz.func90 rfl rfl (by simp [Tryz.ntmps90]) fun C hC=> ?_
 simp only [initS,Nat.reduceAdd]
 refine xG ?_
 have hn0:(xs.length:Int)+(ys.length:Int)+1=((xs.length+ys.length+1:Nat):Int):=by omega
 rw [hn0]
 generalize hn:xs.length+ys.length+1=n
 refine aw_make (n:=n) (c:=n) rfl rfl rfl ty_e_ws ty_z_u32 rfl om eE eE rfl rfl om om om fun g hg=> ?_
 rw [make_wf n]
 refine xSG ?_
 refine aw_lp (fun x:Nat×List Nat=>[(1,.c (ws false ys)),(5,.c (.osl g 1 0 n)),(18,.c (ws false xs)),(19,.c (.int .i64 xs.length)),(20,.c (.int .i64 x.1))]) (fun x=>[(g,.cells 130 n (wf x.2))])
  (fun x=>x.1≤xs.length∧x.2.length=n∧(∀y∈x.2,y<4294967296)∧val x.2=val (xs.take x.1)*val ys) (fun x=>xs.length-x.1) (0,List.replicate n 0) eB zZ
  ⟨Nat.zero_le _,by simp,replicate_lt _,by simp [val,val_replicate]⟩ ?_
 rintro ⟨i,z0⟩ ⟨hi,hzl0,hz0,hv0⟩
 dsimp only at hi hzl0 hz0 hv0⊢
 refine xG ?_
 refine xF (fun hb=>?_) fun hb=>?_
 ·have hin:i<xs.length:=dT hb
  have hxi:=getD_lt hx i
  have hz0':val z0<4294967296^(i+ys.length):=by
   rw [hv0,Nat.pow_add]
   exact Nat.mul_lt_mul_of_lt_of_lt (val_take_lt xs hx i om) (val_lt ys hy)
  refine xG ?_
  generalize hxx:xs.getD i 0=x at*
  refine aw_lp (fun s:Nat×Nat×List Nat=>[(1,.c (ws false ys)),(5,.c (.osl g 1 0 n)),(6,.c (.int .i64 i)),(7,.c (.int .u32 x)),(8,.c (.int .u64 s.2.1)),(18,.c (ws false xs)),(19,.c (.int .i64 xs.length)),(20,.c (.int .i64 i)),(27,.c (.int .i64 ((ys.length:Int)+1))),(28,.c (.int .i64 s.1))]) (fun s=>[(g,.cells 130 n (wf s.2.2))])
   (fun s=>s.1≤ys.length+1∧s.2.1<4294967296∧s.2.2.length=n∧(∀y∈s.2.2,y<4294967296)∧(∀j,i+s.1≤j→s.2.2.getD j 0=z0.getD j 0)∧(s.1=ys.length+1→s.2.1=0)∧val s.2.2+4294967296^(i+s.1)*s.2.1=val z0+4294967296^i*(x*val (ys.take s.1))) (fun s=>ys.length+1-s.1) (0,0,z0) eB zZ
   ⟨Nat.zero_le _,by simp,hzl0,hz0,fun _ _=>rfl,fun _=>rfl,by simp [val]⟩ ?_
  rintro ⟨k,c,zs⟩ ⟨hk,hc,hzl,hz,hzz,hce,hv⟩
  dsimp only at hk hc hzl hz hzz hce hv⊢
  refine xG ?_
  refine xF (fun hb=>?_) fun hb=>?_
  ·have hkn:k<ys.length+1:=dT hb
   have hyk:=getD_lt hy k
   have hzk:=getD_lt hz (i+k)
   have hst:=mul_step (ys:=ys) (x:=x) (zs:=zs) (c:=c) om hv
   have hmb:=mul_bound hxi hyk
   have hmb2:(0:Int)≤(x:Int)*((ys.getD k 0:Nat):Int)∧(x:Int)*((ys.getD k 0:Nat):Int)≤18446744065119617025:=by rw [←Int.natCast_mul];omega
   have hlast:k=ys.length→(c+(x*ys.getD k 0+zs.getD (i+k) 0))/4294967296=0:=fun e=>by
    subst e
    rw [getD_ge (Nat.le_refl _),hzz _ (Nat.le_refl _),getD_zero_of_lt hz0' (Nat.le_refl _)]
    omega
   refine xG ?_
   refine aw_dr 17 ty_mixed (by kernel_rfl) ?_
   refine xG ?_
   refine xD (qword_fa ys k hy) ?_
   refine xG ?_
   have ew:(x:Int)*((ys.getD k 0:Nat):Int)+((zs.getD (i+k) 0:Nat):Int)+(c:Int)=((c+(x*ys.getD k 0+zs.getD (i+k) 0):Nat):Int):=by simp;omega
   rw [ew,wrap_u32_nat]
   refine xW ?_
   refine xS ?_
   rw [updF_wf om]
   refine xG ?_
   refine aw_stop ⟨(k+1,(c+(x*ys.getD k 0+zs.getD (i+k) 0))/4294967296,zs.set (i+k) ((c+(x*ys.getD k 0+zs.getD (i+k) 0))%4294967296)),by dsimp only;omega,eB,zZ,by dsimp only;omega,by dsimp only;omega,by simpa using hzl,set_lt hz om,fun j hj=> ?_,fun e=>hlast (by simpa using e),hst⟩
   dsimp only at hj⊢
   rw [Go.PN.getD_set_ne om]
   exact hzz j om
  ·have hkn:k=ys.length+1:=dF hb
   subst hkn
   refine xG ?_
   rw [hce rfl,Nat.mul_zero,Nat.add_zero,hv0,List.take_of_length_le (l:=ys) om] at hv
   refine aw_stop ⟨(i+1,zs),by dsimp only;omega,eB,zZ,by dsimp only;omega,hzl,hz,?_⟩
   dsimp only
   rw [hv,val_take_succ,hxx,Nat.add_mul,Nat.mul_assoc]
 ·have hin:i=xs.length:=dF hb
  subst hin
  refine xG ?_
  refine aw_callq (qtrim_fa z0 hz0 om) rfl rfl rfl (by refine xS ?_;exact .c (lec_oslws eE om om (fun j _=>by rw [Nat.zero_add];rfl))) ?_
  refine xSGT hC ?_
  rw [hv0,List.take_length]
  exact .one (.c ler_ws)
end Go.Proofs.YtfcnbgmclfkfcaaGreat
namespace Go.Proofs.YtfcnbgmclfkfcaaGreat
open Go.AI Go.PN
attribute [local irreducible] aw Fa Fh DrK
theorem bitlen_top {n m:Nat} (h1:2^m≤n) (h2:n<2^(m+1)):bitlen n=m+1:=by
 have:=bitlen_div h1
 have h3:n/2^m=1:=by
  rw [Nat.pow_succ] at h2
  exact Nat.div_eq_of_lt_le om om
 rw [this,h3];rfl
theorem shr_u32 (x n:Nat) (hn:n≤32):shrZ .u32 (x:Int) (n:Int)=((x/2^n:Nat):Int):=by
 rw [shrZ_eq]
 have h1:min (n:Int).toNat IntKind.u32.bits=n:=by show min (n:Int).toNat 32=n;omega
 rw [h1,Int.fdiv_eq_ediv_of_nonneg _ (by exact Int.le_of_lt (Int.pow_pos om))]
 rw [Int.natCast_ediv,Int.natCast_pow];rfl
theorem and_u32_1 (x:Nat) (hx:x<4294967296):andZ .u32 (x:Int) 1=((x%2:Nat):Int):=by
 rw [andZ_eq]
 show IntKind.u32.wrap (((BitVec.ofInt 32 (x:Int)&&&BitVec.ofInt 32 1).toNat:Nat):Int)=_
 have:(BitVec.ofInt 32 (x:Int)&&&BitVec.ofInt 32 1).toNat=x%2:=by
  rw [BitVec.toNat_and]
  have e1:(BitVec.ofInt 32 (x:Int)).toNat=x:=by rw [BitVec.ofInt_natCast,BitVec.toNat_ofNat];omega
  have e2:(BitVec.ofInt 32 1).toNat=1:=rfl
  rw [e1,e2,Nat.and_one_is_mod]
 rw [this,IntKind.wrap_u32];omega
theorem bit_step {x k:Nat}:x%2^(k+1)=x%2^k+2^k*(x/2^k%2):=by
 rw [Nat.pow_succ,Nat.mod_mul]
theorem bits_some {V i x k:Nat} (hV:V<4294967296^i) (hb:x/2^k%2=1):bitlen (V+4294967296^i*(x%2^(k+1)))=32*i+k+1:=by
 have hp:(4294967296:Nat)^i=2^(32*i):=by rw [Nat.pow_mul]
 rw [bit_step,hb,Nat.mul_one]
 have hm:x%2^k<2^k:=Nat.mod_lt _ (Nat.two_pow_pos k)
 rw [hp] at hV⊢
 have e1:2^(32*i+k)=2^(32*i)*2^k:=Nat.pow_add ..
 refine bitlen_top ?_ ?_
 ·rw [e1,Nat.mul_add];omega
 ·rw [Nat.pow_succ,e1,Nat.mul_add]
  have:=Nat.mul_le_mul_left (2^(32*i)) (show x%2^k+1≤2^k from hm)
  rw [Nat.mul_add,Nat.mul_one] at this
  omega
set_option maxHeartbeats 1600000 in
theorem qbits_fa (xs:List Nat) (hx:∀x∈xs,x<4294967296) (hlx:xs.length≤68719476736):Fa Tryz.prog 138 [.c (ws false xs)] (.c (.int .i64 (bitlen (val xs):Nat))):=by
 refine fa_of_body Tryz.func138 rfl rfl (by simp [Tryz.ntmps138]) fun C hC=> ?_
 simp only [initS,Nat.reduceAdd]
 refine xG ?_
 refine aw_lp (fun i:Nat=>[(3,.c (.int .i64 (bitlen (val (xs.take i)):Nat))),(7,.c (ws false xs)),(8,.c (.int .i64 xs.length)),(9,.c (.int .i64 i))]) (fun _=>[]) (fun i=>i≤xs.length) (fun i=>xs.length-i) 0 eB zZ (Nat.zero_le _) ?_
 rintro i hi
 refine xG ?_
 refine xF (fun hb=>?_) fun hb=>?_
 ·have hin:i<xs.length:=dT hb
  have hxi:=getD_lt hx i
  have hvt:=val_take_lt xs hx i om
  refine xG ?_
  generalize hxx:xs.getD i 0=x at*
  refine aw_lp (fun k:Nat=>[(3,.c (.int .i64 (bitlen (val (xs.take i)+4294967296^i*(x%2^k)):Nat))),(4,.c (.int .i64 i)),(5,.c (.int .u32 x)),(7,.c (ws false xs)),(8,.c (.int .i64 xs.length)),(9,.c (.int .i64 i)),(14,.c (.int .i64 k))]) (fun _=>[]) (fun k=>k≤32) (fun k=>32-k) 0 (by refine xS ?_;and_intros<;>first|exact True.intro|rfl|(rw [Nat.pow_zero,Nat.mod_one,Nat.mul_zero,Nat.add_zero])) zZ (Nat.zero_le _) ?_
  rintro k hk
  refine xG ?_
  refine xF (fun hb=>?_) fun hb=>?_
  ·have hk':k<32:=dT hb
   have hd:x/2^k<4294967296:=Nat.lt_of_le_of_lt (Nat.div_le_self _ _) hxi
   have e1:=shr_u32 x k om
   have e2:=and_u32_1 (x/2^k) hd
   have J1:=oj e1 e2
   refine yG J1 ?_
   refine yF J1 (fun hc=>?_) fun hc=>?_
   ·have hc':x/2^k%2=1:=by have:=eq_of_beq hc;omega
    refine yG J1 ?_
    refine aw_stop ⟨k+1,by omega,(by refine yS J1 ?_;and_intros<;>first|exact True.intro|rfl|exact c_int (by rw [bits_some hvt hc'];omega)),zZ,by omega⟩
   ·have hc':x/2^k%2=0:=by
     have h1:¬(((x/2^k%2:Nat):Int)=1):=fun e=>by rw [e] at hc;cases hc
     omega
    refine yG J1 ?_
    refine aw_stop ⟨k+1,by omega,(by refine yS J1 ?_;and_intros<;>first|exact True.intro|rfl|(rw [bit_step,hc',Nat.mul_zero,Nat.add_zero])),zZ,by omega⟩
  ·have hk':k=32:=dF hb
   subst hk'
   refine xG ?_
   refine aw_stop ⟨i+1,by omega,(by refine xS ?_;and_intros<;>first|exact True.intro|rfl|(rw [val_take_succ,hxx,Nat.mod_eq_of_lt (show x<2^32 from hxi)])),zZ,by omega⟩
 ·have hin:i=xs.length:=dF hb
  subst hin
  refine xGT hC ?_
  rw [List.take_length]
  exact .one (.c (.int _ _))
theorem up_step {xs zs:List Nat} {i s c:Nat} (h:val zs+4294967296^i*c=val (xs.take i)*2^s) (hl:zs.length=i):
 val (zs++[(c+xs.getD i 0*2^s)%4294967296])+4294967296^(i+1)*((c+xs.getD i 0*2^s)/4294967296)=val (xs.take (i+1))*2^s:=by
 rw [val_append,hl,val_take_succ]
 simp only [val,Nat.mul_zero,Nat.add_zero]
 have e:=Nat.mod_add_div (c+xs.getD i 0*2^s) 4294967296
 generalize (c+xs.getD i 0*2^s)%4294967296=v at*
 generalize (c+xs.getD i 0*2^s)/4294967296=d at*
 rw [Nat.add_mul,←h,Nat.pow_succ,Nat.mul_assoc,Nat.mul_assoc,Nat.add_assoc,←Nat.mul_add,e,Nat.mul_add,Nat.add_assoc]
theorem or_carry {c x s:Nat} (hc:c<2^s):c|||x*2^s=c+x*2^s:=by
 rw [Nat.or_comm,Nat.mul_comm,←Nat.two_pow_add_eq_or_of_lt hc,Nat.add_comm]
theorem up_carry {c x s:Nat} (hc:c<2^s) (hx:x<4294967296):(c+x*2^s)/4294967296<2^s:=by
 rw [Nat.div_lt_iff_lt_mul om]
 have:=Nat.mul_le_mul_right (2^s) (show x+1≤4294967296 from hx)
 rw [Nat.add_mul,Nat.one_mul] at this
 rw [Nat.mul_comm (2^s)]
 omega
theorem up_lt {c x s:Nat} (hc:c<2^s) (hx:x<4294967296) (hs:s<32):c+x*2^s<18446744073709551616:=by
 have h1:=Nat.mul_le_mul_right (2^s) (show x+1≤4294967296 from hx)
 rw [Nat.add_mul,Nat.one_mul] at h1
 have h2:=Nat.mul_le_mul_left 4294967296 (pow_lt_32 (show s≤32 from by omega))
 omega
set_option maxHeartbeats 1600000 in
theorem qup_fa (xs:List Nat) (s:Nat) (hx:∀x∈xs,x<4294967296) (hlx:xs.length≤68719476736) (hs:s<32):Fa Tryz.prog 179 [.c (ws false xs),.c (.int .i64 s)] (.c (ws true (words (val xs*2^s)))):=by
 refine fa_of_body Tryz.func179 rfl rfl (by simp [Tryz.ntmps179]) fun C hC=> ?_
 simp only [initS,Nat.reduceAdd]
 refine xG ?_
 refine aw_lp (fun x:Option Nat×Nat×Nat×List Nat=>[(1,.c (.int .i64 s)),(5,.c (gs x.1 1 x.2.1)),(6,.c (.int .u64 x.2.2.1)),(9,.c (ws false xs)),(10,.c (.int .i64 xs.length)),(11,.c (.int .i64 x.2.1))]) (fun x=>gh x.1 130 x.2.1 (wf x.2.2.2))
  (fun x=>(x.1=none→x.2.1=0)∧x.2.1≤xs.length∧x.2.2.1<2^s∧x.2.2.2.length=x.2.1∧(∀y∈x.2.2.2,y<4294967296)∧val x.2.2.2+4294967296^x.2.1*x.2.2.1=val (xs.take x.2.1)*2^s) (fun x=>xs.length-x.2.1) (none,0,0,[]) eB zZ
  ⟨fun _=>rfl,Nat.zero_le _,Nat.two_pow_pos s,rfl,by simp,by simp [val]⟩ ?_
 rintro ⟨og,i,c,zs⟩ ⟨hog,hi,hc,hzl,hz,hv⟩
 dsimp only at hog hi hc hzl hz hv⊢
 have hp:=pow_lt_32 (show s≤32 from by omega)
 refine xG ?_
 refine xF (fun hb=>?_) fun hb=>?_
 ·have hin:i<xs.length:=dT hb
  have hxi:=getD_lt hx i
  have hlt:=up_lt hc hxi hs
  have e1:=shl_u64 (xs.getD i 0) s hxi om
  have e2:orZ .u64 (c:Int) ((xs.getD i 0*2^s:Nat):Int)=((c+xs.getD i 0*2^s:Nat):Int):=by
   rw [or_u64 _ _ om om,or_carry hc]
  have e3:=wrap_u32_nat (c+xs.getD i 0*2^s)
  have e4:=nat_div_32 (c+xs.getD i 0*2^s)
  have hst:=up_step (xs:=xs) hv hzl
  have hcc:=up_carry hc hxi
  have J1:=oj e1 (oj e2 (oj e3 e4))
  refine yG J1 ?_
  refine aw_push (pre:=[]) rfl rfl rfl rfl rfl rfl rfl (zE J1) (zE J1) (by rfl) om om (zE J1) om (by exact hog) (zE J1) (by rfl) (by rfl) (by first|rfl|simp only [Nat.mul_one,List.nil_append,List.cons_append]<;>rfl) (by unfold maxLen;omega) om (by exact wf_push hzl _) fun g hn_g=> ?_
  replace hn_g:=Heap.ne_of hn_g
  first|dsimp only [Heap.ne,gh] at hn_g|dsimp only [Heap.ne] at hn_g|skip
  have J2:=oj e1 (oj e2 (oj e3 (oj e4 hn_g)))
  refine ySG J2 ?_
  refine aw_stop ⟨(some g,i+1,(c+xs.getD i 0*2^s)/4294967296,zs++[(c+xs.getD i 0*2^s)%4294967296]),by dsimp only;omega,(zB J2),zZ,some_ne,by dsimp only;omega,hcc,by simp;omega,push_lt hz om,hst⟩
 ·have hin:i=xs.length:=dF hb
  subst hin
  have e3:wrapZ .u32 (c:Int)=(c:Int):=by rw [wrap_u32_nat,Nat.mod_eq_of_lt om]
  refine yG e3 ?_
  refine aw_push (pre:=[]) rfl rfl rfl rfl rfl rfl rfl (zE e3) (zE e3) (by rfl) om om (zE e3) om (by exact hog) (zE e3) (by rfl) (by rfl) (by first|rfl|simp only [Nat.mul_one,List.nil_append,List.cons_append]<;>rfl) (by unfold maxLen;omega) om (by exact wf_push hzl _) fun g hn_g=> ?_
  replace hn_g:=Heap.ne_of hn_g
  first|dsimp only [Heap.ne,gh] at hn_g|dsimp only [Heap.ne] at hn_g|skip
  have J3:=oj e3 hn_g
  refine ySG J3 ?_
  refine aw_callq (qtrim_fa (zs++[c]) (push_lt hz om) (by simp;omega)) rfl rfl rfl ⟨.c (le_gsw some_ne (by simp;omega)),trivial⟩ ?_
  refine ySGT hC J3 ?_
  rw [val_append,hzl]
  simp only [val,Nat.mul_zero,Nat.add_zero]
  rw [hv,List.take_length]
  exact .one (.c ler_ws)
theorem rgt_take {s:Nat} {xs zs:List Nat} {i:Nat} (hi:i<xs.length) (hl:zs=(rgt s xs).take i):zs++[(xs.getD i 0+xs.getD (i+1) 0*4294967296)/2^s%4294967296]=(rgt s xs).take (i+1):=by
 rw [←rgt_getD s xs i hi,hl]
 have hil:i<(rgt s xs).length:=by rw [rgt_length];exact hi
 rw [List.take_succ_eq_append_getElem hil]
 congr 2
 rw [List.getD_eq_getElem?_getD,List.getElem?_eq_getElem hil];rfl
set_option maxHeartbeats 1600000 in
theorem qdown_fa (xs:List Nat) (s:Nat) (hx:∀x∈xs,x<4294967296) (hlx:xs.length≤68719476736) (hs:s<32):Fa Tryz.prog 180 [.c (ws false xs),.c (.int .i64 s)] (.c (ws true (words (val xs/2^s)))):=by
 refine fa_of_body Tryz.func180 rfl rfl (by simp [Tryz.ntmps180]) fun C hC=> ?_
 simp only [initS,Nat.reduceAdd]
 refine xG ?_
 refine aw_lp (fun x:Option Nat×Nat×List Nat=>[(0,.c (ws false xs)),(1,.c (.int .i64 s)),(5,.c (gs x.1 1 x.2.1)),(7,.c (ws false xs)),(8,.c (.int .i64 xs.length)),(9,.c (.int .i64 x.2.1))]) (fun x=>gh x.1 130 x.2.1 (wf x.2.2))
  (fun x=>(x.1=none→x.2.1=0)∧x.2.1≤xs.length∧x.2.2=(rgt s xs).take x.2.1) (fun x=>xs.length-x.2.1) (none,0,[]) eB zZ
  ⟨fun _=>rfl,Nat.zero_le _,by simp⟩ ?_
 rintro ⟨og,i,zs⟩ ⟨hog,hi,hzs⟩
 dsimp only at hog hi hzs⊢
 have hzl:zs.length=i:=by rw [hzs,List.length_take,rgt_length];omega
 refine xG ?_
 refine xF (fun hb=>?_) fun hb=>?_
 ·have hin:i<xs.length:=dT hb
  have hxi:=getD_lt hx i
  have hxj:=getD_lt hx (i+1)
  refine xG ?_
  refine xC (qword_fa xs i hx) ?_
  refine xG ?_
  refine xC (qword_fa xs (i+1) hx) ?_
  have e1:=shl_u64_32 (xs.getD (i+1) 0) hxj
  have e2:=or_u64_join' (xs.getD (i+1) 0) (xs.getD i 0) hxj hxi
  have e3:=shr_u64 (xs.getD (i+1) 0*4294967296+xs.getD i 0) s om
  have e4:=wrap_u32_nat ((xs.getD (i+1) 0*4294967296+xs.getD i 0)/2^s)
  have e5:=rgt_take (s:=s) hin hzs
  rw [Nat.add_comm (xs.getD i 0)] at e5
  have J1:=oj e1 (oj e2 (oj e3 e4))
  refine yG J1 ?_
  refine aw_push (pre:=[]) rfl rfl rfl rfl rfl rfl rfl (zE J1) (zE J1) (by rfl) om om (zE J1) om (by exact hog) (zE J1) (by rfl) (by rfl) (by first|rfl|simp only [Nat.mul_one,List.nil_append,List.cons_append]<;>rfl) (by unfold maxLen;omega) om (by exact wf_push hzl _) fun g hn_g=> ?_
  replace hn_g:=Heap.ne_of hn_g
  first|dsimp only [Heap.ne,gh] at hn_g|dsimp only [Heap.ne] at hn_g|skip
  have J2:=oj e1 (oj e2 (oj e3 (oj e4 hn_g)))
  refine ySG J2 ?_
  refine aw_stop ⟨(some g,i+1,zs++[(xs.getD (i+1) 0*4294967296+xs.getD i 0)/2^s%4294967296]),by dsimp only;omega,(zB J2),zZ,some_ne,by dsimp only;omega,e5⟩
 ·have hin:i=xs.length:=dF hb
  subst hin
  rw [List.take_of_length_le (by rw [rgt_length];omega)] at hzs
  refine xG ?_
  refine aw_callq (qtrim_fa zs (by rw [hzs];exact rgt_lt s xs) om) rfl rfl rfl ⟨.c (le_gsw hog hzl),trivial⟩ ?_
  refine xSGT hC ?_
  rw [hzs,rgt_val om xs hx]
  exact .one (.c ler_ws)
end Go.Proofs.YtfcnbgmclfkfcaaGreat
namespace Go.PN
theorem pow32 (k:Nat):(0:Nat)<4294967296^k:=Nat.pow_pos om
theorem ref_guess {R V rt bt D:Nat} (hR:R<(rt+1)*D) (hV:bt*D≤V) (hb:0<bt) (hV0:0<V):R/V≤rt/bt:=by
 rw [Nat.le_div_iff_mul_le hb]
 have h1:R/V*V≤R:=Nat.div_mul_le_self R V
 have h2:R/V*bt*D<(rt+1)*D:=by
  refine Nat.lt_of_le_of_lt ?_ hR
  refine Nat.le_trans ?_ h1
  rw [Nat.mul_assoc]
  exact Nat.mul_le_mul_left _ hV
 have h3:R/V*bt<rt+1:=Nat.lt_of_mul_lt_mul_right h2
 omega
theorem top_lt (xs:List Nat) (hx:∀x∈xs,x<4294967296) (n:Nat) (hl:xs.length≤n+2):val xs<(xs.getD (n+1) 0*4294967296+xs.getD n 0+1)*4294967296^n:=by
 have h1:val xs=val (xs.take (n+2)):=by rw [List.take_of_length_le hl]
 have h2:=val_take_succ xs (n+1)
 have h3:=val_take_succ xs n
 have h4:val (xs.take n)<4294967296^n:=by
  by_cases hc:n≤xs.length
  ·exact val_take_lt xs hx n hc
  ·rw [List.take_of_length_le om]
   exact Nat.lt_of_lt_of_le (val_lt xs hx) (Nat.pow_le_pow_right om om)
 rw [h1,show n+2=n+1+1 from rfl,h2,h3,Nat.pow_succ]
 generalize 4294967296^n=D at*
 generalize xs.getD (n+1) 0=a
 generalize xs.getD n 0=b
 rw [Nat.add_mul,Nat.add_mul,Nat.one_mul,Nat.mul_assoc a,Nat.mul_comm D b,Nat.mul_comm (D*4294967296) a,Nat.mul_comm D 4294967296]
 omega
theorem top_le (ys:List Nat) (n:Nat):ys.getD n 0*4294967296^n≤val (ys.take (n+1)):=by
 rw [val_take_succ,Nat.mul_comm];omega
theorem ref_next {A V m r:Nat} (hV:0<V) (hr:r=A/4294967296^(m+1)%V):(A/4294967296^m%4294967296+4294967296*r)%V=A/4294967296^m%V∧A/4294967296^m/V=(A/4294967296^m%4294967296+4294967296*r)/V+4294967296*(A/4294967296^(m+1)/V):=by
 have e:A/4294967296^(m+1)=A/4294967296^m/4294967296:=by rw [Nat.pow_succ,Nat.div_div_eq_div_mul]
 rw [e] at hr⊢
 generalize A/4294967296^m=T at*
 have h1:=Nat.div_add_mod T 4294967296
 have h2:=Nat.div_add_mod (T/4294967296) V
 rw [←hr] at h2
 generalize T/4294967296/V=q at*
 have h3:T=(T%4294967296+4294967296*r)+V*(4294967296*q):=by
  have:4294967296*(V*q+r)=4294967296*(T/4294967296):=by rw [h2]
  rw [Nat.mul_add,←Nat.mul_assoc,Nat.mul_comm 4294967296 V,Nat.mul_assoc] at this
  omega
 constructor
 ·conv=>rhs;rw [h3]
  rw [Nat.add_mul_mod_self_left]
 ·conv=>lhs;rw [h3]
  rw [Nat.add_mul_div_left _ _ hV]
theorem word_at (xs:List Nat) (hx:∀x∈xs,x<4294967296) (m:Nat):val xs/4294967296^m%4294967296=xs.getD m 0:=by
 by_cases hm:m<xs.length
 ·have h1:=val_split xs m om
  have h2:=val_take_lt xs hx m om
  rw [h1,Nat.add_mul_div_left _ _ (pow32 m),Nat.div_eq_of_lt h2,Nat.zero_add,val_drop,Nat.add_mul_mod_self_left]
  exact Nat.mod_eq_of_lt (getD_lt hx m)
 ·have h1:=Nat.lt_of_lt_of_le (val_lt xs hx) (Nat.pow_le_pow_right (show 0<4294967296 by omega) (show xs.length≤m by omega))
  rw [Nat.div_eq_of_lt h1,getD_ge om]
theorem drop_val (xs:List Nat) (hx:∀x∈xs,x<4294967296) (m:Nat) (hm:m≤xs.length):val (xs.drop m)=val xs/4294967296^m:=by
 have h1:=val_split xs m hm
 have h2:=val_take_lt xs hx m hm
 rw [h1,Nat.add_mul_div_left _ _ (pow32 m),Nat.div_eq_of_lt h2,Nat.zero_add]
theorem val_set_drop {qs:List Nat} {m v:Nat} (hm:m<qs.length):val ((qs.set m v).drop m)=v+4294967296*val (qs.drop (m+1)):=by
 rw [drop_set hm];rfl
theorem shift_len {b n s:Nat} (hl:(words b).length=n+1) (hs:(words b).getD n 0*2^s<4294967296):(words (b*2^s)).length=n+1:=by
 have hb0:b≠0:=fun e=>by rw [e,words_zero] at hl;cases hl
 have hv:=val_words b
 have h1:val ((words b).take (n+1))=b:=by rw [List.take_of_length_le om,hv]
 rw [val_take_succ] at h1
 have h2:=val_take_lt (words b) (words_lt b) n om
 have hle:b*2^s<4294967296^(n+1):=by
  have h3:b<4294967296^n*((words b).getD n 0+1):=by rw [Nat.mul_add,Nat.mul_one];omega
  have h4:b*2^s<4294967296^n*((words b).getD n 0+1)*2^s:=Nat.mul_lt_mul_of_pos_right h3 (Nat.two_pow_pos s)
  refine Nat.lt_of_lt_of_le h4 ?_
  rw [Nat.mul_assoc,Nat.pow_succ]
  refine Nat.mul_le_mul_left _ ?_
  have h5:((words b).getD n 0+1)*2^s≤4294967296:=by
   by_cases hs32:s≤32
   ·have h6:=two_pow_split hs32
    rw [h6] at hs⊢
    rw [Nat.mul_comm (2^s) (2^(32-s))] at hs⊢
    have:=Nat.lt_of_mul_lt_mul_right hs
    exact Nat.mul_le_mul_right _ this
   ·have h7:(words b).getD n 0≠0:=by
     have:=(words_plain b).resolve_left (fun e=>hb0 (words_eq_nil.1 e))
     rwa [hl] at this
    exfalso
    have h8:(2:Nat)^32≤2^s:=Nat.pow_le_pow_right om om
    have h9:=Nat.mul_le_mul (show 1≤(words b).getD n 0 by omega) h8
    omega
  exact h5
 have hge:b≤b*2^s:=Nat.le_mul_of_pos_right _ (Nat.two_pow_pos s)
 have:=words_len_mono hge
 have:=words_len_le hle
 omega
theorem and_top_zero {y:Nat} (hy:y<4294967296) (h:y&&&2147483648=0):y<2147483648:=by
 have h1:(y&&&2147483648).testBit 31=false:=by rw [h];simp
 rw [Nat.testBit_and,show(2147483648:Nat).testBit 31=true from by decide,Bool.and_true,Nat.testBit_eq_decide_div_mod_eq] at h1
 simp at h1
 omega
end Go.PN
