/- Parts of one proof, laid by a program. -/
import Derived.Test.YtefekdejgbceiaaGreatM00
import Derived.Test.YtefekdejgbceiaaGreatM05
import Derived.Test.YtefekdejgbceiaaGreatRows
import Derived.WalkKit
import Derived.ProofKit
import Derived.OpenShut
import Derived.JoinedCond
import Derived.Carry
set_option linter.unusedSimpArgs false
set_option linter.unusedVariables false
set_option maxRecDepth 100000
set_option maxHeartbeats 12800000
namespace Go.PN
theorem pow32 (k:Nat):(0:Nat)<4294967296^k:=Nat.pow_pos om
theorem ref_guess {R V rt bt D:Nat} (hR:R<(rt+1)*D) (hV:bt*D≤V) (hb:0<bt) (hV0:0<V):R/V≤rt/bt:=by
 rw [Nat.le_div_iff_mul_le hb]
 have h1:R/V*V≤R:=Nat.div_mul_le_self R V
 have h2:R/V*bt*D<(rt+1)*D:=by
  refine Nat.lt_of_le_of_lt ?_ hR
  refine Nat.le_trans ?_ h1
  rw [Nat.mul_assoc]
  exact Nat.mul_le_mul_left _ hV
 have h3:R/V*bt<rt+1:=Nat.lt_of_mul_lt_mul_right h2
 omega
theorem top_lt (xs:List Nat) (hx:∀x∈xs,x<4294967296) (n:Nat) (hl:xs.length≤n+2):val xs<(xs.getD (n+1) 0*4294967296+xs.getD n 0+1)*4294967296^n:=by
 have h1:val xs=val (xs.take (n+2)):=by rw [List.take_of_length_le hl]
 have h2:=val_take_succ xs (n+1)
 have h3:=val_take_succ xs n
 have h4:val (xs.take n)<4294967296^n:=by
  by_cases hc:n≤xs.length
  ·exact val_take_lt xs hx n hc
  ·rw [List.take_of_length_le om]
   exact Nat.lt_of_lt_of_le (val_lt xs hx) (Nat.pow_le_pow_right om om)
 rw [h1,show n+2=n+1+1 from rfl,h2,h3,Nat.pow_succ]
 generalize 4294967296^n=D at*
 generalize xs.getD (n+1) 0=a
 generalize xs.getD n 0=b
 rw [Nat.add_mul,Nat.add_mul,Nat.one_mul,Nat.mul_assoc a,Nat.mul_comm D b,Nat.mul_comm (D*4294967296) a,Nat.mul_comm D 4294967296]
 omega
theorem top_le (ys:List Nat) (n:Nat):ys.getD n 0*4294967296^n≤val (ys.take (n+1)):=by
 rw [val_take_succ,Nat.mul_comm];omega
theorem ref_next {A V m r:Nat} (hV:0<V) (hr:r=A/4294967296^(m+1)%V):(A/4294967296^m%4294967296+4294967296*r)%V=A/4294967296^m%V∧A/4294967296^m/V=(A/4294967296^m%4294967296+4294967296*r)/V+4294967296*(A/4294967296^(m+1)/V):=by
 have e:A/4294967296^(m+1)=A/4294967296^m/4294967296:=by rw [Nat.pow_succ,Nat.div_div_eq_div_mul]
 rw [e] at hr⊢
 generalize A/4294967296^m=T at*
 have h1:=Nat.div_add_mod T 4294967296
 have h2:=Nat.div_add_mod (T/4294967296) V
 rw [←hr] at h2
 generalize T/4294967296/V=q at*
 have h3:T=(T%4294967296+4294967296*r)+V*(4294967296*q):=by
  have:4294967296*(V*q+r)=4294967296*(T/4294967296):=by rw [h2]
  rw [Nat.mul_add,←Nat.mul_assoc,Nat.mul_comm 4294967296 V,Nat.mul_assoc] at this
  omega
 constructor
 ·conv=>rhs;rw [h3]
  rw [Nat.add_mul_mod_self_left]
 ·conv=>lhs;rw [h3]
  rw [Nat.add_mul_div_left _ _ hV]
theorem word_at (xs:List Nat) (hx:∀x∈xs,x<4294967296) (m:Nat):val xs/4294967296^m%4294967296=xs.getD m 0:=by
 by_cases hm:m<xs.length
 ·have h1:=val_split xs m om
  have h2:=val_take_lt xs hx m om
  rw [h1,Nat.add_mul_div_left _ _ (pow32 m),Nat.div_eq_of_lt h2,Nat.zero_add,val_drop,Nat.add_mul_mod_self_left]
  exact Nat.mod_eq_of_lt (getD_lt hx m)
 ·have h1:=Nat.lt_of_lt_of_le (val_lt xs hx) (Nat.pow_le_pow_right (show 0<4294967296 by omega) (show xs.length≤m by omega))
  rw [Nat.div_eq_of_lt h1,getD_ge om]
theorem drop_val (xs:List Nat) (hx:∀x∈xs,x<4294967296) (m:Nat) (hm:m≤xs.length):val (xs.drop m)=val xs/4294967296^m:=by
 have h1:=val_split xs m hm
 have h2:=val_take_lt xs hx m hm
 rw [h1,Nat.add_mul_div_left _ _ (pow32 m),Nat.div_eq_of_lt h2,Nat.zero_add]
theorem val_set_drop {qs:List Nat} {m v:Nat} (hm:m<qs.length):val ((qs.set m v).drop m)=v+4294967296*val (qs.drop (m+1)):=by
 rw [drop_set hm];rfl
theorem shift_len {b n s:Nat} (hl:(words b).length=n+1) (hs:(words b).getD n 0*2^s<4294967296):(words (b*2^s)).length=n+1:=by
 have hb0:b≠0:=fun e=>by rw [e,words_zero] at hl;cases hl
 have hv:=val_words b
 have h1:val ((words b).take (n+1))=b:=by rw [List.take_of_length_le om,hv]
 rw [val_take_succ] at h1
 have h2:=val_take_lt (words b) (words_lt b) n om
 have hle:b*2^s<4294967296^(n+1):=by
  have h3:b<4294967296^n*((words b).getD n 0+1):=by rw [Nat.mul_add,Nat.mul_one];omega
  have h4:b*2^s<4294967296^n*((words b).getD n 0+1)*2^s:=Nat.mul_lt_mul_of_pos_right h3 (Nat.two_pow_pos s)
  refine Nat.lt_of_lt_of_le h4 ?_
  rw [Nat.mul_assoc,Nat.pow_succ]
  refine Nat.mul_le_mul_left _ ?_
  have h5:((words b).getD n 0+1)*2^s≤4294967296:=by
   by_cases hs32:s≤32
   ·have h6:=two_pow_split hs32
    rw [h6] at hs⊢
    rw [Nat.mul_comm (2^s) (2^(32-s))] at hs⊢
    have:=Nat.lt_of_mul_lt_mul_right hs
    exact Nat.mul_le_mul_right _ this
   ·have h7:(words b).getD n 0≠0:=by
     have:=(words_plain b).resolve_left (fun e=>hb0 (words_eq_nil.1 e))
     rwa [hl] at this
    exfalso
    have h8:(2:Nat)^32≤2^s:=Nat.pow_le_pow_right om om
    have h9:=Nat.mul_le_mul (show 1≤(words b).getD n 0 by omega) h8
    omega
  exact h5
 have hge:b≤b*2^s:=Nat.le_mul_of_pos_right _ (Nat.two_pow_pos s)
 have:=words_len_mono hge
 have:=words_len_le hle
 omega
theorem and_top_zero {y:Nat} (hy:y<4294967296) (h:y&&&2147483648=0):y<2147483648:=by
 have h1:(y&&&2147483648).testBit 31=false:=by rw [h];simp
 rw [Nat.testBit_and,show(2147483648:Nat).testBit 31=true from by decide,Bool.and_true,Nat.testBit_eq_decide_div_mod_eq] at h1
 simp at h1
 omega
end Go.PN
namespace Go.Proofs.YtefekdejgbceiaaGreat
open Go.AI Go.PN
attribute [local irreducible] aw Fa Fh DrK
attribute [local irreducible] DrB
theorem shl_u32 (x s:Nat) (hs:s≤32):shlZ .u32 (x:Int) (s:Int)=((x*2^s%4294967296:Nat):Int):=by
 rw [shlZ_eq]
 have h1:min (s:Int).toNat IntKind.u32.bits=s:=by show min (s:Int).toNat 32=s;omega
 rw [h1,IntKind.wrap_u32,Int.natCast_emod,Int.natCast_mul,Int.natCast_pow];rfl
theorem and_u32 (x y:Nat) (hx:x<4294967296) (hy:y<4294967296):andZ .u32 (x:Int) (y:Int)=((x&&&y:Nat):Int):=by
 rw [andZ_eq]
 show IntKind.u32.wrap (((BitVec.ofInt 32 (x:Int)&&&BitVec.ofInt 32 (y:Int)).toNat:Nat):Int)=_
 have:(BitVec.ofInt 32 (x:Int)&&&BitVec.ofInt 32 (y:Int)).toNat=x&&&y:=by
  rw [BitVec.toNat_and]
  have e1:∀z:Nat,z<4294967296→(BitVec.ofInt 32 (z:Int)).toNat=z:=fun z hz=>by rw [BitVec.ofInt_natCast,BitVec.toNat_ofNat];omega
  rw [e1 x hx,e1 y hy]
 have hlt:x&&&y<4294967296:=Nat.lt_of_le_of_lt Nat.and_le_left hx
 rw [this,IntKind.wrap_u32];omega
theorem and_u32_top (x:Nat) (hx:x<4294967296):andZ .u32 (x:Int) 2147483648=((x&&&2147483648:Nat):Int):=and_u32 x 2147483648 hx om
theorem drop_f (xs:List Nat) (m j:Nat):xs.getD (m+j) 0=(xs.drop m).getD j 0:=by
 rw [List.getD_eq_getElem?_getD,List.getD_eq_getElem?_getD,List.getElem?_drop]
theorem mul_div_pow (a b s:Nat):a*2^s/(b*2^s)=a/b:=Nat.mul_div_mul_right a b (Nat.two_pow_pos s)
theorem mod_div_pow (a b s:Nat):a*2^s%(b*2^s)/2^s=a%b:=by
 rw [Nat.mul_mod_mul_right,Nat.mul_div_cancel _ (Nat.two_pow_pos s)]
theorem make_wf' (n:Nat):(fun j=>([CV.int .u32 0][j%1]?).getD .any)=wf (List.replicate n 0):=by
 funext j
 show _=CV.int .u32 ((List.replicate n 0).getD j 0:Nat)
 rw [Nat.mod_one,List.getD_eq_getElem?_getD,List.getElem?_replicate]
 split<;>rfl
theorem drop_row (xs:List Nat) (m:Nat):(CV.row true 1 (xs.length-m) fun j=>.int .u32 ((xs.getD (m+j) 0:Nat):Int))=ws true (xs.drop m):=by
 simp only [drop_f]
 show _=CV.row true 1 (xs.drop m).length _
 rw [List.length_drop]
theorem cons_f (x:Nat) (rs:List Nat):∀j,appF (ofL [.int .u32 (x:Int)]) 1 (fun j=>.int .u32 ((rs.getD j 0:Nat):Int)) j=CV.int .u32 (((x::rs).getD j 0:Nat):Int)
 |0=>rfl
 |j+1=>by simp [appF]
theorem qdiv_fa (xs ys:List Nat) (hx:∀x∈xs,x<4294967296) (hy:∀x∈ys,x<4294967296) (hlx:xs.length≤34359738368) (hly:ys.length≤34359738368) (h0:val ys≠0):
  Fa Tryz.prog 102 [.c (ws false xs),.c (ws false ys)] (.tup [.c (ws true (words (val xs/val ys))),.c (ws true (words (val xs%val ys))),.c (.int .i64 0)]):=by
 refine fa_of_body Tryz.func102 rfl rfl (by simp [Tryz.ntmps102]) fun C hC=> ?_
 simp only [initS,Nat.reduceAdd]
 refine xG ?_
 refine xC (qtrim_fa ys hy ?_) ?_
 ·omega
 generalize hb0:val ys=b at h0
 have hbl:(words b).length≤34359738368:=by rw [←hb0];exact Nat.le_trans (words_val_len ys hy) hly
 have hbw:=words_lt b
 obtain⟨n,hn⟩:∃n,(words b).length=n+1:=⟨(words b).length-1,by have:(words b).length≠0:=fun e=>h0 (words_eq_nil.1 (List.length_eq_zero_iff.1 e));omega⟩
 have htop:(words b).getD n 0≠0:=by
  have:=(words_plain b).resolve_left (fun e=>h0 (words_eq_nil.1 e))
  rwa [hn] at this
 have htl:=getD_lt hbw n
 refine xG ?_
 refine xF (fun hb=>?_) fun hb=>?_
 ·have:=eq_of_beq hb;omega
 refine xH ?_
 apply aw_skip
 apply aw_seq
 apply aw_region
 refine xH ?_
 apply aw_seq
 refine aw_cut (fun s:Nat=>[(0,.c (ws false xs)),(1,.c (ws true (words b))),(7,.c (.int .i64 ((n+1:Nat):Int))),(8,.c (.int .i64 s))]) (fun _=>[]) (fun s=>(words b).getD n 0*2^s<4294967296∧s<32) ?_ ?_
 ·as_aux_lemma=>
  apply aw_block
  have hnl:((words b).length:Int)=((n+1:Nat):Int):=by rw [hn]
  refine aw_lp (fun s:Nat=>[(0,.c (ws false xs)),(1,.c (ws true (words b))),(7,.c (.int .i64 ((n+1:Nat):Int))),(8,.c (.int .i64 s))]) (fun _=>[]) (fun s=>(words b).getD n 0*2^s<4294967296∧s<32) (fun s=>32-s) 0 (zB hnl) zZ ⟨by simpa using htl,by omega⟩ ?_
  rintro s ⟨hs1,hs2⟩
  have e1:=shl_u32 ((words b).getD n 0) s om
  rw [Nat.mod_eq_of_lt hs1] at e1
  have e2:=and_u32_top _ hs1
  have e3:(((n+1:Nat):Int)-1).toNat=n:=by omega
  have J1:=oj hnl (oj e1 (oj e2 e3))
  refine yG J1 ?_
  refine yF J1 (fun hc=>?_) fun hc=>?_
  ·have hc':(words b).getD n 0*2^s&&&2147483648=0:=by have:=eq_of_beq hc;omega
   have hlt:=and_top_zero hs1 hc'
   have hs3:s<31:=by
    rcases Nat.lt_or_ge s 31 with h|h
    ·exact h
    ·exfalso
     have h8:(2:Nat)^31≤2^s:=Nat.pow_le_pow_right om h
     have h9:=Nat.mul_le_mul (show 1≤(words b).getD n 0 by omega) h8
     omega
   refine yG J1 ?_
   refine aw_stop ⟨s+1,by omega,(zB J1),zZ,?_,by omega⟩
   rw [Nat.pow_succ,←Nat.mul_assoc];omega
  ·refine yG J1 ?_
   exact aw_stop ⟨s,(zB J1),zZ,hs1,hs2⟩
 as_aux_lemma=>
 rintro s ⟨hs1,hs2⟩
 have hVl:=shift_len hn hs1
 refine xG ?_
 refine xC (qup_fa xs s hx ?_ hs2) ?_
 ·omega
 refine xG ?_
 refine xC (qup_fa (words b) s hbw ?_ hs2) ?_
 ·omega
 rw [val_words]
 have hq1:=(mul_div_pow (val xs) b s).symm
 have hq2:=(mod_div_pow (val xs) b s).symm
 have hV0:b*2^s≠0:=Nat.mul_ne_zero h0 (Nat.pos_iff_ne_zero.1 (Nat.two_pow_pos s))
 have hAl:(words (val xs*2^s)).length≤34359738369:=by
  have h0:(words (val xs*2^s)).length≤xs.length+1:=by
   refine words_len_le ?_
   rw [Nat.pow_succ]
   have h2:2^s≤4294967296:=pow_lt_32 om
   exact Nat.lt_of_lt_of_le (Nat.mul_lt_mul_of_pos_right (val_lt xs hx) (Nat.two_pow_pos s)) (Nat.mul_le_mul_left _ h2)
  omega
 rw [hq1,hq2]
 clear hq1 hq2
 generalize hA:val xs*2^s=A at hAl⊢
 generalize hV:b*2^s=V at hVl hV0⊢
 have hn9:n≤34359738368:=by omega
 clear htop htl hbl hbw hs1 hA hV hb0 hb h0 hn
 have hVpos:0<V:=Nat.pos_of_ne_zero hV0
 have hAw:=words_lt A
 have hVw:=words_lt V
 have hVlo:4294967296^n≤V:=by have:=words_pow_le hV0;rwa [hVl] at this
 have hVhi:V<4294967296^(n+1):=by have:=words_pow_lt V;rwa [hVl] at this
 have hAhi:=words_pow_lt A
 generalize hla:(words A).length=la at hAl hAhi
 refine xH ?_
 apply aw_seq
 refine aw_drB 13 ty_mixed (by kernel_rfl) ?_
 repeat first|(refine drb_2q true rfl (fun R hR=> ?_);simp only [go_sem];(with_reducible refine hR _ _ ?_ ?_);(focus (((try simp only [inRange])<;>and_intros<;>first|exact True.intro|omega|trivial);done));clear hR R)|fail
 refine drb_new rfl (NewX.make (n:=la) (c:=la) rfl rfl rfl ty_e_ws ty_z_u32 rfl om eE eE (by rw [hla]) (by rw [hla]) om om om) (by kernel_rfl) ?_
 refine xS ?_
 refine drb_calm (CalmX.empty rfl rfl rfl ty_e_ws) ?_
 refine xS ?_
 have hmx:(if((words A).length:Int)-((n+1:Nat):Int)+1>0 then((words A).length:Int)-((n+1:Nat):Int)+1 else 0)=((la-n:Nat):Int):=by rw [hla];split<;>omega
 repeat first|(refine drb_2q true rfl (fun R hR=> ?_);simp only [go_sem,hmx];(with_reducible refine hR _ _ ?_ ?_);(focus (((try simp only [inRange])<;>and_intros<;>first|exact True.intro|omega|trivial);done));clear hR R)|fail
 refine drb_calm (CalmX.copy rfl rfl rfl ty_e_ws ty_z_u32 rfl om (zE hmx) (zE hmx) .row (by unfold maxLen;omega) om) ?_
 refine yS hmx ?_
 refine drb_nil fun γ=> ?_
 refine yS hmx ?_
 rw [make_wf' la]
 generalize γ 2=gq
 rw [drop_row]
 have hr0:=drop_val (words A) hAw (la-n) om
 rw [val_words] at hr0
 have hrV:A/4294967296^(la-n)<V:=by
  refine Nat.lt_of_lt_of_le ((Nat.div_lt_iff_lt_mul (pow32 _)).2 ?_) hVlo
  rw [←Nat.pow_add]
  exact Nat.lt_of_lt_of_le hAhi (Nat.pow_le_pow_right om om)
 have hrw:∀x∈(words A).drop (la-n),x<4294967296:=fun x hx=>hAw x (List.mem_of_mem_drop hx)
 have hrl:((words A).drop (la-n)).length≤n+1:=by rw [List.length_drop];omega
 generalize (words A).drop (la-n)=rs0 at hr0 hrw hrl⊢
 refine yG hmx ?_
 refine aw_lp (fun x:Int×Nat×List Nat×List Nat=>[(0,.c (ws true (words A))),(1,.c (ws true (words V))),(7,.c (.int .i64 ((n+1:Nat):Int))),(8,.c (.int .i64 s)),(9,.c (.osl gq 1 0 la)),(10,.c (ws true x.2.2.1)),(11,.c (.int .i64 x.1))]) (fun x=>[(gq,.cells 139 la (wf x.2.2.2))])
  (fun x=>x.2.1=(x.1+1).toNat∧x.1<34359738370∧ -34359738370<x.1∧x.2.1≤la∧val x.2.2.1=A/4294967296^x.2.1%V∧(∀y∈x.2.2.1,y<4294967296)∧x.2.2.1.length≤n+1∧x.2.2.2.length=la∧(∀y∈x.2.2.2,y<4294967296)∧val (x.2.2.2.drop x.2.1)=A/4294967296^x.2.1/V) (fun x=>x.2.1) ((la:Int)-((n+1:Nat):Int),la-n,rs0,List.replicate la 0) (zB hmx) zZ
  ⟨by dsimp only;omega,by dsimp only;omega,by dsimp only;omega,by dsimp only;omega,by dsimp only;rw [hr0,Nat.mod_eq_of_lt hrV],hrw,hrl,by simp,replicate_lt _,by dsimp only;rw [Nat.div_eq_of_lt hrV];exact val_zero fun x hx=>(List.mem_replicate.1 (List.mem_of_mem_drop hx)).2⟩ ?_
 clear hr0 hrV hrw hrl
 clear rs0
 as_aux_lemma=>
 rintro ⟨v,m,rs,qs⟩ ⟨hm,hv1,hv2,hml,hrs,hrw,hrl,hql,hqw,hqs⟩
 dsimp only at hm hv1 hv2 hml hrs hrw hrl hql hqw hqs⊢
 refine yG hmx ?_
 refine yF hmx (fun hb=>?_) fun hb=>?_
 ·have hv0:0≤v:=of_decide_eq_true hb
  obtain⟨k,rfl⟩:∃k:Nat,v=k:=⟨v.toNat,by omega⟩
  have hmk:m=k+1:=by omega
  subst hmk
  have hwk:=word_at (words A) hAw k
  rw [val_words] at hwk
  have hak:=getD_lt hAw k
  obtain⟨nx1,nx2⟩:=ref_next (A:=A) (m:=k) hVpos hrs
  rw [hwk] at nx1 nx2
  apply aw_skip
  apply aw_seq
  apply aw_block
  apply aw_seq
  have hRl:((words A).getD k 0::rs).length≤n+2:=by simp;omega
  have hRw:∀x∈(words A).getD k 0::rs,x<4294967296:=fun x hx=>by
   rcases List.mem_cons.1 hx with rfl|hx
   ·exact hak
   ·exact hrw x hx
  refine aw_cut (fun _:Unit=>[(0,.c (ws true (words A))),(1,.c (ws true (words V))),(7,.c (.int .i64 ((n+1:Nat):Int))),(8,.c (.int .i64 s)),(9,.c (.osl gq 1 0 la)),(10,.c (ws true (words ((words A).getD k 0+4294967296*val rs)))),(11,.c (.int .i64 k))]) (fun _=>[(gq,.cells 139 la (wf qs))]) (fun _=>k<la) ?_ ?_
  ·as_aux_lemma=>
   apply aw_region
   refine yH hmx ?_
   refine aw_buildSlice (xs:=[.tmp 61]) (cells:=[.int .u32 ((words A).getD k 0:Nat)]) rfl rfl rfl ty_e_ws (by rw [envP,ty_z_u32];rfl) rfl om om (by intro x hx;simp only [List.mem_singleton] at hx;subst hx;exact⟨rfl,rfl,rfl⟩) (zE hmx) fun g hg=> ?_
   replace hg:=Heap.ne_of hg
   dsimp only [Heap.ne] at hg
   have J2:=oj hmx hg
   refine yS J2 ?_
   refine yH J2 ?_
   by_cases hr0:0<rs.length
   ·refine aw_append rfl rfl rfl ty_e_ws ty_z_u32 rfl om (zE J2) (zE J2) om (zE J2) .row (fun _ _=>rfl) hr0 (by unfold maxLen;omega) om (zE J2) fun g' hg'=> ?_
    replace hg':=Heap.ne_of hg'
    dsimp only [Heap.ne] at hg'
    have J3:=oj hmx (oj hg hg')
    refine yS J3 ?_
    refine yH J3 ?_
    refine aw_callq (qtrim_fa ((words A).getD k 0::rs) hRw om) rfl rfl rfl (by refine yS J3 ?_;exact .c (lec_oslws (zE J3) om (by simp;omega) (fun j _=>by rw [Nat.zero_add];exact cons_f _ _ j))) ?_
    refine yS J3 ?_
    refine yH J3 ?_
    exact aw_stop ⟨(),(zB J3),List.Sublist.cons _ (List.Sublist.refl _),by omega⟩
   ·have hrn:rs=[]:=List.length_eq_zero_iff.1 om
    subst hrn
    refine aw_append0 rfl rfl rfl ty_e_ws (zE J2) rfl (zE J2) .row (zE J2) ?_
    refine yS J2 ?_
    refine yH J2 ?_
    refine aw_callq (qtrim_fa ((words A).getD k 0::[]) hRw om) rfl rfl rfl (by refine yS J2 ?_;exact .c (lec_oslws (zE J2) om rfl (fun j hj=>by match j,hj with|0,_=>rfl))) ?_
    refine yS J2 ?_
    refine yH J2 ?_
    exact aw_stop ⟨(),(zB J2),List.Sublist.cons _ (List.Sublist.refl _),by omega⟩
  as_aux_lemma=>
  rintro _ hkl
  have hRV:val ((words A).getD k 0::rs)<V*4294967296:=by
   simp only [val]
   rw [hrs]
   have:=Nat.mod_lt (A/4294967296^(k+1)) hVpos
   omega
  have hRv:val ((words A).getD k 0::rs)=(words A).getD k 0+4294967296*val rs:=rfl
  rw [hRv] at hRV
  generalize hR:(words A).getD k 0+4294967296*val rs=R at nx1 nx2 hRV⊢
  have hRwl:(words R).length≤n+2:=by
   rw [←hR,←hRv];exact Nat.le_trans (words_val_len _ hRw) hRl
  have hRww:=words_lt R
  have hw1:=getD_lt hRww (n+1)
  have hw2:=getD_lt hRww n
  have hw3:=getD_lt hVw n
  have hVtop:(words V).getD n 0≠0:=by
   have:=(words_plain V).resolve_left (fun e=>hV0 (words_eq_nil.1 e))
   rwa [hVl] at this
  have hg0:R/V≤((words R).getD (n+1) 0*4294967296+(words R).getD n 0)/(words V).getD n 0:=by
   refine ref_guess (D:=4294967296^n) ?_ ?_ om hVpos
   ·have:=top_lt (words R) hRww n hRwl
    rwa [val_words] at this
   ·have:=top_le (words V) n
    rwa [List.take_of_length_le om,val_words] at this
  have hg1:R/V≤4294967295:=by
   have:R/V<4294967296:=(Nat.div_lt_iff_lt_mul hVpos).2 (by rw [Nat.mul_comm];exact hRV)
   omega
  have e3:(((n+1:Nat):Int)-1)=(n:Int):=by omega
  refine yG hmx ?_
  refine yC hmx (qword_fa (words R) (n+1) hRww) ?_
  refine yG (oj hmx e3) ?_
  refine yC (oj hmx e3) (qword_fa (words R) n hRww) ?_
  as_aux_lemma=>
  have e4:=shl_u64_32 ((words R).getD (n+1) 0) hw1
  have e5:=or_u64_j32 ((words R).getD (n+1) 0) ((words R).getD n 0) hw1 hw2
  have J4:=oj hmx (oj e3 (oj e4 e5))
  refine yG J4 ?_
  as_aux_lemma=>
  refine yC J4 (qword_fa (words V) n hVw) ?_
  have hjl:j32 ((words R).getD (n+1) 0) ((words R).getD n 0)<18446744073709551616:=by unfold j32;omega
  have e6:=quo_u64 (j32 ((words R).getD (n+1) 0) ((words R).getD n 0)) ((words V).getD n 0) hjl
  replace hg0:R/V≤j32 ((words R).getD (n+1) 0) ((words R).getD n 0)/(words V).getD n 0:=hg0
  have J5:=oj hmx (oj e3 (oj e4 (oj e5 e6)))
  refine yO J5 ?_
  generalize j32 ((words R).getD (n+1) 0) ((words R).getD n 0)/(words V).getD n 0=G at hg0⊢
  have e7:(if(4294967295:Int)<(G:Int) then(4294967295:Int) else(G:Int))=((min G 4294967295:Nat):Int):=by split<;>omega
  as_aux_lemma=>
  refine yO J5 ?_
  rw [e7]
  have hgl:min G 4294967295<4294967296:=by omega
  replace hg0:R/V≤min G 4294967295:=by omega
  generalize min G 4294967295=g0 at hgl hg0⊢
  have e8:wrapZ .u32 (g0:Int)=(g0:Int):=by rw [wrap_u32_nat,Nat.mod_eq_of_lt hgl]
  as_aux_lemma=>
  have J6:=oj hmx (oj e3 (oj e4 (oj e5 (oj e6 e8))))
  refine yG J6 ?_
  as_aux_lemma=>
  refine aw_buildSlice (xs:=[.tmp 83]) (cells:=[.int .u32 (g0:Nat)]) rfl rfl rfl ty_e_ws (by rw [envP,ty_z_u32];rfl) rfl om om (by intro x hx;simp only [List.mem_singleton] at hx;subst hx;exact⟨rfl,rfl,rfl⟩) (zE J6) fun g hg=> ?_
  replace hg:=Heap.ne_of hg
  dsimp only [Heap.ne] at hg
  have J7:=oj hmx (oj e3 (oj e4 (oj e5 (oj e6 (oj e8 hg)))))
  refine ySG J7 ?_
  as_aux_lemma=>
  refine aw_callq (qmul_fa (words V) [g0] hVw (by intro x hx;simp only [List.mem_singleton] at hx;subst hx;exact hgl) om (by simp)) rfl rfl rfl (by refine yS J7 ?_;exact⟨.c (le_ws (by simp)),.c (lec_oslws (zE J7) (by simp) rfl (fun j hj=>by match j,hj with|0,_=>rfl))⟩) ?_
  rw [val_words,val_one]
  refine yS J7 ?_
  refine yH J7 ?_
  apply aw_seq
  refine aw_cut (fun _:Unit=>[(0,.c (ws true (words A))),(1,.c (ws true (words V))),(7,.c (.int .i64 ((n+1:Nat):Int))),(8,.c (.int .i64 s)),(9,.c (.osl gq 1 0 la)),(10,.c (ws true (words R))),(11,.c (.int .i64 k)),(12,.c (.int .u64 (R/V:Nat))),(13,.c (ws true (words (V*(R/V)))))]) (fun _=>[(gq,.cells 139 la (wf qs))]) (fun _=>k<la) ?_ ?_
  ·as_aux_lemma=>
   apply aw_block
   refine aw_lp (fun q:Nat=>[(0,.c (ws true (words A))),(1,.c (ws true (words V))),(7,.c (.int .i64 ((n+1:Nat):Int))),(8,.c (.int .i64 s)),(9,.c (.osl gq 1 0 la)),(10,.c (ws true (words R))),(11,.c (.int .i64 k)),(12,.c (.int .u64 q)),(13,.c (ws true (words (V*q))))]) (fun _=>[(gq,.cells 139 la (wf qs))]) (fun q=>R/V≤q∧q<4294967296) (fun q=>q) g0 (zB J7) (List.Sublist.cons _ (List.Sublist.refl _)) ⟨hg0,hgl⟩ ?_
   rintro q ⟨hq1,hq2⟩
   have hpl:(words (V*q)).length≤34359738380:=by
    have h1:=words_mul_len V q
    have h2:(words q).length≤2:=words_small om
    omega
   refine yG J7 ?_
   refine yC J7 (qcmp_fa (words (V*q)) (words R) (words_lt _) hRww ?_ ?_) ?_
   ·omega
   ·omega
   rw [val_words,val_words]
   refine yG J7 ?_
   refine yF J7 (fun hc=>?_) fun hc=>?_
   ·have hgt:R<V*q:=by
     have:=of_decide_eq_true hc
     unfold cmpN at this
     split at this
     ·omega
     ·split at this<;>omega
    have hq0:R/V<q:=(Nat.div_lt_iff_lt_mul hVpos).2 (by rw [Nat.mul_comm];exact hgt)
    have hsub:V*q-V=V*(q-1):=by rw [Nat.mul_sub,Nat.mul_one]
    have hq9:0<q:=Nat.lt_of_le_of_lt (Nat.zero_le _) hq0
    have hge:V≤V*q:=Nat.le_mul_of_pos_right _ hq9
    have e9:((q:Int)-1)=((q-1:Nat):Int):=by omega
    have J8:=oj hmx (oj e3 (oj e4 (oj e5 (oj e6 (oj e8 (oj hg e9))))))
    refine yG J8 ?_
    refine yC J8 (qsub_fa (words (V*q)) (words V) (words_lt _) hVw ?_ ?_ ?_) ?_
    ·omega
    ·omega
    ·rw [val_words,val_words];exact hge
    rw [val_words,val_words,hsub]
    refine yG J8 ?_
    exact aw_stop ⟨q-1,by omega,(zB J8),zZ,Nat.le_sub_one_of_lt hq0,by omega⟩
   ·have hle:V*q≤R:=by
     have:=of_decide_eq_false hc
     unfold cmpN at this
     split at this
     ·omega
     ·split at this<;>omega
    have hqe:q=R/V:=Nat.le_antisymm ((Nat.le_div_iff_mul_le hVpos).2 (by rw [Nat.mul_comm];exact hle)) hq1
    subst hqe
    refine yG J7 ?_
    exact aw_stop ⟨(),(zB J7),zZ,hkl⟩
  as_aux_lemma=>
  rintro _ _
  have hmd:=Nat.div_add_mod R V
  have hml2:=Nat.mod_lt R hVpos
  have hpl:(words (V*(R/V))).length≤n+2:=Nat.le_trans (words_len_mono (Nat.mul_div_le R V)) hRwl
  refine yG J7 ?_
  refine yC J7 (qsub_fa (words R) (words (V*(R/V))) hRww (words_lt _) ?_ ?_ ?_) ?_
  ·omega
  ·omega
  ·rw [val_words,val_words];omega
  rw [val_words,val_words,show R-V*(R/V)=R%V from by omega]
  have e8:wrapZ .u32 ((R/V:Nat):Int)=((R/V:Nat):Int):=by rw [wrap_u32_nat,Nat.mod_eq_of_lt om]
  have J9:=oj hmx (oj e3 (oj e4 (oj e5 (oj e6 (oj e8 (oj hg e8))))))
  refine yGWS J9 ?_
  rw [updF_wf om]
  refine yG J9 ?_
  have hrm:(words (R%V)).length≤n+1:=words_len_le (Nat.lt_trans hml2 hVhi)
  refine aw_stop ⟨((k:Int)-1,k,words (R%V),qs.set k (R/V)),by dsimp only;omega,(zB J9),zZ,by dsimp only;omega,by dsimp only;omega,by dsimp only;omega,by dsimp only;omega,by dsimp only;rw [val_words,nx1],words_lt _,hrm,by simpa using hql,set_lt hqw om,?_⟩
  dsimp only
  rw [val_set_drop om,hqs,nx2]
 ·have hm0:m=0:=dF hb
  subst hm0
  rw [List.drop_zero,Nat.pow_zero,Nat.div_one] at hqs
  rw [Nat.pow_zero,Nat.div_one] at hrs
  refine yG hmx ?_
  refine aw_callq (qtrim_fa qs hqw om) rfl rfl rfl (by refine yS hmx ?_;exact .c (lec_oslws (zE hmx) om om (fun j _=>by rw [Nat.zero_add];rfl))) ?_
  refine ySG hmx ?_
  refine yC hmx (qdown_fa rs s hrw ?_ hs2) ?_
  ·omega
  refine yGT hC hmx ?_
  rw [hqs,hrs]
  exact .tup ⟨.c ler_ws,.c ler_ws,.c (.int _ _),trivial⟩
theorem qgcd_fa (xs ys:List Nat) (hx:∀x∈xs,x<4294967296) (hy:∀x∈ys,x<4294967296) (hlx:xs.length≤34359738368) (hly:ys.length≤34359738368):
  Fa Tryz.prog 101 [.c (ws false xs),.c (ws false ys)] (.c (ws true (words (Nat.gcd (val xs) (val ys))))):=by
 refine fa_of_body Tryz.func101 rfl rfl (by simp [Tryz.ntmps101]) fun C hC=> ?_
 simp only [initS,Nat.reduceAdd]
 refine xG ?_
 refine xC (qtrim_fa xs hx ?_) ?_
 ·omega
 refine xG ?_
 refine xC (qtrim_fa ys hy ?_) ?_
 ·omega
 have hla:(words (val xs)).length≤34359738368:=Nat.le_trans (words_val_len xs hx) hlx
 have hlb:(words (val ys)).length≤34359738368:=Nat.le_trans (words_val_len ys hy) hly
 refine xI ?_
 apply aw_block
 refine aw_lp (fun x:Nat×Nat=>[(0,.c (ws true (words x.1))),(1,.c (ws true (words x.2)))]) (fun _=>[]) (fun x=>(words x.1).length≤34359738368∧(words x.2).length≤34359738368∧Nat.gcd x.1 x.2=Nat.gcd (val xs) (val ys)) (fun x=>x.2) (val xs,val ys) eB zZ ⟨hla,hlb,rfl⟩ ?_
 rintro ⟨a,b⟩ ⟨hla,hlb,hg⟩
 dsimp only at hla hlb hg⊢
 refine xG ?_
 refine xF (fun hb=>?_) fun hb=>?_
 ·have hb0:b≠0:=fun e=>by have:=of_decide_eq_true hb;rw [e,words_zero] at this;simp at this
  refine xG ?_
  refine xC (qdiv_fa (words a) (words b) (words_lt a) (words_lt b) hla hlb ?_) ?_
  ·rw [val_words];exact hb0
  rw [val_words,val_words]
  refine xG ?_
  have hlt:a%b<b:=Nat.mod_lt _ (Nat.pos_of_ne_zero hb0)
  refine aw_stop ⟨(b,a%b),hlt,eB,zZ,hlb,Nat.le_trans (words_len_mono (Nat.le_of_lt hlt)) hlb,?_⟩
  dsimp only
  rw [←hg,Nat.gcd_comm a b,Nat.gcd_rec b a,Nat.gcd_comm]
 ·have hb0:b=0:=by
   have:=of_decide_eq_false hb
   exact words_eq_nil.1 (List.length_eq_zero_iff.1 om)
  subst hb0
  refine xGT hC ?_
  rw [←hg,Nat.gcd_zero_right]
  exact .one (.c ler_ws)
end Go.Proofs.YtefekdejgbceiaaGreat
namespace Go.Proofs.YtefekdejgbceiaaGreat
open Go.AI Go.PN
attribute [local irreducible] aw Fa Fh DrK
theorem bitlen_one {n:Nat}:((bitlen n:Int)==1)=decide (n=1):=by
 rw [Bool.eq_iff_iff]
 simp only [beq_iff_eq,decide_eq_true_eq]
 unfold bitlen
 constructor
 ·intro h
  split at h
  ·omega
  ·rename_i h0
   have h1:Nat.log2 n=0:=by omega
   have h2:=(Nat.log2_lt h0 (k:=1)).1 om
   omega
 ·intro h;subst h;rfl
theorem len_ne {xs:List Nat} (h:xs.length≠0):((xs.length:Int)==0)=false:=by
 rw [beq_eq_false_iff_ne];omega
theorem len_eq {xs:List Nat} (h:xs.length=0):((xs.length:Int)==0)=true:=by rw [h];rfl
theorem svalid_fa (r:RD) (hw:r.wf 34359738368):Fa Tryz.prog 99 [.agg (rdc r)] (.c (.bool r.valid)):=by
 have hl1:=hw.2.2.1
 have hl2:=hw.2.2.2
 refine fa_of_body Tryz.func99 rfl rfl (by simp [Tryz.ntmps99]) fun C hC=> ?_
 simp only [initS,Nat.reduceAdd]
 refine xG ?_
 refine xB fun g1 hn_g1=>?_
 refine yG hn_g1 ?_
 refine aw_dr 8 ty_mixed (by kernel_rfl) ?_
 refine yG hn_g1 ?_
 by_cases hn:r.num.length=0
 ·have hn':=len_eq hn
  by_cases hd:r.den.length=0
  ·have hd':=len_eq hd
   have J1:=oj hn_g1 (oj hn' hd')
   refine yGPGT hC J1 ?_
   exact .one (.c (ler_bool (valid_zero hn' hd')))
  ·have hd':=len_ne hd
   have J2:=oj hn_g1 (oj hn' hd')
   refine yGPGT hC J2 ?_
   refine .one (.c (ler_bool ?_))
   rw [valid_else (.inr hd'),plain_no om,Bool.false_and,Bool.false_and]
 ·have hn':=len_ne hn
  by_cases hd:r.den.length=0
  ·have hd':=len_eq hd
   have J3:=oj hn_g1 (oj hn' hd')
   refine yGPGT hC J3 ?_
   refine .one (.c (ler_bool ?_))
   rw [valid_else (.inl hn'),plain_no (xs:=r.den) om,Bool.and_false,Bool.false_and]
  ·have hd':=len_ne hd
   have J4:=oj hn_g1 (oj hn' hd')
   refine yGNG J4 ?_
   rw [valid_else (.inl hn'),plain_eq (xs:=r.num) om,plain_eq (xs:=r.den) om]
   refine aw_split 35 (zE (oj hn_g1 (oj hn' hd'))) (fun h1=> ?_) (fun h1=> ?_)<;>refine yS (oj hn_g1 (oj hn' hd')) ?_
   ·have J5:=oj hn_g1 (oj hn' hd')
    refine yG J5 ?_
    refine aw_split 44 (zE J5) (fun h2=> ?_) (fun h2=> ?_)<;>refine yS J5 ?_
    ·refine yG J5 ?_
     refine yC J5 (qgcd_fa _ _ hw.1 hw.2.1 ?_ ?_) ?_
     ·omega
     ·omega
     refine yG J5 ?_
     have hg:(words (Nat.gcd (val r.num) (val r.den))).length≤68719476736:=by
      by_cases h:val r.num=0
      ·rw [h,Nat.gcd_zero_left];have:=words_val_len _ hw.2.1;omega
      ·have h3:=words_len_mono (Nat.gcd_le_left (val r.den) (Nat.pos_of_ne_zero h));have:=words_val_len _ hw.1;omega
     refine yC J5 (qbits_fa _ (words_lt _) hg) ?_
     rw [val_words]
     refine yGT hC J5 ?_
     refine .one (.c (ler_bool ?_))
     rw [h1,h2,bitlen_one];rfl
    ·refine yGT hC J5 ?_
     refine .one (.c (ler_bool ?_))
     rw [h2,Bool.and_false,Bool.false_and]
   ·refine yGT hC (oj hn_g1 (oj hn' hd')) ?_
    refine .one (.c (ler_bool ?_))
    rw [h1,Bool.false_and,Bool.false_and]
theorem ler_one {h:Heap} {t:Bool} {g:Nat} {ty:TypeId} (hg:h.get g=some (.cells ty 1 (ofL [.int .u32 1]))):LeR h (.osl g 1 0 1) (ws t [1]):=
 ler_oslws hg om rfl (fun j hj=>by match j,hj with|0,_=>rfl)
theorem sparts_fa (r:RD) (hw:r.wf 1073741824):Fa Tryz.prog 54 [.agg (rdc r)] (partsAV r):=by
 refine fa_of_body Tryz.func54 rfl rfl (by simp [Tryz.ntmps54]) fun C hC=> ?_
 simp only [initS,Nat.reduceAdd]
 refine xG ?_
 refine xB fun g1 hn_g1=>?_
 refine yG hn_g1 ?_
 refine yC hn_g1 (svalid_fa r (wf_mono hw ?_)) ?_
 ·omega
 refine yG hn_g1 ?_
 refine aw_split 8 (zE hn_g1) (fun hv=> ?_) (fun hv=> ?_)<;>refine yS hn_g1 ?_
 ·have hs:=RD.pn_none (none_of (r:=r) (.inl (by simpa using hv)))
  refine yGPG hn_g1 ?_
  refine aw_buildSlice (xs:=[.const (.int .u32 1)]) (cells:=[.int .u32 1]) rfl rfl rfl ty_e_ws (by rw [envP,ty_z_u32];rfl) rfl om om (by intro x hx;simp only [List.mem_cons,List.not_mem_nil,or_false] at hx;subst hx;exact⟨rfl,rfl,rfl⟩) rfl fun g hg=> ?_
  replace hg:=Heap.ne_of hg
  dsimp only [Heap.ne] at hg
  have J1:=oj hn_g1 hg
  refine ySGT hC J1 ?_
  refine .tup ⟨.c (ler_bool hs.2.2.symm),.c ?_,.c ?_,trivial⟩
  ·rw [hs.1];exact .nils
  ·rw [hs.2.1];exact ler_one (zE J1)
 ·have hv':r.valid=true:=by simpa using hv
  refine yG hn_g1 ?_
  refine yF hn_g1 (fun hn=>?_) fun hn=>?_
  ·have hs:=RD.pn_none (none_of (r:=r) (.inr hn))
   refine yG hn_g1 ?_
   refine aw_buildSlice (xs:=[.const (.int .u32 1)]) (cells:=[.int .u32 1]) rfl rfl rfl ty_e_ws (by rw [envP,ty_z_u32];rfl) rfl om om (by intro x hx;simp only [List.mem_cons,List.not_mem_nil,or_false] at hx;subst hx;exact⟨rfl,rfl,rfl⟩) rfl fun g hg=> ?_
   replace hg:=Heap.ne_of hg
   dsimp only [Heap.ne] at hg
   have J2:=oj hn_g1 hg
   refine ySGT hC J2 ?_
   refine .tup ⟨.c (ler_bool hs.2.2.symm),.c ?_,.c ?_,trivial⟩
   ·rw [hs.1];exact .nils
   ·rw [hs.2.1];exact ler_one (zE J2)
  ·have hs:=RD.pn_words hw (some_of hv' hn)
   refine yG hn_g1 ?_
   refine aw_dr 9 ty_mixed (by kernel_rfl) ?_
   refine yGT hC hn_g1 ?_
   refine .tup ⟨.c (ler_bool hs.2.2.symm),.c ?_,.c ?_,trivial⟩
   ·rw [hs.1];exact ler_ws
   ·rw [hs.2.1];exact ler_ws
theorem sfrom_fa (neg:Bool) (xs ys:List Nat) (hx:∀x∈xs,x<4294967296) (hy:∀x∈ys,x<4294967296) (hlx:xs.length≤34359738368) (hly:ys.length≤34359738368) (h0:val ys≠0):
  Fa Tryz.prog 55 [.c (.bool neg),.c (ws false xs),.c (ws false ys)] (.tup [.agg (rdc (rd (sq neg (val xs) (val ys)))),.c (.int .i64 0)]):=by
 refine fa_of_body Tryz.func55 rfl rfl (by simp [Tryz.ntmps55]) fun C hC=> ?_
 simp only [initS,Nat.reduceAdd]
 refine xG ?_
 refine xA fun g6 hn_g6=>?_
 refine yG hn_g6 ?_
 refine yC hn_g6 (qbits_fa ys hy ?_) ?_
 ·omega
 refine yG hn_g6 ?_
 refine yF hn_g6 (fun hb=>?_) fun hb=>?_
 ·exact absurd (bitlen_zero.1 (by have:=eq_of_beq hb;omega)) h0
 refine yG hn_g6 ?_
 refine yC hn_g6 (qbits_fa xs hx ?_) ?_
 ·omega
 refine yG hn_g6 ?_
 refine yF hn_g6 (fun hc=>?_) fun hc=>?_
 ·have hz:val xs=0:=bitlen_zero.1 (by have:=eq_of_beq hc;omega)
  refine yGWSGT hC hn_g6 ?_
  rw [hz,sq_zero,rd_zero]
  exact .tup ⟨.agg ⟨.bool _,.nils,.nils,trivial⟩,.c (.int _ _),trivial⟩
 ·have hz:val xs≠0:=fun e=>by rw [e] at hc;cases hc
  have hg:Nat.gcd (val xs) (val ys)≠0:=fun e=>h0 (Nat.eq_zero_of_gcd_eq_zero_right e)
  have hgl:(words (Nat.gcd (val xs) (val ys))).length≤34359738368:=by
   have h3:=words_len_mono (Nat.gcd_le_left (val ys) (Nat.pos_of_ne_zero hz));have:=words_val_len _ hx;omega
  refine yG hn_g6 ?_
  refine yC hn_g6 (qgcd_fa xs ys hx hy hlx hly) ?_
  refine yG hn_g6 ?_
  refine yC hn_g6 (qdiv_fa xs (words (Nat.gcd (val xs) (val ys))) hx (words_lt _) hlx hgl ?_) ?_
  ·rw [val_words];exact hg
  rw [val_words]
  refine yG hn_g6 ?_
  refine yC hn_g6 (qdiv_fa ys (words (Nat.gcd (val xs) (val ys))) hy (words_lt _) hly hgl ?_) ?_
  ·rw [val_words];exact hg
  rw [val_words]
  refine yGWSGT hC hn_g6 ?_
  rw [rd_sq hz h0]
  exact .tup ⟨.agg ⟨.bool _,ler_ws,ler_ws,trivial⟩,.c (.int _ _),trivial⟩
theorem sfromW (neg:Bool) (n d:Nat) (hn:(words n).length≤34359738368) (hd:(words d).length≤34359738368) (h0:d≠0):
  Fa Tryz.prog 55 [.c (.bool neg),.c (ws false (words n)),.c (ws false (words d))] (.tup [.agg (rdc (rd (sq neg n d))),.c (.int .i64 0)]):=by
 have:=sfrom_fa neg (words n) (words d) (words_lt n) (words_lt d) hn hd (by rw [val_words];exact h0)
 rwa [val_words,val_words] at this
def two (u:Nat):List Nat:=[u%4294967296,u/4294967296]
theorem two_val (u:Nat):val (two u)=u:=by simp only [two,val];omega
theorem two_lt {u:Nat} (h:u<18446744073709551616):∀x∈two u,x<4294967296:=fun x hx=>by
 simp only [two,List.mem_cons,List.not_mem_nil,or_false] at hx
 rcases hx with rfl|rfl<;>omega
theorem wrap_u64_neg {n:Int} (h0: -9223372036854775808≤n) (h1:n<0):wrapZ .u64 (0-wrapZ .u64 n)=(n.natAbs:Int):=by
 rw [wrapZ_eq,wrapZ_eq,IntKind.wrap_u64,IntKind.wrap_u64];omega
theorem wrap_u64_pos {n:Int} (h0:0≤n) (h1:n≤9223372036854775807):wrapZ .u64 n=(n.natAbs:Int):=by
 rw [wrapZ_eq,IntKind.wrap_u64];omega
theorem ssize_fa (n:Int) (h0: -9223372036854775808≤n) (h1:n≤9223372036854775807):Fa Tryz.prog 95 [.c (.int .i64 n)] (.c (ws true (two n.natAbs))):=by
 refine fa_of_body Tryz.func95 rfl rfl (by simp [Tryz.ntmps95]) fun C hC=> ?_
 simp only [initS,Nat.reduceAdd]
 apply aw_seq
 apply aw_region
 refine xH ?_
 apply aw_seq
 apply aw_region
 refine xH ?_
 apply aw_seq
 refine aw_cut (fun _:Unit=>[(3,.c (.int .u64 n.natAbs))]) (fun _=>[]) (fun _=>n≤9223372036854775807) ?_ ?_
 ·refine xG ?_
  refine xF (fun hb=>?_) fun hb=>?_
  ·have hn:n<0:=of_decide_eq_true hb
   have e1:=wrap_u64_neg h0 hn
   refine yG e1 ?_
   exact aw_stop ⟨(),(zB e1),zZ,h1⟩
  ·have hn:0≤n:=dF hb
   have e1:=wrap_u64_pos hn h1
   refine yG e1 ?_
   exact aw_stop ⟨(),(zB e1),zZ,h1⟩
 rintro _ _
 have hu:n.natAbs<18446744073709551616:=by omega
 generalize n.natAbs=u at hu⊢
 have e1:=wrap_u32_nat u
 have e2:=nat_div_32 u
 have e3:wrapZ .u32 ((u/4294967296:Nat):Int)=((u/4294967296:Nat):Int):=by rw [wrap_u32_nat,Nat.mod_eq_of_lt om]
 have J1:=oj e1 (oj e2 e3)
 refine yG J1 ?_
 refine aw_buildSlice (xs:=[.tmp 11,.tmp 14]) (cells:=[.int .u32 (u%4294967296:Nat),.int .u32 (u/4294967296:Nat)]) rfl rfl rfl ty_e_ws (by rw [envP,ty_z_u32];rfl) rfl om om (by intro x hx;simp only [List.mem_cons,List.not_mem_nil,or_false] at hx;rcases hx with rfl|rfl<;>exact⟨rfl,rfl,rfl⟩) rfl fun g hg=> ?_
 refine ySGT hC J1 ?_
 exact .one (.c (ler_oslws (zE J1) (by simp) rfl (fun j hj=>by match j,hj with|0,_=>rfl|1,_=>rfl)))
theorem inv_neg' (d:Rat):(-d)⁻¹= -d⁻¹:=by
 by_cases h:d=0
 ·subst h;rw [Rat.neg_zero,Rat.inv_zero,Rat.neg_zero]
 ·have h1:d*d⁻¹=1:=Rat.mul_inv_cancel d h
  have h2:(-d)*(-d)⁻¹=1:=Rat.mul_inv_cancel (-d) (by grind)
  grind
theorem sq_make (n d:Int):sq (decide (n<0) !=decide (d<0)) n.natAbs d.natAbs=(n:Rat)/(d:Rat):=by
 have e:∀m:Int,((m.natAbs:Int)=m∧¬m<0)∨((m.natAbs:Int)= -m∧m<0):=fun m=>by omega
 unfold sq
 rw [Rat.mkRat_eq_div]
 have hs:((sgn (decide (n<0) !=decide (d<0)) n.natAbs:Int):Rat)/((d.natAbs:Nat):Rat)=(n:Rat)/(d:Rat):=by
  have hd:((d.natAbs:Nat):Rat)=((d.natAbs:Int):Rat):=rfl
  rw [hd]
  unfold sgn
  rcases e n with ⟨h1,h2⟩|⟨h1,h2⟩<;>rcases e d with ⟨h3,h4⟩|⟨h3,h4⟩
  ·simp only [h2,h4,decide_false,bne_self_eq_false,Bool.false_eq_true,if_false,h1,h3]
  ·simp only [h2,h4,decide_false,decide_true,bne,h1,h3]
   simp only [show(false==true)=false from rfl,Bool.not_false,if_true]
   rw [Rat.intCast_neg,Rat.intCast_neg,Rat.div_def,Rat.div_def,inv_neg']
   grind
  ·simp only [h2,h4,decide_false,decide_true,bne,h1,h3]
   simp only [show(true==false)=false from rfl,Bool.not_false,if_true]
   rw [Int.neg_neg]
  ·simp only [h2,h4,decide_true,bne_self_eq_false,Bool.false_eq_true,if_false,h1,h3]
   rw [Rat.intCast_neg,Rat.intCast_neg,Rat.div_def,Rat.div_def,inv_neg']
   grind
 exact hs
end Go.Proofs.YtefekdejgbceiaaGreat
namespace Go.Proofs.YtefekdejgbceiaaGreat
open Go.AI Go.PN
attribute [local irreducible] aw Fa Fh DrK
theorem smake_fa (n d:Int) (h0: -9223372036854775808≤n) (h1:n≤9223372036854775807) (h2: -9223372036854775808≤d) (h3:d≤9223372036854775807) (hd:d≠0):
  Fa Tryz.prog 51 [.c (.int .i64 n),.c (.int .i64 d)] (.tup [.agg (rdc (rd ((n:Rat)/(d:Rat)))),.c (.int .i64 0)]):=by
 refine fa_of_body Tryz.func51 rfl rfl (by simp [Tryz.ntmps51]) fun C hC=> ?_
 simp only [initS,Nat.reduceAdd]
 refine xG ?_
 refine xA fun g4 hn_g4=>?_
 refine yG hn_g4 ?_
 refine yC hn_g4 (ssize_fa n h0 h1) ?_
 refine yG hn_g4 ?_
 refine yC hn_g4 (ssize_fa d h2 h3) ?_
 refine yG hn_g4 ?_
 refine yC hn_g4 (sfrom_fa _ (two n.natAbs) (two d.natAbs) (two_lt ?_) (two_lt ?_) ?_ ?_ ?_) ?_
 ·omega
 ·omega
 ·simp [two]
 ·simp [two]
 ·rw [two_val];omega
 rw [two_val,two_val,sq_make]
 refine yGWSGT hC hn_g4 ?_
 exact .tup ⟨.agg lerl_rd,.c (.int _ _),trivial⟩
theorem sof_fa (n:Int) (h0: -9223372036854775808≤n) (h1:n≤9223372036854775807):Fa Tryz.prog 12 [.c (.int .i64 n)] (.agg (rdc (rd (n:Rat)))):=by
 refine fa_of_body Tryz.func12 rfl rfl (by simp [Tryz.ntmps12]) fun C hC=> ?_
 simp only [initS,Nat.reduceAdd]
 refine xG ?_
 refine xA fun g2 hn_g2=>?_
 refine yG hn_g2 ?_
 refine yC hn_g2 (smake_fa n 1 h0 h1 ?_ ?_ ?_) ?_
 ·omega
 ·omega
 ·omega
 refine yG hn_g2 ?_
 refine yA hn_g2 fun g3 hn_g3=>?_
 have J1:=oj hn_g2 hn_g3
 refine yGWSG J1 ?_
 refine yW J1 ?_
 refine ySGT hC J1 ?_
 exact ler_rd (by congr 1;rw [Rat.intCast_one];grind)
theorem sneg_fa (r:RD) (hw:r.wf 1073741824):Fa Tryz.prog 53 [.agg (rdc r)] (.agg (rdc (rd (-r.q)))):=by
 obtain⟨hl1,hl2⟩:=RD.p_len hw om
 refine fa_of_body Tryz.func53 rfl rfl (by simp [Tryz.ntmps53]) fun C hC=> ?_
 simp only [initS,Nat.reduceAdd]
 refine xG ?_
 refine xB fun g1 hn_g1=>?_
 refine yA hn_g1 fun g2 hn_g2=>?_
 have J1:=oj hn_g1 hn_g2
 refine yG J1 ?_
 refine yC J1 (sparts_fa r hw) ?_
 refine yG J1 ?_
 refine yC J1 (sfromW _ r.pn r.pd ?_ ?_ (RD.pd_ne hw)) ?_
 ·omega
 ·omega
 refine yG J1 ?_
 refine yA J1 fun g6 hn_g6=>?_
 have J2:=oj hn_g1 (oj hn_g2 hn_g6)
 refine yGWSG J2 ?_
 refine yW J2 ?_
 refine ySGT hC J2 ?_
 exact ler_rd (by rw [sq_neg];rfl)
theorem ssign_fa (r:RD) (hw:r.wf 1073741824):Fa Tryz.prog 18 [.agg (rdc r)] (.c (.int .i64 (signQ r.q))):=by
 refine fa_of_body Tryz.func18 rfl rfl (by simp [Tryz.ntmps18]) fun C hC=> ?_
 simp only [initS,Nat.reduceAdd]
 refine xG ?_
 refine xB fun g1 hn_g1=>?_
 refine yG hn_g1 ?_
 refine yC hn_g1 (sparts_fa r hw) ?_
 refine yG hn_g1 ?_
 refine yF hn_g1 (fun hb=>?_) fun hb=>?_
 ·refine yGT hC hn_g1 ?_
  exact .one (.c (ler_int (sign_zero hw hb)))
 ·refine yG hn_g1 ?_
  refine yF hn_g1 (fun hp=>?_) fun hp=>?_
  ·refine yGT hC hn_g1 ?_
   refine .one (.c (ler_int ?_))
   rw [sign_some hw hb,hp];rfl
  ·refine yGT hC hn_g1 ?_
   refine .one (.c (ler_int ?_))
   rw [sign_some hw hb,hp];rfl
theorem qmulW (a b:Nat) (ha:(words a).length≤68719476736) (hb:(words b).length≤68719476736):Fa Tryz.prog 56 [.c (ws false (words a)),.c (ws false (words b))] (.c (ws true (words (a*b)))):=by
 have:=qmul_fa (words a) (words b) (words_lt a) (words_lt b) ha hb
 rwa [val_words,val_words] at this
theorem qaddW (a b:Nat) (ha:(words a).length≤68719476736) (hb:(words b).length≤68719476736):Fa Tryz.prog 96 [.c (ws false (words a)),.c (ws false (words b))] (.c (ws true (words (a+b)))):=by
 have:=qadd_fa (words a) (words b) (words_lt a) (words_lt b) ha hb
 rwa [val_words,val_words] at this
theorem qsubW (a b:Nat) (ha:(words a).length≤68719476736) (hb:(words b).length≤68719476736) (h:b≤a):Fa Tryz.prog 98 [.c (ws false (words a)),.c (ws false (words b))] (.tup [.c (ws true (words (a-b))),.c (.int .i64 0)]):=by
 have:=qsub_fa (words a) (words b) (words_lt a) (words_lt b) ha hb (by rw [val_words,val_words];exact h)
 rwa [val_words,val_words] at this
theorem qcmpW (a b:Nat) (ha:(words a).length≤68719476736) (hb:(words b).length≤68719476736):Fa Tryz.prog 97 [.c (ws false (words a)),.c (ws false (words b))] (.c (.int .i64 (cmpN a b))):=by
 have:=qcmp_fa (words a) (words b) (words_lt a) (words_lt b) ha hb
 rwa [val_words,val_words] at this
theorem sadd_fa (a b:RD) (ha:a.wf 1073741824) (hb:b.wf 1073741824):Fa Tryz.prog 52 [.agg (rdc a),.agg (rdc b)] (.agg (rdc (rd (a.q+b.q)))):=by
 obtain⟨l1,l2⟩:=RD.p_len ha om
 obtain⟨l3,l4⟩:=RD.p_len hb om
 have d1:=RD.pd_ne ha
 have d2:=RD.pd_ne hb
 have dd:a.pd*b.pd≠0:=Nat.mul_ne_zero d1 d2
 have m1:=words_mul_len a.pn b.pd
 have m2:=words_mul_len b.pn a.pd
 have m3:=words_mul_len a.pd b.pd
 have m4:=words_add_len (m:=a.pn*b.pd) (n:=b.pn*a.pd) (k:=2147483648) om om
 refine fa_of_body Tryz.func52 rfl rfl (by simp [Tryz.ntmps52]) fun C hC=> ?_
 simp only [initS,Nat.reduceAdd]
 refine xG ?_
 refine xB fun g2 hn_g2=>?_
 refine yB hn_g2 fun g3 hn_g3=>?_
 refine yA (oj hn_g2 hn_g3) fun g4 hn_g4=>?_
 have J1:=oj hn_g2 (oj hn_g3 hn_g4)
 refine yG J1 ?_
 refine yC J1 (sparts_fa a ha) ?_
 refine yG J1 ?_
 refine yC J1 (sparts_fa b hb) ?_
 refine yG J1 ?_
 refine yC J1 (qmulW a.pn b.pd ?_ ?_) ?_
 ·omega
 ·omega
 refine yG J1 ?_
 refine yC J1 (qmulW b.pn a.pd ?_ ?_) ?_
 ·omega
 ·omega
 refine yG J1 ?_
 refine yC J1 (qmulW a.pd b.pd ?_ ?_) ?_
 ·omega
 ·omega
 refine yG J1 ?_
 refine yF J1 (fun hs=>?_) fun hs=>?_
 ·have hs':a.ps=b.ps:=eq_of_beq hs
  refine yG J1 ?_
  refine yC J1 (qaddW _ _ ?_ ?_) ?_
  ·omega
  ·omega
  refine yG J1 ?_
  refine yC J1 (sfromW _ _ _ ?_ ?_ dd) ?_
  ·omega
  ·omega
  refine yG J1 ?_
  refine yA J1 fun g14 hn_g14=>?_
  have J2:=oj hn_g2 (oj hn_g3 (oj hn_g4 hn_g14))
  refine yGWSG J2 ?_
  refine yW J2 ?_
  refine ySGT hC J2 ?_
  refine ler_rd ?_
  rw [sq_add_same _ d1 d2]
  unfold RD.q;rw [hs']
 ·have hs':b.ps= !a.ps:=not_of_bne hs
  refine yG J1 ?_
  refine yC J1 (qcmpW _ _ ?_ ?_) ?_
  ·omega
  ·omega
  refine yG J1 ?_
  refine yF J1 (fun hc=>?_) fun hc=>?_
  ·have hle:a.pn*b.pd≤b.pn*a.pd:=by
    have:=of_decide_eq_true hc
    unfold cmpN at this
    split at this
    ·omega
    ·split at this<;>omega
   have hl5:=words_len_mono (Nat.sub_le (b.pn*a.pd) (a.pn*b.pd))
   refine yG J1 ?_
   refine yC J1 (qsubW _ _ ?_ ?_ hle) ?_
   ·omega
   ·omega
   refine yG J1 ?_
   refine yC J1 (sfromW _ _ _ ?_ ?_ dd) ?_
   ·omega
   ·omega
   refine yG J1 ?_
   refine yA J1 fun g18 hn_g18=>?_
   have J3:=oj hn_g2 (oj hn_g3 (oj hn_g4 hn_g18))
   refine yGWSG J3 ?_
   refine yW J3 ?_
   refine ySGT hC J3 ?_
   refine ler_rd ?_
   rw [hs',sq_add_lt _ d1 d2 hle]
   unfold RD.q;rw [hs']
  ·have hle:b.pn*a.pd≤a.pn*b.pd:=by
    have:=of_decide_eq_false hc
    unfold cmpN at this
    split at this
    ·omega
    ·omega
   have hl5:=words_len_mono (Nat.sub_le (a.pn*b.pd) (b.pn*a.pd))
   refine yG J1 ?_
   refine yC J1 (qsubW _ _ ?_ ?_ hle) ?_
   ·omega
   ·omega
   refine yG J1 ?_
   refine yC J1 (sfromW _ _ _ ?_ ?_ dd) ?_
   ·omega
   ·omega
   refine yG J1 ?_
   refine yA J1 fun g18 hn_g18=>?_
   have J4:=oj hn_g2 (oj hn_g3 (oj hn_g4 hn_g18))
   refine yGWSG J4 ?_
   refine yW J4 ?_
   refine ySGT hC J4 ?_
   refine ler_rd ?_
   rw [sq_add_ge _ d1 d2 hle]
   unfold RD.q;rw [hs']
theorem smul_fa (a b:RD) (ha:a.wf 1073741824) (hb:b.wf 1073741824):Fa Tryz.prog 15 [.agg (rdc a),.agg (rdc b)] (.agg (rdc (rd (a.q*b.q)))):=by
 obtain⟨l1,l2⟩:=RD.p_len ha om
 obtain⟨l3,l4⟩:=RD.p_len hb om
 have d1:=RD.pd_ne ha
 have d2:=RD.pd_ne hb
 have dd:a.pd*b.pd≠0:=Nat.mul_ne_zero d1 d2
 have m1:=words_mul_len a.pn b.pn
 have m3:=words_mul_len a.pd b.pd
 refine fa_of_body Tryz.func15 rfl rfl (by simp [Tryz.ntmps15]) fun C hC=> ?_
 simp only [initS,Nat.reduceAdd]
 refine xG ?_
 refine xB fun g2 hn_g2=>?_
 refine yB hn_g2 fun g3 hn_g3=>?_
 refine yA (oj hn_g2 hn_g3) fun g4 hn_g4=>?_
 have J1:=oj hn_g2 (oj hn_g3 hn_g4)
 refine yG J1 ?_
 refine yC J1 (sparts_fa a ha) ?_
 refine yG J1 ?_
 refine yC J1 (sparts_fa b hb) ?_
 refine yG J1 ?_
 refine yC J1 (qmulW _ _ ?_ ?_) ?_
 ·omega
 ·omega
 refine yG J1 ?_
 refine yC J1 (qmulW _ _ ?_ ?_) ?_
 ·omega
 ·omega
 refine yG J1 ?_
 refine yC J1 (sfromW _ _ _ ?_ ?_ dd) ?_
 ·omega
 ·omega
 refine yG J1 ?_
 refine yA J1 fun g11 hn_g11=>?_
 have J2:=oj hn_g2 (oj hn_g3 (oj hn_g4 hn_g11))
 refine yGWSG J2 ?_
 refine yW J2 ?_
 refine ySGT hC J2 ?_
 exact ler_rd (by rw [sq_mul];rfl)
theorem ssub_fa (a b:RD) (ha:a.wf 1073741824) (hb:b.wf 1073741824):Fa Tryz.prog 13 [.agg (rdc a),.agg (rdc b)] (.agg (rdc (rd (a.q-b.q)))):=by
 refine fa_of_body Tryz.func13 rfl rfl (by simp [Tryz.ntmps13]) fun C hC=> ?_
 simp only [initS,Nat.reduceAdd]
 refine xG ?_
 refine xB fun g2 hn_g2=>?_
 refine yB hn_g2 fun g3 hn_g3=>?_
 refine yA (oj hn_g2 hn_g3) fun g4 hn_g4=>?_
 have J1:=oj hn_g2 (oj hn_g3 hn_g4)
 refine yG J1 ?_
 refine aw_dr 4 ty_mixed (by kernel_rfl) ?_
 refine yG J1 ?_
 refine yD J1 (sneg_fa b hb) ?_
 refine yG J1 ?_
 refine yD J1 (sadd_fa a (rd (-b.q)) ha (neg_wf hb)) ?_
 refine yGWSGT hC J1 ?_
 exact ler_rd (by rw [rd_q,Rat.sub_eq_add_neg])
theorem sub_wf {a b:RD} {L:Nat} (hL:1≤L) (ha:a.wf L) (hb:b.wf L) (h:2*L+1≤1073741824):(rd (a.q-b.q)).wf 1073741824:=
 rd_wf (fits_mono (fits_sub (RD.fits ha hL) (RD.fits hb hL)) om)
theorem scmp_fa (a b:RD) (ha:a.wf 500000000) (hb:b.wf 500000000):Fa Tryz.prog 14 [.agg (rdc a),.agg (rdc b)] (.c (.int .i64 (signQ (a.q-b.q)))):=by
 refine fa_of_body Tryz.func14 rfl rfl (by simp [Tryz.ntmps14]) fun C hC=> ?_
 simp only [initS,Nat.reduceAdd]
 refine xG ?_
 refine xB fun g2 hn_g2=>?_
 refine yB hn_g2 fun g3 hn_g3=>?_
 have J1:=oj hn_g2 hn_g3
 refine yG J1 ?_
 refine yC J1 (ssub_fa a b (wf_mono ha ?_) (wf_mono hb ?_)) ?_
 ·omega
 ·omega
 refine yG J1 ?_
 refine yC J1 (ssign_fa _ ?_) ?_
 ·exact sub_wf om ha hb om
 rw [rd_q]
 refine yGT hC J1 ?_
 exact .one (.c (.int _ _))
end Go.Proofs.YtefekdejgbceiaaGreat
namespace Go.AI
open Go.PN
def isF (xs:List Int) (j:Nat):CV:=.int .i64 (xs.getD j 0)
@[go_sem] theorem isF_at (xs:List Int) (j:Nat):isF xs j=.int .i64 (xs.getD j 0):=rfl
abbrev is (t:Bool) (xs:List Int):CV:=.row t 1 xs.length (isF xs)
def bsF (xs:List Bool) (j:Nat):CV:=.bool (xs.getD j false)
@[go_sem] theorem bsF_at (xs:List Bool) (j:Nat):bsF xs j=.bool (xs.getD j false):=rfl
abbrev bs (t:Bool) (xs:List Bool):CV:=.row t 1 xs.length (bsF xs)
def rd0:RD:=⟨false,[],[]⟩
def ratsF (ps:List RD):Nat→CV:=lf 3 (fun r:RD=>[CV.bool r.neg,ws true r.num,ws true r.den]) rd0 ps
@[go_sem] theorem ratsF_0 (ps:List RD) (i:Nat):ratsF ps (i*3)=.bool (ps.getD i rd0).neg:=by
 have:=lf_at (s:=3) (c:=fun r:RD=>[CV.bool r.neg,ws true r.num,ws true r.den]) (d:=rd0) (xs:=ps) (i:=i) (k:=0) om
 exact this
@[go_sem] theorem ratsF_1 (ps:List RD) (i:Nat):ratsF ps (i*3+1)=ws true (ps.getD i rd0).num:=by
 have:=lf_at (s:=3) (c:=fun r:RD=>[CV.bool r.neg,ws true r.num,ws true r.den]) (d:=rd0) (xs:=ps) (i:=i) (k:=1) om
 exact this
@[go_sem] theorem ratsF_2 (ps:List RD) (i:Nat):ratsF ps (i*3+2)=ws true (ps.getD i rd0).den:=by
 have:=lf_at (s:=3) (c:=fun r:RD=>[CV.bool r.neg,ws true r.num,ws true r.den]) (d:=rd0) (xs:=ps) (i:=i) (k:=2) om
 exact this
abbrev rats (t:Bool) (ps:List RD):CV:=.row t 3 ps.length (ratsF ps)
structure DN where
 v:Int
 lo:Int
 hi:Int
 deriving DecidableEq
def dn0:DN:=⟨0,0,0⟩
def dnsF (ns:List DN):Nat→CV:=lf 3 (fun r:DN=>[CV.int .i64 r.v,.int .i64 r.lo,.int .i64 r.hi]) dn0 ns
@[go_sem] theorem dnsF_0 (ps:List DN) (i:Nat):dnsF ps (i*3)=.int .i64 (ps.getD i dn0).v:=by
 have:=lf_at (s:=3) (c:=fun r:DN=>[CV.int .i64 r.v,.int .i64 r.lo,.int .i64 r.hi]) (d:=dn0) (xs:=ps) (i:=i) (k:=0) om
 exact this
@[go_sem] theorem dnsF_1 (ps:List DN) (i:Nat):dnsF ps (i*3+1)=.int .i64 (ps.getD i dn0).lo:=by
 have:=lf_at (s:=3) (c:=fun r:DN=>[CV.int .i64 r.v,.int .i64 r.lo,.int .i64 r.hi]) (d:=dn0) (xs:=ps) (i:=i) (k:=1) om
 exact this
@[go_sem] theorem dnsF_2 (ps:List DN) (i:Nat):dnsF ps (i*3+2)=.int .i64 (ps.getD i dn0).hi:=by
 have:=lf_at (s:=3) (c:=fun r:DN=>[CV.int .i64 r.v,.int .i64 r.lo,.int .i64 r.hi]) (d:=dn0) (xs:=ps) (i:=i) (k:=2) om
 exact this
abbrev dns (t:Bool) (ns:List DN):CV:=.row t 3 ns.length (dnsF ns)
structure DG where
 order:List Int
 nodes:List DN
 root:Int
abbrev dgc (t:Bool) (d:DG):List CV:=[is t d.order,dns t d.nodes,.int .i64 d.root]
structure FN where
 kind:Int
 k:Int
 args:List Int
def fn0:FN:=⟨0,0,[]⟩
def fnsF (ns:List FN):Nat→CV:=lf 3 (fun r:FN=>[CV.int .i64 r.kind,.int .i64 r.k,is true r.args]) fn0 ns
@[go_sem] theorem fnsF_0 (ps:List FN) (i:Nat):fnsF ps (i*3)=.int .i64 (ps.getD i fn0).kind:=by
 have:=lf_at (s:=3) (c:=fun r:FN=>[CV.int .i64 r.kind,.int .i64 r.k,is true r.args]) (d:=fn0) (xs:=ps) (i:=i) (k:=0) om
 exact this
@[go_sem] theorem fnsF_1 (ps:List FN) (i:Nat):fnsF ps (i*3+1)=.int .i64 (ps.getD i fn0).k:=by
 have:=lf_at (s:=3) (c:=fun r:FN=>[CV.int .i64 r.kind,.int .i64 r.k,is true r.args]) (d:=fn0) (xs:=ps) (i:=i) (k:=1) om
 exact this
@[go_sem] theorem fnsF_2 (ps:List FN) (i:Nat):fnsF ps (i*3+2)=is true (ps.getD i fn0).args:=by
 have:=lf_at (s:=3) (c:=fun r:FN=>[CV.int .i64 r.kind,.int .i64 r.k,is true r.args]) (d:=fn0) (xs:=ps) (i:=i) (k:=2) om
 exact this
abbrev fns (t:Bool) (ns:List FN):CV:=.row t 3 ns.length (fnsF ns)
structure FM where
 vars:Int
 nodes:List FN
 top:Int
abbrev fmc (t:Bool) (f:FM):List CV:=[.int .i64 f.vars,fns t f.nodes,.int .i64 f.top]
def errC (T:TypeId) (c:Int):CV:=if c=0 then .nilI else .ifc T (.int .i64 c)
@[go_sem] theorem errC_solid (T:TypeId) (c:Int):(errC T c).solid=true:=by unfold errC;split<;>rfl
theorem binAV_errE {P:Program} {nw:Bool} {t T:TypeId} {y:Operand} {c:Int} (hy:isNil y=true):binAV P nw .eql t y (.c (errC T c)) (.c .nilI)=some (tIfc P t=true,.c (.bool (decide (c=0)))):=by
 unfold errC
 split
 ·rename_i h;simp [binAV,hy,nilAV,h]
 ·rename_i h;simp [binAV,hy,nilAV,h]
theorem binAV_errN {P:Program} {nw:Bool} {t T:TypeId} {y:Operand} {c:Int} (hy:isNil y=true):binAV P nw .neq t y (.c (errC T c)) (.c .nilI)=some (tIfc P t=true,.c (.bool (!decide (c=0)))):=by
 unfold errC
 split
 ·rename_i h;simp [binAV,hy,nilAV,h]
 ·rename_i h;simp [binAV,hy,nilAV,h]
@[go_sem ↓] theorem binAV_errE' (P:Program) (nw:Bool) (t T:TypeId) (c:Int):binAV P nw .eql t (.const .nilIface) (.c (errC T c)) (.c .nilI)=some (tIfc P t=true,.c (.bool (decide (c=0)))):=binAV_errE rfl
@[go_sem ↓] theorem binAV_errN' (P:Program) (nw:Bool) (t T:TypeId) (c:Int):binAV P nw .neq t (.const .nilIface) (.c (errC T c)) (.c .nilI)=some (tIfc P t=true,.c (.bool (!decide (c=0)))):=binAV_errN rfl
theorem ler_err {h:Heap} {T:TypeId} {c:Int}:LeR h (errC T c) (errC T c):=by unfold errC;split;exact .nilI;exact .ifc (.int _ _)
theorem ler_err0 {h:Heap} {T:TypeId} {c:Int} (e:c=0):LeR h .nilI (errC T c):=by unfold errC;rw [if_pos e];exact .nilI
theorem ler_errN {h:Heap} {T:TypeId} {n c:Int} (e:n=c) (h0:c≠0):LeR h (.ifc T (.int .i64 n)) (errC T c):=by unfold errC;rw [if_neg h0,e];exact .ifc (.int _ _)
theorem ler_is {h:Heap} {t:Bool} {xs:List Int}:LeR h (is true xs) (is t xs):=.row fun _ _=>.int _ _
theorem lf_ler {α:Type} {h:Heap} {s:Nat} {c:α→List CV} {d:α} {xs:List α} (hs:0<s) (hc:∀x∈xs,∀k,k<s→LeR h (ofL (c x) k) (ofL (c x) k)):∀j,j<xs.length*s→LeR h (lf s c d xs j) (lf s c d xs j):=fun j hj=>by
 unfold lf
 have h1:j/s<xs.length:=(Nat.div_lt_iff_lt_mul hs).2 hj
 rw [List.getD_eq_getElem?_getD,List.getElem?_eq_getElem h1]
 exact hc _ (List.getElem_mem h1) _ (Nat.mod_lt _ hs)
theorem ler_rats {h:Heap} {t:Bool} {ps:List RD}:LeR h (rats true ps) (rats t ps):=
 .row (lf_ler om fun x _ k hk=>by match k,hk with|0,_=>exact .bool _|1,_=>exact ler_ws|2,_=>exact ler_ws)
end Go.AI
namespace Go.Proofs.YtefekdejgbceiaaGreat
open Go.AI Go.PN
attribute [local irreducible] aw Fa Fh DrK
abbrev errA (c:Int):CV:=errC 50 c
theorem list_ext {xs ys:List Nat} (hl:xs.length=ys.length) (h:∀j,j<xs.length→xs.getD j 0=ys.getD j 0):xs=ys:=by
 apply List.ext_getElem hl
 intro i h1 h2
 have:=h i h1
 rw [List.getD_eq_getElem?_getD,List.getD_eq_getElem?_getD,List.getElem?_eq_getElem h1,List.getElem?_eq_getElem h2] at this
 exact this
theorem words_fa (xs ys:List Nat) (hl:xs.length≤68719476736):Fa Tryz.prog 64 [.c (ws false xs),.c (ws false ys)] (.c (.bool (decide (xs=ys)))):=by
 refine fa_of_body Tryz.func64 rfl rfl (by simp [Tryz.ntmps64]) fun C hC=> ?_
 simp only [initS,Nat.reduceAdd]
 refine xG ?_
 refine xF (fun hb=>?_) fun hb=>?_
 ·refine xGT hC ?_
  refine .one (.c (ler_bool ?_))
  have:xs≠ys:=fun e=>by rw [e] at hb;simp at hb
  simp [this]
 ·have hlen:xs.length=ys.length:=by
   have:((xs.length:Int)==(ys.length:Int))=true:=by simpa [bne] using hb
   have:=eq_of_beq this;omega
  refine xG ?_
  refine aw_lp (fun i:Nat=>[(0,.c (ws false xs)),(1,.c (ws false ys)),(12,.c (.int .i64 xs.length)),(13,.c (.int .i64 i))]) (fun _=>[]) (fun i=>i≤xs.length∧∀j,j<i→xs.getD j 0=ys.getD j 0) (fun i=>xs.length-i) 0 eB zZ ⟨Nat.zero_le _,fun j hj=>by omega⟩ ?_
  rintro i ⟨hi,hs⟩
  refine xG ?_
  refine xF (fun hb=>?_) fun hb=>?_
  ·have hin:i<xs.length:=dT hb
   refine xG ?_
   refine aw_dr 9 ty_mixed (by kernel_rfl) ?_
   refine xG ?_
   refine xF (fun hc=>?_) fun hc=>?_
   ·refine xGT hC ?_
    refine .one (.c (ler_bool ?_))
    have:xs≠ys:=fun e=>by rw [e] at hc;simp at hc
    simp [this]
   ·have he:xs.getD i 0=ys.getD i 0:=by
     have:(((xs.getD i 0:Nat):Int)==((ys.getD i 0:Nat):Int))=true:=by simpa [bne] using hc
     have:=eq_of_beq this;omega
    refine xG ?_
    refine aw_stop ⟨i+1,by omega,eB,zZ,by omega,fun j hj=> ?_⟩
    by_cases hji:j=i
    ·rw [hji];exact he
    ·exact hs j om
  ·have hin:i=xs.length:=dF hb
   subst hin
   refine xGT hC ?_
   refine .one (.c (ler_bool ?_))
   have:xs=ys:=list_ext hlen hs
   simp [this]
instance:DecidableEq RD:=fun a b=>decidable_of_iff (a.neg=b.neg∧a.num=b.num∧a.den=b.den) (by cases a;cases b;simp)
theorem ratEq_fa (a b:RD) (hw:a.wf 68719476736):Fa Tryz.prog 22 [.agg (rdc a),.agg (rdc b)] (.c (.bool (decide (a=b)))):=by
 have he:decide (a=b)=(decide (a.neg=b.neg)&&(decide (a.num=b.num)&&decide (a.den=b.den))):=by
  rw [Bool.eq_iff_iff]
  simp only [decide_eq_true_eq,Bool.and_eq_true]
  cases a;cases b;simp
 rw [he]
 refine fa_of_body Tryz.func22 rfl rfl (by simp [Tryz.ntmps22]) fun C hC=> ?_
 simp only [initS,Nat.reduceAdd]
 refine xG ?_
 refine xB fun g2 hn_g2=>?_
 refine yB hn_g2 fun g3 hn_g3=>?_
 have J1:=oj hn_g2 hn_g3
 refine yG J1 ?_
 refine aw_split 10 (zE J1) (fun h1=> ?_) (fun h1=> ?_)<;>refine yS J1 ?_
 ·have h1':a.neg=b.neg:=eq_of_beq h1
  refine yG J1 ?_
  refine yC J1 (words_fa _ _ hw.2.2.1) ?_
  refine yG J1 ?_
  refine aw_split 17 (zE J1) (fun h2=> ?_) (fun h2=> ?_)<;>refine yS J1 ?_
  ·refine yG J1 ?_
   refine yC J1 (words_fa _ _ hw.2.2.2) ?_
   refine yGT hC J1 ?_
   exact .one (.c (ler_bool (by rw [h2,h1'];simp)))
  ·refine yGT hC J1 ?_
   exact .one (.c (ler_bool (by rw [h2];simp)))
 ·have h1':a.neg≠b.neg:=fun e=>by rw [e] at h1;simp at h1
  refine yGT hC J1 ?_
  exact .one (.c (ler_bool (by simp [h1'])))
theorem rdec_eq {a b:RD} (h:a=b):decide (a=b)=true:=by simp [h]
end Go.Proofs.YtefekdejgbceiaaGreat
namespace Go.AI
open Go.PN
def AllB (w:World):Bool→Nat→Prop:=fun _ b=>b<w.heap.size
theorem Fa.below {P:Program} {f:FuncId} {args:List AV} {b:Bool} (hf:Fa P f args (.c (.bool b))) {w:World} {vs:List Value} (hr:RepT (AllB w) w args vs):
  Calls P f vs.toArray w fun e w'=>e=.returned (.bool b)∧RowKit.Below w.heap.size w w':=by
 refine(hf.2 (AllB w) w vs (fun _ h=>h) (fun _ _ h=>h) hr).mono ?_
 rintro e w' ⟨v,rfl,hv,hfr⟩
 have hv':v=.bool b:=hv
 subst hv'
 exact⟨rfl,hfr.os,hfr.tape,hfr.output,hfr.size,fun k hk=>hfr.block k hk (fun x=>x)⟩
end Go.AI
namespace Go.Proofs.YtefekdejgbceiaaGreat
open Go.AI Go.PN Go.ChangeShapes
section
variable {P : Program}
def Rdr (P:Program) (t:TypeId) {α:Type} (c:α→List CV) (B:α→Nat→Prop):Prop:=
 ∀(H:Type) (enc:TypeId×Value→H) (w:World) (fuel:Nat) (cs:List Value) (x:DataW H×List MemPlace),DataW.trod enc P w 0 (fun _=>true) true fuel t cs=some x→∃y,RepL (AllB w) w (c y) cs∧B y (Rows.uptoBulk x.1)
theorem rdr_int {t:TypeId} {k:IntKind} (ht:P.underlying t=some (.int k)):Rdr P t (fun n:Int=>[.int k n]) (fun n _=>(Lit.int k n).wf=true):=fun H enc w fuel cs x h=>by
 obtain⟨n,rfl,rfl,hw⟩:=DataW.trod_int ht h
 exact⟨n,⟨rfl,trivial⟩,hw⟩
theorem rdr_word {t:TypeId} (ht:P.underlying t=some (.int .u32)):Rdr P t (fun n:Nat=>[.int .u32 n]) (fun n _=>n<4294967296):=fun H enc w fuel cs x h=>by
 obtain⟨n,rfl,rfl,hw⟩:=DataW.trod_int ht h
 have hb:0≤n∧n≤4294967295:=by simpa [Lit.wf,IntKind.min,IntKind.max,IntKind.signed,IntKind.bits] using hw
 refine⟨n.toNat,⟨?_,trivial⟩,by omega⟩
 show Value.int .u32 n=Value.int .u32 ((n.toNat:Nat):Int)
 rw [show((n.toNat:Nat):Int)=n from by omega]
theorem rdr_bool {t:TypeId} (ht:P.underlying t=some .bool):Rdr P t (fun b:Bool=>[.bool b]) (fun _ _=>True):=fun H enc w fuel cs x h=>by
 obtain⟨n,rfl,rfl⟩:=DataW.trod_bool ht h
 exact⟨n,⟨rfl,trivial⟩,trivial⟩
theorem bulk_mem {H:Type} {d:DataW H}:∀{l:List (DataW H)},d∈l→Rows.uptoBulk d≤Rows.uptoBulkAll l
 |x::r,h=>by
  simp only [Rows.uptoBulkAll]
  cases List.mem_cons.1 h with
  |inl e=>subst e;omega
  |inr e=>have:=bulk_mem e;omega
theorem bulk_one {H:Type} (d:DataW H):1≤Rows.uptoBulk d:=by
 cases d with
 |lit l=>cases l<;>simp [Rows.uptoBulk]
 |nil=>simp [Rows.uptoBulk]
 |ptr d=>simp [Rows.uptoBulk]
 |slice elems spare=>simp [Rows.uptoBulk]
 |agg parts=>simp [Rows.uptoBulk]
 |iface t d=>simp [Rows.uptoBulk]
 |map entries=>simp [Rows.uptoBulk]
 |held h=>simp [Rows.uptoBulk]
theorem bulk_len {H:Type}:∀(l:List (DataW H)),l.length≤Rows.uptoBulkAll l
 |[]=>by simp [Rows.uptoBulkAll]
 |x::r=>by have:=bulk_one x;have:=bulk_len r;simp only [Rows.uptoBulkAll,List.length_cons];omega
theorem rdr_slice {t e:TypeId} {α:Type} {c:α→List CV} {B:α→Nat→Prop} {s:Nat} (z:α) (tg:Bool) (ht:P.underlying t=some (.slice e)) (hs:P.cellsOf e=s) (hs0:0<s) (hB:∀y m n,B y m→m≤n→B y n) (hr:Rdr P e c B):
  Rdr P t (fun ys:List α=>[CV.row tg s ys.length (lf s c z ys)]) (fun ys n=>ys.length≤n∧∀y∈ys,B y n):=fun H enc w fuel cs x h=>by
 rcases DataW.trod_slice ht h with ⟨rfl,rfl⟩|⟨a,len,cap,elems,rest,n,rfl,rfl,rfl,_,hlc,_,hlen,hel,_,_⟩
 ·exact⟨[],⟨⟨none,0,rfl,Nat.le_refl _,fun h0=>by simp at h0⟩,trivial⟩,by simp,by simp⟩
 ·have key:∀i,∃y:α,i<len→∃d∈elems.map (·.1),B y (Rows.uptoBulk d)∧∀k,k<s→∃u,w.cell? (a.add (i*s+k))=some u∧RepC (AllB w) w (ofL (c y) k) u:=by
   intro i
   by_cases hi:i<len
   ·have h1:=hel i hi
    have h2:i<elems.length:=by omega
    rw [List.getElem?_eq_getElem h2,hs] at h1
    obtain⟨us,hus,htr⟩:=Option.bind_eq_some_iff.1 h1
    obtain⟨y,hy,hb⟩:=hr H enc w n us _ htr
    obtain⟨_,hul,hue⟩:=World.cells?_some hus
    refine⟨y,fun _=>⟨_,List.mem_map.2 ⟨_,List.getElem_mem h2,rfl⟩,hb,fun k hk=> ?_⟩⟩
    have hlen2:=hy.length
    obtain⟨u,hu,hru⟩:=hy.get k ((c y)[k]'om) (List.getElem?_eq_getElem om)
    refine⟨u,?_,by rw [ofL_get (c y) k _ (List.getElem?_eq_getElem om)];exact hru⟩
    rw [←add_add]
    exact(hue k hk).trans hu
   ·exact⟨z,fun h=>absurd h hi⟩
  obtain⟨g,hg⟩:∃g:Nat→α,∀i,i<len→∃d∈elems.map (·.1),B (g i) (Rows.uptoBulk d)∧∀k,k<s→∃u,w.cell? (a.add (i*s+k))=some u∧RepC (AllB w) w (ofL (c (g i)) k) u:=⟨fun i=>Classical.choose (key i),fun i=>Classical.choose_spec (key i)⟩
  have hbl:∀d∈elems.map (·.1),Rows.uptoBulk d≤Rows.uptoBulk (.slice (elems.map (·.1)) (rest.map (·.1))):=fun d hd=>by
   have:=bulk_mem hd
   simp only [Rows.uptoBulk];omega
  refine⟨(List.range len).map g,⟨⟨some a,cap,by simp,by simpa using hlc,fun h0=>⟨a,rfl,?_,fun j hj=> ?_⟩⟩,trivial⟩,?_,fun y hy=> ?_⟩
  ·simp only [List.length_map,List.length_range] at h0
   have hl0:0<len:=Nat.pos_of_ne_zero (fun e=>by subst e;simp at h0)
   obtain⟨_,_,_,hk⟩:=hg 0 hl0
   obtain⟨u,hu,_⟩:=hk 0 hs0
   have hb:=AI.block_add a (0*s+0)
   unfold World.cell? at hu
   rw [hb] at hu
   show a.block<w.heap.size
   by_cases hlt:a.block<w.heap.size
   ·exact hlt
   ·rw [Array.getElem?_eq_none om] at hu
    cases hu
  ·simp only [List.length_map,List.length_range] at hj
   have hi:j/s<len:=(Nat.div_lt_iff_lt_mul hs0).2 hj
   obtain⟨_,_,_,hk⟩:=hg (j/s) hi
   obtain⟨u,hu,hru⟩:=hk (j%s) (Nat.mod_lt _ hs0)
   refine⟨u,?_,?_⟩
   ·rw [Nat.mul_comm,Nat.div_add_mod] at hu;exact hu
   ·unfold lf
    rw [List.getD_eq_getElem?_getD]
    simpa [hi] using hru
  ·rw [List.length_map,List.length_range]
   have:=bulk_len (elems.map (·.1))
   simp only [Rows.uptoBulk]
   rw [List.length_map] at this
   omega
  ·obtain⟨i,hi,rfl⟩:=List.mem_map.1 hy
   obtain⟨d,hd,hb,_⟩:=hg i (List.mem_range.1 hi)
   exact hB _ _ _ hb (hbl d hd)
theorem rdr_struct3 {t:TypeId} {f0 f1 f2:Field} {α β γ:Type} {c0:α→List CV} {c1:β→List CV} {c2:γ→List CV} {B0:α→Nat→Prop} {B1:β→Nat→Prop} {B2:γ→Nat→Prop} {s0 s1 s2:Nat}
  (ht:P.underlying t=some (.struct #[f0,f1,f2])) (hz0:P.cellsOf f0.type=s0) (hz1:P.cellsOf f1.type=s1) (hz2:P.cellsOf f2.type=s2) (hz:P.cellsOf t=s0+s1+s2) (ho0:f0.offset=0) (ho1:f1.offset=s0) (ho2:f2.offset=s0+s1)
  (h0:Rdr P f0.type c0 B0) (h1:Rdr P f1.type c1 B1) (h2:Rdr P f2.type c2 B2) (hB0:∀y m n,B0 y m→m≤n→B0 y n) (hB1:∀y m n,B1 y m→m≤n→B1 y n) (hB2:∀y m n,B2 y m→m≤n→B2 y n):
  Rdr P t (fun y:α×β×γ=>c0 y.1++(c1 y.2.1++c2 y.2.2)) (fun y n=>B0 y.1 n∧B1 y.2.1 n∧B2 y.2.2 n):=fun H enc w fuel cs x h=>by
 obtain⟨xs,n,_,rfl,hl,hlen,hf⟩:=DataW.trod_struct ht h
 match xs,hlen with
 |[x0,x1,x2],_=>
  have g0:=hf 0 f0 rfl
  have g1:=hf 1 f1 rfl
  have g2:=hf 2 f2 rfl
  rw [ho0,hz0] at g0
  rw [ho1,hz1] at g1
  rw [ho2,hz2] at g2
  obtain⟨y0,r0,b0⟩:=h0 H enc w n _ x0 g0
  obtain⟨y1,r1,b1⟩:=h1 H enc w n _ x1 g1
  obtain⟨y2,r2,b2⟩:=h2 H enc w n _ x2 g2
  refine⟨(y0,y1,y2),?_,hB0 _ _ _ b0 ?_,hB1 _ _ _ b1 ?_,hB2 _ _ _ b2 ?_⟩
  ·have e:cs=(cs.drop 0).take s0++((cs.drop s0).take s1++(cs.drop (s0+s1)).take s2):=by
    rw [List.drop_zero]
    conv=>lhs;rw [←List.take_append_drop s0 cs]
    congr 1
    conv=>lhs;rw [←List.take_append_drop s1 (cs.drop s0)]
    congr 1
    rw [List.drop_drop,List.take_of_length_le]
    rw [List.length_drop];omega
   rw [e]
   exact r0.append (r1.append r2)
  ·simp only [Rows.uptoBulk,List.map_cons,List.map_nil,Rows.uptoBulkAll];omega
  ·simp only [Rows.uptoBulk,List.map_cons,List.map_nil,Rows.uptoBulkAll];omega
  ·simp only [Rows.uptoBulk,List.map_cons,List.map_nil,Rows.uptoBulkAll];omega
theorem Rdr.to {t:TypeId} {α β:Type} {c:α→List CV} {c':β→List CV} {B:α→Nat→Prop} {B':β→Nat→Prop} (hr:Rdr P t c B) (f:α→β) (hc:∀y,c' (f y)=c y) (hB:∀y n,B y n→B' (f y) n):Rdr P t c' B':=fun H enc w fuel cs x h=>by
 obtain⟨y,h1,h2⟩:=hr H enc w fuel cs x h
 exact⟨f y,by rw [hc];exact h1,hB _ _ h2⟩
end
end Go.Proofs.YtefekdejgbceiaaGreat
namespace Go.PN
def RD.prob (r:RD):Bool:=r.valid&&decide (0≤r.q)&&decide (r.q≤1)
theorem signQ_ge (x:Rat):decide (signQ x≥0)=decide (0≤x):=by
 unfold signQ
 by_cases h0:x=0
 ·subst h0;simp
 ·rw [if_neg h0]
  by_cases h1:x<0
  ·rw [if_pos h1]
   have:¬(0≤x):=Rat.not_le.2 h1
   simp [this]
  ·rw [if_neg h1]
   have:0≤x:=Rat.not_lt.1 h1
   simp [this]
theorem signQ_le (x:Rat):decide (signQ x≤0)=decide (x≤0):=by
 unfold signQ
 by_cases h0:x=0
 ·subst h0;simp
 ·rw [if_neg h0]
  by_cases h1:x<0
  ·rw [if_pos h1]
   have:x≤0:=Rat.le_of_lt h1
   simp [this]
  ·rw [if_neg h1]
   have:¬x≤0:=fun h=>by
    have:=Rat.not_lt.1 h1
    exact h0 (Rat.le_antisymm h this)
   simp [this]
theorem sub_le_iff (x:Rat):decide (x-1≤0)=decide (x≤1):=by
 rw [Bool.eq_iff_iff];simp only [decide_eq_true_eq];constructor<;>intro h<;>grind
theorem sq_le_one {n d:Nat} (hd:d≠0):sq false n d≤1↔n≤d:=by
 unfold sq sgn
 simp only [Bool.false_eq_true,if_false]
 rw [Rat.mkRat_eq_div]
 have hd0:(0:Rat)<(d:Rat):=by
  have:((0:Nat):Rat)<(d:Rat):=Rat.natCast_lt_natCast.2 om
  exact this
 have hne:(d:Rat)≠0:=fun e=>by rw [e] at hd0;exact Rat.lt_irrefl hd0
 have hx:((n:Int):Rat)/(d:Rat)*(d:Rat)=(n:Rat):=by
  have h1:((n:Int):Rat)=(n:Rat):=rfl
  rw [h1,Rat.div_def,Rat.mul_assoc,Rat.inv_mul_cancel _ hne,Rat.mul_one]
 generalize ((n:Int):Rat)/(d:Rat)=x at hx
 constructor
 ·intro h
  have h1:=Rat.mul_le_mul_of_nonneg_right h (Rat.le_of_lt hd0)
  rw [hx,Rat.one_mul] at h1
  exact Rat.natCast_le_natCast.1 h1
 ·intro h
  have h1:(n:Rat)≤(d:Rat):=Rat.natCast_le_natCast.2 h
  rw [←hx] at h1
  refine Rat.not_lt.1 fun hlt=> ?_
  have h2:=Rat.mul_lt_mul_of_pos_right hlt hd0
  rw [Rat.one_mul] at h2
  exact absurd h1 (Rat.not_le.2 h2)
theorem prob_eq {r:RD} {L:Nat} (hw:r.wf L) (hv:r.valid=true):((!r.neg)&&decide (cmpN (val r.num) (val r.den)≤0))=(decide (0≤r.q)&&decide (r.q≤1)):=by
 cases hs:r.some with
 |false=>
  have hn:r.num.length=0:=by
   simp only [RD.some,hv,Bool.true_and,decide_eq_false_iff_not,ne_eq,Classical.not_not] at hs
   exact hs
  have hq:r.q=0:=by unfold RD.q RD.pn;simp [hs,sq_zero]
  have hv':=hv
  unfold RD.valid at hv'
  split at hv'
  ·rename_i h
   have h1:r.num=[]:=List.length_eq_zero_iff.1 h.1
   have h2:r.den=[]:=List.length_eq_zero_iff.1 h.2
   rw [hq,h1,h2]
   simp only [Bool.not_eq_true'] at hv'
   simp [hv',val,cmpN]
   decide
  ·simp [plainB,hn] at hv'
 |true=>
  obtain⟨h1,h2,h3,h4,h5⟩:=RD.some_spec hw hs
  have hq:r.q=sq r.neg (val r.num) (val r.den):=by unfold RD.q RD.ps RD.pn RD.pd;simp [hs]
  rw [hq]
  have hneg:=sq_lt (neg:=r.neg) h3 h4
  cases hb:r.neg with
  |true=>
   rw [hb] at hneg
   have:¬(0≤sq true (val r.num) (val r.den)):=Rat.not_le.2 (hneg.2 rfl)
   simp [this]
  |false=>
   rw [hb] at hneg
   have hge:0≤sq false (val r.num) (val r.den):=Rat.not_lt.1 fun h=>by cases hneg.1 h
   have hle:=sq_le_one (n:=val r.num) h4
   have hc:cmpN (val r.num) (val r.den)≤0↔val r.num≤val r.den:=by
    unfold cmpN
    split
    ·constructor<;>intro _<;>omega
    ·split<;>constructor<;>intro _<;>omega
   simp only [hge,decide_true,Bool.true_and,Bool.not_false,hle,hc]
end Go.PN
namespace Go.Proofs.YtefekdejgbceiaaGreat
open Go.AI Go.PN
attribute [local irreducible] aw Fa Fh DrK
theorem rprob_fa (r:RD) (hw:r.wf 1073741824):Fa Tryz.prog 85 [.agg (rdc r)] (.c (.bool r.prob)):=by
 have h1:=hw.2.2.1
 have h2:=hw.2.2.2
 refine fa_of_body Tryz.func85 rfl rfl (by simp [Tryz.ntmps85]) fun C hC=> ?_
 simp only [initS,Nat.reduceAdd]
 refine xG ?_
 refine xB fun g1 hn_g1=>?_
 refine yG hn_g1 ?_
 refine yC hn_g1 (rvalid_fa r (wf_mono hw ?_)) ?_
 ·omega
 refine yG hn_g1 ?_
 unfold RD.prob
 refine aw_split 5 (zE hn_g1) (fun hv=> ?_) (fun hv=> ?_)<;>refine yS hn_g1 ?_
 ·have hp:=prob_eq hw hv
  refine yG hn_g1 ?_
  refine aw_split 10 (zE hn_g1) (fun hn=> ?_) (fun hn=> ?_)<;>refine yS hn_g1 ?_
  ·refine yG hn_g1 ?_
   refine yC hn_g1 (cmp_fa _ _ hw.1 hw.2.1 ?_ ?_) ?_
   ·omega
   ·omega
   refine yGT hC hn_g1 ?_
   refine .one (.c (ler_bool ?_))
   rw [hv,Bool.true_and,←hp,hn,Bool.true_and]
  ·refine yGT hC hn_g1 ?_
   refine .one (.c (ler_bool ?_))
   rw [hv,Bool.true_and,←hp,hn,Bool.false_and]
 ·refine yGT hC hn_g1 ?_
  refine .one (.c (ler_bool ?_))
  rw [hv,Bool.false_and,Bool.false_and]
theorem one_wf:(rd ((1:Int):Rat)).wf 500000000:=rd_wf (fits_mono (L:=1) ⟨by simp,by simp⟩ om)
theorem sprob_fa (r:RD) (hw:r.wf 500000000):Fa Tryz.prog 113 [.agg (rdc r)] (.c (.bool r.prob)):=by
 have h1:=hw.2.2.1
 have h2:=hw.2.2.2
 refine fa_of_body Tryz.func113 rfl rfl (by simp [Tryz.ntmps113]) fun C hC=> ?_
 simp only [initS,Nat.reduceAdd]
 refine xG ?_
 refine xB fun g1 hn_g1=>?_
 refine yG hn_g1 ?_
 refine aw_dr 14 ty_mixed (by kernel_rfl) ?_
 refine yG hn_g1 ?_
 refine yD hn_g1 (svalid_fa r (wf_mono hw ?_)) ?_
 ·omega
 refine yG hn_g1 ?_
 unfold RD.prob
 refine drk_split 5 (zE hn_g1) (fun hv=> ?_) (fun hv=> ?_)<;>refine yS hn_g1 ?_
 ·refine yG hn_g1 ?_
  refine yD hn_g1 (ssign_fa r (wf_mono hw ?_)) ?_
  ·omega
  refine yG hn_g1 ?_
  refine drk_split 10 (zE hn_g1) (fun hn=> ?_) (fun hn=> ?_)<;>refine yS hn_g1 ?_
  ·refine yG hn_g1 ?_
   refine yD hn_g1 (sof_fa 1 ?_ ?_) ?_
   ·omega
   ·omega
   refine yG hn_g1 ?_
   refine yD hn_g1 (scmp_fa r (rd ((1:Int):Rat)) hw one_wf) ?_
   rw [rd_q,Rat.intCast_one]
   refine yGT hC hn_g1 ?_
   refine .one (.c (ler_bool ?_))
   rw [signQ_ge] at hn
   rw [hv,hn,signQ_le,sub_le_iff];rfl
  ·refine yGT hC hn_g1 ?_
   refine .one (.c (ler_bool ?_))
   rw [signQ_ge] at hn
   rw [hn,Bool.and_false,Bool.false_and]
 ·refine yGT hC hn_g1 ?_
  refine .one (.c (ler_bool ?_))
  rw [hv,Bool.false_and,Bool.false_and]
end Go.Proofs.YtefekdejgbceiaaGreat
namespace Go.PN
open Go.AI
theorem andZ_nat (x y:Nat) (hx:x<9223372036854775808) (hy:y<9223372036854775808):andZ .i64 (x:Int) (y:Int)=((x&&&y:Nat):Int):=by
 rw [andZ_eq]
 show IntKind.i64.wrap (((BitVec.ofInt 64 (x:Int)&&&BitVec.ofInt 64 (y:Int)).toNat:Nat):Int)=_
 have:(BitVec.ofInt 64 (x:Int)&&&BitVec.ofInt 64 (y:Int)).toNat=x&&&y:=by
  rw [BitVec.toNat_and]
  have e1:∀z:Nat,z<9223372036854775808→(BitVec.ofInt 64 (z:Int)).toNat=z:=fun z hz=>by rw [BitVec.ofInt_natCast,BitVec.toNat_ofNat];omega
  rw [e1 x hx,e1 y hy]
 have hlt:x&&&y<9223372036854775808:=Nat.lt_of_le_of_lt Nat.and_le_left hx
 rw [this,IntKind.wrap_i64];omega
theorem orZ_nat (x y:Nat) (hx:x<9223372036854775808) (hy:y<9223372036854775808):orZ .i64 (x:Int) (y:Int)=((x|||y:Nat):Int):=by
 rw [orZ_eq]
 show IntKind.i64.wrap (((BitVec.ofInt 64 (x:Int)|||BitVec.ofInt 64 (y:Int)).toNat:Nat):Int)=_
 have:(BitVec.ofInt 64 (x:Int)|||BitVec.ofInt 64 (y:Int)).toNat=x|||y:=by
  rw [BitVec.toNat_or]
  have e1:∀z:Nat,z<9223372036854775808→(BitVec.ofInt 64 (z:Int)).toNat=z:=fun z hz=>by rw [BitVec.ofInt_natCast,BitVec.toNat_ofNat];omega
  rw [e1 x hx,e1 y hy]
 have hlt:x|||y<2^63:=Nat.or_lt_two_pow hx hy
 rw [this,IntKind.wrap_i64];omega
theorem and_one_nat (x:Nat) (hx:x<9223372036854775808):andZ .i64 (x:Int) 1=((x%2:Nat):Int):=by
 have:=andZ_nat x 1 hx om
 rw [Nat.and_one_is_mod] at this
 exact this
theorem shrZ_nat (x n:Nat) (hn:n≤64):shrZ .i64 (x:Int) (n:Int)=((x/2^n:Nat):Int):=by
 rw [shrZ_eq]
 have h1:min (n:Int).toNat IntKind.i64.bits=n:=by show min (n:Int).toNat 64=n;omega
 rw [h1,Int.fdiv_eq_ediv_of_nonneg _ (by exact Int.le_of_lt (Int.pow_pos om))]
 rw [Int.natCast_ediv,Int.natCast_pow];rfl
theorem shl_one (n:Nat) (hn:n<63):shlZ .i64 1 (n:Int)=((2^n:Nat):Int):=by
 rw [shlZ_eq]
 have h1:min (n:Int).toNat IntKind.i64.bits=n:=by show min (n:Int).toNat 64=n;omega
 have h2:2^n<9223372036854775808:=by
  have h3:2^n<2^63:=Nat.pow_lt_pow_right om hn
  have h4:(2:Nat)^63=9223372036854775808:=by decide
  rw [h4] at h3;exact h3
 rw [h1,Int.one_mul,wrap_inRange (k:=.i64)]
 ·rw [Int.natCast_pow];rfl
 ·simp only [inRange]
  have:((2:Int)^n)=((2^n:Nat):Int):=by rw [Int.natCast_pow];rfl
  rw [this]
  generalize 2^n=z at h2
  omega
theorem bit_eq (x n:Nat):(((x/2^n%2:Nat):Int)==1)=x.testBit n:=by
 rw [Nat.testBit_eq_decide_div_mod_eq,Bool.eq_iff_iff]
 simp only [beq_iff_eq,decide_eq_true_eq]
 omega
def wfac (y n i:Nat) (q:Rat):Rat:=(if y.testBit i then q else 1)*(if n.testBit i then 1-q else 1)
def wtTo (y n:Nat) (ps:List RD):Nat→Rat
 |0=>1
 |k+1=>wtTo y n ps k*wfac y n k (ps.getD k rd0).q
theorem fits_one:fits (1:Rat) 1:=⟨by simp,by simp⟩
theorem getD_wf {ps:List RD} {L:Nat} (h:∀r∈ps,r.wf L) (i:Nat):(ps.getD i rd0).wf L:=by
 rw [List.getD_eq_getElem?_getD]
 cases hi:ps[i]? with
 |none=>simp only [Option.getD_none,rd0];exact⟨by simp,by simp,by simp,by simp⟩
 |some r=>exact h r (List.mem_of_getElem? hi)
theorem fits_wt {y n:Nat} {ps:List RD} {L:Nat} (hL:1≤L) (h:∀r∈ps,r.wf L):∀k,fits (wtTo y n ps k) ((2*L+2)*k+1)
 |0=>by rw [Nat.mul_zero,Nat.zero_add];exact fits_one
 |k+1=>by
  have h1:=fits_wt (y:=y) (n:=n) hL h k
  have h2:=RD.fits (getD_wf h k) hL
  have h3:=fits_sub fits_one h2
  have h4:fits (wfac y n k (ps.getD k rd0).q) (2*L+2):=by
   unfold wfac
   refine fits_mono (fits_mul (L:=L) (M:=1+L+1) ?_ ?_) om
   ·split
    ·exact h2
    ·exact fits_mono fits_one hL
   ·split
    ·exact h3
    ·exact fits_mono fits_one om
  refine fits_mono (fits_mul h1 h4) ?_
  rw [Nat.mul_add];omega
end Go.PN
namespace Go.AI
theorem updF_ofL {xs bs:List CV} (h:xs.length=bs.length):updF (ofL xs) 0 bs=ofL bs:=by
 funext j
 by_cases hj:j<bs.length
 ·have:=updF_in bs (ofL xs) 0 j hj
  rw [Nat.zero_add] at this
  exact this
 ·rw [updF_out _ _ _ _ om,ofL_at,ofL_at,List.getElem?_eq_none om,List.getElem?_eq_none om]
@[go_sem ↓] theorem updF_1 (a b:CV):updF (ofL [a]) 0 [b]=ofL [b]:=updF_ofL rfl
@[go_sem ↓] theorem updF_2 (a b c d:CV):updF (ofL [a,b]) 0 [c,d]=ofL [c,d]:=updF_ofL rfl
@[go_sem ↓] theorem updF_3 (a b c x y z:CV):updF (ofL [a,b,c]) 0 [x,y,z]=ofL [x,y,z]:=updF_ofL rfl
end Go.AI
namespace Go.Proofs.YtefekdejgbceiaaGreat
open Go.AI Go.PN
attribute [local irreducible] aw Fa Fh DrK
theorem one_wf' {L:Nat} (h:1≤L):(rd ((1:Int):Rat)).wf L:=rd_wf (fits_mono (L:=1) ⟨by simp,by simp⟩ h)
theorem cast1:((1:Int):Rat)=1:=rfl
theorem weightR_fa (y n:Nat) (ps:List RD) (hy:y<9223372036854775808) (hn:n<9223372036854775808) (L:Nat) (hL:1≤L) (hL2:L≤1000000) (hp:∀r∈ps,r.wf L) (hl:ps.length≤64):
  Fa Tryz.prog 148 [.agg [.int .i64 y,.int .i64 n],.c (rats false ps)] (.agg (rdc (rd (wtTo y n ps ps.length)))):=by
 refine fa_of_body Tryz.func148 rfl rfl (by simp [Tryz.ntmps148]) fun C hC=> ?_
 simp only [initS,Nat.reduceAdd]
 refine xG ?_
 refine xB fun g2 hn_g2=>?_
 refine yA hn_g2 fun g4 hn_g4=>?_
 have J1:=oj hn_g2 hn_g4
 refine yG J1 ?_
 refine yC J1 (sof_fa 1 ?_ ?_) ?_
 ·omega
 ·omega
 refine yA J1 fun g5 hn_g5=>?_
 have J2:=oj hn_g2 (oj hn_g4 hn_g5)
 refine yGWSG J2 ?_
 refine aw_lp (fun k:Nat=>[(1,.c (rats false ps)),(2,.c (.optr g2 0)),(4,.c (.optr g4 0)),(5,.c (.optr g5 0)),(6,.c (.int .i64 k))]) (fun k=>[(g5,.cells 41 3 (ofL (rdc (rd (wtTo y n ps k))))),(g4,.cells 41 3 (ofL [.bool false,.nils,.nils])),(g2,.cells 183 2 (ofL [.int .i64 (y:Int),.int .i64 (n:Int)]))])
  (fun k=>k≤ps.length) (fun k=>ps.length-k) 0 (zB J2) zZ (Nat.zero_le _) ?_
 rintro k hk
 have hfk:=fits_wt (y:=y) (n:=n) hL hp k
 have hbk:(2*L+2)*k+1≤200000000:=by
  have:=Nat.mul_le_mul (show 2*L+2≤2000002 from by omega) (show k≤64 from by omega)
  omega
 refine yG J2 ?_
 refine yF J2 (fun hb=>?_) fun hb=>?_
 ·have hin:k<ps.length:=dT hb
  have hpk:=getD_wf hp k
  have hwk:(rd (wtTo y n ps k)).wf 1073741824:=rd_wf (fits_mono hfk om)
  apply aw_skip
  apply aw_seq
  apply aw_block
  apply aw_seq
  have b1:=shrZ_nat y k om
  have b2:=and_one_nat (y/2^k) (Nat.lt_of_le_of_lt (Nat.div_le_self _ _) hy)
  have b3:=bit_eq y k
  have c1:=shrZ_nat n k om
  have c2:=and_one_nat (n/2^k) (Nat.lt_of_le_of_lt (Nat.div_le_self _ _) hn)
  have c3:=bit_eq n k
  refine aw_cut (fun q:Rat=>[(1,.c (rats false ps)),(2,.c (.optr g2 0)),(4,.c (.optr g4 0)),(5,.c (.optr g5 0)),(6,.c (.int .i64 k))]) (fun q=>[(g5,.cells 41 3 (ofL (rdc (rd q)))),(g4,.cells 41 3 (ofL [.bool false,.nils,.nils])),(g2,.cells 183 2 (ofL [.int .i64 (y:Int),.int .i64 (n:Int)]))])
   (fun q=>q=wtTo y n ps k*(if y.testBit k then(ps.getD k rd0).q else 1)) ?_ ?_
  ·have J3:=oj hn_g2 (oj hn_g4 (oj hn_g5 (oj b1 (oj b2 (oj b3 (oj c1 (oj c2 c3)))))))
   refine yG J3 ?_
   refine yF J3 (fun hc=>?_) fun hc=>?_
   ·refine yG J3 ?_
    refine aw_dr 6 ty_mixed (by kernel_rfl) ?_
    refine yG J3 ?_
    refine yD J3 (smul_fa _ _ hwk ?_) ?_
    ·exact wf_mono hpk om
    rw [rd_q]
    refine yGWSG J3 ?_
    exact aw_stop ⟨_,(zB J3),zZ,by rw [hc,if_pos rfl]⟩
   ·refine yG J3 ?_
    exact aw_stop ⟨_,(zB J3),zZ,by rw [hc,if_neg (by simp),Rat.mul_one]⟩
  rintro q hq
  have hfq:fits q 300000000:=by
   rw [hq]
   refine fits_mono (fits_mul (M:=L) hfk ?_) om
   split
   ·exact RD.fits hpk hL
   ·exact fits_mono fits_one hL
  have J4:=oj hn_g2 (oj hn_g4 (oj hn_g5 (oj b1 (oj b2 (oj b3 (oj c1 (oj c2 c3)))))))
  refine yG J4 ?_
  refine yF J4 (fun hc=>?_) fun hc=>?_
  ·refine yG J4 ?_
   refine aw_dr 8 ty_mixed (by kernel_rfl) ?_
   refine yG J4 ?_
   refine yD J4 (sof_fa 1 ?_ ?_) ?_
   ·omega
   ·omega
   refine yG J4 ?_
   refine yD J4 (ssub_fa _ _ (one_wf' ?_) ?_) ?_
   ·omega
   ·exact wf_mono hpk om
   rw [rd_q,cast1]
   refine yG J4 ?_
   refine yD J4 (smul_fa _ _ ?_ ?_) ?_
   ·exact rd_wf (fits_mono hfq om)
   ·exact rd_wf (fits_mono (fits_sub fits_one (RD.fits hpk hL)) om)
   rw [rd_q,rd_q]
   refine yGWSG J4 ?_
   have e:wtTo y n ps (k+1)=q*(1-(ps.getD k rd0).q):=by
    rw [wtTo,wfac,hc,if_pos rfl,←Rat.mul_assoc,←hq]
   rw [←e]
   exact aw_stop ⟨k+1,by omega,(zB J4),zZ,by omega⟩
  ·refine yG J4 ?_
   have e:wtTo y n ps (k+1)=q:=by
    rw [wtTo,wfac,hc,if_neg (c:=false=true) (by simp),Rat.mul_one,←hq]
   rw [←e]
   exact aw_stop ⟨k+1,by omega,(zB J4),zZ,by omega⟩
 ·have hin:k=ps.length:=dF hb
  subst hin
  refine yGWSGT hC J2 ?_
  exact ler_rd rfl
end Go.Proofs.YtefekdejgbceiaaGreat
namespace Go.AI
open Go.PN
section
variable {E : Env} {K : List It} {σ σ' : Sl} {h : Heap}
theorem aw_less {g n n':Nat} {ty:TypeId} {f f':Nat→CV} {h:Heap} (hn:n'≤n) (hf:∀j,j<n'→f j=f' j) (k:aw E K σ ((g,.cells ty n' f')::h)):aw E K σ ((g,.cells ty n f)::h):=fun a w s=>by
 refine k a w ⟨s.size,s.defers,s.slots,fun g' o' hm=> ?_,s.nodup,s.keys,s.frame⟩
 rcases List.mem_cons.1 hm with e|hm
 ·injection e with e1 e2
  subst e1 e2
  obtain⟨cs,hb,hc,hj⟩:=s.heap _ _ (List.mem_cons_self ..)
  exact⟨cs,hb,by omega,fun j hjl=>by rw [←hf j hjl];exact hj j om⟩
 ·exact s.heap g' o' (List.mem_cons_of_mem _ hm)
end
theorem rats_push {vs:List RD} {n:Nat} (hn:vs.length=n) (v:RD):∀j,j<(n+1)*3→appF (ratsF vs) (n*3) (ofL [.bool v.neg,ws true v.num,ws true v.den]) j=ratsF (vs++[v]) j:=lf_push (c:=fun r:RD=>[CV.bool r.neg,ws true r.num,ws true r.den]) hn v om
theorem le_gsr {pre:Heap} {og:Option Nat} {e n:Nat} {vs:List RD} (hog:og=none→n=0) (hn:∀g,og=some g→g∉pre.keys) (hl:vs.length=n):LeC (pre++gh og e (n*3) (ratsF vs)) (gs og 3 n) (rats false vs):=by
 subst hl
 exact le_gs hog hn (fun j _=>.refl _)
theorem ler_gsr {pre:Heap} {og:Option Nat} {e n:Nat} {t:Bool} {vs:List RD} (hog:og=none→n=0) (hn:∀g,og=some g→g∉pre.keys) (hl:vs.length=n):LeR (pre++gh og e (n*3) (ratsF vs)) (gs og 3 n) (rats t vs):=by
 subst hl
 exact ler_gs hog hn (lf_ler om fun x _ k hk=>by match k,hk with|0,_=>exact .bool _|1,_=>exact ler_ws|2,_=>exact ler_ws)
end Go.AI
namespace Go.PN
open Go.AI
def refRD (v:List RD) (r:Int):RD:=if r<2 then rd (r:Rat) else v.getD (r-2).toNat rd0
def nodeQ (p v:List RD) (n:DN):Rat:=(1-(p.getD n.v.toNat rd0).q)*(refRD v n.lo).q+(p.getD n.v.toNat rd0).q*(refRD v n.hi).q
def valsL (p:List RD):List DN→List RD→List RD
 |[],v=>v
 |n::ns,v=>valsL p ns (v++[rd (nodeQ p v n)])
structure NodeOk (m k:Nat) (n:DN):Prop where
 v0:0≤n.v
 v1:n.v<m
 l0:0≤n.lo
 l1:n.lo<k+2
 h0:0≤n.hi
 h1:n.hi<k+2
theorem ref_wf {v:List RD} {r:Int} {L:Nat} (hL:1≤L) (hv:∀x∈v,x.wf L) (h0:0≤r):(refRD v r).wf L:=by
 unfold refRD
 split
 ·have:r=0∨r=1:=by omega
  rcases this with rfl|rfl
  ·exact rd_wf (fits_mono (L:=1) ⟨by simp,by simp⟩ hL)
  ·exact rd_wf (fits_mono (L:=1) ⟨by simp,by simp⟩ hL)
 ·exact getD_wf hv _
end Go.PN
namespace Go.Proofs.YtefekdejgbceiaaGreat
open Go.AI Go.PN
attribute [local irreducible] aw Fa Fh DrK
theorem of_fa' (v:List RD) (r:Int) (h0:0≤r) (h1:r<v.length+2) (h2:v.length≤1099511627776):Fa Tryz.prog 42 [.c (rats false v),.c (.int .i64 r)] (.agg (rdc (refRD v r))):=by
 refine fa_of_body Tryz.func42 rfl rfl (by simp [Tryz.ntmps42]) fun C hC=> ?_
 simp only [initS,Nat.reduceAdd]
 refine xG ?_
 refine xA fun g4 hn_g4=>?_
 refine yG hn_g4 ?_
 refine yF hn_g4 (fun hb=>?_) fun hb=>?_
 ·have hb':=of_decide_eq_true hb
  refine yG hn_g4 ?_
  refine yC hn_g4 (rof_fa r ?_ ?_) ?_
  ·omega
  ·omega
  refine yGWSGT hC hn_g4 ?_
  exact ler_rd (by rw [refRD,if_pos hb'])
 ·have hb':=of_decide_eq_false hb
  refine yGWSGT hC hn_g4 ?_
  exact ler_rd (by rw [refRD,if_neg hb'])
abbrev dnc (n:DN):List CV:=[.int .i64 n.v,.int .i64 n.lo,.int .i64 n.hi]
theorem node_fa (n:DN) (p v:List RD) (L:Nat) (hL:1≤L) (hL2:L≤100000000) (hp:∀x∈p,x.wf L) (hv:∀x∈v,x.wf L) (hn:NodeOk p.length v.length n) (hvl:v.length≤1099511627776):
  Fa Tryz.prog 87 [.agg (dnc n),.c (rats false p),.c (rats false v)] (.agg (rdc (rd (nodeQ p v n)))):=by
 obtain⟨v0,v1,l0,l1,h0,h1⟩:=hn
 have w1:=getD_wf hp n.v.toNat
 have w2:=ref_wf hL hv l0
 have w3:=ref_wf hL hv h0
 have f1:=RD.fits w1 hL
 have f2:=RD.fits w2 hL
 have f3:=RD.fits w3 hL
 have f4:=fits_sub fits_one f1
 have f5:=fits_mul f4 f2
 have f6:=fits_mul f1 f3
 refine fa_of_body Tryz.func87 rfl rfl (by simp [Tryz.ntmps87]) fun C hC=> ?_
 simp only [initS,Nat.reduceAdd]
 refine xG ?_
 refine xB fun g3 hn_g3=>?_
 refine yA hn_g3 fun g6 hn_g6=>?_
 refine yG (oj hn_g3 hn_g6) ?_
 refine yA (oj hn_g3 hn_g6) fun g7 hn_g7=>?_
 have J1:=oj hn_g3 (oj hn_g6 hn_g7)
 refine yGWSG J1 ?_
 refine aw_dr 15 ty_mixed (by kernel_rfl) ?_
 refine yG J1 ?_
 refine yD J1 (rof_fa 1 ?_ ?_) ?_
 ·omega
 ·omega
 refine yG J1 ?_
 refine yD J1 (rsub_fa _ _ (one_wf' ?_) ?_) ?_
 ·omega
 ·exact wf_mono w1 om
 rw [rd_q,cast1]
 refine yG J1 ?_
 refine yD J1 (of_fa' v n.lo l0 ?_ hvl) ?_
 ·omega
 refine yG J1 ?_
 refine yD J1 (rmul_fa _ _ ?_ ?_) ?_
 ·exact rd_wf (fits_mono f4 om)
 ·exact wf_mono w2 om
 rw [rd_q]
 refine yG J1 ?_
 refine yD J1 (of_fa' v n.hi h0 ?_ hvl) ?_
 ·omega
 refine yG J1 ?_
 refine yD J1 (rmul_fa _ _ ?_ ?_) ?_
 ·exact wf_mono w1 om
 ·exact wf_mono w3 om
 refine yG J1 ?_
 refine yD J1 (radd_fa _ _ ?_ ?_) ?_
 ·exact rd_wf (fits_mono f5 om)
 ·exact rd_wf (fits_mono f6 om)
 rw [rd_q,rd_q]
 refine yGWSGT hC J1 ?_
 exact ler_rd rfl
theorem vals_take {p:List RD} {ns:List DN} {k:Nat} (hk:k<ns.length):valsL p (ns.take (k+1)) []=valsL p (ns.take k) []++[rd (nodeQ p (valsL p (ns.take k) []) (ns.getD k dn0))]:=by
 have key:∀(l m:List DN) (v:List RD),valsL p (l++m) v=valsL p m (valsL p l v):=by
  intro l
  induction l with
  |nil=>intro m v;rfl
  |cons a l ih=>intro m v;simp only [List.cons_append,valsL];exact ih m _
 rw [List.take_succ_eq_append_getElem hk,key]
 have:ns.getD k dn0=ns[k]:=by rw [List.getD_eq_getElem?_getD,List.getElem?_eq_getElem hk];rfl
 rw [this];rfl
theorem vals_len {p:List RD}:∀(ns:List DN) (v:List RD),(valsL p ns v).length=v.length+ns.length
 |[],v=>by simp [valsL]
 |n::ns,v=>by rw [valsL,vals_len ns];simp;omega
theorem values_fa (d:DG) (p:List RD) (L:Nat) (hL:1≤L) (hL2:L≤100000000) (hp:∀x∈p,x.wf L) (hv:∀k,k≤d.nodes.length→∀x∈valsL p (d.nodes.take k) [],x.wf L) (hn:∀i,i<d.nodes.length→NodeOk p.length i (d.nodes.getD i dn0)) (hnl:d.nodes.length≤10000):
  Fa Tryz.prog 43 [.agg (dgc false d),.c (rats false p)] (.c (rats true (valsL p d.nodes []))):=by
 refine fa_of_body Tryz.func43 rfl rfl (by simp [Tryz.ntmps43]) fun C hC=> ?_
 simp only [initS,Nat.reduceAdd]
 refine xG ?_
 refine xB fun g2 hn_g2=>?_
 refine yG hn_g2 ?_
 refine aw_make (n:=0) (c:=d.nodes.length) (size:=3) (z:=[.bool false,.nils,.nils]) rfl rfl rfl (zE hn_g2) (zE hn_g2) rfl om (zE hn_g2) (zE hn_g2) rfl rfl om om om fun g hg=> ?_
 refine yS hn_g2 ?_
 refine aw_less (n':=0) (f':=ratsF []) om (fun j hj=>by omega) ?_
 replace hg:=Heap.ne_of hg
 dsimp only [Heap.ne] at hg
 have J1:=oj hn_g2 hg
 refine yG J1 ?_
 refine aw_weak (σ':=[(1,.c (rats false p)),(5,.c (gs (some g) 3 0)),(13,.c (dns false d.nodes)),(14,.c (.int .i64 d.nodes.length)),(15,.c (.int .i64 0))]) (h':=gh (some g) 41 (0*3) (ratsF [])) (Sl.sub_le (zB J1)) (List.Sublist.cons_cons _ (List.nil_sublist _)) ?_
 refine aw_lp (fun x:Nat×Nat×List RD=>[(1,.c (rats false p)),(5,.c (gs (some x.1) 3 x.2.1)),(13,.c (dns false d.nodes)),(14,.c (.int .i64 d.nodes.length)),(15,.c (.int .i64 x.2.1))]) (fun x=>gh (some x.1) 41 (x.2.1*3) (ratsF x.2.2))
  (fun x=>x.2.1≤d.nodes.length∧x.2.2.length=x.2.1∧x.2.2=valsL p (d.nodes.take x.2.1) []) (fun x=>d.nodes.length-x.2.1) (g,0,[]) (zB J1) zZ ⟨Nat.zero_le _,rfl,by simp [valsL]⟩ ?_
 rintro ⟨g',k,vs⟩ ⟨hk,hvl,hvs⟩
 dsimp only at hk hvl hvs⊢
 refine yG J1 ?_
 refine yF J1 (fun hb=>?_) fun hb=>?_
 ·have hin:k<d.nodes.length:=dT hb
  have hvw:∀x∈vs,x.wf L:=by rw [hvs];exact hv k hk
  have hno:NodeOk p.length vs.length (d.nodes.getD k dn0):=by rw [hvl];exact hn k hin
  refine yG J1 ?_
  refine yA J1 fun g7 hn_g7=>?_
  have J2:=oj hn_g2 (oj hg hn_g7)
  refine yGWSG J2 ?_
  refine aw_callq (node_fa (d.nodes.getD k dn0) p vs L hL hL2 hp hvw hno om) rfl rfl rfl (by refine yS J2 ?_;exact⟨.agg (lel_refl _),.c (.refl _),.c (le_gsr (pre:=[(g7,_)]) some_ne (fun g e=>by cases e;simp only [Heap.keys,List.map_cons,List.map_nil,List.mem_singleton];exact(of_eq_false hn_g7.1.2)) hvl)⟩) ?_
  have J3:=oj hn_g2 (oj hg hn_g7)
  refine ySG J3 ?_
  refine aw_push (pre:=[(g7,.cells 119 3 (ofL (dnc (d.nodes.getD k dn0))))]) rfl rfl rfl rfl rfl rfl rfl (zE J3) (zE J3) (by rfl) om om (zE J3) om (by exact some_ne) (zE J3) (by rfl) (by rfl) (by first|rfl|simp only [Nat.mul_one,List.nil_append,List.cons_append]<;>rfl) (by unfold maxLen;omega) om (by exact rats_push hvl _) fun g1 hn_g1=> ?_
  replace hn_g1:=Heap.ne_of hn_g1
  first|dsimp only [Heap.ne,gh] at hn_g1|dsimp only [Heap.ne] at hn_g1|skip
  have J4:=oj hn_g2 (oj hg (oj hn_g7 hn_g1))
  refine ySG J4 ?_
  have e:=vals_take (p:=p) hin
  rw [←hvs] at e
  refine aw_stop ⟨(g1,k+1,vs++[rd (nodeQ p vs (d.nodes.getD k dn0))]),by dsimp only;omega,(zB J4),List.Sublist.cons _ (List.Sublist.refl _),by dsimp only;omega,by simp;omega,e.symm⟩
 ·have hin:k=d.nodes.length:=dF hb
  subst hin
  refine yGT hC J1 ?_
  rw [List.take_length] at hvs
  rw [←hvs]
  exact .one (.c (ler_gsr (pre:=[]) some_ne (fun _ _=>by simp [Heap.keys]) hvl))
end Go.Proofs.YtefekdejgbceiaaGreat
namespace Go.PN
open Go.AI
def evalF (ns:List DN) (s:Nat):Nat→Int→Bool
 |0,r=>decide (r=1)
 |k+1,r=>if r≤1 then decide (r=1) else evalF ns s k (if s.testBit (ns.getD (r-2).toNat dn0).v.toNat then(ns.getD (r-2).toNat dn0).hi else(ns.getD (r-2).toNat dn0).lo)
def evalD (ns:List DN) (s:Nat) (r:Int):Bool:=evalF ns s r.toNat r
def NsOk (m:Nat) (ns:List DN):Prop:=∀i,i<ns.length→NodeOk m i (ns.getD i dn0)
def kid (ns:List DN) (s:Nat) (r:Int):Int:=if s.testBit (ns.getD (r-2).toNat dn0).v.toNat then(ns.getD (r-2).toNat dn0).hi else(ns.getD (r-2).toNat dn0).lo
theorem kid_lt {m:Nat} {ns:List DN} (h:NsOk m ns) {s:Nat} {r:Int} (h2:2≤r) (hr:r<ns.length+2):0≤kid ns s r∧kid ns s r<r:=by
 have:=h (r-2).toNat om
 obtain⟨_,_,l0,l1,h0,h1⟩:=this
 unfold kid
 split<;>omega
theorem evalF_fuel {m:Nat} {ns:List DN} (h:NsOk m ns) {s:Nat}:∀(k:Nat) (r:Int),0≤r→r<ns.length+2→r.toNat≤k→evalF ns s k r=evalF ns s r.toNat r
 |0,r,h0,_,hk=>by rw [show r.toNat=0 from by omega]
 |k+1,r,h0,hr,hk=>by
  by_cases h1:r≤1
  ·rw [evalF,if_pos h1]
   cases hrn:r.toNat with
   |zero=>rfl
   |succ j=>rw [evalF,if_pos h1]
  ·obtain⟨j,hj⟩:∃j,r.toNat=j+1:=⟨r.toNat-1,by omega⟩
   rw [hj,evalF,if_neg h1,evalF,if_neg h1]
   have hkid:=kid_lt h (s:=s) om hr
   show evalF ns s k (kid ns s r)=evalF ns s j (kid ns s r)
   rw [evalF_fuel h k _ hkid.1 om om,evalF_fuel h j _ hkid.1 om om]
termination_by k=>k
decreasing_by all_goals omega
theorem evalD_leaf {ns:List DN} {s:Nat} {r:Int} (h1:r≤1):evalD ns s r=decide (r=1):=by
 unfold evalD
 cases hrn:r.toNat with
 |zero=>rfl
 |succ j=>rw [evalF,if_pos h1]
theorem evalD_step {m:Nat} {ns:List DN} (h:NsOk m ns) {s:Nat} {r:Int} (h2:2≤r) (hr:r<ns.length+2):evalD ns s r=evalD ns s (kid ns s r):=by
 unfold evalD
 obtain⟨j,hj⟩:∃j,r.toNat=j+1:=⟨r.toNat-1,by omega⟩
 rw [hj,evalF,if_neg om]
 have hkid:=kid_lt h (s:=s) h2 hr
 show evalF ns s j (kid ns s r)=_
 exact evalF_fuel h j _ hkid.1 om om
def tabL (d:DG):List Bool:=(List.range (2^d.order.length)).map fun s=>evalD d.nodes s d.root
def stQ (ps:List RD) (s:Nat):Rat:=wtTo s (2^ps.length-1-s) ps ps.length
def sumQ (ps:List RD) (tb:List Bool):Nat→Rat
 |0=>0
 |k+1=>if tb.getD k false then sumQ ps tb k+stQ ps k else sumQ ps tb k
theorem fits_zero:fits (0:Rat) 1:=⟨by simp,by simp⟩
theorem fits_sum {ps:List RD} {tb:List Bool} {L:Nat} (hL:1≤L) (h:∀r∈ps,r.wf L):∀k,fits (sumQ ps tb k) (((2*L+2)*ps.length+2)*k+1)
 |0=>by rw [Nat.mul_zero,Nat.zero_add];exact fits_zero
 |k+1=>by
  have h1:=fits_sum (tb:=tb) hL h k
  unfold sumQ
  split
  ·refine fits_mono (fits_add h1 (fits_wt hL h _)) ?_
   rw [Nat.mul_add];omega
  ·refine fits_mono h1 ?_
   rw [Nat.mul_add];omega
theorem pow_lt_63 {n:Nat} (h:n<63):2^n<9223372036854775808:=by
 have h3:2^n<2^63:=Nat.pow_lt_pow_right om h
 have h4:(2:Nat)^63=9223372036854775808:=by decide
 rw [h4] at h3;exact h3
end Go.PN
namespace Go.AI
section
variable {E : Env} {K : List It} {σ : Sl}
theorem aw_convR {g n:Nat} {ty:TypeId} {f f':Nat→CV} {h:Heap} (hf:∀j,j<n→∀S w u,RepC S w (f j) u→RepC S w (f' j) u) (k:aw E K σ ((g,.cells ty n f')::h)):aw E K σ ((g,.cells ty n f)::h):=fun a w s=>by
 refine k a w ⟨s.size,s.defers,s.slots,fun g' o' hm=> ?_,s.nodup,s.keys,s.frame⟩
 rcases List.mem_cons.1 hm with e|hm
 ·injection e with e1 e2
  subst e1 e2
  obtain⟨cs,hb,hc,hj⟩:=s.heap _ _ (List.mem_cons_self ..)
  exact⟨cs,hb,hc,fun j hjl=>by obtain⟨u,hu,hr⟩:=hj j hjl;exact⟨u,hu,hf j hjl _ _ _ hr⟩⟩
 ·exact s.heap g' o' (List.mem_cons_of_mem _ hm)
end
theorem repC_nil {S:Bool→Nat→Prop} {w:World} {u:Value} {t:Bool} {s:Nat} {f:Nat→CV} (h:RepC S w .nils u):RepC S w (.row t s 0 f) u:=by
 obtain⟨A,hv⟩:=h
 exact⟨A,0,hv,Nat.le_refl _,fun h0=>by simp at h0⟩
theorem zero_rd:∀j,j<3→∀S w u,RepC S w (ofL [CV.bool false,.nils,.nils] j) u→RepC S w (ofL [CV.bool (Go.PN.rd 0).neg,ws true (Go.PN.rd 0).num,ws true (Go.PN.rd 0).den] j) u:=by
 rw [Go.PN.rd_zero]
 intro j hj S w u h
 match j,hj with
 |0,_=>exact h
 |1,_=>exact repC_nil h
 |2,_=>exact repC_nil h
theorem bs_push {zs:List Bool} {n:Nat} (hn:zs.length=n) (x:Bool):∀j,j<(n+1)*1→appF (bsF zs) (n*1) (ofL [.bool x]) j=bsF (zs++[x]) j:=fun j hj=>by
 subst hn
 unfold appF
 by_cases h:j<zs.length*1
 ·rw [if_pos h]
  show CV.bool (zs.getD j false)=CV.bool ((zs++[x]).getD j false)
  rw [List.getD_eq_getElem?_getD,List.getD_eq_getElem?_getD,List.getElem?_append_left om]
 ·have:j=zs.length:=by omega
  subst this
  rw [if_neg h]
  show ofL [CV.bool x] (zs.length-zs.length*1)=CV.bool ((zs++[x]).getD zs.length false)
  rw [Nat.mul_one,Nat.sub_self,List.getD_eq_getElem?_getD,List.getElem?_append_right (Nat.le_refl _),Nat.sub_self]
  rfl
theorem is_push {zs:List Int} {n:Nat} (hn:zs.length=n) (x:Int):∀j,j<(n+1)*1→appF (isF zs) (n*1) (ofL [.int .i64 x]) j=isF (zs++[x]) j:=fun j hj=>by
 subst hn
 unfold appF
 by_cases h:j<zs.length*1
 ·rw [if_pos h]
  show CV.int .i64 (zs.getD j 0)=CV.int .i64 ((zs++[x]).getD j 0)
  rw [List.getD_eq_getElem?_getD,List.getD_eq_getElem?_getD,List.getElem?_append_left om]
 ·have:j=zs.length:=by omega
  subst this
  rw [if_neg h]
  show ofL [CV.int .i64 x] (zs.length-zs.length*1)=CV.int .i64 ((zs++[x]).getD zs.length 0)
  rw [Nat.mul_one,Nat.sub_self,List.getD_eq_getElem?_getD,List.getElem?_append_right (Nat.le_refl _),Nat.sub_self]
  rfl
theorem ler_gsb {pre:Heap} {og:Option Nat} {e n:Nat} {t:Bool} {zs:List Bool} (hog:og=none→n=0) (hn:∀g,og=some g→g∉pre.keys) (hl:zs.length=n):LeR (pre++gh og e n (bsF zs)) (gs og 1 n) (bs t zs):=by
 subst hl
 have:=ler_gs (pre:=pre) (og:=og) (e:=e) (s:=1) (n:=zs.length) (t:=t) (f:=bsF zs) (f':=bsF zs) hog hn (fun j _=>.bool _)
 simpa only [Nat.mul_one] using this
end Go.AI
namespace Go.Proofs.YtefekdejgbceiaaGreat
open Go.AI Go.PN
attribute [local irreducible] aw Fa Fh DrK
theorem state_fa (ps:List RD) (s:Nat) (hs:s<2^ps.length) (L:Nat) (hL:1≤L) (hL2:L≤1000000) (hp:∀r∈ps,r.wf L) (hl:ps.length≤30):
  Fa Tryz.prog 114 [.c (rats false ps),.c (.int .i64 s)] (.agg (rdc (rd (stQ ps s)))):=by
 have h63:=pow_lt_63 (n:=ps.length) om
 have e1:=shl_one ps.length om
 have e2:((2^ps.length:Nat):Int)-1-(s:Int)=((2^ps.length-1-s:Nat):Int):=by omega
 refine fa_of_body Tryz.func114 rfl rfl (by simp [Tryz.ntmps114]) fun C hC=> ?_
 simp only [initS,Nat.reduceAdd]
 refine xG ?_
 refine xA fun g4 hn_g4=>?_
 have J1:=oj hn_g4 e1
 refine yG J1 ?_
 rw [e2]
 refine yC J1 (weightR_fa s (2^ps.length-1-s) ps ?_ ?_ L hL hL2 hp ?_) ?_
 ·omega
 ·omega
 ·omega
 refine yGWSGT hC J1 ?_
 exact ler_rd rfl
theorem table37_fa (tb:List Bool) (ps:List RD) (L:Nat) (hL:1≤L) (hL2:L≤1000) (hp:∀r∈ps,r.wf L) (hl:ps.length≤12) (ht:tb.length=2^ps.length):
  Fa Tryz.prog 68 [.c (bs false tb),.c (rats false ps)] (.agg (rdc (rd (sumQ ps tb tb.length)))):=by
 have hp12:2^ps.length≤4096:=by
  have h3:2^ps.length≤2^12:=Nat.pow_le_pow_right om hl
  have h4:(2:Nat)^12=4096:=by decide
  omega
 refine fa_of_body Tryz.func68 rfl rfl (by simp [Tryz.ntmps68]) fun C hC=> ?_
 simp only [initS,Nat.reduceAdd]
 refine xG ?_
 refine xA fun g4 hn_g4=>?_
 refine yG hn_g4 ?_
 refine yA hn_g4 fun g5 hn_g5=>?_
 have J1:=oj hn_g4 hn_g5
 refine yGWSG J1 ?_
 refine aw_convR zero_rd ?_
 refine aw_lp (fun k:Nat=>[(0,.c (bs false tb)),(1,.c (rats false ps)),(4,.c (.optr g4 0)),(5,.c (.optr g5 0)),(6,.c (.int .i64 k))]) (fun k=>[(g5,.cells 41 3 (ofL (rdc (rd (sumQ ps tb k))))),(g4,.cells 41 3 (ofL [.bool false,.nils,.nils]))])
  (fun k=>k≤tb.length) (fun k=>tb.length-k) 0 (zB J1) zZ (Nat.zero_le _) ?_
 rintro k hk
 have hfk:=fits_sum (tb:=tb) hL hp k
 have hbk:((2*L+2)*ps.length+2)*k+1≤200000000:=by
  have h1:=Nat.mul_le_mul (show 2*L+2≤2002 from by omega) (show ps.length≤12 from hl)
  have h2:=Nat.mul_le_mul (show(2*L+2)*ps.length+2≤24026 from by omega) (show k≤4096 from by omega)
  omega
 refine yG J1 ?_
 refine yF J1 (fun hb=>?_) fun hb=>?_
 ·have hin:k<tb.length:=dT hb
  have hfs:fits (stQ ps k) 100000:=by
   refine fits_mono (fits_wt hL hp _) ?_
   have h1:=Nat.mul_le_mul (show 2*L+2≤2002 from by omega) (show ps.length≤12 from hl)
   omega
  refine yG J1 ?_
  refine yF J1 (fun hc=>?_) fun hc=>?_
  ·refine yG J1 ?_
   refine aw_dr 5 ty_mixed (by kernel_rfl) ?_
   refine yG J1 ?_
   refine yD J1 (state_fa ps k ?_ L hL ?_ hp ?_) ?_
   ·omega
   ·omega
   ·omega
   refine yG J1 ?_
   refine yD J1 (sadd_fa _ _ ?_ ?_) ?_
   ·exact rd_wf (fits_mono hfk om)
   ·exact rd_wf (fits_mono hfs om)
   rw [rd_q,rd_q]
   refine yGWSG J1 ?_
   have e:sumQ ps tb (k+1)=sumQ ps tb k+stQ ps k:=by rw [sumQ,if_pos hc]
   rw [←e]
   exact aw_stop ⟨k+1,by omega,(zB J1),zZ,by omega⟩
  ·refine yG J1 ?_
   have e:sumQ ps tb (k+1)=sumQ ps tb k:=by rw [sumQ,if_neg (by rw [hc];simp)]
   rw [←e]
   exact aw_stop ⟨k+1,by omega,(zB J1),zZ,by omega⟩
 ·have hin:k=tb.length:=dF hb
  subst hin
  refine yGWSGT hC J1 ?_
  exact ler_rd rfl
end Go.Proofs.YtefekdejgbceiaaGreat
namespace Go.PN
def oscan (vars:Int) (seen:List Int):List Int→Int
 |[]=>0
 |x::xs=>if x<0∨vars≤x then 3 else if x∈seen then 6 else oscan vars (seen++[x]) xs
def ocode (o:List Int) (vars:Int):Int:=if vars<0∨24<vars then 3 else if(o.length:Int)≠vars then 11 else oscan vars [] o
def placeZ (l:List Int) (n:Int):Int:=if n∈l then(l.idxOf n:Int) else-1
theorem getDZ {xs:List Int} {i:Nat} (h:i<xs.length):xs.getD i 0=xs[i]:=by
 rw [List.getD_eq_getElem?_getD,List.getElem?_eq_getElem h];rfl
theorem oscan_step {vars:Int} {o:List Int} {i:Nat} (h:i<o.length):oscan vars (o.take i) (o.drop i)=if o.getD i 0<0∨vars≤o.getD i 0 then 3 else if o.getD i 0∈o.take i then 6 else oscan vars (o.take (i+1)) (o.drop (i+1)):=by
 rw [List.drop_eq_getElem_cons h,oscan,getDZ h,List.take_succ_eq_append_getElem h]
structure Perm0 (o:List Int):Prop where
 range:∀x∈o,0≤x∧x<o.length
 nodup:o.Nodup
theorem oscan_ok {vars:Int}:∀(o seen:List Int),oscan vars seen o=0→seen.Nodup→(∀x∈o,0≤x∧x<vars)∧(seen++o).Nodup
 |[],seen,_,hs=>⟨by simp,by simpa using hs⟩
 |x::o,seen,h,hs=>by
  rw [oscan] at h
  split at h
  ·cases h
  ·split at h
   ·cases h
   ·rename_i h1 h2
    have hn:(seen++[x]).Nodup:=by
     rw [List.nodup_append]
     exact⟨hs,by simp,fun a ha b hb e=>h2 (by simp only [List.mem_singleton] at hb;rw [←hb,←e];exact ha)⟩
    obtain⟨h3,h4⟩:=oscan_ok o (seen++[x]) h hn
    refine⟨fun y hy=> ?_,by simpa using h4⟩
    rcases List.mem_cons.1 hy with rfl|hy
    ·omega
    ·exact h3 y hy
theorem ocode_ok {o:List Int} (h:ocode o o.length=0):Perm0 o∧o.length≤24:=by
 unfold ocode at h
 split at h
 ·cases h
 ·rename_i h1
  rw [if_neg (by simp)] at h
  obtain⟨h2,h3⟩:=oscan_ok o [] h (by simp)
  exact⟨⟨h2,by simpa using h3⟩,by omega⟩
theorem nodup_le:∀{l m:List Int},l.Nodup→(∀x∈l,x∈m)→l.length≤m.length
 |[],m,_,_=>by simp
 |a::l,m,hn,hs=>by
  simp only [List.nodup_cons] at hn
  have ha:=hs a (by simp)
  have:=nodup_le (l:=l) (m:=m.erase a) hn.2 fun x hx=>(List.mem_erase_of_ne (fun e=>hn.1 (by rw [←e];exact hx))).2 (hs x (by simp [hx]))
  rw [List.length_erase_of_mem ha] at this
  have:0<m.length:=List.length_pos_of_mem ha
  simp only [List.length_cons]
  omega
theorem Perm0.all {o:List Int} (h:Perm0 o) {j:Nat} (hj:j<o.length):(j:Int)∈o:=by
 by_cases hm:(j:Int)∈o
 ·exact hm
 ·exfalso
  have:=nodup_le (l:=(j:Int)::o) (m:=(List.range o.length).map (fun k:Nat=>(k:Int))) (by simp only [List.nodup_cons];exact⟨hm,h.nodup⟩) (fun x hx=>by
   rw [List.mem_map]
   rcases List.mem_cons.1 hx with rfl|hx
   ·exact⟨j,by simpa using hj,rfl⟩
   ·obtain⟨h1,h2⟩:=h.range x hx
    exact⟨x.toNat,by simp;omega,by omega⟩)
  simp at this
  omega
theorem place_get {o:List Int} (hn:o.Nodup) {k:Nat} (hk:k<o.length):placeZ o (o.getD k 0)=k:=by
 unfold placeZ
 rw [getDZ hk,if_pos (List.getElem_mem hk)]
 congr 1
 exact hn.idxOf_getElem k hk
def placesL (o:List Int):List Int:=(List.range o.length).map fun j:Nat=>placeZ o (j:Int)
theorem placesL_len (o:List Int):(placesL o).length=o.length:=by simp [placesL]
theorem placesL_get {o:List Int} {j:Nat} (hj:j<o.length):(placesL o).getD j 0=placeZ o j:=by
 rw [getDZ (by rw [placesL_len];exact hj)]
 simp [placesL]
theorem places_end {o zs:List Int} (h:Perm0 o) (hl:zs.length=o.length) (hz:∀k,k<o.length→zs.getD (o.getD k 0).toNat 0=k):zs=placesL o:=by
 apply List.ext_getElem (by rw [placesL_len];exact hl)
 intro j h1 h2
 rw [←getDZ h1,←getDZ h2,placesL_get om]
 have hm:=h.all (j:=j) om
 obtain⟨k,hk,e⟩:=List.mem_iff_getElem.1 hm
 have h3:=hz k hk
 rw [getDZ hk,e] at h3
 have h4:=place_get h.nodup hk
 rw [getDZ hk,e] at h4
 rw [h4,←h3];simp
end Go.PN
