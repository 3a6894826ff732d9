/- Parts of one proof, laid by a program. -/
import Derived.Test.YtfcnbgmclfkfcaaGreatM00
import Derived.Test.YtfcnbgmclfkfcaaGreatM11
import Derived.Test.YtfcnbgmclfkfcaaGreatM12
set_option linter.unusedSimpArgs false
set_option linter.unusedVariables false
namespace Go.Proofs.YtfcnbgmclfkfcaaGreat
open Go.AI Go.PN
attribute [local irreducible] aw Fa Fh DrK
attribute [local irreducible] DrB
theorem shl_u32 (x s:Nat) (hs:s≤32):shlZ .u32 (x:Int) (s:Int)=((x*2^s%4294967296:Nat):Int):=by
 rw [shlZ_eq]
 have h1:min (s:Int).toNat IntKind.u32.bits=s:=by show min (s:Int).toNat 32=s;omega
 rw [h1,IntKind.wrap_u32,Int.natCast_emod,Int.natCast_mul,Int.natCast_pow];rfl
theorem and_u32 (x y:Nat) (hx:x<4294967296) (hy:y<4294967296):andZ .u32 (x:Int) (y:Int)=((x&&&y:Nat):Int):=by
 rw [andZ_eq]
 show IntKind.u32.wrap (((BitVec.ofInt 32 (x:Int)&&&BitVec.ofInt 32 (y:Int)).toNat:Nat):Int)=_
 have:(BitVec.ofInt 32 (x:Int)&&&BitVec.ofInt 32 (y:Int)).toNat=x&&&y:=by
  rw [BitVec.toNat_and]
  have e1:∀z:Nat,z<4294967296→(BitVec.ofInt 32 (z:Int)).toNat=z:=fun z hz=>by rw [BitVec.ofInt_natCast,BitVec.toNat_ofNat];omega
  rw [e1 x hx,e1 y hy]
 have hlt:x&&&y<4294967296:=Nat.lt_of_le_of_lt Nat.and_le_left hx
 rw [this,IntKind.wrap_u32];omega
theorem and_u32_top (x:Nat) (hx:x<4294967296):andZ .u32 (x:Int) 2147483648=((x&&&2147483648:Nat):Int):=and_u32 x 2147483648 hx om
theorem drop_f (xs:List Nat) (m j:Nat):xs.getD (m+j) 0=(xs.drop m).getD j 0:=by
 rw [List.getD_eq_getElem?_getD,List.getD_eq_getElem?_getD,List.getElem?_drop]
theorem mul_div_pow (a b s:Nat):a*2^s/(b*2^s)=a/b:=Nat.mul_div_mul_right a b (Nat.two_pow_pos s)
theorem mod_div_pow (a b s:Nat):a*2^s%(b*2^s)/2^s=a%b:=by
 rw [Nat.mul_mod_mul_right,Nat.mul_div_cancel _ (Nat.two_pow_pos s)]
theorem make_wf' (n:Nat):(fun j=>([CV.int .u32 0][j%1]?).getD .any)=wf (List.replicate n 0):=by
 funext j
 show _=CV.int .u32 ((List.replicate n 0).getD j 0:Nat)
 rw [Nat.mod_one,List.getD_eq_getElem?_getD,List.getElem?_replicate]
 split<;>rfl
theorem drop_row (xs:List Nat) (m:Nat):(CV.row true 1 (xs.length-m) fun j=>.int .u32 ((xs.getD (m+j) 0:Nat):Int))=ws true (xs.drop m):=by
 simp only [drop_f]
 show _=CV.row true 1 (xs.drop m).length _
 rw [List.length_drop]
theorem cons_f (x:Nat) (rs:List Nat):∀j,appF (ofL [.int .u32 (x:Int)]) 1 (fun j=>.int .u32 ((rs.getD j 0:Nat):Int)) j=CV.int .u32 (((x::rs).getD j 0:Nat):Int)
 |0=>rfl
 |j+1=>by simp [appF]
set_option maxRecDepth 100000 in
set_option maxHeartbeats 3200000 in
theorem qdiv_fa (xs ys:List Nat) (hx:∀x∈xs,x<4294967296) (hy:∀x∈ys,x<4294967296) (hlx:xs.length≤34359738368) (hly:ys.length≤34359738368) (h0:val ys≠0):
 Fa Tryz.prog 140 [.c (ws false xs),.c (ws false ys)] (.tup [.c (ws true (words (val xs/val ys))),.c (ws true (words (val xs%val ys))),.c (.int .i64 0)]):=by
 refine fa_of_body Tryz.func140 rfl rfl (by simp [Tryz.ntmps140]) fun C hC=> ?_
 simp only [initS,Nat.reduceAdd]
 refine xG ?_
 refine xC (qtrim_fa ys hy ?_) ?_
 ·omega
 generalize hb0:val ys=b at h0
 have hbl:(words b).length≤34359738368:=by rw [←hb0];exact Nat.le_trans (words_val_len ys hy) hly
 have hbw:=words_lt b
 obtain⟨n,hn⟩:∃n,(words b).length=n+1:=⟨(words b).length-1,by have:(words b).length≠0:=fun e=>h0 (words_eq_nil.1 (List.length_eq_zero_iff.1 e));omega⟩
 have htop:(words b).getD n 0≠0:=by
  have:=(words_plain b).resolve_left (fun e=>h0 (words_eq_nil.1 e))
  rwa [hn] at this
 have htl:=getD_lt hbw n
 refine xG ?_
 refine xF (fun hb=>?_) fun hb=>?_
 ·have:=eq_of_beq hb;omega
 refine xH ?_
 apply aw_skip
 apply aw_seq
 apply aw_region
 refine xH ?_
 apply aw_seq
 refine aw_cut (fun s:Nat=>[(0,.c (ws false xs)),(1,.c (ws true (words b))),(7,.c (.int .i64 ((n+1:Nat):Int))),(8,.c (.int .i64 s))]) (fun _=>[]) (fun s=>(words b).getD n 0*2^s<4294967296∧s<32) ?_ ?_
 ·as_aux_lemma=>
  apply aw_block
  have hnl:((words b).length:Int)=((n+1:Nat):Int):=by rw [hn]
  refine aw_lp (fun s:Nat=>[(0,.c (ws false xs)),(1,.c (ws true (words b))),(7,.c (.int .i64 ((n+1:Nat):Int))),(8,.c (.int .i64 s))]) (fun _=>[]) (fun s=>(words b).getD n 0*2^s<4294967296∧s<32) (fun s=>32-s) 0 (zB hnl) zZ ⟨by simpa using htl,by omega⟩ ?_
  rintro s ⟨hs1,hs2⟩
  have e1:=shl_u32 ((words b).getD n 0) s om
  rw [Nat.mod_eq_of_lt hs1] at e1
  have e2:=and_u32_top _ hs1
  have e3:(((n+1:Nat):Int)-1).toNat=n:=by omega
  have J1:=oj hnl (oj e1 (oj e2 e3))
  refine yG J1 ?_
  refine yF J1 (fun hc=>?_) fun hc=>?_
  ·have hc':(words b).getD n 0*2^s&&&2147483648=0:=by have:=eq_of_beq hc;omega
   have hlt:=and_top_zero hs1 hc'
   have hs3:s<31:=by
    rcases Nat.lt_or_ge s 31 with h|h
    ·exact h
    ·exfalso
     have h8:(2:Nat)^31≤2^s:=Nat.pow_le_pow_right om h
     have h9:=Nat.mul_le_mul (show 1≤(words b).getD n 0 by omega) h8
     omega
   refine yG J1 ?_
   refine aw_stop ⟨s+1,by omega,(zB J1),zZ,?_,by omega⟩
   rw [Nat.pow_succ,←Nat.mul_assoc];omega
  ·refine yG J1 ?_
   exact aw_stop ⟨s,(zB J1),zZ,hs1,hs2⟩
 as_aux_lemma=>
 rintro s ⟨hs1,hs2⟩
 have hVl:=shift_len hn hs1
 refine xG ?_
 refine xC (qup_fa xs s hx ?_ hs2) ?_
 ·omega
 refine xG ?_
 refine xC (qup_fa (words b) s hbw ?_ hs2) ?_
 ·omega
 rw [val_words]
 have hq1:=(mul_div_pow (val xs) b s).symm
 have hq2:=(mod_div_pow (val xs) b s).symm
 have hV0:b*2^s≠0:=Nat.mul_ne_zero h0 (Nat.pos_iff_ne_zero.1 (Nat.two_pow_pos s))
 have hAl:(words (val xs*2^s)).length≤34359738369:=by
  have h0:(words (val xs*2^s)).length≤xs.length+1:=by
   refine words_len_le ?_
   rw [Nat.pow_succ]
   have h2:2^s≤4294967296:=pow_lt_32 om
   exact Nat.lt_of_lt_of_le (Nat.mul_lt_mul_of_pos_right (val_lt xs hx) (Nat.two_pow_pos s)) (Nat.mul_le_mul_left _ h2)
  omega
 rw [hq1,hq2]
 clear hq1 hq2
 generalize hA:val xs*2^s=A at hAl⊢
 generalize hV:b*2^s=V at hVl hV0⊢
 have hn9:n≤34359738368:=by omega
 clear htop htl hbl hbw hs1 hA hV hb0 hb h0 hn
 have hVpos:0<V:=Nat.pos_of_ne_zero hV0
 have hAw:=words_lt A
 have hVw:=words_lt V
 have hVlo:4294967296^n≤V:=by have:=words_pow_le hV0;rwa [hVl] at this
 have hVhi:V<4294967296^(n+1):=by have:=words_pow_lt V;rwa [hVl] at this
 have hAhi:=words_pow_lt A
 generalize hla:(words A).length=la at hAl hAhi
 refine xH ?_
 apply aw_seq
 refine aw_drB 13 ty_mixed (by kernel_rfl) ?_
 repeat first|(refine drb_2q true rfl (fun R hR=> ?_);simp only [go_sem];(with_reducible refine hR _ _ ?_ ?_);(focus (((try simp only [inRange])<;>and_intros<;>first|exact True.intro|omega|trivial);done));clear hR R)|fail
 refine drb_new rfl (NewX.make (n:=la) (c:=la) rfl rfl rfl ty_e_ws ty_z_u32 rfl om eE eE (by rw [hla]) (by rw [hla]) om om om) (by kernel_rfl) ?_
 refine xS ?_
 refine drb_calm (CalmX.empty rfl rfl rfl ty_e_ws) ?_
 refine xS ?_
 have hmx:(if((words A).length:Int)-((n+1:Nat):Int)+1>0 then((words A).length:Int)-((n+1:Nat):Int)+1 else 0)=((la-n:Nat):Int):=by rw [hla];split<;>omega
 repeat first|(refine drb_2q true rfl (fun R hR=> ?_);simp only [go_sem,hmx];(with_reducible refine hR _ _ ?_ ?_);(focus (((try simp only [inRange])<;>and_intros<;>first|exact True.intro|omega|trivial);done));clear hR R)|fail
 refine drb_calm (CalmX.copy rfl rfl rfl ty_e_ws ty_z_u32 rfl om (zE hmx) (zE hmx) .row (by unfold maxLen;omega) om) ?_
 refine yS hmx ?_
 refine drb_nil fun γ=> ?_
 refine yS hmx ?_
 rw [make_wf' la]
 generalize γ 2=gq
 rw [drop_row]
 have hr0:=drop_val (words A) hAw (la-n) om
 rw [val_words] at hr0
 have hrV:A/4294967296^(la-n)<V:=by
  refine Nat.lt_of_lt_of_le ((Nat.div_lt_iff_lt_mul (pow32 _)).2 ?_) hVlo
  rw [←Nat.pow_add]
  exact Nat.lt_of_lt_of_le hAhi (Nat.pow_le_pow_right om om)
 have hrw:∀x∈(words A).drop (la-n),x<4294967296:=fun x hx=>hAw x (List.mem_of_mem_drop hx)
 have hrl:((words A).drop (la-n)).length≤n+1:=by rw [List.length_drop];omega
 generalize (words A).drop (la-n)=rs0 at hr0 hrw hrl⊢
 refine yG hmx ?_
 refine aw_lp (fun x:Int×Nat×List Nat×List Nat=>[(0,.c (ws true (words A))),(1,.c (ws true (words V))),(7,.c (.int .i64 ((n+1:Nat):Int))),(8,.c (.int .i64 s)),(9,.c (.osl gq 1 0 la)),(10,.c (ws true x.2.2.1)),(11,.c (.int .i64 x.1))]) (fun x=>[(gq,.cells 130 la (wf x.2.2.2))])
  (fun x=>x.2.1=(x.1+1).toNat∧x.1<34359738370∧ -34359738370<x.1∧x.2.1≤la∧val x.2.2.1=A/4294967296^x.2.1%V∧(∀y∈x.2.2.1,y<4294967296)∧x.2.2.1.length≤n+1∧x.2.2.2.length=la∧(∀y∈x.2.2.2,y<4294967296)∧val (x.2.2.2.drop x.2.1)=A/4294967296^x.2.1/V) (fun x=>x.2.1) ((la:Int)-((n+1:Nat):Int),la-n,rs0,List.replicate la 0) (zB hmx) zZ
  ⟨by dsimp only;omega,by dsimp only;omega,by dsimp only;omega,by dsimp only;omega,by dsimp only;rw [hr0,Nat.mod_eq_of_lt hrV],hrw,hrl,by simp,replicate_lt _,by dsimp only;rw [Nat.div_eq_of_lt hrV];exact val_zero fun x hx=>(List.mem_replicate.1 (List.mem_of_mem_drop hx)).2⟩ ?_
 clear hr0 hrV hrw hrl
 clear rs0
 as_aux_lemma=>
 rintro ⟨v,m,rs,qs⟩ ⟨hm,hv1,hv2,hml,hrs,hrw,hrl,hql,hqw,hqs⟩
 dsimp only at hm hv1 hv2 hml hrs hrw hrl hql hqw hqs⊢
 refine yG hmx ?_
 refine yF hmx (fun hb=>?_) fun hb=>?_
 ·have hv0:0≤v:=of_decide_eq_true hb
  obtain⟨k,rfl⟩:∃k:Nat,v=k:=⟨v.toNat,by omega⟩
  have hmk:m=k+1:=by omega
  subst hmk
  have hwk:=word_at (words A) hAw k
  rw [val_words] at hwk
  have hak:=getD_lt hAw k
  obtain⟨nx1,nx2⟩:=ref_next (A:=A) (m:=k) hVpos hrs
  rw [hwk] at nx1 nx2
  apply aw_skip
  apply aw_seq
  apply aw_block
  apply aw_seq
  have hRl:((words A).getD k 0::rs).length≤n+2:=by simp;omega
  have hRw:∀x∈(words A).getD k 0::rs,x<4294967296:=fun x hx=>by
   rcases List.mem_cons.1 hx with rfl|hx
   ·exact hak
   ·exact hrw x hx
  refine aw_cut (fun _:Unit=>[(0,.c (ws true (words A))),(1,.c (ws true (words V))),(7,.c (.int .i64 ((n+1:Nat):Int))),(8,.c (.int .i64 s)),(9,.c (.osl gq 1 0 la)),(10,.c (ws true (words ((words A).getD k 0+4294967296*val rs)))),(11,.c (.int .i64 k))]) (fun _=>[(gq,.cells 130 la (wf qs))]) (fun _=>k<la) ?_ ?_
  ·as_aux_lemma=>
   apply aw_region
   refine yH hmx ?_
   refine aw_buildSlice (xs:=[.tmp 61]) (cells:=[.int .u32 ((words A).getD k 0:Nat)]) rfl rfl rfl ty_e_ws (by rw [envP,ty_z_u32];rfl) rfl om om (by intro x hx;simp only [List.mem_singleton] at hx;subst hx;exact⟨rfl,rfl,rfl⟩) (zE hmx) fun g hg=> ?_
   replace hg:=Heap.ne_of hg
   dsimp only [Heap.ne] at hg
   have J2:=oj hmx hg
   refine yS J2 ?_
   refine yH J2 ?_
   by_cases hr0:0<rs.length
   ·refine aw_append rfl rfl rfl ty_e_ws ty_z_u32 rfl om (zE J2) (zE J2) om (zE J2) .row (fun _ _=>rfl) hr0 (by unfold maxLen;omega) om (zE J2) fun g' hg'=> ?_
    replace hg':=Heap.ne_of hg'
    dsimp only [Heap.ne] at hg'
    have J3:=oj hmx (oj hg hg')
    refine yS J3 ?_
    refine yH J3 ?_
    refine aw_callq (qtrim_fa ((words A).getD k 0::rs) hRw om) rfl rfl rfl (by refine yS J3 ?_;exact .c (lec_oslws (zE J3) om (by simp;omega) (fun j _=>by rw [Nat.zero_add];exact cons_f _ _ j))) ?_
    refine yS J3 ?_
    refine yH J3 ?_
    exact aw_stop ⟨(),(zB J3),List.Sublist.cons _ (List.Sublist.refl _),by omega⟩
   ·have hrn:rs=[]:=List.length_eq_zero_iff.1 om
    subst hrn
    refine aw_append0 rfl rfl rfl ty_e_ws (zE J2) rfl (zE J2) .row (zE J2) ?_
    refine yS J2 ?_
    refine yH J2 ?_
    refine aw_callq (qtrim_fa ((words A).getD k 0::[]) hRw om) rfl rfl rfl (by refine yS J2 ?_;exact .c (lec_oslws (zE J2) om rfl (fun j hj=>by match j,hj with|0,_=>rfl))) ?_
    refine yS J2 ?_
    refine yH J2 ?_
    exact aw_stop ⟨(),(zB J2),List.Sublist.cons _ (List.Sublist.refl _),by omega⟩
  as_aux_lemma=>
  rintro _ hkl
  have hRV:val ((words A).getD k 0::rs)<V*4294967296:=by
   simp only [val]
   rw [hrs]
   have:=Nat.mod_lt (A/4294967296^(k+1)) hVpos
   omega
  have hRv:val ((words A).getD k 0::rs)=(words A).getD k 0+4294967296*val rs:=rfl
  rw [hRv] at hRV
  generalize hR:(words A).getD k 0+4294967296*val rs=R at nx1 nx2 hRV⊢
  have hRwl:(words R).length≤n+2:=by
   rw [←hR,←hRv];exact Nat.le_trans (words_val_len _ hRw) hRl
  have hRww:=words_lt R
  have hw1:=getD_lt hRww (n+1)
  have hw2:=getD_lt hRww n
  have hw3:=getD_lt hVw n
  have hVtop:(words V).getD n 0≠0:=by
   have:=(words_plain V).resolve_left (fun e=>hV0 (words_eq_nil.1 e))
   rwa [hVl] at this
  have hg0:R/V≤((words R).getD (n+1) 0*4294967296+(words R).getD n 0)/(words V).getD n 0:=by
   refine ref_guess (D:=4294967296^n) ?_ ?_ om hVpos
   ·have:=top_lt (words R) hRww n hRwl
    rwa [val_words] at this
   ·have:=top_le (words V) n
    rwa [List.take_of_length_le om,val_words] at this
  have hg1:R/V≤4294967295:=by
   have:R/V<4294967296:=(Nat.div_lt_iff_lt_mul hVpos).2 (by rw [Nat.mul_comm];exact hRV)
   omega
  have e3:(((n+1:Nat):Int)-1)=(n:Int):=by omega
  refine yG hmx ?_
  refine yC hmx (qword_fa (words R) (n+1) hRww) ?_
  refine yG (oj hmx e3) ?_
  refine yC (oj hmx e3) (qword_fa (words R) n hRww) ?_
  as_aux_lemma=>
  have e4:=shl_u64_32 ((words R).getD (n+1) 0) hw1
  have e5:=or_u64_j32 ((words R).getD (n+1) 0) ((words R).getD n 0) hw1 hw2
  have J4:=oj hmx (oj e3 (oj e4 e5))
  refine yG J4 ?_
  as_aux_lemma=>
  refine yC J4 (qword_fa (words V) n hVw) ?_
  have hjl:j32 ((words R).getD (n+1) 0) ((words R).getD n 0)<18446744073709551616:=by unfold j32;omega
  have e6:=quo_u64 (j32 ((words R).getD (n+1) 0) ((words R).getD n 0)) ((words V).getD n 0) hjl
  replace hg0:R/V≤j32 ((words R).getD (n+1) 0) ((words R).getD n 0)/(words V).getD n 0:=hg0
  have J5:=oj hmx (oj e3 (oj e4 (oj e5 e6)))
  refine yO J5 ?_
  generalize j32 ((words R).getD (n+1) 0) ((words R).getD n 0)/(words V).getD n 0=G at hg0⊢
  have e7:(if(4294967295:Int)<(G:Int) then(4294967295:Int) else(G:Int))=((min G 4294967295:Nat):Int):=by split<;>omega
  as_aux_lemma=>
  refine yO J5 ?_
  rw [e7]
  have hgl:min G 4294967295<4294967296:=by omega
  replace hg0:R/V≤min G 4294967295:=by omega
  generalize min G 4294967295=g0 at hgl hg0⊢
  have e8:wrapZ .u32 (g0:Int)=(g0:Int):=by rw [wrap_u32_nat,Nat.mod_eq_of_lt hgl]
  as_aux_lemma=>
  have J6:=oj hmx (oj e3 (oj e4 (oj e5 (oj e6 e8))))
  refine yG J6 ?_
  as_aux_lemma=>
  refine aw_buildSlice (xs:=[.tmp 83]) (cells:=[.int .u32 (g0:Nat)]) rfl rfl rfl ty_e_ws (by rw [envP,ty_z_u32];rfl) rfl om om (by intro x hx;simp only [List.mem_singleton] at hx;subst hx;exact⟨rfl,rfl,rfl⟩) (zE J6) fun g hg=> ?_
  replace hg:=Heap.ne_of hg
  dsimp only [Heap.ne] at hg
  have J7:=oj hmx (oj e3 (oj e4 (oj e5 (oj e6 (oj e8 hg)))))
  refine ySG J7 ?_
  as_aux_lemma=>
  refine aw_callq (qmul_fa (words V) [g0] hVw (by intro x hx;simp only [List.mem_singleton] at hx;subst hx;exact hgl) om (by simp)) rfl rfl rfl (by refine yS J7 ?_;exact⟨.c (le_ws (by simp)),.c (lec_oslws (zE J7) (by simp) rfl (fun j hj=>by match j,hj with|0,_=>rfl))⟩) ?_
  rw [val_words,val_one]
  refine yS J7 ?_
  refine yH J7 ?_
  apply aw_seq
  refine aw_cut (fun _:Unit=>[(0,.c (ws true (words A))),(1,.c (ws true (words V))),(7,.c (.int .i64 ((n+1:Nat):Int))),(8,.c (.int .i64 s)),(9,.c (.osl gq 1 0 la)),(10,.c (ws true (words R))),(11,.c (.int .i64 k)),(12,.c (.int .u64 (R/V:Nat))),(13,.c (ws true (words (V*(R/V)))))]) (fun _=>[(gq,.cells 130 la (wf qs))]) (fun _=>k<la) ?_ ?_
  ·as_aux_lemma=>
   apply aw_block
   refine aw_lp (fun q:Nat=>[(0,.c (ws true (words A))),(1,.c (ws true (words V))),(7,.c (.int .i64 ((n+1:Nat):Int))),(8,.c (.int .i64 s)),(9,.c (.osl gq 1 0 la)),(10,.c (ws true (words R))),(11,.c (.int .i64 k)),(12,.c (.int .u64 q)),(13,.c (ws true (words (V*q))))]) (fun _=>[(gq,.cells 130 la (wf qs))]) (fun q=>R/V≤q∧q<4294967296) (fun q=>q) g0 (zB J7) (List.Sublist.cons _ (List.Sublist.refl _)) ⟨hg0,hgl⟩ ?_
   rintro q ⟨hq1,hq2⟩
   have hpl:(words (V*q)).length≤34359738380:=by
    have h1:=words_mul_len V q
    have h2:(words q).length≤2:=words_small om
    omega
   refine yG J7 ?_
   refine yC J7 (qcmp_fa (words (V*q)) (words R) (words_lt _) hRww ?_ ?_) ?_
   ·omega
   ·omega
   rw [val_words,val_words]
   refine yG J7 ?_
   refine yF J7 (fun hc=>?_) fun hc=>?_
   ·have hgt:R<V*q:=by
     have:=of_decide_eq_true hc
     unfold cmpN at this
     split at this
     ·omega
     ·split at this<;>omega
    have hq0:R/V<q:=(Nat.div_lt_iff_lt_mul hVpos).2 (by rw [Nat.mul_comm];exact hgt)
    have hsub:V*q-V=V*(q-1):=by rw [Nat.mul_sub,Nat.mul_one]
    have hq9:0<q:=Nat.lt_of_le_of_lt (Nat.zero_le _) hq0
    have hge:V≤V*q:=Nat.le_mul_of_pos_right _ hq9
    have e9:((q:Int)-1)=((q-1:Nat):Int):=by omega
    have J8:=oj hmx (oj e3 (oj e4 (oj e5 (oj e6 (oj e8 (oj hg e9))))))
    refine yG J8 ?_
    refine yC J8 (qsub_fa (words (V*q)) (words V) (words_lt _) hVw ?_ ?_ ?_) ?_
    ·omega
    ·omega
    ·rw [val_words,val_words];exact hge
    rw [val_words,val_words,hsub]
    refine yG J8 ?_
    exact aw_stop ⟨q-1,by omega,(zB J8),zZ,Nat.le_sub_one_of_lt hq0,by omega⟩
   ·have hle:V*q≤R:=by
     have:=of_decide_eq_false hc
     unfold cmpN at this
     split at this
     ·omega
     ·split at this<;>omega
    have hqe:q=R/V:=Nat.le_antisymm ((Nat.le_div_iff_mul_le hVpos).2 (by rw [Nat.mul_comm];exact hle)) hq1
    subst hqe
    refine yG J7 ?_
    exact aw_stop ⟨(),(zB J7),zZ,hkl⟩
  as_aux_lemma=>
  rintro _ _
  have hmd:=Nat.div_add_mod R V
  have hml2:=Nat.mod_lt R hVpos
  have hpl:(words (V*(R/V))).length≤n+2:=Nat.le_trans (words_len_mono (Nat.mul_div_le R V)) hRwl
  refine yG J7 ?_
  refine yC J7 (qsub_fa (words R) (words (V*(R/V))) hRww (words_lt _) ?_ ?_ ?_) ?_
  ·omega
  ·omega
  ·rw [val_words,val_words];omega
  rw [val_words,val_words,show R-V*(R/V)=R%V from by omega]
  have e8:wrapZ .u32 ((R/V:Nat):Int)=((R/V:Nat):Int):=by rw [wrap_u32_nat,Nat.mod_eq_of_lt om]
  have J9:=oj hmx (oj e3 (oj e4 (oj e5 (oj e6 (oj e8 (oj hg e8))))))
  refine yGWS J9 ?_
  rw [updF_wf om]
  refine yG J9 ?_
  have hrm:(words (R%V)).length≤n+1:=words_len_le (Nat.lt_trans hml2 hVhi)
  refine aw_stop ⟨((k:Int)-1,k,words (R%V),qs.set k (R/V)),by dsimp only;omega,(zB J9),zZ,by dsimp only;omega,by dsimp only;omega,by dsimp only;omega,by dsimp only;omega,by dsimp only;rw [val_words,nx1],words_lt _,hrm,by simpa using hql,set_lt hqw om,?_⟩
  dsimp only
  rw [val_set_drop om,hqs,nx2]
 ·have hm0:m=0:=dF hb
  subst hm0
  rw [List.drop_zero,Nat.pow_zero,Nat.div_one] at hqs
  rw [Nat.pow_zero,Nat.div_one] at hrs
  refine yG hmx ?_
  refine aw_callq (qtrim_fa qs hqw om) rfl rfl rfl (by refine yS hmx ?_;exact .c (lec_oslws (zE hmx) om om (fun j _=>by rw [Nat.zero_add];rfl))) ?_
  refine ySG hmx ?_
  refine yC hmx (qdown_fa rs s hrw ?_ hs2) ?_
  ·omega
  refine yGT hC hmx ?_
  rw [hqs,hrs]
  exact .tup ⟨.c ler_ws,.c ler_ws,.c (.int _ _),trivial⟩
set_option maxHeartbeats 1600000 in
theorem qgcd_fa (xs ys:List Nat) (hx:∀x∈xs,x<4294967296) (hy:∀x∈ys,x<4294967296) (hlx:xs.length≤34359738368) (hly:ys.length≤34359738368):
 Fa Tryz.prog 139 [.c (ws false xs),.c (ws false ys)] (.c (ws true (words (Nat.gcd (val xs) (val ys))))):=by
 refine fa_of_body Tryz.func139 rfl rfl (by simp [Tryz.ntmps139]) fun C hC=> ?_
 simp only [initS,Nat.reduceAdd]
 refine xG ?_
 refine xC (qtrim_fa xs hx ?_) ?_
 ·omega
 refine xG ?_
 refine xC (qtrim_fa ys hy ?_) ?_
 ·omega
 have hla:(words (val xs)).length≤34359738368:=Nat.le_trans (words_val_len xs hx) hlx
 have hlb:(words (val ys)).length≤34359738368:=Nat.le_trans (words_val_len ys hy) hly
 refine xI ?_
 apply aw_block
 refine aw_lp (fun x:Nat×Nat=>[(0,.c (ws true (words x.1))),(1,.c (ws true (words x.2)))]) (fun _=>[]) (fun x=>(words x.1).length≤34359738368∧(words x.2).length≤34359738368∧Nat.gcd x.1 x.2=Nat.gcd (val xs) (val ys)) (fun x=>x.2) (val xs,val ys) eB zZ ⟨hla,hlb,rfl⟩ ?_
 rintro ⟨a,b⟩ ⟨hla,hlb,hg⟩
 dsimp only at hla hlb hg⊢
 refine xG ?_
 refine xF (fun hb=>?_) fun hb=>?_
 ·have hb0:b≠0:=fun e=>by have:=of_decide_eq_true hb;rw [e,words_zero] at this;simp at this
  refine xG ?_
  refine xC (qdiv_fa (words a) (words b) (words_lt a) (words_lt b) hla hlb ?_) ?_
  ·rw [val_words];exact hb0
  rw [val_words,val_words]
  refine xG ?_
  have hlt:a%b<b:=Nat.mod_lt _ (Nat.pos_of_ne_zero hb0)
  refine aw_stop ⟨(b,a%b),hlt,eB,zZ,hlb,Nat.le_trans (words_len_mono (Nat.le_of_lt hlt)) hlb,?_⟩
  dsimp only
  rw [←hg,Nat.gcd_comm a b,Nat.gcd_rec b a,Nat.gcd_comm]
 ·have hb0:b=0:=by
   have:=of_decide_eq_false hb
   exact words_eq_nil.1 (List.length_eq_zero_iff.1 om)
  subst hb0
  refine xGT hC ?_
  rw [←hg,Nat.gcd_zero_right]
  exact .one (.c ler_ws)
end Go.Proofs.YtfcnbgmclfkfcaaGreat
namespace Go.Proofs.YtfcnbgmclfkfcaaGreat
open Go.AI Go.PN
attribute [local irreducible] aw Fa Fh DrK
theorem bitlen_one {n:Nat}:((bitlen n:Int)==1)=decide (n=1):=by
 rw [Bool.eq_iff_iff]
 simp only [beq_iff_eq,decide_eq_true_eq]
 unfold bitlen
 constructor
 ·intro h
  split at h
  ·omega
  ·rename_i h0
   have h1:Nat.log2 n=0:=by omega
   have h2:=(Nat.log2_lt h0 (k:=1)).1 om
   omega
 ·intro h;subst h;rfl
theorem len_ne {xs:List Nat} (h:xs.length≠0):((xs.length:Int)==0)=false:=by
 rw [beq_eq_false_iff_ne];omega
theorem len_eq {xs:List Nat} (h:xs.length=0):((xs.length:Int)==0)=true:=by rw [h];rfl
set_option maxHeartbeats 1600000 in
theorem svalid_fa (r:RD) (hw:r.wf 34359738368):Fa Tryz.prog 106 [.agg (rdc r)] (.c (.bool r.valid)):=by
 have hl1:=hw.2.2.1
 have hl2:=hw.2.2.2
 refine fa_of_body Tryz.func106 rfl rfl (by simp [Tryz.ntmps106]) fun C hC=> ?_
 simp only [initS,Nat.reduceAdd]
 refine xG ?_
 refine xB fun g1 hn_g1=>?_
 refine yG hn_g1 ?_
 refine aw_dr 8 ty_mixed (by kernel_rfl) ?_
 refine yG hn_g1 ?_
 by_cases hn:r.num.length=0
 ·have hn':=len_eq hn
  by_cases hd:r.den.length=0
  ·have hd':=len_eq hd
   have J1:=oj hn_g1 (oj hn' hd')
   refine yGPGT hC J1 ?_
   exact .one (.c (ler_bool (valid_zero hn' hd')))
  ·have hd':=len_ne hd
   have J2:=oj hn_g1 (oj hn' hd')
   refine yGPGT hC J2 ?_
   refine .one (.c (ler_bool ?_))
   rw [valid_else (.inr hd'),plain_no om,Bool.false_and,Bool.false_and]
 ·have hn':=len_ne hn
  by_cases hd:r.den.length=0
  ·have hd':=len_eq hd
   have J3:=oj hn_g1 (oj hn' hd')
   refine yGPGT hC J3 ?_
   refine .one (.c (ler_bool ?_))
   rw [valid_else (.inl hn'),plain_no (xs:=r.den) om,Bool.and_false,Bool.false_and]
  ·have hd':=len_ne hd
   have J4:=oj hn_g1 (oj hn' hd')
   refine yGNG J4 ?_
   rw [valid_else (.inl hn'),plain_eq (xs:=r.num) om,plain_eq (xs:=r.den) om]
   refine aw_split 35 (zE (oj hn_g1 (oj hn' hd'))) (fun h1=> ?_) (fun h1=> ?_)<;>refine yS (oj hn_g1 (oj hn' hd')) ?_
   ·have J5:=oj hn_g1 (oj hn' hd')
    refine yG J5 ?_
    refine aw_split 44 (zE J5) (fun h2=> ?_) (fun h2=> ?_)<;>refine yS J5 ?_
    ·refine yG J5 ?_
     refine yC J5 (qgcd_fa _ _ hw.1 hw.2.1 ?_ ?_) ?_
     ·omega
     ·omega
     refine yG J5 ?_
     have hg:(words (Nat.gcd (val r.num) (val r.den))).length≤68719476736:=by
      by_cases h:val r.num=0
      ·rw [h,Nat.gcd_zero_left];have:=words_val_len _ hw.2.1;omega
      ·have h3:=words_len_mono (Nat.gcd_le_left (val r.den) (Nat.pos_of_ne_zero h));have:=words_val_len _ hw.1;omega
     refine yC J5 (qbits_fa _ (words_lt _) hg) ?_
     rw [val_words]
     refine yGT hC J5 ?_
     refine .one (.c (ler_bool ?_))
     rw [h1,h2,bitlen_one];rfl
    ·refine yGT hC J5 ?_
     refine .one (.c (ler_bool ?_))
     rw [h2,Bool.and_false,Bool.false_and]
   ·refine yGT hC (oj hn_g1 (oj hn' hd')) ?_
    refine .one (.c (ler_bool ?_))
    rw [h1,Bool.false_and,Bool.false_and]
theorem ler_one {h:Heap} {t:Bool} {g:Nat} {ty:TypeId} (hg:h.get g=some (.cells ty 1 (ofL [.int .u32 1]))):LeR h (.osl g 1 0 1) (ws t [1]):=
 ler_oslws hg om rfl (fun j hj=>by match j,hj with|0,_=>rfl)
set_option maxHeartbeats 1600000 in
theorem sparts_fa (r:RD) (hw:r.wf 1073741824):Fa Tryz.prog 51 [.agg (rdc r)] (partsAV r):=by
 refine fa_of_body Tryz.func51 rfl rfl (by simp [Tryz.ntmps51]) fun C hC=> ?_
 simp only [initS,Nat.reduceAdd]
 refine xG ?_
 refine xB fun g1 hn_g1=>?_
 refine yG hn_g1 ?_
 refine yC hn_g1 (svalid_fa r (wf_mono hw ?_)) ?_
 ·omega
 refine yG hn_g1 ?_
 refine aw_split 8 (zE hn_g1) (fun hv=> ?_) (fun hv=> ?_)<;>refine yS hn_g1 ?_
 ·have hs:=RD.pn_none (none_of (r:=r) (.inl (by simpa using hv)))
  refine yGPG hn_g1 ?_
  refine aw_buildSlice (xs:=[.const (.int .u32 1)]) (cells:=[.int .u32 1]) rfl rfl rfl ty_e_ws (by rw [envP,ty_z_u32];rfl) rfl om om (by intro x hx;simp only [List.mem_cons,List.not_mem_nil,or_false] at hx;subst hx;exact⟨rfl,rfl,rfl⟩) rfl fun g hg=> ?_
  replace hg:=Heap.ne_of hg
  dsimp only [Heap.ne] at hg
  have J1:=oj hn_g1 hg
  refine ySGT hC J1 ?_
  refine .tup ⟨.c (ler_bool hs.2.2.symm),.c ?_,.c ?_,trivial⟩
  ·rw [hs.1];exact .nils
  ·rw [hs.2.1];exact ler_one (zE J1)
 ·have hv':r.valid=true:=by simpa using hv
  refine yG hn_g1 ?_
  refine yF hn_g1 (fun hn=>?_) fun hn=>?_
  ·have hs:=RD.pn_none (none_of (r:=r) (.inr hn))
   refine yG hn_g1 ?_
   refine aw_buildSlice (xs:=[.const (.int .u32 1)]) (cells:=[.int .u32 1]) rfl rfl rfl ty_e_ws (by rw [envP,ty_z_u32];rfl) rfl om om (by intro x hx;simp only [List.mem_cons,List.not_mem_nil,or_false] at hx;subst hx;exact⟨rfl,rfl,rfl⟩) rfl fun g hg=> ?_
   replace hg:=Heap.ne_of hg
   dsimp only [Heap.ne] at hg
   have J2:=oj hn_g1 hg
   refine ySGT hC J2 ?_
   refine .tup ⟨.c (ler_bool hs.2.2.symm),.c ?_,.c ?_,trivial⟩
   ·rw [hs.1];exact .nils
   ·rw [hs.2.1];exact ler_one (zE J2)
  ·have hs:=RD.pn_words hw (some_of hv' hn)
   refine yG hn_g1 ?_
   refine aw_dr 9 ty_mixed (by kernel_rfl) ?_
   refine yGT hC hn_g1 ?_
   refine .tup ⟨.c (ler_bool hs.2.2.symm),.c ?_,.c ?_,trivial⟩
   ·rw [hs.1];exact ler_ws
   ·rw [hs.2.1];exact ler_ws
set_option maxHeartbeats 1600000 in
theorem sfrom_fa (neg:Bool) (xs ys:List Nat) (hx:∀x∈xs,x<4294967296) (hy:∀x∈ys,x<4294967296) (hlx:xs.length≤34359738368) (hly:ys.length≤34359738368) (h0:val ys≠0):
 Fa Tryz.prog 89 [.c (.bool neg),.c (ws false xs),.c (ws false ys)] (.tup [.agg (rdc (rd (sq neg (val xs) (val ys)))),.c (.int .i64 0)]):=by
 refine fa_of_body Tryz.func89 rfl rfl (by simp [Tryz.ntmps89]) fun C hC=> ?_
 simp only [initS,Nat.reduceAdd]
 refine xG ?_
 refine xA fun g6 hn_g6=>?_
 refine yG hn_g6 ?_
 refine yC hn_g6 (qbits_fa ys hy ?_) ?_
 ·omega
 refine yG hn_g6 ?_
 refine yF hn_g6 (fun hb=>?_) fun hb=>?_
 ·exact absurd (bitlen_zero.1 (by have:=eq_of_beq hb;omega)) h0
 refine yG hn_g6 ?_
 refine yC hn_g6 (qbits_fa xs hx ?_) ?_
 ·omega
 refine yG hn_g6 ?_
 refine yF hn_g6 (fun hc=>?_) fun hc=>?_
 ·have hz:val xs=0:=bitlen_zero.1 (by have:=eq_of_beq hc;omega)
  refine yGWSGT hC hn_g6 ?_
  rw [hz,sq_zero,rd_zero]
  exact .tup ⟨.agg ⟨.bool _,.nils,.nils,trivial⟩,.c (.int _ _),trivial⟩
 ·have hz:val xs≠0:=fun e=>by rw [e] at hc;cases hc
  have hg:Nat.gcd (val xs) (val ys)≠0:=fun e=>h0 (Nat.eq_zero_of_gcd_eq_zero_right e)
  have hgl:(words (Nat.gcd (val xs) (val ys))).length≤34359738368:=by
   have h3:=words_len_mono (Nat.gcd_le_left (val ys) (Nat.pos_of_ne_zero hz));have:=words_val_len _ hx;omega
  refine yG hn_g6 ?_
  refine yC hn_g6 (qgcd_fa xs ys hx hy hlx hly) ?_
  refine yG hn_g6 ?_
  refine yC hn_g6 (qdiv_fa xs (words (Nat.gcd (val xs) (val ys))) hx (words_lt _) hlx hgl ?_) ?_
  ·rw [val_words];exact hg
  rw [val_words]
  refine yG hn_g6 ?_
  refine yC hn_g6 (qdiv_fa ys (words (Nat.gcd (val xs) (val ys))) hy (words_lt _) hly hgl ?_) ?_
  ·rw [val_words];exact hg
  rw [val_words]
  refine yGWSGT hC hn_g6 ?_
  rw [rd_sq hz h0]
  exact .tup ⟨.agg ⟨.bool _,ler_ws,ler_ws,trivial⟩,.c (.int _ _),trivial⟩
theorem sfromW (neg:Bool) (n d:Nat) (hn:(words n).length≤34359738368) (hd:(words d).length≤34359738368) (h0:d≠0):
 Fa Tryz.prog 89 [.c (.bool neg),.c (ws false (words n)),.c (ws false (words d))] (.tup [.agg (rdc (rd (sq neg n d))),.c (.int .i64 0)]):=by
 have:=sfrom_fa neg (words n) (words d) (words_lt n) (words_lt d) hn hd (by rw [val_words];exact h0)
 rwa [val_words,val_words] at this
def two (u:Nat):List Nat:=[u%4294967296,u/4294967296]
theorem two_val (u:Nat):val (two u)=u:=by simp only [two,val];omega
theorem two_lt {u:Nat} (h:u<18446744073709551616):∀x∈two u,x<4294967296:=fun x hx=>by
 simp only [two,List.mem_cons,List.not_mem_nil,or_false] at hx
 rcases hx with rfl|rfl<;>omega
theorem wrap_u64_neg {n:Int} (h0: -9223372036854775808≤n) (h1:n<0):wrapZ .u64 (0-wrapZ .u64 n)=(n.natAbs:Int):=by
 rw [wrapZ_eq,wrapZ_eq,IntKind.wrap_u64,IntKind.wrap_u64];omega
theorem wrap_u64_pos {n:Int} (h0:0≤n) (h1:n≤9223372036854775807):wrapZ .u64 n=(n.natAbs:Int):=by
 rw [wrapZ_eq,IntKind.wrap_u64];omega
set_option maxHeartbeats 1600000 in
theorem ssize_fa (n:Int) (h0: -9223372036854775808≤n) (h1:n≤9223372036854775807):Fa Tryz.prog 123 [.c (.int .i64 n)] (.c (ws true (two n.natAbs))):=by
 refine fa_of_body Tryz.func123 rfl rfl (by simp [Tryz.ntmps123]) fun C hC=> ?_
 simp only [initS,Nat.reduceAdd]
 apply aw_seq
 apply aw_region
 refine xH ?_
 apply aw_seq
 apply aw_region
 refine xH ?_
 apply aw_seq
 refine aw_cut (fun _:Unit=>[(3,.c (.int .u64 n.natAbs))]) (fun _=>[]) (fun _=>n≤9223372036854775807) ?_ ?_
 ·refine xG ?_
  refine xF (fun hb=>?_) fun hb=>?_
  ·have hn:n<0:=of_decide_eq_true hb
   have e1:=wrap_u64_neg h0 hn
   refine yG e1 ?_
   exact aw_stop ⟨(),(zB e1),zZ,h1⟩
  ·have hn:0≤n:=dF hb
   have e1:=wrap_u64_pos hn h1
   refine yG e1 ?_
   exact aw_stop ⟨(),(zB e1),zZ,h1⟩
 rintro _ _
 have hu:n.natAbs<18446744073709551616:=by omega
 generalize n.natAbs=u at hu⊢
 have e1:=wrap_u32_nat u
 have e2:=nat_div_32 u
 have e3:wrapZ .u32 ((u/4294967296:Nat):Int)=((u/4294967296:Nat):Int):=by rw [wrap_u32_nat,Nat.mod_eq_of_lt om]
 have J1:=oj e1 (oj e2 e3)
 refine yG J1 ?_
 refine aw_buildSlice (xs:=[.tmp 11,.tmp 14]) (cells:=[.int .u32 (u%4294967296:Nat),.int .u32 (u/4294967296:Nat)]) rfl rfl rfl ty_e_ws (by rw [envP,ty_z_u32];rfl) rfl om om (by intro x hx;simp only [List.mem_cons,List.not_mem_nil,or_false] at hx;rcases hx with rfl|rfl<;>exact⟨rfl,rfl,rfl⟩) rfl fun g hg=> ?_
 refine ySGT hC J1 ?_
 exact .one (.c (ler_oslws (zE J1) (by simp) rfl (fun j hj=>by match j,hj with|0,_=>rfl|1,_=>rfl)))
theorem inv_neg' (d:Rat):(-d)⁻¹= -d⁻¹:=by
 by_cases h:d=0
 ·subst h;rw [Rat.neg_zero,Rat.inv_zero,Rat.neg_zero]
 ·have h1:d*d⁻¹=1:=Rat.mul_inv_cancel d h
  have h2:(-d)*(-d)⁻¹=1:=Rat.mul_inv_cancel (-d) (by grind)
  grind
theorem sq_make (n d:Int):sq (decide (n<0) !=decide (d<0)) n.natAbs d.natAbs=(n:Rat)/(d:Rat):=by
 have e:∀m:Int,((m.natAbs:Int)=m∧¬m<0)∨((m.natAbs:Int)= -m∧m<0):=fun m=>by omega
 unfold sq
 rw [Rat.mkRat_eq_div]
 have hs:((sgn (decide (n<0) !=decide (d<0)) n.natAbs:Int):Rat)/((d.natAbs:Nat):Rat)=(n:Rat)/(d:Rat):=by
  have hd:((d.natAbs:Nat):Rat)=((d.natAbs:Int):Rat):=rfl
  rw [hd]
  unfold sgn
  rcases e n with ⟨h1,h2⟩|⟨h1,h2⟩<;>rcases e d with ⟨h3,h4⟩|⟨h3,h4⟩
  ·simp only [h2,h4,decide_false,bne_self_eq_false,Bool.false_eq_true,if_false,h1,h3]
  ·simp only [h2,h4,decide_false,decide_true,bne,h1,h3]
   simp only [show(false==true)=false from rfl,Bool.not_false,if_true]
   rw [Rat.intCast_neg,Rat.intCast_neg,Rat.div_def,Rat.div_def,inv_neg']
   grind
  ·simp only [h2,h4,decide_false,decide_true,bne,h1,h3]
   simp only [show(true==false)=false from rfl,Bool.not_false,if_true]
   rw [Int.neg_neg]
  ·simp only [h2,h4,decide_true,bne_self_eq_false,Bool.false_eq_true,if_false,h1,h3]
   rw [Rat.intCast_neg,Rat.intCast_neg,Rat.div_def,Rat.div_def,inv_neg']
   grind
 exact hs
end Go.Proofs.YtfcnbgmclfkfcaaGreat
namespace Go.Proofs.YtfcnbgmclfkfcaaGreat
open Go.AI Go.PN
attribute [local irreducible] aw Fa Fh DrK
set_option maxHeartbeats 1600000 in
theorem smake_fa (n d:Int) (h0: -9223372036854775808≤n) (h1:n≤9223372036854775807) (h2: -9223372036854775808≤d) (h3:d≤9223372036854775807) (hd:d≠0):
 Fa Tryz.prog 73 [.c (.int .i64 n),.c (.int .i64 d)] (.tup [.agg (rdc (rd ((n:Rat)/(d:Rat)))),.c (.int .i64 0)]):=by
 refine fa_of_body Tryz.func73 rfl rfl (by simp [Tryz.ntmps73]) fun C hC=> ?_
 simp only [initS,Nat.reduceAdd]
 refine xG ?_
 refine xA fun g4 hn_g4=>?_
 refine yG hn_g4 ?_
 refine yC hn_g4 (ssize_fa n h0 h1) ?_
 refine yG hn_g4 ?_
 refine yC hn_g4 (ssize_fa d h2 h3) ?_
 refine yG hn_g4 ?_
 refine yC hn_g4 (sfrom_fa _ (two n.natAbs) (two d.natAbs) (two_lt ?_) (two_lt ?_) ?_ ?_ ?_) ?_
 ·omega
 ·omega
 ·simp [two]
 ·simp [two]
 ·rw [two_val];omega
 rw [two_val,two_val,sq_make]
 refine yGWSGT hC hn_g4 ?_
 exact .tup ⟨.agg lerl_rd,.c (.int _ _),trivial⟩
set_option maxHeartbeats 1600000 in
theorem sneg_fa (r:RD) (hw:r.wf 1073741824):Fa Tryz.prog 88 [.agg (rdc r)] (.agg (rdc (rd (-r.q)))):=by
 obtain⟨hl1,hl2⟩:=RD.p_len hw om
 refine fa_of_body Tryz.func88 rfl rfl (by simp [Tryz.ntmps88]) fun C hC=> ?_
 simp only [initS,Nat.reduceAdd]
 refine xG ?_
 refine xB fun g1 hn_g1=>?_
 refine yA hn_g1 fun g2 hn_g2=>?_
 have J1:=oj hn_g1 hn_g2
 refine yG J1 ?_
 refine yC J1 (sparts_fa r hw) ?_
 refine yG J1 ?_
 refine yC J1 (sfromW _ r.pn r.pd ?_ ?_ (RD.pd_ne hw)) ?_
 ·omega
 ·omega
 refine yG J1 ?_
 refine yA J1 fun g6 hn_g6=>?_
 have J2:=oj hn_g1 (oj hn_g2 hn_g6)
 refine yGWSG J2 ?_
 refine yW J2 ?_
 refine ySGT hC J2 ?_
 exact ler_rd (by rw [sq_neg];rfl)
set_option maxHeartbeats 1600000 in
theorem ssign_fa (r:RD) (hw:r.wf 1073741824):Fa Tryz.prog 14 [.agg (rdc r)] (.c (.int .i64 (signQ r.q))):=by
 refine fa_of_body Tryz.func14 rfl rfl (by simp [Tryz.ntmps14]) fun C hC=> ?_
 simp only [initS,Nat.reduceAdd]
 refine xG ?_
 refine xB fun g1 hn_g1=>?_
 refine yG hn_g1 ?_
 refine yC hn_g1 (sparts_fa r hw) ?_
 refine yG hn_g1 ?_
 refine yF hn_g1 (fun hb=>?_) fun hb=>?_
 ·refine yGT hC hn_g1 ?_
  exact .one (.c (ler_int (sign_zero hw hb)))
 ·refine yG hn_g1 ?_
  refine yF hn_g1 (fun hp=>?_) fun hp=>?_
  ·refine yGT hC hn_g1 ?_
   refine .one (.c (ler_int ?_))
   rw [sign_some hw hb,hp];rfl
  ·refine yGT hC hn_g1 ?_
   refine .one (.c (ler_int ?_))
   rw [sign_some hw hb,hp];rfl
theorem qmulW (a b:Nat) (ha:(words a).length≤68719476736) (hb:(words b).length≤68719476736):Fa Tryz.prog 90 [.c (ws false (words a)),.c (ws false (words b))] (.c (ws true (words (a*b)))):=by
 have:=qmul_fa (words a) (words b) (words_lt a) (words_lt b) ha hb
 rwa [val_words,val_words] at this
theorem qaddW (a b:Nat) (ha:(words a).length≤68719476736) (hb:(words b).length≤68719476736):Fa Tryz.prog 119 [.c (ws false (words a)),.c (ws false (words b))] (.c (ws true (words (a+b)))):=by
 have:=qadd_fa (words a) (words b) (words_lt a) (words_lt b) ha hb
 rwa [val_words,val_words] at this
theorem qsubW (a b:Nat) (ha:(words a).length≤68719476736) (hb:(words b).length≤68719476736) (h:b≤a):Fa Tryz.prog 121 [.c (ws false (words a)),.c (ws false (words b))] (.tup [.c (ws true (words (a-b))),.c (.int .i64 0)]):=by
 have:=qsub_fa (words a) (words b) (words_lt a) (words_lt b) ha hb (by rw [val_words,val_words];exact h)
 rwa [val_words,val_words] at this
theorem qcmpW (a b:Nat) (ha:(words a).length≤68719476736) (hb:(words b).length≤68719476736):Fa Tryz.prog 120 [.c (ws false (words a)),.c (ws false (words b))] (.c (.int .i64 (cmpN a b))):=by
 have:=qcmp_fa (words a) (words b) (words_lt a) (words_lt b) ha hb
 rwa [val_words,val_words] at this
set_option maxHeartbeats 1600000 in
theorem sadd_fa (a b:RD) (ha:a.wf 1073741824) (hb:b.wf 1073741824):Fa Tryz.prog 71 [.agg (rdc a),.agg (rdc b)] (.agg (rdc (rd (a.q+b.q)))):=by
 obtain⟨l1,l2⟩:=RD.p_len ha om
 obtain⟨l3,l4⟩:=RD.p_len hb om
 have d1:=RD.pd_ne ha
 have d2:=RD.pd_ne hb
 have dd:a.pd*b.pd≠0:=Nat.mul_ne_zero d1 d2
 have m1:=words_mul_len a.pn b.pd
 have m2:=words_mul_len b.pn a.pd
 have m3:=words_mul_len a.pd b.pd
 have m4:=words_add_len (m:=a.pn*b.pd) (n:=b.pn*a.pd) (k:=2147483648) om om
 refine fa_of_body Tryz.func71 rfl rfl (by simp [Tryz.ntmps71]) fun C hC=> ?_
 simp only [initS,Nat.reduceAdd]
 refine xG ?_
 refine xB fun g2 hn_g2=>?_
 refine yB hn_g2 fun g3 hn_g3=>?_
 refine yA (oj hn_g2 hn_g3) fun g4 hn_g4=>?_
 have J1:=oj hn_g2 (oj hn_g3 hn_g4)
 refine yG J1 ?_
 refine yC J1 (sparts_fa a ha) ?_
 refine yG J1 ?_
 refine yC J1 (sparts_fa b hb) ?_
 refine yG J1 ?_
 refine yC J1 (qmulW a.pn b.pd ?_ ?_) ?_
 ·omega
 ·omega
 refine yG J1 ?_
 refine yC J1 (qmulW b.pn a.pd ?_ ?_) ?_
 ·omega
 ·omega
 refine yG J1 ?_
 refine yC J1 (qmulW a.pd b.pd ?_ ?_) ?_
 ·omega
 ·omega
 refine yG J1 ?_
 refine yF J1 (fun hs=>?_) fun hs=>?_
 ·have hs':a.ps=b.ps:=eq_of_beq hs
  refine yG J1 ?_
  refine yC J1 (qaddW _ _ ?_ ?_) ?_
  ·omega
  ·omega
  refine yG J1 ?_
  refine yC J1 (sfromW _ _ _ ?_ ?_ dd) ?_
  ·omega
  ·omega
  refine yG J1 ?_
  refine yA J1 fun g14 hn_g14=>?_
  have J2:=oj hn_g2 (oj hn_g3 (oj hn_g4 hn_g14))
  refine yGWSG J2 ?_
  refine yW J2 ?_
  refine ySGT hC J2 ?_
  refine ler_rd ?_
  rw [sq_add_same _ d1 d2]
  unfold RD.q;rw [hs']
 ·have hs':b.ps= !a.ps:=not_of_bne hs
  refine yG J1 ?_
  refine yC J1 (qcmpW _ _ ?_ ?_) ?_
  ·omega
  ·omega
  refine yG J1 ?_
  refine yF J1 (fun hc=>?_) fun hc=>?_
  ·have hle:a.pn*b.pd≤b.pn*a.pd:=by
    have:=of_decide_eq_true hc
    unfold cmpN at this
    split at this
    ·omega
    ·split at this<;>omega
   have hl5:=words_len_mono (Nat.sub_le (b.pn*a.pd) (a.pn*b.pd))
   refine yG J1 ?_
   refine yC J1 (qsubW _ _ ?_ ?_ hle) ?_
   ·omega
   ·omega
   refine yG J1 ?_
   refine yC J1 (sfromW _ _ _ ?_ ?_ dd) ?_
   ·omega
   ·omega
   refine yG J1 ?_
   refine yA J1 fun g18 hn_g18=>?_
   have J3:=oj hn_g2 (oj hn_g3 (oj hn_g4 hn_g18))
   refine yGWSG J3 ?_
   refine yW J3 ?_
   refine ySGT hC J3 ?_
   refine ler_rd ?_
   rw [hs',sq_add_lt _ d1 d2 hle]
   unfold RD.q;rw [hs']
  ·have hle:b.pn*a.pd≤a.pn*b.pd:=by
    have:=of_decide_eq_false hc
    unfold cmpN at this
    split at this
    ·omega
    ·omega
   have hl5:=words_len_mono (Nat.sub_le (a.pn*b.pd) (b.pn*a.pd))
   refine yG J1 ?_
   refine yC J1 (qsubW _ _ ?_ ?_ hle) ?_
   ·omega
   ·omega
   refine yG J1 ?_
   refine yC J1 (sfromW _ _ _ ?_ ?_ dd) ?_
   ·omega
   ·omega
   refine yG J1 ?_
   refine yA J1 fun g18 hn_g18=>?_
   have J4:=oj hn_g2 (oj hn_g3 (oj hn_g4 hn_g18))
   refine yGWSG J4 ?_
   refine yW J4 ?_
   refine ySGT hC J4 ?_
   refine ler_rd ?_
   rw [sq_add_ge _ d1 d2 hle]
   unfold RD.q;rw [hs']
set_option maxHeartbeats 800000 in
theorem ssub_fa (a b:RD) (ha:a.wf 1073741824) (hb:b.wf 1073741824):Fa Tryz.prog 36 [.agg (rdc a),.agg (rdc b)] (.agg (rdc (rd (a.q-b.q)))):=by
 refine fa_of_body Tryz.func36 rfl rfl (by simp [Tryz.ntmps36]) fun C hC=> ?_
 simp only [initS,Nat.reduceAdd]
 refine xG ?_
 refine xB fun g2 hn_g2=>?_
 refine yB hn_g2 fun g3 hn_g3=>?_
 refine yA (oj hn_g2 hn_g3) fun g4 hn_g4=>?_
 have J1:=oj hn_g2 (oj hn_g3 hn_g4)
 refine yG J1 ?_
 refine aw_dr 4 ty_mixed (by kernel_rfl) ?_
 refine yG J1 ?_
 refine yD J1 (sneg_fa b hb) ?_
 refine yG J1 ?_
 refine yD J1 (sadd_fa a (rd (-b.q)) ha (neg_wf hb)) ?_
 refine yGWSGT hC J1 ?_
 exact ler_rd (by rw [rd_q,Rat.sub_eq_add_neg])
theorem sub_wf {a b:RD} {L:Nat} (hL:1≤L) (ha:a.wf L) (hb:b.wf L) (h:2*L+1≤1073741824):(rd (a.q-b.q)).wf 1073741824:=
 rd_wf (fits_mono (fits_sub (RD.fits ha hL) (RD.fits hb hL)) om)
set_option maxHeartbeats 800000 in
theorem scmp_fa (a b:RD) (ha:a.wf 500000000) (hb:b.wf 500000000):Fa Tryz.prog 30 [.agg (rdc a),.agg (rdc b)] (.c (.int .i64 (signQ (a.q-b.q)))):=by
 refine fa_of_body Tryz.func30 rfl rfl (by simp [Tryz.ntmps30]) fun C hC=> ?_
 simp only [initS,Nat.reduceAdd]
 refine xG ?_
 refine xB fun g2 hn_g2=>?_
 refine yB hn_g2 fun g3 hn_g3=>?_
 have J1:=oj hn_g2 hn_g3
 refine yG J1 ?_
 refine yC J1 (ssub_fa a b (wf_mono ha ?_) (wf_mono hb ?_)) ?_
 ·omega
 ·omega
 refine yG J1 ?_
 refine yC J1 (ssign_fa _ ?_) ?_
 ·exact sub_wf om ha hb om
 rw [rd_q]
 refine yGT hC J1 ?_
 exact .one (.c (.int _ _))
end Go.Proofs.YtfcnbgmclfkfcaaGreat
