/- Parts of one proof, laid by a program. -/
import Derived.Test.YtfcnbgmclfkfcaaGreatM00
import Derived.Test.YtfcnbgmclfkfcaaGreatM09
set_option linter.unusedSimpArgs false
set_option linter.unusedVariables false
namespace Go.Proofs.YtfcnbgmclfkfcaaGreat
open Go.AI Go.PN
attribute [local irreducible] aw Fa Fh DrK
theorem shift_top {t:Nat} (h0:t≠0) (hl:t<4294967296):32-bitlen t<32∧2147483648≤t*2^(32-bitlen t)∧t*2^(32-bitlen t)<4294967296:=by
 have h1:bitlen t≤32:=bitlen_lt (k:=32) hl
 have h2:bitlen t=Nat.log2 t+1:=by unfold bitlen;rw [if_neg h0]
 have h3:=Nat.log2_self_le h0
 have h4:=Nat.lt_log2_self (n:=t)
 have hk:32-bitlen t+bitlen t=32:=by omega
 refine⟨by omega,?_,?_⟩
 ·have:=Nat.mul_le_mul_right (2^(32-bitlen t)) h3
  rw [←Nat.pow_add,show t.log2+(32-bitlen t)=31 from by omega] at this
  exact this
 ·have:=Nat.mul_lt_mul_of_pos_right h4 (Nat.two_pow_pos (32-bitlen t))
  rw [←Nat.pow_add,show t.log2+1+(32-bitlen t)=32 from by omega] at this
  exact this
set_option maxHeartbeats 3200000 in
set_option maxRecDepth 4000 in
theorem div_fa (xs ys:List Nat) (hx:∀x∈xs,x<4294967296) (hy:∀x∈ys,x<4294967296) (hlx:xs.length≤68719476736) (hly:ys.length≤68719476736) (h0:val ys≠0):
 Fa Tryz.prog 152 [.c (ws false xs),.c (ws false ys)] (.tup [.c (ws true (words (val xs/val ys))),.c (ws true (words (val xs%val ys))),.c .nilI]):=by
 refine fa_of_body Tryz.func152 rfl rfl (by simp [Tryz.ntmps152]) fun C hC=> ?_
 simp only [initS,Nat.reduceAdd]
 refine xG ?_
 refine aw_callq (trim_fa xs hx om) rfl rfl rfl eL ?_
 refine xSG ?_
 refine aw_callq (trim_fa ys hy om) rfl rfl rfl eL ?_
 refine xS ?_
 have hla:(words (val xs)).length≤68719476736:=Nat.le_trans (words_val_len xs hx) hlx
 have hlb:(words (val ys)).length≤68719476736:=Nat.le_trans (words_val_len ys hy) hly
 generalize val xs=a at hla⊢
 generalize val ys=b at hlb h0⊢
 have hwa:=words_lt a
 have hwb:=words_lt b
 have hva:=val_words a
 have hvb:=val_words b
 have hbne:(words b).length≠0:=fun e=>h0 (words_eq_nil.1 (List.length_eq_zero_iff.1 e))
 refine xG ?_
 refine aw_cond eE (fun hb=> ?_) (fun _=> ?_)
 ·have:=eq_of_beq hb;omega
 refine xG ?_
 refine aw_callq (cmp_fa (words a) (words b) hwa hwb hla hlb) rfl rfl rfl eL ?_
 refine xS ?_
 rw [hva,hvb]
 refine xG ?_
 refine aw_cond eE (fun hb=> ?_) (fun hb=> ?_)
 ·have hlt:a<b:=by
   have:=of_decide_eq_true hb
   unfold cmpN at this
   split at this
   ·assumption
   ·split at this<;>omega
  refine xGT hC ?_
  rw [Nat.div_eq_of_lt hlt,Nat.mod_eq_of_lt hlt,words_zero]
  exact .tup ⟨.c .nils,.c ler_ws,.c .nilI,trivial⟩
 have hge:b≤a:=by
  have:=of_decide_eq_false hb
  unfold cmpN at this
  split at this
  ·omega
  ·omega
 have hlab:(words b).length≤(words a).length:=words_len_mono hge
 refine xG ?_
 refine aw_cond eE (fun hb=> ?_) (fun hb=> ?_)
 ·have hl1:(words b).length=1:=by have:=eq_of_beq hb;omega
  have hbw:b=(words b).getD 0 0:=by
   match hws:words b,hl1 with
   |[w],_=>rw [hws,val_one] at hvb;exact hvb.symm
  have hb32:=getD_lt hwb 0
  refine xG ?_
  refine aw_callq (small_fa (words a) ((words b).getD 0 0) hwa hla om hb32) rfl rfl rfl eL ?_
  refine xS ?_
  rw [hva,←hbw]
  have hml:a%b<4294967296:=by have:=Nat.mod_lt a (show 0<b from by omega);omega
  refine xG ?_
  refine aw_callq (of_fa ((a%b:Nat):Int) om om) rfl rfl rfl eL ?_
  refine xSGT hC ?_
  exact .tup ⟨.c ler_ws,.c ler_ws,.c .nilI,trivial⟩
 have hl2:(words b).length≠1:=fun e=>by rw [e] at hb;cases hb
 obtain⟨k,hk⟩:∃k,(words b).length=k+2:=⟨(words b).length-2,by omega⟩
 have htop:(words b).getD ((words b).length-1) 0≠0:=(words_plain b).resolve_left (fun e=>by rw [e] at hbne;exact hbne rfl)
 have htl:=getD_lt hwb ((words b).length-1)
 obtain⟨hn,hn1,hn2⟩:=shift_top htop htl
 refine xG ?_
 refine aw_callq (lead_fa _ htl) rfl rfl rfl eL ?_
 refine xS ?_
 generalize hnn:32-bitlen ((words b).getD ((words b).length-1) 0)=n at hn hn1 hn2⊢
 refine xG ?_
 refine aw_callh (left_fh (words b) n hwb hlb hn) rfl rfl rfl (.refl _) eL ?_
 rintro r h' ⟨gv,vs,rfl,rfl,hvl,hvw,hvv⟩ hfr
 refine xSG ?_
 have hkk:(words b).length-1=k+1:=by omega
 rw [hkk] at hn1 hn2
 obtain⟨hv1,hv2,hv3⟩:=norm_top (n:=n) hwb hk om hn1 hn2 hvw om hvv
 refine aw_frzw (t:=10) (ys:=vs.take (k+2)) eE eE om (hC gv) (by simp;omega) (fun j hj=>by rw [Nat.zero_add,getD_take om]) eE eE ?_
 refine aw_weak (σ':=[(0,.c (ws true (words a))),(9,.c (.int .i64 n)),(10,.c (ws true (vs.take (k+2)))),(59,.c (ws true (words a))),(60,.c (.int .i64 n))]) (h':=[]) (Sl.sub_le eB) zZ ?_
 have hvvl:(vs.take (k+2)).length=k+2:=by simp;omega
 have hvvw:∀x∈vs.take (k+2),x<4294967296:=fun x hx=>hvw x (List.mem_of_mem_take hx)
 rw [←getD_take (show k+1<k+2 from by omega)] at hv2
 rw [hvb] at hv1 hv3
 generalize vs.take (k+2)=v at hv1 hv2 hvvl hvvw⊢
 refine aw_callh (left_fh (words a) n hwa hla hn) rfl rfl rfl (.refl _) eL ?_
 rintro r h' ⟨gu,us,rfl,rfl,hul,huw,huv⟩ hfr
 refine xSG ?_
 refine aw_dr 16 ty_mixed (by kernel_rfl) ?_
 have hb1:=getD_lt hvvw (v.length-1)
 have hb2:=getD_lt hvvw (v.length-2)
 have e2:((v.length:Int)-2).toNat=v.length-2:=by omega
 refine yI e2 ?_
 have hvm1:v.length-1=k+1:=by omega
 have hvm2:v.length-2=k:=by omega
 rw [hvm1] at hb1
 rw [hvm2] at hb2
 have eq0:(((words a).length+1:Nat):Int)-(v.length:Int)=(((words a).length+1-(k+2):Nat):Int):=by omega
 rw [hvm1,hvm2,eq0]
 refine aw_make (n:=(words a).length+1-(k+2)) (c:=(words a).length+1-(k+2)) rfl rfl rfl ty_e_ws ty_z_u32 rfl om eE eE rfl rfl om om om fun gq hgq=> ?_
 rw [make_wf ((words a).length+1-(k+2))]
 have hne:¬gq=gu:=fun e=>hgq (by simp [Heap.keys,e])
 have hne2:¬gu=gq:=fun e=>hne e.symm
 refine xS ?_
 refine xI ?_
 have hst:=div_start (n:=n) (words_pow_lt a) (words_pow_le h0) hlab om
 rw [hva] at huv
 rw [hk,←hv1] at hst
 rw [←huv] at hst
 rw [←hv1] at hv3
 generalize (words a).length=la at hla hlab hul eq0 hst⊢
 apply aw_block
 generalize hlq:la+1-(k+2)=lq at hst⊢
 refine aw_lp (fun x:Nat×List Nat×List Nat=>[(4,.c (.osl gq 1 0 lq)),(9,.c (.int .i64 n)),(10,.c (ws true v)),(11,.c (.osl gu 1 0 (la+1))),(12,.c (.int .u64 (v.getD (k+1) 0:Nat))),(13,.c (.int .u64 (v.getD k 0:Nat))),(14,.c (.int .i64 ((x.1:Int)-1)))])
  (fun x=>[(gq,.cells 130 lq (wf x.2.2)),(gu,.cells 130 (la+1) (wf x.2.1))])
  (fun x=>x.1≤lq∧x.2.1.length=la+1∧(∀y∈x.2.1,y<4294967296)∧x.2.2.length=lq∧(∀y∈x.2.2,y<4294967296)∧val x.2.1<val v*4294967296^x.1∧a*2^n=val x.2.1+val v*(4294967296^x.1*val (x.2.2.drop x.1))) (fun x=>x.1) (lq,us,List.replicate lq 0) eB zZ
  ⟨Nat.le_refl _,hul,huw,by simp,replicate_lt _,hst,by simp [val,huv]⟩ ?_
 clear hst huv huw hul hfr hgq us
 rintro ⟨m,us,qs⟩ ⟨hm,hul,huw,hql,hqw,hlt,hA⟩
 dsimp only at hm hul huw hql hqw hlt hA⊢
 refine xI ?_
 refine aw_cond eE (fun hb=> ?_) (fun hb=> ?_)
 ·have hm1:1≤m:=dT hb
  obtain⟨j,rfl⟩:∃j,m=j+1:=⟨m-1,by omega⟩
  have e14:((j+1:Nat):Int)-1=(j:Int):=by omega
  rw [e14]
  have hLL:j+(k+2)+1≤us.length:=by omega
  obtain⟨w1,w2,w3,w4⟩:=window (V:=val v) huw hLL hv3 hlt
  have hWl:((us.drop j).take (k+2+1)).length=k+3:=by simp;omega
  have hWw:∀x∈(us.drop j).take (k+2+1),x<4294967296:=fun x hx=>huw x (List.mem_of_mem_drop (List.mem_of_mem_take hx))
  have t3:=top3 hWl
  rw [win_getD' om,win_getD' om,win_getD' om] at t3
  have t3l:=val_take_lt _ hWw k om
  have t2:=top2 hvvl
  have t2l:=val_take_lt _ hvvw k om
  have hhead:=head_le t2 hb2 t2l t3 w4
  have hw0:=getD_lt huw (j+(k+2))
  have hw1:=getD_lt huw (j+(k+1))
  have hw2:=getD_lt huw (j+k)
  have hVpos:0<val v:=by rw [hv1];exact Nat.mul_pos (Nat.pos_of_ne_zero h0) (Nat.two_pow_pos n)
  have e3:((j:Int)+((k+2:Nat):Int)-1).toNat=j+(k+1):=by omega
  have e4:((j:Int)+((k+2:Nat):Int)-2).toNat=j+k:=by omega
  have e5:((j:Int)+((k+2:Nat):Int)+1).toNat=j+(k+3):=by omega
  apply aw_skip
  apply aw_seq
  apply aw_block
  apply aw_seq
  refine aw_dr 20 ty_mixed (by kernel_rfl) ?_
  refine yI (oj hvvl (oj e3 (oj e4 (oj e5 (oj hne (oj hne2 @Nat.add_sub_cancel_left)))))) ?_
  rw [shl_u64_32 _ hw0,or_u64_j32 _ _ hw0 hw1]
  have hhl:j32 (us.getD (j+(k+2)) 0) (us.getD (j+(k+1)) 0)<18446744073709551616:=by unfold j32;omega
  have hhv:j32 (us.getD (j+(k+2)) 0) (us.getD (j+(k+1)) 0)≤v.getD (k+1) 0*4294967296+us.getD (j+(k+1)) 0:=by unfold j32;omega
  replace t3:val ((us.drop j).take (k+2+1))=(j32 (us.getD (j+(k+2)) 0) (us.getD (j+(k+1)) 0)*4294967296+us.getD (j+k) 0)*4294967296^k+val (((us.drop j).take (k+2+1)).take k):=t3
  generalize j32 (us.getD (j+(k+2)) 0) (us.getD (j+(k+1)) 0)=hd at t3 hhl hhv⊢
  have gs:=guess_start t2 om t3 hw2 t3l
  generalize hWv:val ((us.drop j).take (k+2+1))=W at t3 gs w1 w4
  have hhq:hd/v.getD (k+1) 0*v.getD (k+1) 0+hd%v.getD (k+1) 0=hd:=by rw [Nat.mul_comm];exact Nat.div_add_mod _ _
  have hhr:hd%v.getD (k+1) 0<v.getD (k+1) 0:=Nat.mod_lt _ om
  refine aw_dr 8 ty_mixed (by kernel_rfl) ?_
  have J1:=oj hvvl (oj e3 (oj e4 (oj e5 (oj hne (oj hne2 @Nat.add_sub_cancel_left)))))
  refine yI J1 ?_
  rw [quo_u64 _ _ hhl,rem_nat]
  refine aw_weak (σ':=[(4,.c (.osl gq 1 0 lq)),(9,.c (.int .i64 n)),(10,.c (ws true v)),(11,.c (.osl gu 1 0 (la+1))),(12,.c (.int .u64 (v.getD (k+1) 0:Nat))),(13,.c (.int .u64 (v.getD k 0:Nat))),(14,.c (.int .i64 j)),(16,.c (.int .u64 (hd/v.getD (k+1) 0:Nat))),(17,.c (.int .u64 (hd%v.getD (k+1) 0:Nat)))]) (h':=[(gq,.cells 130 lq (wf qs)),(gu,.cells 130 (la+1) (wf us))]) (Sl.sub_le (zB J1)) zZ ?_
  refine aw_cut (fun g:Nat=>[(4,.c (.osl gq 1 0 lq)),(9,.c (.int .i64 n)),(10,.c (ws true v)),(11,.c (.osl gu 1 0 (la+1))),(12,.c (.int .u64 (v.getD (k+1) 0:Nat))),(13,.c (.int .u64 (v.getD k 0:Nat))),(14,.c (.int .i64 j)),(16,.c (.int .u64 g))]) (fun _=>[(gq,.cells 130 lq (wf qs)),(gu,.cells 130 (la+1) (wf us))]) (fun g=>W/val v≤g∧g*val v<W+val v∧g<4294967296) ?_ ?_
  ·apply aw_block
   refine aw_lp (fun x:Nat×Nat=>[(4,.c (.osl gq 1 0 lq)),(9,.c (.int .i64 n)),(10,.c (ws true v)),(11,.c (.osl gu 1 0 (la+1))),(12,.c (.int .u64 (v.getD (k+1) 0:Nat))),(13,.c (.int .u64 (v.getD k 0:Nat))),(14,.c (.int .i64 j)),(16,.c (.int .u64 x.1)),(17,.c (.int .u64 x.2))]) (fun _=>[(gq,.cells 130 lq (wf qs)),(gu,.cells 130 (la+1) (wf us))])
    (fun x=>W/val v≤x.1∧x.1*v.getD (k+1) 0+x.2=hd∧x.2<4294967296) (fun x=>x.1) (hd/v.getD (k+1) 0,hd%v.getD (k+1) 0) (zB (oj hvvl (oj e3 (oj e4 (oj e5 (oj hne (oj hne2 @Nat.add_sub_cancel_left))))))) zZ ⟨gs,hhq,by dsimp only;omega⟩ ?_
   rintro ⟨g,rest⟩ ⟨hg1,hg2,hg3⟩
   dsimp only at hg1 hg2 hg3⊢
   apply aw_seq
   apply aw_seq
   refine aw_cut (fun tt:Bool=>[(4,.c (.osl gq 1 0 lq)),(9,.c (.int .i64 n)),(10,.c (ws true v)),(11,.c (.osl gu 1 0 (la+1))),(12,.c (.int .u64 (v.getD (k+1) 0:Nat))),(13,.c (.int .u64 (v.getD k 0:Nat))),(14,.c (.int .i64 j)),(16,.c (.int .u64 g)),(17,.c (.int .u64 rest)),(133,.c (.bool tt))]) (fun _=>[(gq,.cells 130 lq (wf qs)),(gu,.cells 130 (la+1) (wf us))])
    (fun tt=>(tt=true→W/val v<g)∧(tt=false→g<4294967296∧g*v.getD k 0≤rest*4294967296+us.getD (j+k) 0)) ?_ ?_
   ·by_cases hgB:g<4294967296
    ·have hdec:decide ((g:Int)≥4294967296)=false:=by simp;omega
     have hmb:=mul_bound hgB hb2
     have J2:=oj hvvl (oj e3 (oj e4 (oj e5 (oj hne (oj hne2 (oj @Nat.add_sub_cancel_left hdec))))))
     refine yI J2 ?_
     rw [shl_u64_32 _ hg3,or_u64_j32 _ _ hg3 hw2]
     refine aw_stop ⟨_,(zB J2),zZ,fun h=> ?_,fun h=>⟨hgB,?_⟩⟩
     ·have:=of_decide_eq_true h
      unfold j32 at this
      have hlt2:=guess_down (D:=4294967296^k) (V:=val v) (v2:=v.getD k 0) (by rw [t2];exact Nat.le_add_right _ _) t3 t3l hg2 (by rw [←Int.natCast_mul] at this;omega)
      exact(Nat.div_lt_iff_lt_mul hVpos).2 hlt2
     ·have:=of_decide_eq_false h
      unfold j32 at this
      rw [←Int.natCast_mul] at this
      omega
    ·have hdec:decide ((g:Int)≥4294967296)=true:=by simp;omega
     have J3:=oj hvvl (oj e3 (oj e4 (oj e5 (oj hne (oj hne2 (oj @Nat.add_sub_cancel_left hdec))))))
     refine yI J3 ?_
     refine aw_stop ⟨true,(zB J3),zZ,fun _=> ?_,fun h=>by cases h⟩
     have:W/val v<4294967296:=(Nat.div_lt_iff_lt_mul hVpos).2 (by rw [Nat.mul_comm];exact w4)
     omega
   ·rintro tt ⟨htt,htf⟩
    refine aw_cond (zE (oj hvvl (oj e3 (oj e4 (oj e5 (oj hne (oj hne2 @Nat.add_sub_cancel_left))))))) (fun h=> ?_) (fun h=> ?_)
    ·have hgt:=htt h
     have hg0:0<g:=Nat.lt_of_le_of_lt (Nat.zero_le _) hgt
     have hgle:g≤g*v.getD (k+1) 0:=Nat.le_mul_of_pos_right g om
     have hgm:(g-1)*v.getD (k+1) 0+(rest+v.getD (k+1) 0)=hd:=by
      obtain⟨g',rfl⟩:∃g',g=g'+1:=⟨g-1,by omega⟩
      rw [Nat.add_mul,Nat.one_mul] at hg2
      simp only [Nat.add_sub_cancel]
      omega
     refine yG (oj hvvl (oj e3 (oj e4 (oj e5 (oj hne (oj hne2 @Nat.add_sub_cancel_left)))))) ?_
     have eg:(g:Int)-1=((g-1:Nat):Int):=by omega
     have er:(rest:Int)+((v.getD (k+1) 0:Nat):Int)=((rest+v.getD (k+1) 0:Nat):Int):=by omega
     rw [eg,er]
     refine aw_cond (zE (oj hvvl (oj e3 (oj e4 (oj e5 (oj hne (oj hne2 @Nat.add_sub_cancel_left))))))) (fun h=> ?_) (fun h=> ?_)
     ·have hr:=of_decide_eq_true h
      have J4:=oj hvvl (oj e3 (oj e4 (oj e5 (oj hne (oj hne2 @Nat.add_sub_cancel_left)))))
      refine yI J4 ?_
      have hgs:=guess_small hhv hw1 hgm om
      refine aw_stop ⟨g-1,(zB J4),zZ,by omega,?_,hgs⟩
      refine guess_up t2 t2l om t3 hgm hgs ?_
      have m1:=mul_bound hgs hb2
      have m2:4294967296*4294967296≤(rest+v.getD (k+1) 0)*4294967296:=Nat.mul_le_mul_right _ om
      omega
     ·have hr:=of_decide_eq_false h
      have J5:=oj hvvl (oj e3 (oj e4 (oj e5 (oj hne (oj hne2 @Nat.add_sub_cancel_left)))))
      refine yI J5 ?_
      refine aw_stop ⟨(g-1,rest+v.getD (k+1) 0),by dsimp only;omega,(zB J5),zZ,by dsimp only;omega,hgm,by dsimp only;omega⟩
    ·obtain⟨hf1,hf2⟩:=htf h
     have J6:=oj hvvl (oj e3 (oj e4 (oj e5 (oj hne (oj hne2 @Nat.add_sub_cancel_left)))))
     refine yI J6 ?_
     exact aw_stop ⟨g,(zB J6),zZ,hg1,guess_up t2 t2l om t3 hg2 hf1 hf2,hf1⟩
  ·rintro g ⟨hg1,hg2,hg3⟩
   have hqd:W/val v<4294967296:=(Nat.div_lt_iff_lt_mul hVpos).2 (by rw [Nat.mul_comm];exact w4)
   apply aw_seq
   refine aw_cut (fun zs:List Nat=>[(4,.c (.osl gq 1 0 lq)),(9,.c (.int .i64 n)),(10,.c (ws true v)),(11,.c (.osl gu 1 0 (la+1))),(12,.c (.int .u64 (v.getD (k+1) 0:Nat))),(13,.c (.int .u64 (v.getD k 0:Nat))),(14,.c (.int .i64 j)),(16,.c (.int .u64 (W/val v:Nat)))]) (fun zs=>[(gu,.cells 130 (la+1) (wf (win us j zs))),(gq,.cells 130 lq (wf qs))])
    (fun zs=>zs.length=k+3∧(∀y∈zs,y<4294967296)∧val zs+(W/val v)*val v=W∧val zs<val v) ?_ ?_
   ·have J7:=oj hvvl (oj e3 (oj e4 (oj e5 (oj hne (oj hne2 @Nat.add_sub_cancel_left)))))
    refine yI J7 ?_
    have tf:=take_fh gu j (k+3) g us _ v rfl om huw hvvw om hg3 om
    rw [hul] at tf
    refine aw_callh tf rfl rfl rfl (.swap _ _ []) (zL J7) ?_
    rintro r h' ⟨bb,zs,rfl,rfl,hzl,hzw,hbb,hzv⟩ hfr
    rw [hWv] at hzv
    have hzlt:=val_lt zs hzw
    rw [hzl] at hzlt
    refine yS J7 ?_
    refine yI J7 ?_
    refine aw_cond (zE J7) (fun h=> ?_) (fun h=> ?_)
    ·have hb1':bb=1:=by have:=eq_of_beq h;omega
     subst hb1'
     have hg0:1≤g:=by
      rcases Nat.eq_zero_or_pos g with e|e
      ·exfalso;rw [e,Nat.zero_mul] at hzv;omega
      ·exact e
     refine yI (oj hvvl (oj e3 (oj e4 (oj e5 (oj hne (oj hne2 @Nat.add_sub_cancel_left)))))) ?_
     have eg:(g:Int)-1=((g-1:Nat):Int):=by omega
     rw [eg]
     have hwl:(win us j zs).length=la+1:=by rw [win_length om,hul]
     have gf:=give_fh gu j (k+3) (win us j zs) zs v (win_of_win om hzl) om (win_lt huw hzw) hvvw om om
     rw [hwl] at gf
     refine aw_callh gf rfl rfl rfl (.refl _) (zL (oj hvvl (oj e3 (oj e4 (oj e5 (oj hne (oj hne2 @Nat.add_sub_cancel_left))))))) ?_
     rintro r h' ⟨cc,zs2,rfl,rfl,hzl2,hzw2,hzv2⟩ hfr
     have hzlt2:=val_lt zs2 hzw2
     rw [hzl2] at hzlt2
     have hVP:val v≤4294967296^(k+3):=by
      rw [Nat.pow_succ]
      omega
     obtain⟨d1,d2,d3,d4⟩:=digit_back hVpos hVP hg1 hg2 hzlt hzlt2 hzv hzv2
     rw [win_win om om,d4]
     have J8:=oj hvvl (oj e3 (oj e4 (oj e5 (oj hne (oj hne2 @Nat.add_sub_cancel_left)))))
     refine yS J8 ?_
     refine yI J8 ?_
     exact aw_stop ⟨zs2,(zB J8),zZ,hzl2,hzw2,d2,d3⟩
    ·have hb0:bb=0:=by
      have:¬((bb:Int)=1):=fun e=>by rw [e] at h;cases h
      omega
     subst hb0
     obtain⟨d1,d2,d3⟩:=digit_ok hVpos hg1 hg2 hzv
     subst d3
     have J9:=oj hvvl (oj e3 (oj e4 (oj e5 (oj hne (oj hne2 @Nat.add_sub_cancel_left)))))
     refine yI J9 ?_
     exact aw_stop ⟨zs,(zB J9),zZ,hzl,hzw,d1,d2⟩
   ·rintro zs ⟨hzl,hzw,hz1,hz2⟩
    refine yI (oj hvvl (oj e3 (oj e4 (oj e5 (oj hne (oj hne2 @Nat.add_sub_cancel_left)))))) ?_
    rw [wrap_u32_nat,Nat.mod_eq_of_lt hqd]
    have J10:=oj hvvl (oj e3 (oj e4 (oj e5 (oj hne (oj hne2 @Nat.add_sub_cancel_left)))))
    refine yW J10 ?_
    refine yS J10 ?_
    rw [updF_wf om]
    refine aw_perm (.swap _ _ []) ?_
    refine yI J10 ?_
    have hwv:val (win us j zs)=val (us.take j)+4294967296^j*val zs:=by
     rw [val_win om,hzl,w3,Nat.mul_zero,Nat.add_zero]
    have hds:=drop_set (zs:=qs) (i:=j) (v:=W/val v) om
    have hpw:4294967296^(j+1)=4294967296^j*4294967296:=Nat.pow_succ ..
    rw [hpw] at hA
    obtain⟨s1,s2⟩:=div_step (A:=a*2^n) w1 w2 hz1 hz2 hA rfl
    refine aw_stop ⟨(j,win us j zs,qs.set j (W/val v)),by dsimp only;omega,(zB (oj hvvl (oj e3 (oj e4 (oj e5 (oj hne (oj hne2 @Nat.add_sub_cancel_left))))))),zZ,by dsimp only;omega,by rw [win_length om];exact hul,win_lt huw hzw,by simpa using hql,set_lt hqw hqd,?_,?_⟩
    ·dsimp only;rw [hwv];exact s1
    ·dsimp only;rw [hwv,hds,val];exact s2
 ·have hm0:m=0:=dF hb
  subst hm0
  simp only [Nat.pow_zero,Nat.mul_one,Nat.one_mul,List.drop_zero] at hlt hA
  rw [hv1] at hlt hA
  obtain⟨hq,hr⟩:=div_end (Nat.pos_of_ne_zero h0) hlt hA
  have J11:=oj hne hne2
  refine yG J11 ?_
  refine aw_callq (trim_fa qs hqw om) rfl rfl rfl (by refine yS J11 ?_;exact .c (lec_oslws (zE J11) om om (fun j _=>by rw [Nat.zero_add];rfl))) ?_
  refine ySG J11 ?_
  refine aw_callq (right_fa us n huw om hn) rfl rfl rfl (by refine yS J11 ?_;exact⟨.c (lec_oslws (zE J11) om om (fun j _=>by rw [Nat.zero_add];rfl)),.c (.refl _)⟩) ?_
  refine ySG J11 ?_
  refine aw_callq (trim_fa (rgt n us) (rgt_lt n us) (by rw [rgt_length];omega)) rfl rfl rfl (zL J11) ?_
  refine ySGT hC J11 ?_
  rw [rgt_val om us huw,hr,hq]
  exact .tup ⟨.c ler_ws,.c ler_ws,.c .nilI,trivial⟩
end Go.Proofs.YtfcnbgmclfkfcaaGreat
namespace Go.Proofs.YtfcnbgmclfkfcaaGreat
open Go.AI Go.PN
attribute [local irreducible] aw Fa Fh DrK
set_option maxHeartbeats 1600000 in
theorem gcd_fa (xs ys:List Nat) (hx:∀x∈xs,x<4294967296) (hy:∀x∈ys,x<4294967296) (hlx:xs.length≤68719476736) (hly:ys.length≤68719476736):
 Fa Tryz.prog 151 [.c (ws false xs),.c (ws false ys)] (.c (ws true (words (Nat.gcd (val xs) (val ys))))):=by
 refine fa_of_body Tryz.func151 rfl rfl (by simp [Tryz.ntmps151]) fun C hC=> ?_
 simp only [initS,Nat.reduceAdd]
 refine xG ?_
 refine aw_callq (trim_fa xs hx om) rfl rfl rfl eL ?_
 refine xSG ?_
 refine aw_callq (trim_fa ys hy om) rfl rfl rfl eL ?_
 refine xS ?_
 have hla:(words (val xs)).length≤68719476736:=Nat.le_trans (words_val_len xs hx) hlx
 have hlb:(words (val ys)).length≤68719476736:=Nat.le_trans (words_val_len ys hy) hly
 refine xI ?_
 apply aw_block
 refine aw_lp (fun x:Nat×Nat=>[(0,.c (ws true (words x.1))),(1,.c (ws true (words x.2)))]) (fun _=>[]) (fun x=>(words x.1).length≤68719476736∧(words x.2).length≤68719476736∧Nat.gcd x.1 x.2=Nat.gcd (val xs) (val ys)) (fun x=>x.2) (val xs,val ys) eB zZ ⟨hla,hlb,rfl⟩ ?_
 rintro ⟨a,b⟩ ⟨hla,hlb,hg⟩
 dsimp only at hla hlb hg⊢
 refine xG ?_
 refine aw_cond eE (fun hb=> ?_) (fun hb=> ?_)
 ·have hb0:b≠0:=fun e=>by have:=of_decide_eq_true hb;rw [e,words_zero] at this;simp at this
  refine xG ?_
  refine aw_callq (div_fa (words a) (words b) (words_lt a) (words_lt b) hla hlb (by rw [val_words];exact hb0)) rfl rfl rfl eL ?_
  rw [val_words,val_words]
  refine xSG ?_
  have hlt:a%b<b:=Nat.mod_lt _ (Nat.pos_of_ne_zero hb0)
  refine aw_stop ⟨(b,a%b),hlt,eB,zZ,hlb,Nat.le_trans (words_len_mono (Nat.le_of_lt hlt)) hlb,?_⟩
  dsimp only
  rw [←hg,Nat.gcd_comm a b,Nat.gcd_rec b a,Nat.gcd_comm]
 ·have hb0:b=0:=by
   have:=of_decide_eq_false hb
   exact words_eq_nil.1 (List.length_eq_zero_iff.1 om)
  subst hb0
  refine xGT hC ?_
  rw [←hg,Nat.gcd_zero_right]
  exact .one (.c ler_ws)
end Go.Proofs.YtfcnbgmclfkfcaaGreat
namespace Go.PN
structure RD where
 neg:Bool
 num:List Nat
 den:List Nat
def RD.wf (r:RD) (L:Nat):Prop:=(∀x∈r.num,x<4294967296)∧(∀x∈r.den,x<4294967296)∧r.num.length≤L∧r.den.length≤L
def plainB (xs:List Nat):Bool:=decide (0<xs.length)&& !decide (xs.getD (xs.length-1) 0=0)
def RD.valid (r:RD):Bool:=if r.num.length=0∧r.den.length=0 then !r.neg else plainB r.num&&plainB r.den&&decide (Nat.gcd (val r.num) (val r.den)=1)
def RD.some (r:RD):Bool:=r.valid&&decide (r.num.length≠0)
def RD.pn (r:RD):Nat:=if r.some then val r.num else 0
def RD.pd (r:RD):Nat:=if r.some then val r.den else 1
def RD.ps (r:RD):Bool:=if r.some then r.neg else false
def sgn (neg:Bool) (n:Nat):Int:=if neg then-(n:Int) else n
def sq (neg:Bool) (n d:Nat):Rat:=mkRat (sgn neg n) d
def RD.q (r:RD):Rat:=sq r.ps r.pn r.pd
def rd (q:Rat):RD:=⟨decide (q.num<0),words q.num.natAbs,if q.num=0 then [] else words q.den⟩
theorem sgn_abs (b:Bool) (n:Nat):(sgn b n).natAbs=n:=by unfold sgn;cases b<;>simp
theorem sgn_neg (b:Bool) (n:Nat):sgn (!b) n= -sgn b n:=by unfold sgn;cases b<;>simp
theorem sgn_mul (a b:Bool) (n m:Nat):sgn (a !=b) (n*m)=sgn a n*sgn b m:=by unfold sgn;cases a<;>cases b<;>simp [Int.natCast_mul,Int.neg_mul,Int.mul_neg]
theorem mkRat_nd {n:Int} {d:Nat} (hd:d≠0):(mkRat n d).num=n/(n.natAbs.gcd d:Nat)∧(mkRat n d).den=d/n.natAbs.gcd d:=by
 rw [←Rat.normalize_eq_mkRat hd,Rat.normalize_eq]
 exact⟨rfl,rfl⟩
theorem plain_words {xs:List Nat} (hx:∀x∈xs,x<4294967296) (hp:plainB xs=true):words (val xs)=xs∧val xs≠0:=by
 simp only [plainB,Bool.and_eq_true,decide_eq_true_eq,Bool.not_eq_true',decide_eq_false_iff_not] at hp
 have h:=words_val hx (.inr hp.2)
 refine⟨h,fun e=> ?_⟩
 rw [e,words_zero] at h
 rw [←h] at hp
 simp at hp
theorem RD.some_spec {r:RD} {L:Nat} (hw:r.wf L) (hs:r.some=true):words (val r.num)=r.num∧words (val r.den)=r.den∧val r.num≠0∧val r.den≠0∧Nat.gcd (val r.num) (val r.den)=1:=by
 simp only [RD.some,Bool.and_eq_true,decide_eq_true_eq] at hs
 obtain⟨hv,hn⟩:=hs
 unfold RD.valid at hv
 rw [if_neg (fun h=>hn h.1)] at hv
 simp only [Bool.and_eq_true,decide_eq_true_eq] at hv
 obtain⟨⟨h1,h2⟩,h3⟩:=hv
 have p1:=plain_words hw.1 h1
 have p2:=plain_words hw.2.1 h2
 exact⟨p1.1,p2.1,p1.2,p2.2,h3⟩
theorem RD.pd_ne {r:RD} {L:Nat} (hw:r.wf L):r.pd≠0:=by
 unfold RD.pd
 split
 ·rename_i h;exact(RD.some_spec hw h).2.2.2.1
 ·simp
theorem words_one:words 1=[1]:=by rw [words_cons om];simp [words_zero]
theorem RD.pn_words {r:RD} {L:Nat} (hw:r.wf L) (hs:r.some=true):words r.pn=r.num∧words r.pd=r.den∧r.ps=r.neg:=by
 obtain⟨h1,h2,_⟩:=RD.some_spec hw hs
 unfold RD.pn RD.pd RD.ps
 simp only [hs,if_true]
 exact⟨h1,h2,trivial⟩
theorem RD.pn_none {r:RD} (hs:r.some=false):words r.pn=[]∧words r.pd=[1]∧r.ps=false:=by
 unfold RD.pn RD.pd RD.ps
 simp [hs,words_zero,words_one]
theorem RD.p_len {r:RD} {L:Nat} (hw:r.wf L) (hL:1≤L):(words r.pn).length≤L∧(words r.pd).length≤L:=by
 cases hs:r.some with
 |true=>obtain⟨h1,h2,_⟩:=RD.pn_words hw hs;rw [h1,h2];exact⟨hw.2.2.1,hw.2.2.2⟩
 |false=>obtain⟨h1,h2,_⟩:=RD.pn_none hs;rw [h1,h2];exact⟨by simp,by simpa using hL⟩
theorem rd_sq {neg:Bool} {n d:Nat} (hn:n≠0) (hd:d≠0):rd (sq neg n d)=⟨neg,words (n/Nat.gcd n d),words (d/Nat.gcd n d)⟩:=by
 obtain⟨h1,h2⟩:=mkRat_nd (n:=sgn neg n) hd
 rw [sgn_abs] at h1 h2
 have hg:0<Nat.gcd n d:=Nat.gcd_pos_of_pos_left _ (Nat.pos_of_ne_zero hn)
 have hdv:Nat.gcd n d∣n:=Nat.gcd_dvd_left n d
 have hq:0<n/Nat.gcd n d:=Nat.div_pos (Nat.le_of_dvd (Nat.pos_of_ne_zero hn) hdv) hg
 have hnum:(sq neg n d).num=sgn neg (n/Nat.gcd n d):=by
  unfold sq
  rw [h1]
  unfold sgn
  cases neg with
  |false=>simp
  |true=>
   simp only [if_true]
   rw [Int.neg_ediv_of_dvd (Int.ofNat_dvd.2 hdv)]
   simp
 unfold rd
 rw [hnum]
 have h0:sgn neg (n/Nat.gcd n d)≠0:=fun e=>by
  have:=congrArg Int.natAbs e
  rw [sgn_abs] at this
  rw [this] at hq
  simp at hq
 rw [if_neg h0,sgn_abs]
 have e2:(sq neg n d).den=d/Nat.gcd n d:=h2
 rw [e2]
 congr 1
 generalize n/Nat.gcd n d=m at hq
 unfold sgn
 cases neg with
 |false=>simp
 |true=>simp;omega
theorem rd_zero:rd 0=⟨false,[],[]⟩:=by simp [rd,words_zero]
theorem sq_zero (neg:Bool) (d:Nat):sq neg 0 d=0:=by unfold sq sgn;cases neg<;>simp [Rat.zero_mkRat]
theorem plainB_words {n:Nat} (h:n≠0):plainB (words n)=true:=by
 have hp:=(words_plain n).resolve_left (fun e=>h (words_eq_nil.1 e))
 have hl:(words n).length≠0:=fun e=>h (words_eq_nil.1 (List.length_eq_zero_iff.1 e))
 simp only [plainB,Bool.and_eq_true,decide_eq_true_eq,Bool.not_eq_true',decide_eq_false_iff_not]
 exact⟨by omega,hp⟩
theorem rd_some {q:Rat} (h:q≠0):(rd q).some=true∧(rd q).valid=true:=by
 have hn:q.num≠0:=fun e=>h (Rat.num_eq_zero.1 e)
 have hl:(words q.num.natAbs).length≠0:=fun e=>hn (by have:=words_eq_nil.1 (List.length_eq_zero_iff.1 e);omega)
 have hv:(rd q).valid=true:=by
  unfold RD.valid rd
  simp only [hn,if_false]
  rw [if_neg (fun x=>hl x.1),plainB_words om,plainB_words q.den_nz,val_words,val_words]
  have:=q.reduced
  simp only [Bool.and_self,Bool.true_and,decide_eq_true_eq]
  exact this
 refine⟨?_,hv⟩
 unfold RD.some
 rw [hv]
 simp only [Bool.true_and,decide_eq_true_eq]
 exact hl
theorem rd_q (q:Rat):(rd q).q=q:=by
 by_cases h:q=0
 ·subst h
  rw [rd_zero]
  rfl
 ·obtain⟨h1,_⟩:=rd_some h
  have hn:q.num≠0:=fun e=>h (Rat.num_eq_zero.1 e)
  have e:(rd q).q=sq (decide (q.num<0)) q.num.natAbs q.den:=by
   unfold RD.q RD.ps RD.pn RD.pd
   rw [h1]
   simp only [if_true]
   unfold rd
   simp only [hn,if_false,val_words]
  rw [e]
  unfold sq
  have:sgn (decide (q.num<0)) q.num.natAbs=q.num:=by
   unfold sgn
   split
   ·rename_i hlt;simp only [decide_eq_true_eq] at hlt;omega
   ·rename_i hlt;simp only [decide_eq_true_eq] at hlt;omega
  rw [this]
  exact Rat.mkRat_self q
theorem rd_valid (q:Rat):(rd q).valid=true:=by
 by_cases h:q=0
 ·subst h;rw [rd_zero];rfl
 ·exact(rd_some h).2
def fits (q:Rat) (L:Nat):Prop:=q.num.natAbs<4294967296^L∧q.den<4294967296^L
theorem fits_mono {q:Rat} {L M:Nat} (h:fits q L) (hm:L≤M):fits q M:=
 ⟨Nat.lt_of_lt_of_le h.1 (Nat.pow_le_pow_right om hm),Nat.lt_of_lt_of_le h.2 (Nat.pow_le_pow_right om hm)⟩
theorem rd_wf {q:Rat} {L:Nat} (h:fits q L):(rd q).wf L:=by
 refine⟨words_lt _,?_,words_len_le h.1,?_⟩
 ·unfold rd
  simp only
  split
  ·simp
  ·exact words_lt _
 ·unfold rd
  simp only
  split
  ·simp
  ·exact words_len_le h.2
theorem fits_sq {neg:Bool} {n d L:Nat} (hd:d≠0) (h1:n<4294967296^L) (h2:d<4294967296^L):fits (sq neg n d) L:=by
 obtain⟨e1,e2⟩:=mkRat_nd (n:=sgn neg n) hd
 rw [sgn_abs] at e1 e2
 unfold fits sq
 rw [e1,e2]
 refine⟨Nat.lt_of_le_of_lt ?_ h1,Nat.lt_of_le_of_lt (Nat.div_le_self _ _) h2⟩
 have:=Int.natAbs_ediv_le_natAbs (sgn neg n) ((Nat.gcd n d:Nat):Int)
 rw [sgn_abs] at this
 exact this
theorem RD.fits {r:RD} {L:Nat} (hw:r.wf L) (hL:1≤L):fits r.q L:=by
 obtain⟨h1,h2⟩:=RD.p_len hw hL
 have hp:=RD.pd_ne hw
 exact fits_sq hp (Nat.lt_of_lt_of_le (words_pow_lt _) (Nat.pow_le_pow_right om h1)) (Nat.lt_of_lt_of_le (words_pow_lt _) (Nat.pow_le_pow_right om h2))
theorem norm_le {n:Int} {d L:Nat} (hd:d≠0) (h1:n.natAbs<4294967296^L) (h2:d<4294967296^L):PN.fits (mkRat n d) L:=by
 obtain⟨e1,e2⟩:=mkRat_nd (n:=n) hd
 unfold PN.fits
 rw [e1,e2]
 exact⟨Nat.lt_of_le_of_lt (Int.natAbs_ediv_le_natAbs _ _) h1,Nat.lt_of_le_of_lt (Nat.div_le_self _ _) h2⟩
theorem pow_mul_lt {a b L M:Nat} (h1:a<4294967296^L) (h2:b<4294967296^M):a*b<4294967296^(L+M):=by
 rw [Nat.pow_add]
 exact Nat.mul_lt_mul'' h1 h2
theorem fits_add {a b:Rat} {L M:Nat} (ha:PN.fits a L) (hb:PN.fits b M):PN.fits (a+b) (L+M+1):=by
 rw [Rat.add_def,Rat.normalize_eq_mkRat]
 have h3:=pow_mul_lt ha.1 hb.2
 have h4:=pow_mul_lt hb.1 ha.2
 rw [Nat.add_comm M L] at h4
 refine norm_le (Nat.mul_ne_zero a.den_nz b.den_nz) ?_ ?_
 ·refine Nat.lt_of_le_of_lt (Int.natAbs_add_le _ _) ?_
  rw [Int.natAbs_mul,Int.natAbs_mul,Int.natAbs_natCast,Int.natAbs_natCast,Nat.pow_succ]
  omega
 ·have:=pow_mul_lt ha.2 hb.2
  rw [Nat.pow_succ]
  omega
theorem fits_mul {a b:Rat} {L M:Nat} (ha:PN.fits a L) (hb:PN.fits b M):PN.fits (a*b) (L+M):=by
 rw [Rat.mul_def,Rat.normalize_eq_mkRat]
 refine norm_le (Nat.mul_ne_zero a.den_nz b.den_nz) ?_ (pow_mul_lt ha.2 hb.2)
 rw [Int.natAbs_mul]
 exact pow_mul_lt ha.1 hb.1
theorem fits_neg {a:Rat} {L:Nat} (ha:PN.fits a L):PN.fits (-a) L:=by
 unfold PN.fits
 rw [Rat.neg_num,Rat.neg_den,Int.natAbs_neg]
 exact ha
theorem fits_sub {a b:Rat} {L M:Nat} (ha:PN.fits a L) (hb:PN.fits b M):PN.fits (a-b) (L+M+1):=by
 rw [Rat.sub_eq_add_neg];exact fits_add ha (fits_neg hb)
theorem sq_add_same (x:Bool) {n m d e:Nat} (hd:d≠0) (he:e≠0):sq x (n*e+m*d) (d*e)=sq x n d+sq x m e:=by
 unfold sq
 rw [Rat.mkRat_add_mkRat _ _ hd he]
 congr 1
 unfold sgn
 cases x<;>simp [Int.natCast_mul,Int.neg_add,Int.neg_mul]
theorem sq_add_ge (x:Bool) {n m d e:Nat} (hd:d≠0) (he:e≠0) (h:m*d≤n*e):sq x (n*e-m*d) (d*e)=sq x n d+sq (!x) m e:=by
 unfold sq
 rw [Rat.mkRat_add_mkRat _ _ hd he,sgn_neg]
 congr 1
 unfold sgn
 cases x
 ·simp only [Bool.false_eq_true,if_false]
  rw [Int.ofNat_sub h,Int.natCast_mul,Int.natCast_mul,Int.neg_mul];omega
 ·simp only [if_true]
  rw [Int.ofNat_sub h,Int.natCast_mul,Int.natCast_mul,Int.neg_neg,Int.neg_mul];omega
theorem sq_add_lt (x:Bool) {n m d e:Nat} (hd:d≠0) (he:e≠0) (h:n*e≤m*d):sq (!x) (m*d-n*e) (d*e)=sq x n d+sq (!x) m e:=by
 have:=sq_add_ge (!x) (n:=m) (m:=n) (d:=e) (e:=d) he hd h
 rw [Bool.not_not,Nat.mul_comm e d] at this
 rw [this]
 exact Rat.add_comm _ _
theorem sq_mul (x y:Bool) (n m d e:Nat):sq (x !=y) (n*m) (d*e)=sq x n d*sq y m e:=by
 unfold sq
 rw [Rat.mkRat_mul_mkRat,sgn_mul]
theorem sq_neg (x:Bool) (n d:Nat):sq (!x) n d= -sq x n d:=by
 unfold sq
 rw [Rat.neg_mkRat,sgn_neg]
def signQ (q:Rat):Int:=if q=0 then 0 else if q<0 then-1 else 1
theorem sq_ne {neg:Bool} {n d:Nat} (hn:n≠0) (hd:d≠0):sq neg n d≠0:=by
 unfold sq
 rw [Ne,Rat.mkRat_eq_zero hd]
 intro e
 have:=congrArg Int.natAbs e
 rw [sgn_abs] at this
 simp at this
 exact hn this
theorem sq_lt {neg:Bool} {n d:Nat} (hn:n≠0) (hd:d≠0):sq neg n d<0↔neg=true:=by
 have h:=rd_sq (neg:=neg) hn hd
 have h1:decide ((sq neg n d).num<0)=neg:=congrArg RD.neg h
 have h2:sq neg n d<0↔(sq neg n d).num<0:=by rw [Rat.lt_iff];simp
 rw [h2]
 constructor
 ·intro h3;rw [←h1];simpa using h3
 ·intro h3;rw [h3] at h1;rw [h3];simpa using h1
end Go.PN
