/- Parts of one proof, laid by a program. -/
import Derived.Test.YtefekdejgbceiaaGreatM00
import Derived.Test.YtefekdejgbceiaaGreatM04
import Derived.Test.YtefekdejgbceiaaGreatProg
import Derived.KernelRfl
set_option linter.unusedSimpArgs false
set_option linter.unusedVariables false
set_option maxRecDepth 100000
set_option maxHeartbeats 12800000
namespace Go.Proofs.YtefekdejgbceiaaGreat
open Go.AI Go.PN
attribute [local irreducible] aw Fa Fh DrK
theorem shift_top {t:Nat} (h0:t≠0) (hl:t<4294967296):32-bitlen t<32∧2147483648≤t*2^(32-bitlen t)∧t*2^(32-bitlen t)<4294967296:=by
 have h1:bitlen t≤32:=bitlen_lt (k:=32) hl
 have h2:bitlen t=Nat.log2 t+1:=by unfold bitlen;rw [if_neg h0]
 have h3:=Nat.log2_self_le h0
 have h4:=Nat.lt_log2_self (n:=t)
 have hk:32-bitlen t+bitlen t=32:=by omega
 refine⟨by omega,?_,?_⟩
 ·have:=Nat.mul_le_mul_right (2^(32-bitlen t)) h3
  rw [←Nat.pow_add,show t.log2+(32-bitlen t)=31 from by omega] at this
  exact this
 ·have:=Nat.mul_lt_mul_of_pos_right h4 (Nat.two_pow_pos (32-bitlen t))
  rw [←Nat.pow_add,show t.log2+1+(32-bitlen t)=32 from by omega] at this
  exact this
theorem div_fa (xs ys:List Nat) (hx:∀x∈xs,x<4294967296) (hy:∀x∈ys,x<4294967296) (hlx:xs.length≤68719476736) (hly:ys.length≤68719476736) (h0:val ys≠0):
  Fa Tryz.prog 129 [.c (ws false xs),.c (ws false ys)] (.tup [.c (ws true (words (val xs/val ys))),.c (ws true (words (val xs%val ys))),.c .nilI]):=by
 refine fa_of_body Tryz.func129 rfl rfl (by simp [Tryz.ntmps129]) fun C hC=> ?_
 simp only [initS,Nat.reduceAdd]
 refine xG ?_
 refine aw_callq (trim_fa xs hx om) rfl rfl rfl eL ?_
 refine xSG ?_
 refine aw_callq (trim_fa ys hy om) rfl rfl rfl eL ?_
 refine xS ?_
 have hla:(words (val xs)).length≤68719476736:=Nat.le_trans (words_val_len xs hx) hlx
 have hlb:(words (val ys)).length≤68719476736:=Nat.le_trans (words_val_len ys hy) hly
 generalize val xs=a at hla⊢
 generalize val ys=b at hlb h0⊢
 have hwa:=words_lt a
 have hwb:=words_lt b
 have hva:=val_words a
 have hvb:=val_words b
 have hbne:(words b).length≠0:=fun e=>h0 (words_eq_nil.1 (List.length_eq_zero_iff.1 e))
 refine xG ?_
 refine aw_cond eE (fun hb=> ?_) (fun _=> ?_)
 ·have:=eq_of_beq hb;omega
 refine xG ?_
 refine aw_callq (cmp_fa (words a) (words b) hwa hwb hla hlb) rfl rfl rfl eL ?_
 refine xS ?_
 rw [hva,hvb]
 refine xG ?_
 refine aw_cond eE (fun hb=> ?_) (fun hb=> ?_)
 ·have hlt:a<b:=by
   have:=of_decide_eq_true hb
   unfold cmpN at this
   split at this
   ·assumption
   ·split at this<;>omega
  refine xGT hC ?_
  rw [Nat.div_eq_of_lt hlt,Nat.mod_eq_of_lt hlt,words_zero]
  exact .tup ⟨.c .nils,.c ler_ws,.c .nilI,trivial⟩
 have hge:b≤a:=by
  have:=of_decide_eq_false hb
  unfold cmpN at this
  split at this
  ·omega
  ·omega
 have hlab:(words b).length≤(words a).length:=words_len_mono hge
 refine xG ?_
 refine aw_cond eE (fun hb=> ?_) (fun hb=> ?_)
 ·have hl1:(words b).length=1:=by have:=eq_of_beq hb;omega
  have hbw:b=(words b).getD 0 0:=by
   match hws:words b,hl1 with
   |[w],_=>rw [hws,val_one] at hvb;exact hvb.symm
  have hb32:=getD_lt hwb 0
  refine xG ?_
  refine aw_callq (small_fa (words a) ((words b).getD 0 0) hwa hla om hb32) rfl rfl rfl eL ?_
  refine xS ?_
  rw [hva,←hbw]
  have hml:a%b<4294967296:=by have:=Nat.mod_lt a (show 0<b from by omega);omega
  refine xG ?_
  refine aw_callq (of_fa ((a%b:Nat):Int) om om) rfl rfl rfl eL ?_
  refine xSGT hC ?_
  exact .tup ⟨.c ler_ws,.c ler_ws,.c .nilI,trivial⟩
 have hl2:(words b).length≠1:=fun e=>by rw [e] at hb;cases hb
 obtain⟨k,hk⟩:∃k,(words b).length=k+2:=⟨(words b).length-2,by omega⟩
 have htop:(words b).getD ((words b).length-1) 0≠0:=(words_plain b).resolve_left (fun e=>by rw [e] at hbne;exact hbne rfl)
 have htl:=getD_lt hwb ((words b).length-1)
 obtain⟨hn,hn1,hn2⟩:=shift_top htop htl
 refine xG ?_
 refine aw_callq (lead_fa _ htl) rfl rfl rfl eL ?_
 refine xS ?_
 generalize hnn:32-bitlen ((words b).getD ((words b).length-1) 0)=n at hn hn1 hn2⊢
 refine xG ?_
 refine aw_callh (left_fh (words b) n hwb hlb hn) rfl rfl rfl (.refl _) eL ?_
 rintro r h' ⟨gv,vs,rfl,rfl,hvl,hvw,hvv⟩ hfr
 refine xSG ?_
 have hkk:(words b).length-1=k+1:=by omega
 rw [hkk] at hn1 hn2
 obtain⟨hv1,hv2,hv3⟩:=norm_top (n:=n) hwb hk om hn1 hn2 hvw om hvv
 refine aw_frzw (t:=10) (ys:=vs.take (k+2)) eE eE om (hC gv) (by simp;omega) (fun j hj=>by rw [Nat.zero_add,getD_take om]) eE eE ?_
 refine aw_weak (σ':=[(0,.c (ws true (words a))),(9,.c (.int .i64 n)),(10,.c (ws true (vs.take (k+2)))),(59,.c (ws true (words a))),(60,.c (.int .i64 n))]) (h':=[]) (Sl.sub_le eB) zZ ?_
 have hvvl:(vs.take (k+2)).length=k+2:=by simp;omega
 have hvvw:∀x∈vs.take (k+2),x<4294967296:=fun x hx=>hvw x (List.mem_of_mem_take hx)
 rw [←getD_take (show k+1<k+2 from by omega)] at hv2
 rw [hvb] at hv1 hv3
 generalize vs.take (k+2)=v at hv1 hv2 hvvl hvvw⊢
 refine aw_callh (left_fh (words a) n hwa hla hn) rfl rfl rfl (.refl _) eL ?_
 rintro r h' ⟨gu,us,rfl,rfl,hul,huw,huv⟩ hfr
 refine xSG ?_
 refine aw_dr 16 ty_mixed (by kernel_rfl) ?_
 have hb1:=getD_lt hvvw (v.length-1)
 have hb2:=getD_lt hvvw (v.length-2)
 have e2:((v.length:Int)-2).toNat=v.length-2:=by omega
 refine yI e2 ?_
 have hvm1:v.length-1=k+1:=by omega
 have hvm2:v.length-2=k:=by omega
 rw [hvm1] at hb1
 rw [hvm2] at hb2
 have eq0:(((words a).length+1:Nat):Int)-(v.length:Int)=(((words a).length+1-(k+2):Nat):Int):=by omega
 rw [hvm1,hvm2,eq0]
 refine aw_make (n:=(words a).length+1-(k+2)) (c:=(words a).length+1-(k+2)) rfl rfl rfl ty_e_ws ty_z_u32 rfl om eE eE rfl rfl om om om fun gq hgq=> ?_
 rw [make_wf ((words a).length+1-(k+2))]
 have hne:¬gq=gu:=fun e=>hgq (by simp [Heap.keys,e])
 have hne2:¬gu=gq:=fun e=>hne e.symm
 refine xS ?_
 refine xI ?_
 have hst:=div_start (n:=n) (words_pow_lt a) (words_pow_le h0) hlab om
 rw [hva] at huv
 rw [hk,←hv1] at hst
 rw [←huv] at hst
 rw [←hv1] at hv3
 generalize (words a).length=la at hla hlab hul eq0 hst⊢
 apply aw_block
 generalize hlq:la+1-(k+2)=lq at hst⊢
 refine aw_lp (fun x:Nat×List Nat×List Nat=>[(4,.c (.osl gq 1 0 lq)),(9,.c (.int .i64 n)),(10,.c (ws true v)),(11,.c (.osl gu 1 0 (la+1))),(12,.c (.int .u64 (v.getD (k+1) 0:Nat))),(13,.c (.int .u64 (v.getD k 0:Nat))),(14,.c (.int .i64 ((x.1:Int)-1)))])
  (fun x=>[(gq,.cells 139 lq (wf x.2.2)),(gu,.cells 139 (la+1) (wf x.2.1))])
  (fun x=>x.1≤lq∧x.2.1.length=la+1∧(∀y∈x.2.1,y<4294967296)∧x.2.2.length=lq∧(∀y∈x.2.2,y<4294967296)∧val x.2.1<val v*4294967296^x.1∧a*2^n=val x.2.1+val v*(4294967296^x.1*val (x.2.2.drop x.1))) (fun x=>x.1) (lq,us,List.replicate lq 0) eB zZ
  ⟨Nat.le_refl _,hul,huw,by simp,replicate_lt _,hst,by simp [val,huv]⟩ ?_
 clear hst huv huw hul hfr hgq us
 rintro ⟨m,us,qs⟩ ⟨hm,hul,huw,hql,hqw,hlt,hA⟩
 dsimp only at hm hul huw hql hqw hlt hA⊢
 refine xI ?_
 refine aw_cond eE (fun hb=> ?_) (fun hb=> ?_)
 ·have hm1:1≤m:=dT hb
  obtain⟨j,rfl⟩:∃j,m=j+1:=⟨m-1,by omega⟩
  have e14:((j+1:Nat):Int)-1=(j:Int):=by omega
  rw [e14]
  have hLL:j+(k+2)+1≤us.length:=by omega
  obtain⟨w1,w2,w3,w4⟩:=window (V:=val v) huw hLL hv3 hlt
  have hWl:((us.drop j).take (k+2+1)).length=k+3:=by simp;omega
  have hWw:∀x∈(us.drop j).take (k+2+1),x<4294967296:=fun x hx=>huw x (List.mem_of_mem_drop (List.mem_of_mem_take hx))
  have t3:=top3 hWl
  rw [win_getD' om,win_getD' om,win_getD' om] at t3
  have t3l:=val_take_lt _ hWw k om
  have t2:=top2 hvvl
  have t2l:=val_take_lt _ hvvw k om
  have hhead:=head_le t2 hb2 t2l t3 w4
  have hw0:=getD_lt huw (j+(k+2))
  have hw1:=getD_lt huw (j+(k+1))
  have hw2:=getD_lt huw (j+k)
  have hVpos:0<val v:=by rw [hv1];exact Nat.mul_pos (Nat.pos_of_ne_zero h0) (Nat.two_pow_pos n)
  have e3:((j:Int)+((k+2:Nat):Int)-1).toNat=j+(k+1):=by omega
  have e4:((j:Int)+((k+2:Nat):Int)-2).toNat=j+k:=by omega
  have e5:((j:Int)+((k+2:Nat):Int)+1).toNat=j+(k+3):=by omega
  apply aw_skip
  apply aw_seq
  apply aw_block
  apply aw_seq
  refine aw_dr 20 ty_mixed (by kernel_rfl) ?_
  refine yI (oj hvvl (oj e3 (oj e4 (oj e5 (oj hne (oj hne2 @Nat.add_sub_cancel_left)))))) ?_
  rw [shl_u64_32 _ hw0,or_u64_j32 _ _ hw0 hw1]
  have hhl:j32 (us.getD (j+(k+2)) 0) (us.getD (j+(k+1)) 0)<18446744073709551616:=by unfold j32;omega
  have hhv:j32 (us.getD (j+(k+2)) 0) (us.getD (j+(k+1)) 0)≤v.getD (k+1) 0*4294967296+us.getD (j+(k+1)) 0:=by unfold j32;omega
  replace t3:val ((us.drop j).take (k+2+1))=(j32 (us.getD (j+(k+2)) 0) (us.getD (j+(k+1)) 0)*4294967296+us.getD (j+k) 0)*4294967296^k+val (((us.drop j).take (k+2+1)).take k):=t3
  generalize j32 (us.getD (j+(k+2)) 0) (us.getD (j+(k+1)) 0)=hd at t3 hhl hhv⊢
  have gs:=guess_start t2 om t3 hw2 t3l
  generalize hWv:val ((us.drop j).take (k+2+1))=W at t3 gs w1 w4
  have hhq:hd/v.getD (k+1) 0*v.getD (k+1) 0+hd%v.getD (k+1) 0=hd:=by rw [Nat.mul_comm];exact Nat.div_add_mod _ _
  have hhr:hd%v.getD (k+1) 0<v.getD (k+1) 0:=Nat.mod_lt _ om
  refine aw_dr 8 ty_mixed (by kernel_rfl) ?_
  have J1:=oj hvvl (oj e3 (oj e4 (oj e5 (oj hne (oj hne2 @Nat.add_sub_cancel_left)))))
  refine yI J1 ?_
  rw [quo_u64 _ _ hhl,rem_nat]
  refine aw_weak (σ':=[(4,.c (.osl gq 1 0 lq)),(9,.c (.int .i64 n)),(10,.c (ws true v)),(11,.c (.osl gu 1 0 (la+1))),(12,.c (.int .u64 (v.getD (k+1) 0:Nat))),(13,.c (.int .u64 (v.getD k 0:Nat))),(14,.c (.int .i64 j)),(16,.c (.int .u64 (hd/v.getD (k+1) 0:Nat))),(17,.c (.int .u64 (hd%v.getD (k+1) 0:Nat)))]) (h':=[(gq,.cells 139 lq (wf qs)),(gu,.cells 139 (la+1) (wf us))]) (Sl.sub_le (zB J1)) zZ ?_
  refine aw_cut (fun g:Nat=>[(4,.c (.osl gq 1 0 lq)),(9,.c (.int .i64 n)),(10,.c (ws true v)),(11,.c (.osl gu 1 0 (la+1))),(12,.c (.int .u64 (v.getD (k+1) 0:Nat))),(13,.c (.int .u64 (v.getD k 0:Nat))),(14,.c (.int .i64 j)),(16,.c (.int .u64 g))]) (fun _=>[(gq,.cells 139 lq (wf qs)),(gu,.cells 139 (la+1) (wf us))]) (fun g=>W/val v≤g∧g*val v<W+val v∧g<4294967296) ?_ ?_
  ·apply aw_block
   refine aw_lp (fun x:Nat×Nat=>[(4,.c (.osl gq 1 0 lq)),(9,.c (.int .i64 n)),(10,.c (ws true v)),(11,.c (.osl gu 1 0 (la+1))),(12,.c (.int .u64 (v.getD (k+1) 0:Nat))),(13,.c (.int .u64 (v.getD k 0:Nat))),(14,.c (.int .i64 j)),(16,.c (.int .u64 x.1)),(17,.c (.int .u64 x.2))]) (fun _=>[(gq,.cells 139 lq (wf qs)),(gu,.cells 139 (la+1) (wf us))])
    (fun x=>W/val v≤x.1∧x.1*v.getD (k+1) 0+x.2=hd∧x.2<4294967296) (fun x=>x.1) (hd/v.getD (k+1) 0,hd%v.getD (k+1) 0) (zB (oj hvvl (oj e3 (oj e4 (oj e5 (oj hne (oj hne2 @Nat.add_sub_cancel_left))))))) zZ ⟨gs,hhq,by dsimp only;omega⟩ ?_
   rintro ⟨g,rest⟩ ⟨hg1,hg2,hg3⟩
   dsimp only at hg1 hg2 hg3⊢
   apply aw_seq
   apply aw_seq
   refine aw_cut (fun tt:Bool=>[(4,.c (.osl gq 1 0 lq)),(9,.c (.int .i64 n)),(10,.c (ws true v)),(11,.c (.osl gu 1 0 (la+1))),(12,.c (.int .u64 (v.getD (k+1) 0:Nat))),(13,.c (.int .u64 (v.getD k 0:Nat))),(14,.c (.int .i64 j)),(16,.c (.int .u64 g)),(17,.c (.int .u64 rest)),(133,.c (.bool tt))]) (fun _=>[(gq,.cells 139 lq (wf qs)),(gu,.cells 139 (la+1) (wf us))])
    (fun tt=>(tt=true→W/val v<g)∧(tt=false→g<4294967296∧g*v.getD k 0≤rest*4294967296+us.getD (j+k) 0)) ?_ ?_
   ·by_cases hgB:g<4294967296
    ·have hdec:decide ((g:Int)≥4294967296)=false:=by simp;omega
     have hmb:=mul_bound hgB hb2
     have J2:=oj hvvl (oj e3 (oj e4 (oj e5 (oj hne (oj hne2 (oj @Nat.add_sub_cancel_left hdec))))))
     refine yI J2 ?_
     rw [shl_u64_32 _ hg3,or_u64_j32 _ _ hg3 hw2]
     refine aw_stop ⟨_,(zB J2),zZ,fun h=> ?_,fun h=>⟨hgB,?_⟩⟩
     ·have:=of_decide_eq_true h
      unfold j32 at this
      have hlt2:=guess_down (D:=4294967296^k) (V:=val v) (v2:=v.getD k 0) (by rw [t2];exact Nat.le_add_right _ _) t3 t3l hg2 (by rw [←Int.natCast_mul] at this;omega)
      exact(Nat.div_lt_iff_lt_mul hVpos).2 hlt2
     ·have:=of_decide_eq_false h
      unfold j32 at this
      rw [←Int.natCast_mul] at this
      omega
    ·have hdec:decide ((g:Int)≥4294967296)=true:=by simp;omega
     have J3:=oj hvvl (oj e3 (oj e4 (oj e5 (oj hne (oj hne2 (oj @Nat.add_sub_cancel_left hdec))))))
     refine yI J3 ?_
     refine aw_stop ⟨true,(zB J3),zZ,fun _=> ?_,fun h=>by cases h⟩
     have:W/val v<4294967296:=(Nat.div_lt_iff_lt_mul hVpos).2 (by rw [Nat.mul_comm];exact w4)
     omega
   ·rintro tt ⟨htt,htf⟩
    refine aw_cond (zE (oj hvvl (oj e3 (oj e4 (oj e5 (oj hne (oj hne2 @Nat.add_sub_cancel_left))))))) (fun h=> ?_) (fun h=> ?_)
    ·have hgt:=htt h
     have hg0:0<g:=Nat.lt_of_le_of_lt (Nat.zero_le _) hgt
     have hgle:g≤g*v.getD (k+1) 0:=Nat.le_mul_of_pos_right g om
     have hgm:(g-1)*v.getD (k+1) 0+(rest+v.getD (k+1) 0)=hd:=by
      obtain⟨g',rfl⟩:∃g',g=g'+1:=⟨g-1,by omega⟩
      rw [Nat.add_mul,Nat.one_mul] at hg2
      simp only [Nat.add_sub_cancel]
      omega
     refine yG (oj hvvl (oj e3 (oj e4 (oj e5 (oj hne (oj hne2 @Nat.add_sub_cancel_left)))))) ?_
     have eg:(g:Int)-1=((g-1:Nat):Int):=by omega
     have er:(rest:Int)+((v.getD (k+1) 0:Nat):Int)=((rest+v.getD (k+1) 0:Nat):Int):=by omega
     rw [eg,er]
     refine aw_cond (zE (oj hvvl (oj e3 (oj e4 (oj e5 (oj hne (oj hne2 @Nat.add_sub_cancel_left))))))) (fun h=> ?_) (fun h=> ?_)
     ·have hr:=of_decide_eq_true h
      have J4:=oj hvvl (oj e3 (oj e4 (oj e5 (oj hne (oj hne2 @Nat.add_sub_cancel_left)))))
      refine yI J4 ?_
      have hgs:=guess_small hhv hw1 hgm om
      refine aw_stop ⟨g-1,(zB J4),zZ,by omega,?_,hgs⟩
      refine guess_up t2 t2l om t3 hgm hgs ?_
      have m1:=mul_bound hgs hb2
      have m2:4294967296*4294967296≤(rest+v.getD (k+1) 0)*4294967296:=Nat.mul_le_mul_right _ om
      omega
     ·have hr:=of_decide_eq_false h
      have J5:=oj hvvl (oj e3 (oj e4 (oj e5 (oj hne (oj hne2 @Nat.add_sub_cancel_left)))))
      refine yI J5 ?_
      refine aw_stop ⟨(g-1,rest+v.getD (k+1) 0),by dsimp only;omega,(zB J5),zZ,by dsimp only;omega,hgm,by dsimp only;omega⟩
    ·obtain⟨hf1,hf2⟩:=htf h
     have J6:=oj hvvl (oj e3 (oj e4 (oj e5 (oj hne (oj hne2 @Nat.add_sub_cancel_left)))))
     refine yI J6 ?_
     exact aw_stop ⟨g,(zB J6),zZ,hg1,guess_up t2 t2l om t3 hg2 hf1 hf2,hf1⟩
  ·rintro g ⟨hg1,hg2,hg3⟩
   have hqd:W/val v<4294967296:=(Nat.div_lt_iff_lt_mul hVpos).2 (by rw [Nat.mul_comm];exact w4)
   apply aw_seq
   refine aw_cut (fun zs:List Nat=>[(4,.c (.osl gq 1 0 lq)),(9,.c (.int .i64 n)),(10,.c (ws true v)),(11,.c (.osl gu 1 0 (la+1))),(12,.c (.int .u64 (v.getD (k+1) 0:Nat))),(13,.c (.int .u64 (v.getD k 0:Nat))),(14,.c (.int .i64 j)),(16,.c (.int .u64 (W/val v:Nat)))]) (fun zs=>[(gu,.cells 139 (la+1) (wf (win us j zs))),(gq,.cells 139 lq (wf qs))])
    (fun zs=>zs.length=k+3∧(∀y∈zs,y<4294967296)∧val zs+(W/val v)*val v=W∧val zs<val v) ?_ ?_
   ·have J7:=oj hvvl (oj e3 (oj e4 (oj e5 (oj hne (oj hne2 @Nat.add_sub_cancel_left)))))
    refine yI J7 ?_
    have tf:=take_fh gu j (k+3) g us _ v rfl om huw hvvw om hg3 om
    rw [hul] at tf
    refine aw_callh tf rfl rfl rfl (.swap _ _ []) (zL J7) ?_
    rintro r h' ⟨bb,zs,rfl,rfl,hzl,hzw,hbb,hzv⟩ hfr
    rw [hWv] at hzv
    have hzlt:=val_lt zs hzw
    rw [hzl] at hzlt
    refine yS J7 ?_
    refine yI J7 ?_
    refine aw_cond (zE J7) (fun h=> ?_) (fun h=> ?_)
    ·have hb1':bb=1:=by have:=eq_of_beq h;omega
     subst hb1'
     have hg0:1≤g:=by
      rcases Nat.eq_zero_or_pos g with e|e
      ·exfalso;rw [e,Nat.zero_mul] at hzv;omega
      ·exact e
     refine yI (oj hvvl (oj e3 (oj e4 (oj e5 (oj hne (oj hne2 @Nat.add_sub_cancel_left)))))) ?_
     have eg:(g:Int)-1=((g-1:Nat):Int):=by omega
     rw [eg]
     have hwl:(win us j zs).length=la+1:=by rw [win_length om,hul]
     have gf:=give_fh gu j (k+3) (win us j zs) zs v (win_of_win om hzl) om (win_lt huw hzw) hvvw om om
     rw [hwl] at gf
     refine aw_callh gf rfl rfl rfl (.refl _) (zL (oj hvvl (oj e3 (oj e4 (oj e5 (oj hne (oj hne2 @Nat.add_sub_cancel_left))))))) ?_
     rintro r h' ⟨cc,zs2,rfl,rfl,hzl2,hzw2,hzv2⟩ hfr
     have hzlt2:=val_lt zs2 hzw2
     rw [hzl2] at hzlt2
     have hVP:val v≤4294967296^(k+3):=by
      rw [Nat.pow_succ]
      omega
     obtain⟨d1,d2,d3,d4⟩:=digit_back hVpos hVP hg1 hg2 hzlt hzlt2 hzv hzv2
     rw [win_win om om,d4]
     have J8:=oj hvvl (oj e3 (oj e4 (oj e5 (oj hne (oj hne2 @Nat.add_sub_cancel_left)))))
     refine yS J8 ?_
     refine yI J8 ?_
     exact aw_stop ⟨zs2,(zB J8),zZ,hzl2,hzw2,d2,d3⟩
    ·have hb0:bb=0:=by
      have:¬((bb:Int)=1):=fun e=>by rw [e] at h;cases h
      omega
     subst hb0
     obtain⟨d1,d2,d3⟩:=digit_ok hVpos hg1 hg2 hzv
     subst d3
     have J9:=oj hvvl (oj e3 (oj e4 (oj e5 (oj hne (oj hne2 @Nat.add_sub_cancel_left)))))
     refine yI J9 ?_
     exact aw_stop ⟨zs,(zB J9),zZ,hzl,hzw,d1,d2⟩
   ·rintro zs ⟨hzl,hzw,hz1,hz2⟩
    refine yI (oj hvvl (oj e3 (oj e4 (oj e5 (oj hne (oj hne2 @Nat.add_sub_cancel_left)))))) ?_
    rw [wrap_u32_nat,Nat.mod_eq_of_lt hqd]
    have J10:=oj hvvl (oj e3 (oj e4 (oj e5 (oj hne (oj hne2 @Nat.add_sub_cancel_left)))))
    refine yW J10 ?_
    refine yS J10 ?_
    rw [updF_wf om]
    refine aw_perm (.swap _ _ []) ?_
    refine yI J10 ?_
    have hwv:val (win us j zs)=val (us.take j)+4294967296^j*val zs:=by
     rw [val_win om,hzl,w3,Nat.mul_zero,Nat.add_zero]
    have hds:=drop_set (zs:=qs) (i:=j) (v:=W/val v) om
    have hpw:4294967296^(j+1)=4294967296^j*4294967296:=Nat.pow_succ ..
    rw [hpw] at hA
    obtain⟨s1,s2⟩:=div_step (A:=a*2^n) w1 w2 hz1 hz2 hA rfl
    refine aw_stop ⟨(j,win us j zs,qs.set j (W/val v)),by dsimp only;omega,(zB (oj hvvl (oj e3 (oj e4 (oj e5 (oj hne (oj hne2 @Nat.add_sub_cancel_left))))))),zZ,by dsimp only;omega,by rw [win_length om];exact hul,win_lt huw hzw,by simpa using hql,set_lt hqw hqd,?_,?_⟩
    ·dsimp only;rw [hwv];exact s1
    ·dsimp only;rw [hwv,hds,val];exact s2
 ·have hm0:m=0:=dF hb
  subst hm0
  simp only [Nat.pow_zero,Nat.mul_one,Nat.one_mul,List.drop_zero] at hlt hA
  rw [hv1] at hlt hA
  obtain⟨hq,hr⟩:=div_end (Nat.pos_of_ne_zero h0) hlt hA
  have J11:=oj hne hne2
  refine yG J11 ?_
  refine aw_callq (trim_fa qs hqw om) rfl rfl rfl (by refine yS J11 ?_;exact .c (lec_oslws (zE J11) om om (fun j _=>by rw [Nat.zero_add];rfl))) ?_
  refine ySG J11 ?_
  refine aw_callq (right_fa us n huw om hn) rfl rfl rfl (by refine yS J11 ?_;exact⟨.c (lec_oslws (zE J11) om om (fun j _=>by rw [Nat.zero_add];rfl)),.c (.refl _)⟩) ?_
  refine ySG J11 ?_
  refine aw_callq (trim_fa (rgt n us) (rgt_lt n us) (by rw [rgt_length];omega)) rfl rfl rfl (zL J11) ?_
  refine ySGT hC J11 ?_
  rw [rgt_val om us huw,hr,hq]
  exact .tup ⟨.c ler_ws,.c ler_ws,.c .nilI,trivial⟩
end Go.Proofs.YtefekdejgbceiaaGreat
namespace Go.Proofs.YtefekdejgbceiaaGreat
open Go.AI Go.PN
attribute [local irreducible] aw Fa Fh DrK
theorem gcd_fa (xs ys:List Nat) (hx:∀x∈xs,x<4294967296) (hy:∀x∈ys,x<4294967296) (hlx:xs.length≤68719476736) (hly:ys.length≤68719476736):
  Fa Tryz.prog 128 [.c (ws false xs),.c (ws false ys)] (.c (ws true (words (Nat.gcd (val xs) (val ys))))):=by
 refine fa_of_body Tryz.func128 rfl rfl (by simp [Tryz.ntmps128]) fun C hC=> ?_
 simp only [initS,Nat.reduceAdd]
 refine xG ?_
 refine aw_callq (trim_fa xs hx om) rfl rfl rfl eL ?_
 refine xSG ?_
 refine aw_callq (trim_fa ys hy om) rfl rfl rfl eL ?_
 refine xS ?_
 have hla:(words (val xs)).length≤68719476736:=Nat.le_trans (words_val_len xs hx) hlx
 have hlb:(words (val ys)).length≤68719476736:=Nat.le_trans (words_val_len ys hy) hly
 refine xI ?_
 apply aw_block
 refine aw_lp (fun x:Nat×Nat=>[(0,.c (ws true (words x.1))),(1,.c (ws true (words x.2)))]) (fun _=>[]) (fun x=>(words x.1).length≤68719476736∧(words x.2).length≤68719476736∧Nat.gcd x.1 x.2=Nat.gcd (val xs) (val ys)) (fun x=>x.2) (val xs,val ys) eB zZ ⟨hla,hlb,rfl⟩ ?_
 rintro ⟨a,b⟩ ⟨hla,hlb,hg⟩
 dsimp only at hla hlb hg⊢
 refine xG ?_
 refine aw_cond eE (fun hb=> ?_) (fun hb=> ?_)
 ·have hb0:b≠0:=fun e=>by have:=of_decide_eq_true hb;rw [e,words_zero] at this;simp at this
  refine xG ?_
  refine aw_callq (div_fa (words a) (words b) (words_lt a) (words_lt b) hla hlb (by rw [val_words];exact hb0)) rfl rfl rfl eL ?_
  rw [val_words,val_words]
  refine xSG ?_
  have hlt:a%b<b:=Nat.mod_lt _ (Nat.pos_of_ne_zero hb0)
  refine aw_stop ⟨(b,a%b),hlt,eB,zZ,hlb,Nat.le_trans (words_len_mono (Nat.le_of_lt hlt)) hlb,?_⟩
  dsimp only
  rw [←hg,Nat.gcd_comm a b,Nat.gcd_rec b a,Nat.gcd_comm]
 ·have hb0:b=0:=by
   have:=of_decide_eq_false hb
   exact words_eq_nil.1 (List.length_eq_zero_iff.1 om)
  subst hb0
  refine xGT hC ?_
  rw [←hg,Nat.gcd_zero_right]
  exact .one (.c ler_ws)
end Go.Proofs.YtefekdejgbceiaaGreat
namespace Go.PN
structure RD where
 neg:Bool
 num:List Nat
 den:List Nat
def RD.wf (r:RD) (L:Nat):Prop:=(∀x∈r.num,x<4294967296)∧(∀x∈r.den,x<4294967296)∧r.num.length≤L∧r.den.length≤L
def plainB (xs:List Nat):Bool:=decide (0<xs.length)&& !decide (xs.getD (xs.length-1) 0=0)
def RD.valid (r:RD):Bool:=if r.num.length=0∧r.den.length=0 then !r.neg else plainB r.num&&plainB r.den&&decide (Nat.gcd (val r.num) (val r.den)=1)
def RD.some (r:RD):Bool:=r.valid&&decide (r.num.length≠0)
def RD.pn (r:RD):Nat:=if r.some then val r.num else 0
def RD.pd (r:RD):Nat:=if r.some then val r.den else 1
def RD.ps (r:RD):Bool:=if r.some then r.neg else false
def sgn (neg:Bool) (n:Nat):Int:=if neg then-(n:Int) else n
def sq (neg:Bool) (n d:Nat):Rat:=mkRat (sgn neg n) d
def RD.q (r:RD):Rat:=sq r.ps r.pn r.pd
def rd (q:Rat):RD:=⟨decide (q.num<0),words q.num.natAbs,if q.num=0 then [] else words q.den⟩
theorem sgn_abs (b:Bool) (n:Nat):(sgn b n).natAbs=n:=by unfold sgn;cases b<;>simp
theorem sgn_neg (b:Bool) (n:Nat):sgn (!b) n= -sgn b n:=by unfold sgn;cases b<;>simp
theorem sgn_mul (a b:Bool) (n m:Nat):sgn (a !=b) (n*m)=sgn a n*sgn b m:=by unfold sgn;cases a<;>cases b<;>simp [Int.natCast_mul,Int.neg_mul,Int.mul_neg]
theorem mkRat_nd {n:Int} {d:Nat} (hd:d≠0):(mkRat n d).num=n/(n.natAbs.gcd d:Nat)∧(mkRat n d).den=d/n.natAbs.gcd d:=by
 rw [←Rat.normalize_eq_mkRat hd,Rat.normalize_eq]
 exact⟨rfl,rfl⟩
theorem plain_words {xs:List Nat} (hx:∀x∈xs,x<4294967296) (hp:plainB xs=true):words (val xs)=xs∧val xs≠0:=by
 simp only [plainB,Bool.and_eq_true,decide_eq_true_eq,Bool.not_eq_true',decide_eq_false_iff_not] at hp
 have h:=words_val hx (.inr hp.2)
 refine⟨h,fun e=> ?_⟩
 rw [e,words_zero] at h
 rw [←h] at hp
 simp at hp
theorem RD.some_spec {r:RD} {L:Nat} (hw:r.wf L) (hs:r.some=true):words (val r.num)=r.num∧words (val r.den)=r.den∧val r.num≠0∧val r.den≠0∧Nat.gcd (val r.num) (val r.den)=1:=by
 simp only [RD.some,Bool.and_eq_true,decide_eq_true_eq] at hs
 obtain⟨hv,hn⟩:=hs
 unfold RD.valid at hv
 rw [if_neg (fun h=>hn h.1)] at hv
 simp only [Bool.and_eq_true,decide_eq_true_eq] at hv
 obtain⟨⟨h1,h2⟩,h3⟩:=hv
 have p1:=plain_words hw.1 h1
 have p2:=plain_words hw.2.1 h2
 exact⟨p1.1,p2.1,p1.2,p2.2,h3⟩
theorem RD.pd_ne {r:RD} {L:Nat} (hw:r.wf L):r.pd≠0:=by
 unfold RD.pd
 split
 ·rename_i h;exact(RD.some_spec hw h).2.2.2.1
 ·simp
theorem words_one:words 1=[1]:=by rw [words_cons om];simp [words_zero]
theorem RD.pn_words {r:RD} {L:Nat} (hw:r.wf L) (hs:r.some=true):words r.pn=r.num∧words r.pd=r.den∧r.ps=r.neg:=by
 obtain⟨h1,h2,_⟩:=RD.some_spec hw hs
 unfold RD.pn RD.pd RD.ps
 simp only [hs,if_true]
 exact⟨h1,h2,trivial⟩
theorem RD.pn_none {r:RD} (hs:r.some=false):words r.pn=[]∧words r.pd=[1]∧r.ps=false:=by
 unfold RD.pn RD.pd RD.ps
 simp [hs,words_zero,words_one]
theorem RD.p_len {r:RD} {L:Nat} (hw:r.wf L) (hL:1≤L):(words r.pn).length≤L∧(words r.pd).length≤L:=by
 cases hs:r.some with
 |true=>obtain⟨h1,h2,_⟩:=RD.pn_words hw hs;rw [h1,h2];exact⟨hw.2.2.1,hw.2.2.2⟩
 |false=>obtain⟨h1,h2,_⟩:=RD.pn_none hs;rw [h1,h2];exact⟨by simp,by simpa using hL⟩
theorem rd_sq {neg:Bool} {n d:Nat} (hn:n≠0) (hd:d≠0):rd (sq neg n d)=⟨neg,words (n/Nat.gcd n d),words (d/Nat.gcd n d)⟩:=by
 obtain⟨h1,h2⟩:=mkRat_nd (n:=sgn neg n) hd
 rw [sgn_abs] at h1 h2
 have hg:0<Nat.gcd n d:=Nat.gcd_pos_of_pos_left _ (Nat.pos_of_ne_zero hn)
 have hdv:Nat.gcd n d∣n:=Nat.gcd_dvd_left n d
 have hq:0<n/Nat.gcd n d:=Nat.div_pos (Nat.le_of_dvd (Nat.pos_of_ne_zero hn) hdv) hg
 have hnum:(sq neg n d).num=sgn neg (n/Nat.gcd n d):=by
  unfold sq
  rw [h1]
  unfold sgn
  cases neg with
  |false=>simp
  |true=>
   simp only [if_true]
   rw [Int.neg_ediv_of_dvd (Int.ofNat_dvd.2 hdv)]
   simp
 unfold rd
 rw [hnum]
 have h0:sgn neg (n/Nat.gcd n d)≠0:=fun e=>by
  have:=congrArg Int.natAbs e
  rw [sgn_abs] at this
  rw [this] at hq
  simp at hq
 rw [if_neg h0,sgn_abs]
 have e2:(sq neg n d).den=d/Nat.gcd n d:=h2
 rw [e2]
 congr 1
 generalize n/Nat.gcd n d=m at hq
 unfold sgn
 cases neg with
 |false=>simp
 |true=>simp;omega
theorem rd_zero:rd 0=⟨false,[],[]⟩:=by simp [rd,words_zero]
theorem sq_zero (neg:Bool) (d:Nat):sq neg 0 d=0:=by unfold sq sgn;cases neg<;>simp [Rat.zero_mkRat]
theorem plainB_words {n:Nat} (h:n≠0):plainB (words n)=true:=by
 have hp:=(words_plain n).resolve_left (fun e=>h (words_eq_nil.1 e))
 have hl:(words n).length≠0:=fun e=>h (words_eq_nil.1 (List.length_eq_zero_iff.1 e))
 simp only [plainB,Bool.and_eq_true,decide_eq_true_eq,Bool.not_eq_true',decide_eq_false_iff_not]
 exact⟨by omega,hp⟩
theorem rd_some {q:Rat} (h:q≠0):(rd q).some=true∧(rd q).valid=true:=by
 have hn:q.num≠0:=fun e=>h (Rat.num_eq_zero.1 e)
 have hl:(words q.num.natAbs).length≠0:=fun e=>hn (by have:=words_eq_nil.1 (List.length_eq_zero_iff.1 e);omega)
 have hv:(rd q).valid=true:=by
  unfold RD.valid rd
  simp only [hn,if_false]
  rw [if_neg (fun x=>hl x.1),plainB_words om,plainB_words q.den_nz,val_words,val_words]
  have:=q.reduced
  simp only [Bool.and_self,Bool.true_and,decide_eq_true_eq]
  exact this
 refine⟨?_,hv⟩
 unfold RD.some
 rw [hv]
 simp only [Bool.true_and,decide_eq_true_eq]
 exact hl
theorem rd_q (q:Rat):(rd q).q=q:=by
 by_cases h:q=0
 ·subst h
  rw [rd_zero]
  rfl
 ·obtain⟨h1,_⟩:=rd_some h
  have hn:q.num≠0:=fun e=>h (Rat.num_eq_zero.1 e)
  have e:(rd q).q=sq (decide (q.num<0)) q.num.natAbs q.den:=by
   unfold RD.q RD.ps RD.pn RD.pd
   rw [h1]
   simp only [if_true]
   unfold rd
   simp only [hn,if_false,val_words]
  rw [e]
  unfold sq
  have:sgn (decide (q.num<0)) q.num.natAbs=q.num:=by
   unfold sgn
   split
   ·rename_i hlt;simp only [decide_eq_true_eq] at hlt;omega
   ·rename_i hlt;simp only [decide_eq_true_eq] at hlt;omega
  rw [this]
  exact Rat.mkRat_self q
theorem rd_valid (q:Rat):(rd q).valid=true:=by
 by_cases h:q=0
 ·subst h;rw [rd_zero];rfl
 ·exact(rd_some h).2
def fits (q:Rat) (L:Nat):Prop:=q.num.natAbs<4294967296^L∧q.den<4294967296^L
theorem fits_mono {q:Rat} {L M:Nat} (h:fits q L) (hm:L≤M):fits q M:=
 ⟨Nat.lt_of_lt_of_le h.1 (Nat.pow_le_pow_right om hm),Nat.lt_of_lt_of_le h.2 (Nat.pow_le_pow_right om hm)⟩
theorem rd_wf {q:Rat} {L:Nat} (h:fits q L):(rd q).wf L:=by
 refine⟨words_lt _,?_,words_len_le h.1,?_⟩
 ·unfold rd
  simp only
  split
  ·simp
  ·exact words_lt _
 ·unfold rd
  simp only
  split
  ·simp
  ·exact words_len_le h.2
theorem fits_sq {neg:Bool} {n d L:Nat} (hd:d≠0) (h1:n<4294967296^L) (h2:d<4294967296^L):fits (sq neg n d) L:=by
 obtain⟨e1,e2⟩:=mkRat_nd (n:=sgn neg n) hd
 rw [sgn_abs] at e1 e2
 unfold fits sq
 rw [e1,e2]
 refine⟨Nat.lt_of_le_of_lt ?_ h1,Nat.lt_of_le_of_lt (Nat.div_le_self _ _) h2⟩
 have:=Int.natAbs_ediv_le_natAbs (sgn neg n) ((Nat.gcd n d:Nat):Int)
 rw [sgn_abs] at this
 exact this
theorem RD.fits {r:RD} {L:Nat} (hw:r.wf L) (hL:1≤L):fits r.q L:=by
 obtain⟨h1,h2⟩:=RD.p_len hw hL
 have hp:=RD.pd_ne hw
 exact fits_sq hp (Nat.lt_of_lt_of_le (words_pow_lt _) (Nat.pow_le_pow_right om h1)) (Nat.lt_of_lt_of_le (words_pow_lt _) (Nat.pow_le_pow_right om h2))
theorem norm_le {n:Int} {d L:Nat} (hd:d≠0) (h1:n.natAbs<4294967296^L) (h2:d<4294967296^L):PN.fits (mkRat n d) L:=by
 obtain⟨e1,e2⟩:=mkRat_nd (n:=n) hd
 unfold PN.fits
 rw [e1,e2]
 exact⟨Nat.lt_of_le_of_lt (Int.natAbs_ediv_le_natAbs _ _) h1,Nat.lt_of_le_of_lt (Nat.div_le_self _ _) h2⟩
theorem pow_mul_lt {a b L M:Nat} (h1:a<4294967296^L) (h2:b<4294967296^M):a*b<4294967296^(L+M):=by
 rw [Nat.pow_add]
 exact Nat.mul_lt_mul'' h1 h2
theorem fits_add {a b:Rat} {L M:Nat} (ha:PN.fits a L) (hb:PN.fits b M):PN.fits (a+b) (L+M+1):=by
 rw [Rat.add_def,Rat.normalize_eq_mkRat]
 have h3:=pow_mul_lt ha.1 hb.2
 have h4:=pow_mul_lt hb.1 ha.2
 rw [Nat.add_comm M L] at h4
 refine norm_le (Nat.mul_ne_zero a.den_nz b.den_nz) ?_ ?_
 ·refine Nat.lt_of_le_of_lt (Int.natAbs_add_le _ _) ?_
  rw [Int.natAbs_mul,Int.natAbs_mul,Int.natAbs_natCast,Int.natAbs_natCast,Nat.pow_succ]
  omega
 ·have:=pow_mul_lt ha.2 hb.2
  rw [Nat.pow_succ]
  omega
theorem fits_mul {a b:Rat} {L M:Nat} (ha:PN.fits a L) (hb:PN.fits b M):PN.fits (a*b) (L+M):=by
 rw [Rat.mul_def,Rat.normalize_eq_mkRat]
 refine norm_le (Nat.mul_ne_zero a.den_nz b.den_nz) ?_ (pow_mul_lt ha.2 hb.2)
 rw [Int.natAbs_mul]
 exact pow_mul_lt ha.1 hb.1
theorem fits_neg {a:Rat} {L:Nat} (ha:PN.fits a L):PN.fits (-a) L:=by
 unfold PN.fits
 rw [Rat.neg_num,Rat.neg_den,Int.natAbs_neg]
 exact ha
theorem fits_sub {a b:Rat} {L M:Nat} (ha:PN.fits a L) (hb:PN.fits b M):PN.fits (a-b) (L+M+1):=by
 rw [Rat.sub_eq_add_neg];exact fits_add ha (fits_neg hb)
theorem sq_add_same (x:Bool) {n m d e:Nat} (hd:d≠0) (he:e≠0):sq x (n*e+m*d) (d*e)=sq x n d+sq x m e:=by
 unfold sq
 rw [Rat.mkRat_add_mkRat _ _ hd he]
 congr 1
 unfold sgn
 cases x<;>simp [Int.natCast_mul,Int.neg_add,Int.neg_mul]
theorem sq_add_ge (x:Bool) {n m d e:Nat} (hd:d≠0) (he:e≠0) (h:m*d≤n*e):sq x (n*e-m*d) (d*e)=sq x n d+sq (!x) m e:=by
 unfold sq
 rw [Rat.mkRat_add_mkRat _ _ hd he,sgn_neg]
 congr 1
 unfold sgn
 cases x
 ·simp only [Bool.false_eq_true,if_false]
  rw [Int.ofNat_sub h,Int.natCast_mul,Int.natCast_mul,Int.neg_mul];omega
 ·simp only [if_true]
  rw [Int.ofNat_sub h,Int.natCast_mul,Int.natCast_mul,Int.neg_neg,Int.neg_mul];omega
theorem sq_add_lt (x:Bool) {n m d e:Nat} (hd:d≠0) (he:e≠0) (h:n*e≤m*d):sq (!x) (m*d-n*e) (d*e)=sq x n d+sq (!x) m e:=by
 have:=sq_add_ge (!x) (n:=m) (m:=n) (d:=e) (e:=d) he hd h
 rw [Bool.not_not,Nat.mul_comm e d] at this
 rw [this]
 exact Rat.add_comm _ _
theorem sq_mul (x y:Bool) (n m d e:Nat):sq (x !=y) (n*m) (d*e)=sq x n d*sq y m e:=by
 unfold sq
 rw [Rat.mkRat_mul_mkRat,sgn_mul]
theorem sq_neg (x:Bool) (n d:Nat):sq (!x) n d= -sq x n d:=by
 unfold sq
 rw [Rat.neg_mkRat,sgn_neg]
def signQ (q:Rat):Int:=if q=0 then 0 else if q<0 then-1 else 1
theorem sq_ne {neg:Bool} {n d:Nat} (hn:n≠0) (hd:d≠0):sq neg n d≠0:=by
 unfold sq
 rw [Ne,Rat.mkRat_eq_zero hd]
 intro e
 have:=congrArg Int.natAbs e
 rw [sgn_abs] at this
 simp at this
 exact hn this
theorem sq_lt {neg:Bool} {n d:Nat} (hn:n≠0) (hd:d≠0):sq neg n d<0↔neg=true:=by
 have h:=rd_sq (neg:=neg) hn hd
 have h1:decide ((sq neg n d).num<0)=neg:=congrArg RD.neg h
 have h2:sq neg n d<0↔(sq neg n d).num<0:=by rw [Rat.lt_iff];simp
 rw [h2]
 constructor
 ·intro h3;rw [←h1];simpa using h3
 ·intro h3;rw [h3] at h1;rw [h3];simpa using h1
end Go.PN
namespace Go.Proofs.YtefekdejgbceiaaGreat
open Go.AI
@[go_sem] theorem tya_s_2:tSz Tryz.prog 2=some (false,1):=by kernel_rfl
@[go_sem] theorem tya_zi_2:tZI Tryz.prog 2=some (.i64,0):=by kernel_rfl
@[go_sem] theorem tya_i_2:tInt Tryz.prog 2=some .i64:=by kernel_rfl
@[go_sem] theorem tya_z_2:tZero Tryz.prog 2=some [.int .i64 0]:=by kernel_rfl
@[go_sem] theorem tya_s_3:tSz Tryz.prog 3=some (false,1):=by kernel_rfl
@[go_sem] theorem tya_zi_3:tZI Tryz.prog 3=some (.i64,0):=by kernel_rfl
@[go_sem] theorem tya_i_3:tInt Tryz.prog 3=some .i64:=by kernel_rfl
@[go_sem] theorem tya_z_3:tZero Tryz.prog 3=some [.int .i64 0]:=by kernel_rfl
@[go_sem] theorem tya_s_4:tSz Tryz.prog 4=some (false,1):=by kernel_rfl
@[go_sem] theorem tya_b_4:tBool Tryz.prog 4=true:=by kernel_rfl
@[go_sem] theorem tya_z_4:tZero Tryz.prog 4=some [.bool false]:=by kernel_rfl
@[go_sem] theorem tya_s_5:tSz Tryz.prog 5=some (false,1):=by kernel_rfl
@[go_sem] theorem tya_zi_5:tZI Tryz.prog 5=some (.u8,0):=by kernel_rfl
@[go_sem] theorem tya_i_5:tInt Tryz.prog 5=some .u8:=by kernel_rfl
@[go_sem] theorem tya_z_5:tZero Tryz.prog 5=some [.int .u8 0]:=by kernel_rfl
@[go_sem] theorem tya_s_6:tSz Tryz.prog 6=some (false,1):=by kernel_rfl
@[go_sem] theorem tya_zi_6:tZI Tryz.prog 6=some (.u8,0):=by kernel_rfl
@[go_sem] theorem tya_i_6:tInt Tryz.prog 6=some .u8:=by kernel_rfl
@[go_sem] theorem tya_z_6:tZero Tryz.prog 6=some [.int .u8 0]:=by kernel_rfl
@[go_sem] theorem tya_s_7:tSz Tryz.prog 7=some (true,4):=by kernel_rfl
@[go_sem] theorem tya_fl_7:tFlds Tryz.prog 7=some [(0,1),(1,1),(2,1),(3,1)]:=by kernel_rfl
@[go_sem] theorem tya_f0_7:tFld Tryz.prog 7 0=some 0:=by kernel_rfl
@[go_sem] theorem tya_f1_7:tFld Tryz.prog 7 1=some 1:=by kernel_rfl
@[go_sem] theorem tya_f2_7:tFld Tryz.prog 7 2=some 2:=by kernel_rfl
@[go_sem] theorem tya_f3_7:tFld Tryz.prog 7 3=some 3:=by kernel_rfl
@[go_sem] theorem tya_z_7:tZero Tryz.prog 7=some [.int .i64 0,.int .i64 0,.bool false,.int .u8 0]:=by kernel_rfl
@[go_sem] theorem tya_s_8:tSz Tryz.prog 8=some (true,4):=by kernel_rfl
@[go_sem] theorem tya_fl_8:tFlds Tryz.prog 8=some [(0,1),(1,1),(2,1),(3,1)]:=by kernel_rfl
@[go_sem] theorem tya_f0_8:tFld Tryz.prog 8 0=some 0:=by kernel_rfl
@[go_sem] theorem tya_f1_8:tFld Tryz.prog 8 1=some 1:=by kernel_rfl
@[go_sem] theorem tya_f2_8:tFld Tryz.prog 8 2=some 2:=by kernel_rfl
@[go_sem] theorem tya_f3_8:tFld Tryz.prog 8 3=some 3:=by kernel_rfl
@[go_sem] theorem tya_z_8:tZero Tryz.prog 8=some [.int .i64 0,.int .i64 0,.bool false,.int .u8 0]:=by kernel_rfl
@[go_sem] theorem tya_s_9:tSz Tryz.prog 9=some (false,1):=by kernel_rfl
@[go_sem] theorem tya_z_9:tZero Tryz.prog 9=some [.str ⟨#[]⟩]:=by kernel_rfl
@[go_sem] theorem tya_s_10:tSz Tryz.prog 10=some (false,1):=by kernel_rfl
@[go_sem] theorem tya_z_10:tZero Tryz.prog 10=some [.str ⟨#[]⟩]:=by kernel_rfl
@[go_sem] theorem tya_s_11:tSz Tryz.prog 11=some (false,1):=by kernel_rfl
@[go_sem] theorem tya_z_11:tZero Tryz.prog 11=some [.str ⟨#[]⟩]:=by kernel_rfl
@[go_sem] theorem tya_s_12:tSz Tryz.prog 12=some (false,1):=by kernel_rfl
@[go_sem] theorem tya_zi_12:tZI Tryz.prog 12=some (.u64,0):=by kernel_rfl
@[go_sem] theorem tya_i_12:tInt Tryz.prog 12=some .u64:=by kernel_rfl
@[go_sem] theorem tya_z_12:tZero Tryz.prog 12=some [.int .u64 0]:=by kernel_rfl
@[go_sem] theorem tya_s_13:tSz Tryz.prog 13=some (true,2):=by kernel_rfl
@[go_sem] theorem tya_fl_13:tFlds Tryz.prog 13=some [(0,1),(1,1)]:=by kernel_rfl
@[go_sem] theorem tya_f0_13:tFld Tryz.prog 13 0=some 0:=by kernel_rfl
@[go_sem] theorem tya_f1_13:tFld Tryz.prog 13 1=some 1:=by kernel_rfl
@[go_sem] theorem tya_z_13:tZero Tryz.prog 13=some [.str ⟨#[]⟩,.int .u64 0]:=by kernel_rfl
@[go_sem] theorem tya_s_14:tSz Tryz.prog 14=some (true,2):=by kernel_rfl
@[go_sem] theorem tya_fl_14:tFlds Tryz.prog 14=some [(0,1),(1,1)]:=by kernel_rfl
@[go_sem] theorem tya_f0_14:tFld Tryz.prog 14 0=some 0:=by kernel_rfl
@[go_sem] theorem tya_f1_14:tFld Tryz.prog 14 1=some 1:=by kernel_rfl
@[go_sem] theorem tya_z_14:tZero Tryz.prog 14=some [.str ⟨#[]⟩,.int .u64 0]:=by kernel_rfl
@[go_sem] theorem tya_s_15:tSz Tryz.prog 15=some (false,1):=by kernel_rfl
@[go_sem] theorem tya_z_15:tZero Tryz.prog 15=some [.raw (.pointer none)]:=by kernel_rfl
@[go_sem] theorem tya_s_16:tSz Tryz.prog 16=some (false,1):=by kernel_rfl
@[go_sem] theorem tya_z_16:tZero Tryz.prog 16=some [.raw (.pointer none)]:=by kernel_rfl
@[go_sem] theorem tya_s_17:tSz Tryz.prog 17=some (false,1):=by kernel_rfl
@[go_sem] theorem tya_z_17:tZero Tryz.prog 17=some [.raw (.pointer none)]:=by kernel_rfl
@[go_sem] theorem tya_s_18:tSz Tryz.prog 18=some (true,1):=by kernel_rfl
@[go_sem] theorem tya_fl_18:tFlds Tryz.prog 18=some [(0,1)]:=by kernel_rfl
@[go_sem] theorem tya_f0_18:tFld Tryz.prog 18 0=some 0:=by kernel_rfl
@[go_sem] theorem tya_z_18:tZero Tryz.prog 18=some [.raw (.pointer none)]:=by kernel_rfl
@[go_sem] theorem tya_s_19:tSz Tryz.prog 19=some (true,1):=by kernel_rfl
@[go_sem] theorem tya_fl_19:tFlds Tryz.prog 19=some [(0,1)]:=by kernel_rfl
@[go_sem] theorem tya_f0_19:tFld Tryz.prog 19 0=some 0:=by kernel_rfl
@[go_sem] theorem tya_z_19:tZero Tryz.prog 19=some [.raw (.pointer none)]:=by kernel_rfl
@[go_sem] theorem tya_s_20:tSz Tryz.prog 20=some (false,1):=by kernel_rfl
@[go_sem] theorem tya_c_20:tIfc Tryz.prog 20=true:=by kernel_rfl
@[go_sem] theorem tya_z_20:tZero Tryz.prog 20=some [.nilI]:=by kernel_rfl
@[go_sem] theorem tya_s_21:tSz Tryz.prog 21=some (false,1):=by kernel_rfl
@[go_sem] theorem tya_zi_21:tZI Tryz.prog 21=some (.i32,0):=by kernel_rfl
@[go_sem] theorem tya_i_21:tInt Tryz.prog 21=some .i32:=by kernel_rfl
@[go_sem] theorem tya_z_21:tZero Tryz.prog 21=some [.int .i32 0]:=by kernel_rfl
@[go_sem] theorem tya_e_22:tElem Tryz.prog 22=some (68,3,40):=by kernel_rfl
@[go_sem] theorem tya_s_22:tSz Tryz.prog 22=some (false,1):=by kernel_rfl
@[go_sem] theorem tya_z_22:tZero Tryz.prog 22=some [.nils]:=by kernel_rfl
@[go_sem] theorem tya_s_23:tSz Tryz.prog 23=some (true,3):=by kernel_rfl
@[go_sem] theorem tya_fl_23:tFlds Tryz.prog 23=some [(0,1),(1,1),(2,1)]:=by kernel_rfl
@[go_sem] theorem tya_f0_23:tFld Tryz.prog 23 0=some 0:=by kernel_rfl
@[go_sem] theorem tya_f1_23:tFld Tryz.prog 23 1=some 1:=by kernel_rfl
@[go_sem] theorem tya_f2_23:tFld Tryz.prog 23 2=some 2:=by kernel_rfl
@[go_sem] theorem tya_z_23:tZero Tryz.prog 23=some [.int .i64 0,.nils,.int .i64 0]:=by kernel_rfl
@[go_sem] theorem tya_s_24:tSz Tryz.prog 24=some (true,3):=by kernel_rfl
@[go_sem] theorem tya_fl_24:tFlds Tryz.prog 24=some [(0,1),(1,1),(2,1)]:=by kernel_rfl
@[go_sem] theorem tya_f0_24:tFld Tryz.prog 24 0=some 0:=by kernel_rfl
@[go_sem] theorem tya_f1_24:tFld Tryz.prog 24 1=some 1:=by kernel_rfl
@[go_sem] theorem tya_f2_24:tFld Tryz.prog 24 2=some 2:=by kernel_rfl
@[go_sem] theorem tya_z_24:tZero Tryz.prog 24=some [.int .i64 0,.nils,.int .i64 0]:=by kernel_rfl
@[go_sem] theorem tya_e_25:tElem Tryz.prog 25=some (41,3,56):=by kernel_rfl
@[go_sem] theorem tya_s_25:tSz Tryz.prog 25=some (false,1):=by kernel_rfl
@[go_sem] theorem tya_z_25:tZero Tryz.prog 25=some [.nils]:=by kernel_rfl
@[go_sem] theorem tya_e_28:tElem Tryz.prog 28=some (3,1,8):=by kernel_rfl
@[go_sem] theorem tya_s_28:tSz Tryz.prog 28=some (false,1):=by kernel_rfl
@[go_sem] theorem tya_z_28:tZero Tryz.prog 28=some [.nils]:=by kernel_rfl
@[go_sem] theorem tya_e_29:tElem Tryz.prog 29=some (119,3,24):=by kernel_rfl
@[go_sem] theorem tya_s_29:tSz Tryz.prog 29=some (false,1):=by kernel_rfl
@[go_sem] theorem tya_z_29:tZero Tryz.prog 29=some [.nils]:=by kernel_rfl
@[go_sem] theorem tya_s_30:tSz Tryz.prog 30=some (true,3):=by kernel_rfl
@[go_sem] theorem tya_fl_30:tFlds Tryz.prog 30=some [(0,1),(1,1),(2,1)]:=by kernel_rfl
@[go_sem] theorem tya_f0_30:tFld Tryz.prog 30 0=some 0:=by kernel_rfl
@[go_sem] theorem tya_f1_30:tFld Tryz.prog 30 1=some 1:=by kernel_rfl
@[go_sem] theorem tya_f2_30:tFld Tryz.prog 30 2=some 2:=by kernel_rfl
@[go_sem] theorem tya_z_30:tZero Tryz.prog 30=some [.nils,.nils,.int .i64 0]:=by kernel_rfl
@[go_sem] theorem tya_s_31:tSz Tryz.prog 31=some (true,3):=by kernel_rfl
@[go_sem] theorem tya_fl_31:tFlds Tryz.prog 31=some [(0,1),(1,1),(2,1)]:=by kernel_rfl
@[go_sem] theorem tya_f0_31:tFld Tryz.prog 31 0=some 0:=by kernel_rfl
@[go_sem] theorem tya_f1_31:tFld Tryz.prog 31 1=some 1:=by kernel_rfl
@[go_sem] theorem tya_f2_31:tFld Tryz.prog 31 2=some 2:=by kernel_rfl
@[go_sem] theorem tya_z_31:tZero Tryz.prog 31=some [.nils,.nils,.int .i64 0]:=by kernel_rfl
@[go_sem] theorem tya_s_32:tSz Tryz.prog 32=some (false,1):=by kernel_rfl
@[go_sem] theorem tya_c_32:tIfc Tryz.prog 32=true:=by kernel_rfl
@[go_sem] theorem tya_z_32:tZero Tryz.prog 32=some [.nilI]:=by kernel_rfl
@[go_sem] theorem tya_s_33:tSz Tryz.prog 33=some (false,1):=by kernel_rfl
@[go_sem] theorem tya_c_33:tIfc Tryz.prog 33=true:=by kernel_rfl
@[go_sem] theorem tya_z_33:tZero Tryz.prog 33=some [.nilI]:=by kernel_rfl
@[go_sem] theorem tya_e_39:tElem Tryz.prog 39=some (139,1,4):=by kernel_rfl
@[go_sem] theorem tya_s_39:tSz Tryz.prog 39=some (false,1):=by kernel_rfl
@[go_sem] theorem tya_z_39:tZero Tryz.prog 39=some [.nils]:=by kernel_rfl
@[go_sem] theorem tya_s_40:tSz Tryz.prog 40=some (true,3):=by kernel_rfl
@[go_sem] theorem tya_fl_40:tFlds Tryz.prog 40=some [(0,1),(1,1),(2,1)]:=by kernel_rfl
@[go_sem] theorem tya_f0_40:tFld Tryz.prog 40 0=some 0:=by kernel_rfl
@[go_sem] theorem tya_f1_40:tFld Tryz.prog 40 1=some 1:=by kernel_rfl
@[go_sem] theorem tya_f2_40:tFld Tryz.prog 40 2=some 2:=by kernel_rfl
@[go_sem] theorem tya_z_40:tZero Tryz.prog 40=some [.bool false,.nils,.nils]:=by kernel_rfl
@[go_sem] theorem tya_s_41:tSz Tryz.prog 41=some (true,3):=by kernel_rfl
@[go_sem] theorem tya_fl_41:tFlds Tryz.prog 41=some [(0,1),(1,1),(2,1)]:=by kernel_rfl
@[go_sem] theorem tya_f0_41:tFld Tryz.prog 41 0=some 0:=by kernel_rfl
@[go_sem] theorem tya_f1_41:tFld Tryz.prog 41 1=some 1:=by kernel_rfl
@[go_sem] theorem tya_f2_41:tFld Tryz.prog 41 2=some 2:=by kernel_rfl
@[go_sem] theorem tya_z_41:tZero Tryz.prog 41=some [.bool false,.nils,.nils]:=by kernel_rfl
@[go_sem] theorem tya_s_50:tSz Tryz.prog 50=some (false,1):=by kernel_rfl
@[go_sem] theorem tya_zi_50:tZI Tryz.prog 50=some (.i64,0):=by kernel_rfl
@[go_sem] theorem tya_i_50:tInt Tryz.prog 50=some .i64:=by kernel_rfl
@[go_sem] theorem tya_z_50:tZero Tryz.prog 50=some [.int .i64 0]:=by kernel_rfl
@[go_sem] theorem tya_s_64:tSz Tryz.prog 64=some (false,1):=by kernel_rfl
@[go_sem] theorem tya_z_64:tZero Tryz.prog 64=some [.raw (.pointer none)]:=by kernel_rfl
@[go_sem] theorem tya_s_67:tSz Tryz.prog 67=some (true,3):=by kernel_rfl
@[go_sem] theorem tya_fl_67:tFlds Tryz.prog 67=some [(0,1),(1,1),(2,1)]:=by kernel_rfl
@[go_sem] theorem tya_f0_67:tFld Tryz.prog 67 0=some 0:=by kernel_rfl
@[go_sem] theorem tya_f1_67:tFld Tryz.prog 67 1=some 1:=by kernel_rfl
@[go_sem] theorem tya_f2_67:tFld Tryz.prog 67 2=some 2:=by kernel_rfl
@[go_sem] theorem tya_z_67:tZero Tryz.prog 67=some [.int .i64 0,.int .i64 0,.nils]:=by kernel_rfl
@[go_sem] theorem tya_s_68:tSz Tryz.prog 68=some (true,3):=by kernel_rfl
@[go_sem] theorem tya_fl_68:tFlds Tryz.prog 68=some [(0,1),(1,1),(2,1)]:=by kernel_rfl
@[go_sem] theorem tya_f0_68:tFld Tryz.prog 68 0=some 0:=by kernel_rfl
@[go_sem] theorem tya_f1_68:tFld Tryz.prog 68 1=some 1:=by kernel_rfl
@[go_sem] theorem tya_f2_68:tFld Tryz.prog 68 2=some 2:=by kernel_rfl
@[go_sem] theorem tya_z_68:tZero Tryz.prog 68=some [.int .i64 0,.int .i64 0,.nils]:=by kernel_rfl
@[go_sem] theorem tya_s_82:tSz Tryz.prog 82=some (false,1):=by kernel_rfl
@[go_sem] theorem tya_z_82:tZero Tryz.prog 82=some [.raw (.pointer none)]:=by kernel_rfl
@[go_sem] theorem tya_s_85:tSz Tryz.prog 85=some (true,11):=by kernel_rfl
@[go_sem] theorem tya_fl_85:tFlds Tryz.prog 85=some [(0,3),(3,1),(4,1),(5,3),(8,3)]:=by kernel_rfl
@[go_sem] theorem tya_f0_85:tFld Tryz.prog 85 0=some 0:=by kernel_rfl
@[go_sem] theorem tya_f1_85:tFld Tryz.prog 85 1=some 3:=by kernel_rfl
@[go_sem] theorem tya_f2_85:tFld Tryz.prog 85 2=some 4:=by kernel_rfl
@[go_sem] theorem tya_f3_85:tFld Tryz.prog 85 3=some 5:=by kernel_rfl
@[go_sem] theorem tya_f4_85:tFld Tryz.prog 85 4=some 8:=by kernel_rfl
@[go_sem] theorem tya_z_85:tZero Tryz.prog 85=some [.int .i64 0,.nils,.int .i64 0,.nils,.nils,.nils,.nils,.int .i64 0,.bool false,.nils,.nils]:=by kernel_rfl
@[go_sem] theorem tya_s_86:tSz Tryz.prog 86=some (true,11):=by kernel_rfl
@[go_sem] theorem tya_fl_86:tFlds Tryz.prog 86=some [(0,3),(3,1),(4,1),(5,3),(8,3)]:=by kernel_rfl
@[go_sem] theorem tya_f0_86:tFld Tryz.prog 86 0=some 0:=by kernel_rfl
@[go_sem] theorem tya_f1_86:tFld Tryz.prog 86 1=some 3:=by kernel_rfl
@[go_sem] theorem tya_f2_86:tFld Tryz.prog 86 2=some 4:=by kernel_rfl
@[go_sem] theorem tya_f3_86:tFld Tryz.prog 86 3=some 5:=by kernel_rfl
@[go_sem] theorem tya_f4_86:tFld Tryz.prog 86 4=some 8:=by kernel_rfl
@[go_sem] theorem tya_z_86:tZero Tryz.prog 86=some [.int .i64 0,.nils,.int .i64 0,.nils,.nils,.nils,.nils,.int .i64 0,.bool false,.nils,.nils]:=by kernel_rfl
@[go_sem] theorem tya_e_107:tElem Tryz.prog 107=some (4,1,1):=by kernel_rfl
@[go_sem] theorem tya_s_107:tSz Tryz.prog 107=some (false,1):=by kernel_rfl
@[go_sem] theorem tya_z_107:tZero Tryz.prog 107=some [.nils]:=by kernel_rfl
@[go_sem] theorem tya_s_109:tSz Tryz.prog 109=some (false,1):=by kernel_rfl
@[go_sem] theorem tya_z_109:tZero Tryz.prog 109=some [.raw (.map none)]:=by kernel_rfl
@[go_sem] theorem tya_s_110:tSz Tryz.prog 110=some (false,1):=by kernel_rfl
@[go_sem] theorem tya_z_110:tZero Tryz.prog 110=some [.raw (.map none)]:=by kernel_rfl
@[go_sem] theorem tya_s_111:tSz Tryz.prog 111=some (true,5):=by kernel_rfl
@[go_sem] theorem tya_fl_111:tFlds Tryz.prog 111=some [(0,1),(1,1),(2,1),(3,1),(4,1)]:=by kernel_rfl
@[go_sem] theorem tya_f0_111:tFld Tryz.prog 111 0=some 0:=by kernel_rfl
@[go_sem] theorem tya_f1_111:tFld Tryz.prog 111 1=some 1:=by kernel_rfl
@[go_sem] theorem tya_f2_111:tFld Tryz.prog 111 2=some 2:=by kernel_rfl
@[go_sem] theorem tya_f3_111:tFld Tryz.prog 111 3=some 3:=by kernel_rfl
@[go_sem] theorem tya_f4_111:tFld Tryz.prog 111 4=some 4:=by kernel_rfl
@[go_sem] theorem tya_z_111:tZero Tryz.prog 111=some [.nils,.nils,.nils,.raw (.map none),.raw (.map none)]:=by kernel_rfl
@[go_sem] theorem tya_s_112:tSz Tryz.prog 112=some (true,5):=by kernel_rfl
@[go_sem] theorem tya_fl_112:tFlds Tryz.prog 112=some [(0,1),(1,1),(2,1),(3,1),(4,1)]:=by kernel_rfl
@[go_sem] theorem tya_f0_112:tFld Tryz.prog 112 0=some 0:=by kernel_rfl
@[go_sem] theorem tya_f1_112:tFld Tryz.prog 112 1=some 1:=by kernel_rfl
@[go_sem] theorem tya_f2_112:tFld Tryz.prog 112 2=some 2:=by kernel_rfl
@[go_sem] theorem tya_f3_112:tFld Tryz.prog 112 3=some 3:=by kernel_rfl
@[go_sem] theorem tya_f4_112:tFld Tryz.prog 112 4=some 4:=by kernel_rfl
@[go_sem] theorem tya_z_112:tZero Tryz.prog 112=some [.nils,.nils,.nils,.raw (.map none),.raw (.map none)]:=by kernel_rfl
@[go_sem] theorem tya_s_116:tSz Tryz.prog 116=some (false,1):=by kernel_rfl
@[go_sem] theorem tya_z_116:tZero Tryz.prog 116=some [.raw (.map none)]:=by kernel_rfl
@[go_sem] theorem tya_s_118:tSz Tryz.prog 118=some (true,3):=by kernel_rfl
@[go_sem] theorem tya_fl_118:tFlds Tryz.prog 118=some [(0,1),(1,1),(2,1)]:=by kernel_rfl
@[go_sem] theorem tya_f0_118:tFld Tryz.prog 118 0=some 0:=by kernel_rfl
@[go_sem] theorem tya_f1_118:tFld Tryz.prog 118 1=some 1:=by kernel_rfl
@[go_sem] theorem tya_f2_118:tFld Tryz.prog 118 2=some 2:=by kernel_rfl
@[go_sem] theorem tya_q_118:tEqS Tryz.prog 118=some 3:=by kernel_rfl
@[go_sem] theorem tya_z_118:tZero Tryz.prog 118=some [.int .i64 0,.int .i64 0,.int .i64 0]:=by kernel_rfl
@[go_sem] theorem tya_s_119:tSz Tryz.prog 119=some (true,3):=by kernel_rfl
@[go_sem] theorem tya_fl_119:tFlds Tryz.prog 119=some [(0,1),(1,1),(2,1)]:=by kernel_rfl
@[go_sem] theorem tya_f0_119:tFld Tryz.prog 119 0=some 0:=by kernel_rfl
@[go_sem] theorem tya_f1_119:tFld Tryz.prog 119 1=some 1:=by kernel_rfl
@[go_sem] theorem tya_f2_119:tFld Tryz.prog 119 2=some 2:=by kernel_rfl
@[go_sem] theorem tya_q_119:tEqS Tryz.prog 119=some 3:=by kernel_rfl
@[go_sem] theorem tya_z_119:tZero Tryz.prog 119=some [.int .i64 0,.int .i64 0,.int .i64 0]:=by kernel_rfl
@[go_sem] theorem tya_s_120:tSz Tryz.prog 120=some (false,1):=by kernel_rfl
@[go_sem] theorem tya_z_120:tZero Tryz.prog 120=some [.raw (.map none)]:=by kernel_rfl
@[go_sem] theorem tya_s_139:tSz Tryz.prog 139=some (false,1):=by kernel_rfl
@[go_sem] theorem tya_zi_139:tZI Tryz.prog 139=some (.u32,0):=by kernel_rfl
@[go_sem] theorem tya_i_139:tInt Tryz.prog 139=some .u32:=by kernel_rfl
@[go_sem] theorem tya_z_139:tZero Tryz.prog 139=some [.int .u32 0]:=by kernel_rfl
@[go_sem] theorem tya_s_143:tSz Tryz.prog 143=some (false,1):=by kernel_rfl
@[go_sem] theorem tya_zi_143:tZI Tryz.prog 143=some (.u64,0):=by kernel_rfl
@[go_sem] theorem tya_i_143:tInt Tryz.prog 143=some .u64:=by kernel_rfl
@[go_sem] theorem tya_z_143:tZero Tryz.prog 143=some [.int .u64 0]:=by kernel_rfl
@[go_sem] theorem tya_s_145:tSz Tryz.prog 145=some (false,1):=by kernel_rfl
@[go_sem] theorem tya_zi_145:tZI Tryz.prog 145=some (.u64,0):=by kernel_rfl
@[go_sem] theorem tya_i_145:tInt Tryz.prog 145=some .u64:=by kernel_rfl
@[go_sem] theorem tya_z_145:tZero Tryz.prog 145=some [.int .u64 0]:=by kernel_rfl
@[go_sem] theorem tya_s_147:tSz Tryz.prog 147=some (true,2):=by kernel_rfl
@[go_sem] theorem tya_fl_147:tFlds Tryz.prog 147=some [(0,1),(1,1)]:=by kernel_rfl
@[go_sem] theorem tya_f0_147:tFld Tryz.prog 147 0=some 0:=by kernel_rfl
@[go_sem] theorem tya_f1_147:tFld Tryz.prog 147 1=some 1:=by kernel_rfl
@[go_sem] theorem tya_z_147:tZero Tryz.prog 147=some [.nils,.int .i64 0]:=by kernel_rfl
@[go_sem] theorem tya_s_148:tSz Tryz.prog 148=some (true,2):=by kernel_rfl
@[go_sem] theorem tya_fl_148:tFlds Tryz.prog 148=some [(0,1),(1,1)]:=by kernel_rfl
@[go_sem] theorem tya_f0_148:tFld Tryz.prog 148 0=some 0:=by kernel_rfl
@[go_sem] theorem tya_f1_148:tFld Tryz.prog 148 1=some 1:=by kernel_rfl
@[go_sem] theorem tya_z_148:tZero Tryz.prog 148=some [.nils,.int .i64 0]:=by kernel_rfl
@[go_sem] theorem tya_s_152:tSz Tryz.prog 152=some (false,1):=by kernel_rfl
@[go_sem] theorem tya_z_152:tZero Tryz.prog 152=some [.raw (.map none)]:=by kernel_rfl
@[go_sem] theorem tya_s_156:tSz Tryz.prog 156=some (false,1):=by kernel_rfl
@[go_sem] theorem tya_z_156:tZero Tryz.prog 156=some [.raw (.map none)]:=by kernel_rfl
@[go_sem] theorem tya_s_161:tSz Tryz.prog 161=some (false,1):=by kernel_rfl
@[go_sem] theorem tya_z_161:tZero Tryz.prog 161=some [.raw (.pointer none)]:=by kernel_rfl
@[go_sem] theorem tya_s_162:tSz Tryz.prog 162=some (true,5):=by kernel_rfl
@[go_sem] theorem tya_fl_162:tFlds Tryz.prog 162=some [(0,3),(3,1),(4,1)]:=by kernel_rfl
@[go_sem] theorem tya_f0_162:tFld Tryz.prog 162 0=some 0:=by kernel_rfl
@[go_sem] theorem tya_f1_162:tFld Tryz.prog 162 1=some 3:=by kernel_rfl
@[go_sem] theorem tya_f2_162:tFld Tryz.prog 162 2=some 4:=by kernel_rfl
@[go_sem] theorem tya_z_162:tZero Tryz.prog 162=some [.int .i64 0,.nils,.int .i64 0,.nils,.nils]:=by kernel_rfl
@[go_sem] theorem tya_s_163:tSz Tryz.prog 163=some (true,5):=by kernel_rfl
@[go_sem] theorem tya_fl_163:tFlds Tryz.prog 163=some [(0,3),(3,1),(4,1)]:=by kernel_rfl
@[go_sem] theorem tya_f0_163:tFld Tryz.prog 163 0=some 0:=by kernel_rfl
@[go_sem] theorem tya_f1_163:tFld Tryz.prog 163 1=some 3:=by kernel_rfl
@[go_sem] theorem tya_f2_163:tFld Tryz.prog 163 2=some 4:=by kernel_rfl
@[go_sem] theorem tya_z_163:tZero Tryz.prog 163=some [.int .i64 0,.nils,.int .i64 0,.nils,.nils]:=by kernel_rfl
@[go_sem] theorem tya_s_169:tSz Tryz.prog 169=some (false,1):=by kernel_rfl
@[go_sem] theorem tya_z_169:tZero Tryz.prog 169=some [.raw (.pointer none)]:=by kernel_rfl
@[go_sem] theorem tya_s_176:tSz Tryz.prog 176=some (true,3):=by kernel_rfl
@[go_sem] theorem tya_z_176:tZero Tryz.prog 176=some [.int .i64 0,.int .i64 0,.int .i64 0]:=by kernel_rfl
@[go_sem] theorem tya_s_182:tSz Tryz.prog 182=some (true,2):=by kernel_rfl
@[go_sem] theorem tya_fl_182:tFlds Tryz.prog 182=some [(0,1),(1,1)]:=by kernel_rfl
@[go_sem] theorem tya_f0_182:tFld Tryz.prog 182 0=some 0:=by kernel_rfl
@[go_sem] theorem tya_f1_182:tFld Tryz.prog 182 1=some 1:=by kernel_rfl
@[go_sem] theorem tya_q_182:tEqS Tryz.prog 182=some 2:=by kernel_rfl
@[go_sem] theorem tya_z_182:tZero Tryz.prog 182=some [.int .i64 0,.int .i64 0]:=by kernel_rfl
@[go_sem] theorem tya_s_183:tSz Tryz.prog 183=some (true,2):=by kernel_rfl
@[go_sem] theorem tya_fl_183:tFlds Tryz.prog 183=some [(0,1),(1,1)]:=by kernel_rfl
@[go_sem] theorem tya_f0_183:tFld Tryz.prog 183 0=some 0:=by kernel_rfl
@[go_sem] theorem tya_f1_183:tFld Tryz.prog 183 1=some 1:=by kernel_rfl
@[go_sem] theorem tya_q_183:tEqS Tryz.prog 183=some 2:=by kernel_rfl
@[go_sem] theorem tya_z_183:tZero Tryz.prog 183=some [.int .i64 0,.int .i64 0]:=by kernel_rfl
@[go_sem] theorem tya_e_199:tElem Tryz.prog 199=some (148,2,32):=by kernel_rfl
@[go_sem] theorem tya_s_199:tSz Tryz.prog 199=some (false,1):=by kernel_rfl
@[go_sem] theorem tya_z_199:tZero Tryz.prog 199=some [.nils]:=by kernel_rfl
@[go_sem] theorem tya_s_203:tSz Tryz.prog 203=some (false,1):=by kernel_rfl
@[go_sem] theorem tya_z_203:tZero Tryz.prog 203=some [.raw (.map none)]:=by kernel_rfl
@[go_sem] theorem tya_s_204:tSz Tryz.prog 204=some (true,3):=by kernel_rfl
@[go_sem] theorem tya_fl_204:tFlds Tryz.prog 204=some [(0,1),(1,1),(2,1)]:=by kernel_rfl
@[go_sem] theorem tya_f0_204:tFld Tryz.prog 204 0=some 0:=by kernel_rfl
@[go_sem] theorem tya_f1_204:tFld Tryz.prog 204 1=some 1:=by kernel_rfl
@[go_sem] theorem tya_f2_204:tFld Tryz.prog 204 2=some 2:=by kernel_rfl
@[go_sem] theorem tya_z_204:tZero Tryz.prog 204=some [.nils,.raw (.map none),.raw (.map none)]:=by kernel_rfl
@[go_sem] theorem tya_s_205:tSz Tryz.prog 205=some (true,3):=by kernel_rfl
@[go_sem] theorem tya_fl_205:tFlds Tryz.prog 205=some [(0,1),(1,1),(2,1)]:=by kernel_rfl
@[go_sem] theorem tya_f0_205:tFld Tryz.prog 205 0=some 0:=by kernel_rfl
@[go_sem] theorem tya_f1_205:tFld Tryz.prog 205 1=some 1:=by kernel_rfl
@[go_sem] theorem tya_f2_205:tFld Tryz.prog 205 2=some 2:=by kernel_rfl
@[go_sem] theorem tya_z_205:tZero Tryz.prog 205=some [.nils,.raw (.map none),.raw (.map none)]:=by kernel_rfl
@[go_sem] theorem tya_s_215:tSz Tryz.prog 215=some (true,3):=by kernel_rfl
@[go_sem] theorem tya_fl_215:tFlds Tryz.prog 215=some [(0,1),(1,1),(2,1)]:=by kernel_rfl
@[go_sem] theorem tya_f0_215:tFld Tryz.prog 215 0=some 0:=by kernel_rfl
@[go_sem] theorem tya_f1_215:tFld Tryz.prog 215 1=some 1:=by kernel_rfl
@[go_sem] theorem tya_f2_215:tFld Tryz.prog 215 2=some 2:=by kernel_rfl
@[go_sem] theorem tya_q_215:tEqS Tryz.prog 215=some 3:=by kernel_rfl
@[go_sem] theorem tya_z_215:tZero Tryz.prog 215=some [.int .u8 0,.int .i64 0,.int .i64 0]:=by kernel_rfl
@[go_sem] theorem tya_s_216:tSz Tryz.prog 216=some (true,3):=by kernel_rfl
@[go_sem] theorem tya_fl_216:tFlds Tryz.prog 216=some [(0,1),(1,1),(2,1)]:=by kernel_rfl
@[go_sem] theorem tya_f0_216:tFld Tryz.prog 216 0=some 0:=by kernel_rfl
@[go_sem] theorem tya_f1_216:tFld Tryz.prog 216 1=some 1:=by kernel_rfl
@[go_sem] theorem tya_f2_216:tFld Tryz.prog 216 2=some 2:=by kernel_rfl
@[go_sem] theorem tya_q_216:tEqS Tryz.prog 216=some 3:=by kernel_rfl
@[go_sem] theorem tya_z_216:tZero Tryz.prog 216=some [.int .u8 0,.int .i64 0,.int .i64 0]:=by kernel_rfl
@[go_sem] theorem tya_s_218:tSz Tryz.prog 218=some (false,1):=by kernel_rfl
@[go_sem] theorem tya_zi_218:tZI Tryz.prog 218=some (.i64,0):=by kernel_rfl
@[go_sem] theorem tya_i_218:tInt Tryz.prog 218=some .i64:=by kernel_rfl
@[go_sem] theorem tya_z_218:tZero Tryz.prog 218=some [.int .i64 0]:=by kernel_rfl
@[go_sem] theorem tya_s_225:tSz Tryz.prog 225=some (false,1):=by kernel_rfl
@[go_sem] theorem tya_zi_225:tZI Tryz.prog 225=some (.u64,0):=by kernel_rfl
@[go_sem] theorem tya_i_225:tInt Tryz.prog 225=some .u64:=by kernel_rfl
@[go_sem] theorem tya_z_225:tZero Tryz.prog 225=some [.int .u64 0]:=by kernel_rfl
@[go_sem] theorem tya_s_229:tSz Tryz.prog 229=some (false,1):=by kernel_rfl
@[go_sem] theorem tya_z_229:tZero Tryz.prog 229=some [.raw (.pointer none)]:=by kernel_rfl
@[go_sem] theorem tya_s_231:tSz Tryz.prog 231=some (false,1):=by kernel_rfl
@[go_sem] theorem tya_z_231:tZero Tryz.prog 231=some [.raw (.pointer none)]:=by kernel_rfl
@[go_sem] theorem tya_s_234:tSz Tryz.prog 234=some (true,4):=by kernel_rfl
@[go_sem] theorem tya_fl_234:tFlds Tryz.prog 234=some [(0,1),(1,1),(2,1),(3,1)]:=by kernel_rfl
@[go_sem] theorem tya_f0_234:tFld Tryz.prog 234 0=some 0:=by kernel_rfl
@[go_sem] theorem tya_f1_234:tFld Tryz.prog 234 1=some 1:=by kernel_rfl
@[go_sem] theorem tya_f2_234:tFld Tryz.prog 234 2=some 2:=by kernel_rfl
@[go_sem] theorem tya_f3_234:tFld Tryz.prog 234 3=some 3:=by kernel_rfl
@[go_sem] theorem tya_z_234:tZero Tryz.prog 234=some [.raw (.pointer none),.raw (.pointer none),.raw (.pointer none),.str ⟨#[]⟩]:=by kernel_rfl
@[go_sem] theorem tya_s_235:tSz Tryz.prog 235=some (true,4):=by kernel_rfl
@[go_sem] theorem tya_fl_235:tFlds Tryz.prog 235=some [(0,1),(1,1),(2,1),(3,1)]:=by kernel_rfl
@[go_sem] theorem tya_f0_235:tFld Tryz.prog 235 0=some 0:=by kernel_rfl
@[go_sem] theorem tya_f1_235:tFld Tryz.prog 235 1=some 1:=by kernel_rfl
@[go_sem] theorem tya_f2_235:tFld Tryz.prog 235 2=some 2:=by kernel_rfl
@[go_sem] theorem tya_f3_235:tFld Tryz.prog 235 3=some 3:=by kernel_rfl
@[go_sem] theorem tya_z_235:tZero Tryz.prog 235=some [.raw (.pointer none),.raw (.pointer none),.raw (.pointer none),.str ⟨#[]⟩]:=by kernel_rfl
@[go_sem] theorem tya_s_239:tSz Tryz.prog 239=some (false,1):=by kernel_rfl
@[go_sem] theorem tya_zi_239:tZI Tryz.prog 239=some (.u8,0):=by kernel_rfl
@[go_sem] theorem tya_i_239:tInt Tryz.prog 239=some .u8:=by kernel_rfl
@[go_sem] theorem tya_z_239:tZero Tryz.prog 239=some [.int .u8 0]:=by kernel_rfl
@[go_sem] theorem tya_s_240:tSz Tryz.prog 240=some (false,1):=by kernel_rfl
@[go_sem] theorem tya_zi_240:tZI Tryz.prog 240=some (.u8,0):=by kernel_rfl
@[go_sem] theorem tya_i_240:tInt Tryz.prog 240=some .u8:=by kernel_rfl
@[go_sem] theorem tya_z_240:tZero Tryz.prog 240=some [.int .u8 0]:=by kernel_rfl
@[go_sem] theorem tya_s_242:tSz Tryz.prog 242=some (false,1):=by kernel_rfl
@[go_sem] theorem tya_z_242:tZero Tryz.prog 242=some [.raw (.pointer none)]:=by kernel_rfl
@[go_sem] theorem tya_s_243:tSz Tryz.prog 243=some (false,1):=by kernel_rfl
@[go_sem] theorem tya_zi_243:tZI Tryz.prog 243=some (.i32,0):=by kernel_rfl
@[go_sem] theorem tya_i_243:tInt Tryz.prog 243=some .i32:=by kernel_rfl
@[go_sem] theorem tya_z_243:tZero Tryz.prog 243=some [.int .i32 0]:=by kernel_rfl
@[go_sem] theorem tya_s_244:tSz Tryz.prog 244=some (false,1):=by kernel_rfl
@[go_sem] theorem tya_zi_244:tZI Tryz.prog 244=some (.i32,0):=by kernel_rfl
@[go_sem] theorem tya_i_244:tInt Tryz.prog 244=some .i32:=by kernel_rfl
@[go_sem] theorem tya_z_244:tZero Tryz.prog 244=some [.int .i32 0]:=by kernel_rfl
@[go_sem] theorem tya_s_245:tSz Tryz.prog 245=some (true,11):=by kernel_rfl
@[go_sem] theorem tya_fl_245:tFlds Tryz.prog 245=some [(0,1),(1,1),(2,1),(3,1),(4,1),(5,1),(6,1),(7,1),(8,1),(9,1),(10,1)]:=by kernel_rfl
@[go_sem] theorem tya_f0_245:tFld Tryz.prog 245 0=some 0:=by kernel_rfl
@[go_sem] theorem tya_f1_245:tFld Tryz.prog 245 1=some 1:=by kernel_rfl
@[go_sem] theorem tya_f2_245:tFld Tryz.prog 245 2=some 2:=by kernel_rfl
@[go_sem] theorem tya_f3_245:tFld Tryz.prog 245 3=some 3:=by kernel_rfl
@[go_sem] theorem tya_f4_245:tFld Tryz.prog 245 4=some 4:=by kernel_rfl
@[go_sem] theorem tya_f5_245:tFld Tryz.prog 245 5=some 5:=by kernel_rfl
@[go_sem] theorem tya_f6_245:tFld Tryz.prog 245 6=some 6:=by kernel_rfl
@[go_sem] theorem tya_f7_245:tFld Tryz.prog 245 7=some 7:=by kernel_rfl
@[go_sem] theorem tya_f8_245:tFld Tryz.prog 245 8=some 8:=by kernel_rfl
@[go_sem] theorem tya_f9_245:tFld Tryz.prog 245 9=some 9:=by kernel_rfl
@[go_sem] theorem tya_f10_245:tFld Tryz.prog 245 10=some 10:=by kernel_rfl
@[go_sem] theorem tya_z_245:tZero Tryz.prog 245=some [.int .u64 0,.int .u64 0,.int .u32 0,.int .u8 0,.int .u8 0,.int .u8 0,.int .u8 0,.raw .nilFunc,.raw (.pointer none),.int .i32 0,.int .i32 0]:=by kernel_rfl
@[go_sem] theorem tya_s_246:tSz Tryz.prog 246=some (true,11):=by kernel_rfl
@[go_sem] theorem tya_fl_246:tFlds Tryz.prog 246=some [(0,1),(1,1),(2,1),(3,1),(4,1),(5,1),(6,1),(7,1),(8,1),(9,1),(10,1)]:=by kernel_rfl
@[go_sem] theorem tya_f0_246:tFld Tryz.prog 246 0=some 0:=by kernel_rfl
@[go_sem] theorem tya_f1_246:tFld Tryz.prog 246 1=some 1:=by kernel_rfl
@[go_sem] theorem tya_f2_246:tFld Tryz.prog 246 2=some 2:=by kernel_rfl
@[go_sem] theorem tya_f3_246:tFld Tryz.prog 246 3=some 3:=by kernel_rfl
@[go_sem] theorem tya_f4_246:tFld Tryz.prog 246 4=some 4:=by kernel_rfl
@[go_sem] theorem tya_f5_246:tFld Tryz.prog 246 5=some 5:=by kernel_rfl
@[go_sem] theorem tya_f6_246:tFld Tryz.prog 246 6=some 6:=by kernel_rfl
@[go_sem] theorem tya_f7_246:tFld Tryz.prog 246 7=some 7:=by kernel_rfl
@[go_sem] theorem tya_f8_246:tFld Tryz.prog 246 8=some 8:=by kernel_rfl
@[go_sem] theorem tya_f9_246:tFld Tryz.prog 246 9=some 9:=by kernel_rfl
@[go_sem] theorem tya_f10_246:tFld Tryz.prog 246 10=some 10:=by kernel_rfl
@[go_sem] theorem tya_z_246:tZero Tryz.prog 246=some [.int .u64 0,.int .u64 0,.int .u32 0,.int .u8 0,.int .u8 0,.int .u8 0,.int .u8 0,.raw .nilFunc,.raw (.pointer none),.int .i32 0,.int .i32 0]:=by kernel_rfl
@[go_sem] theorem tya_s_247:tSz Tryz.prog 247=some (false,1):=by kernel_rfl
@[go_sem] theorem tya_z_247:tZero Tryz.prog 247=some [.raw (.pointer none)]:=by kernel_rfl
end Go.Proofs.YtefekdejgbceiaaGreat
namespace Go.Proofs.YtefekdejgbceiaaGreat
open Go.AI Go.PN
attribute [local irreducible] aw Fa Fh DrK
abbrev rdc (r:RD):List CV:=[.bool r.neg,ws true r.num,ws true r.den]
theorem cmp_one {n:Nat}:(cmpN n (val [1])==0)=decide (n=1):=by
 have:val [1]=1:=rfl
 rw [this]
 unfold cmpN
 by_cases h:n=1
 ·subst h;rfl
 ·have:¬(n=1):=h
  simp only [this,decide_false,if_false]
  by_cases h0:n<1<;>simp [h0]
theorem plain_eq {xs:List Nat} (h0:0<xs.length):plainB xs=(((xs.getD (xs.length-1) 0:Nat):Int) !=0):=by
 simp only [plainB,h0,decide_true,Bool.true_and,bne]
 congr 1
 rw [Bool.eq_iff_iff];simp
theorem plain_no {xs:List Nat} (h0:¬0<xs.length):plainB xs=false:=by simp [plainB,h0]
theorem one_fa:Fa Tryz.prog 94 [] (.c (ws true [1])):=by
 refine fa_of_body Tryz.func94 rfl rfl (by simp [Tryz.ntmps94]) fun C hC=> ?_
 simp only [initS]
 refine xG ?_
 refine aw_buildSlice (xs:=[.const (.int .u32 1)]) (cells:=[.int .u32 1]) rfl rfl rfl ty_e_ws (by rw [envP,ty_z_u32];rfl) rfl om om (by intro x hx;simp only [List.mem_cons,List.not_mem_nil,or_false] at hx;subst hx;exact⟨rfl,rfl,rfl⟩) rfl fun g hg=> ?_
 refine xSGT hC ?_
 exact .one (.c (ler_oslws eE om rfl (fun j hj=>by match j,hj with|0,_=>rfl)))
theorem plain_fa (xs:List Nat) (hlx:xs.length≤68719476738):Fa Tryz.prog 153 [.c (ws false xs)] (.c (.bool (plainB xs))):=by
 refine fa_of_body Tryz.func153 rfl rfl (by simp [Tryz.ntmps153]) fun C hC=> ?_
 simp only [initS,Nat.reduceAdd]
 refine xG ?_
 refine aw_split 6 eE (fun hb=> ?_) (fun hb=> ?_)<;>refine xS ?_
 ·have h0:0<xs.length:=dT hb
  refine xGT hC ?_
  exact .one (.c (ler_bool (plain_eq h0).symm))
 ·have h0:¬0<xs.length:=dF hb
  refine xGT hC ?_
  exact .one (.c (ler_bool (plain_no h0).symm))
theorem valid_zero {r:RD} (h1:((r.num.length:Int)==0)=true) (h2:((r.den.length:Int)==0)=true):(!r.neg)=r.valid:=by
 have h1':r.num.length=0:=by have:=eq_of_beq h1;omega
 have h2':r.den.length=0:=by have:=eq_of_beq h2;omega
 simp [RD.valid,h1',h2']
theorem valid_else {r:RD} (h:((r.num.length:Int)==0)=false∨((r.den.length:Int)==0)=false):r.valid=(plainB r.num&&plainB r.den&&decide (Nat.gcd (val r.num) (val r.den)=1)):=by
 unfold RD.valid
 rw [if_neg]
 rintro ⟨h1,h2⟩
 rcases h with h|h
 ·rw [h1] at h;cases h
 ·rw [h2] at h;cases h
theorem rvalid_fa (r:RD) (hw:r.wf 68719476736):Fa Tryz.prog 123 [.agg (rdc r)] (.c (.bool r.valid)):=by
 have hp1:r.num.length≤68719476738:=by have:=hw.2.2.1;omega
 have hp2:r.den.length≤68719476738:=by have:=hw.2.2.2;omega
 have hg:(words (Nat.gcd (val r.num) (val r.den))).length≤68719476736:=by
  by_cases h:val r.num=0
  ·rw [h,Nat.gcd_zero_left];exact Nat.le_trans (words_val_len _ hw.2.1) hw.2.2.2
  ·exact Nat.le_trans (words_len_mono (Nat.gcd_le_left _ (Nat.pos_of_ne_zero h))) (Nat.le_trans (words_val_len _ hw.1) hw.2.2.1)
 refine fa_of_body Tryz.func123 rfl rfl (by simp [Tryz.ntmps123]) fun C hC=> ?_
 simp only [initS,Nat.reduceAdd]
 refine xG ?_
 refine xB fun g1 hn_g1=>?_
 refine yH hn_g1 ?_
 apply aw_seq
 refine aw_cut (fun _:Unit=>[(1,.c (.optr g1 0))]) (fun _=>[(g1,.cells 41 3 (ofL (rdc r)))]) (fun _=>((r.num.length:Int)==0)=false∨((r.den.length:Int)==0)=false) ?_ ?_
 ·refine yG hn_g1 ?_
  refine aw_split 7 (zE hn_g1) (fun hb=> ?_) (fun hb=> ?_)<;>refine yS hn_g1 ?_
  ·refine yG hn_g1 ?_
   refine yF hn_g1 (fun hd=>?_) fun hd=>?_
   ·refine yGT hC hn_g1 ?_
    exact .one (.c (ler_bool (valid_zero hb hd)))
   ·refine yG hn_g1 ?_
    exact aw_stop ⟨(),(zB hn_g1),zZ,.inr hd⟩
  ·refine yGNG hn_g1 ?_
   exact aw_stop ⟨(),(zB hn_g1),zZ,.inl hb⟩
 rintro _ hd
 rw [valid_else hd]
 refine yG hn_g1 ?_
 refine yC hn_g1 (plain_fa r.num hp1) ?_
 refine yG hn_g1 ?_
 refine aw_split 19 (zE hn_g1) (fun h1=> ?_) (fun h1=> ?_)<;>refine yS hn_g1 ?_
 ·refine yG hn_g1 ?_
  refine yC hn_g1 (plain_fa r.den hp2) ?_
  refine yG hn_g1 ?_
  refine aw_split 24 (zE hn_g1) (fun h2=> ?_) (fun h2=> ?_)<;>refine yS hn_g1 ?_
  ·refine yG hn_g1 ?_
   refine yC hn_g1 (gcd_fa _ _ hw.1 hw.2.1 hw.2.2.1 hw.2.2.2) ?_
   refine yG hn_g1 ?_
   refine yC hn_g1 (one_fa) ?_
   refine yG hn_g1 ?_
   refine yC hn_g1 (cmp_fa _ [1] (words_lt _) ?_ hg ?_) ?_
   ·simp
   ·simp
   refine yGT hC hn_g1 ?_
   refine .one (.c (ler_bool ?_))
   rw [h1,h2,val_words,cmp_one];rfl
  ·refine yGT hC hn_g1 ?_
   refine .one (.c (ler_bool ?_))
   rw [h2,Bool.and_false,Bool.false_and]
 ·refine yGT hC hn_g1 ?_
  refine .one (.c (ler_bool ?_))
  rw [h1,Bool.false_and,Bool.false_and]
end Go.Proofs.YtefekdejgbceiaaGreat
namespace Go.Proofs.YtefekdejgbceiaaGreat
open Go.AI Go.PN
attribute [local irreducible] aw Fa Fh DrK
theorem words_mul_len (m n:Nat):(words (m*n)).length≤(words m).length+(words n).length:=words_len_le (pow_mul_lt (words_pow_lt m) (words_pow_lt n))
theorem words_add_len {m n k:Nat} (hm:(words m).length≤k) (hn:(words n).length≤k):(words (m+n)).length≤k+1:=by
 have h1:=Nat.lt_of_lt_of_le (words_pow_lt m) (Nat.pow_le_pow_right (show 0<4294967296 by omega) hm)
 have h2:=Nat.lt_of_lt_of_le (words_pow_lt n) (Nat.pow_le_pow_right (show 0<4294967296 by omega) hn)
 refine words_len_le ?_
 rw [Nat.pow_succ]
 omega
theorem mulW (a b:Nat) (ha:(words a).length≤68719476736) (hb:(words b).length≤68719476736):Fa Tryz.prog 92 [.c (ws false (words a)),.c (ws false (words b))] (.c (ws true (words (a*b)))):=by
 have:=mul_fa (words a) (words b) (words_lt a) (words_lt b) ha hb
 rwa [val_words,val_words] at this
theorem addW (a b:Nat) (ha:(words a).length≤68719476736) (hb:(words b).length≤68719476736):Fa Tryz.prog 146 [.c (ws false (words a)),.c (ws false (words b))] (.c (ws true (words (a+b)))):=by
 have:=add_fa (words a) (words b) (words_lt a) (words_lt b) ha hb
 rwa [val_words,val_words] at this
theorem subW (a b:Nat) (ha:(words a).length≤68719476736) (hb:(words b).length≤68719476736) (h:b≤a):Fa Tryz.prog 147 [.c (ws false (words a)),.c (ws false (words b))] (.tup [.c (ws true (words (a-b))),.c .nilI]):=by
 have:=sub_fa (words a) (words b) (words_lt a) (words_lt b) ha hb (by rw [val_words,val_words];exact h)
 rwa [val_words,val_words] at this
theorem cmpW (a b:Nat) (ha:(words a).length≤68719476736) (hb:(words b).length≤68719476736):Fa Tryz.prog 124 [.c (ws false (words a)),.c (ws false (words b))] (.c (.int .i64 (cmpN a b))):=by
 have:=cmp_fa (words a) (words b) (words_lt a) (words_lt b) ha hb
 rwa [val_words,val_words] at this
theorem gcdW (a b:Nat) (ha:(words a).length≤68719476736) (hb:(words b).length≤68719476736):Fa Tryz.prog 128 [.c (ws false (words a)),.c (ws false (words b))] (.c (ws true (words (Nat.gcd a b)))):=by
 have:=gcd_fa (words a) (words b) (words_lt a) (words_lt b) ha hb
 rwa [val_words,val_words] at this
theorem divW (a b:Nat) (ha:(words a).length≤68719476736) (hb:(words b).length≤68719476736) (h:b≠0):Fa Tryz.prog 129 [.c (ws false (words a)),.c (ws false (words b))] (.tup [.c (ws true (words (a/b))),.c (ws true (words (a%b))),.c .nilI]):=by
 have:=div_fa (words a) (words b) (words_lt a) (words_lt b) ha hb (by rw [val_words];exact h)
 rwa [val_words,val_words] at this
theorem bitsW (a:Nat) (ha:(words a).length≤68719476736):Fa Tryz.prog 127 [.c (ws false (words a))] (.c (.int .i64 (bitlen a:Nat))):=by
 have:=bits_fa (words a) (words_lt a) ha
 rwa [val_words] at this
theorem some_of {r:RD} (h1:r.valid=true) (h2:((r.num.length:Int)==0)=false):r.some=true:=by
 have:r.num.length≠0:=fun e=>by rw [e] at h2;cases h2
 simp [RD.some,h1,this]
theorem none_of {r:RD} (h:r.valid=false∨((r.num.length:Int)==0)=true):r.some=false:=by
 rcases h with h|h
 ·simp [RD.some,h]
 ·have:r.num.length=0:=by have:=eq_of_beq h;omega
  simp [RD.some,this]
theorem wf_mono {r:RD} {L M:Nat} (h:r.wf L) (hm:L≤M):r.wf M:=⟨h.1,h.2.1,Nat.le_trans h.2.2.1 hm,Nat.le_trans h.2.2.2 hm⟩
abbrev partsAV (r:RD):AV:=.tup [.c (.bool r.ps),.c (ws true (words r.pn)),.c (ws true (words r.pd))]
theorem rparts_fa (r:RD) (hw:r.wf 1073741824):Fa Tryz.prog 90 [.agg (rdc r)] (partsAV r):=by
 refine fa_of_body Tryz.func90 rfl rfl (by simp [Tryz.ntmps90]) fun C hC=> ?_
 simp only [initS,Nat.reduceAdd]
 refine xG ?_
 refine xB fun g1 hn_g1=>?_
 refine yG hn_g1 ?_
 refine yC hn_g1 (rvalid_fa r (wf_mono hw ?_)) ?_
 ·omega
 refine yG hn_g1 ?_
 refine aw_split 8 (zE hn_g1) (fun hv=> ?_) (fun hv=> ?_)<;>refine yS hn_g1 ?_
 ·have hs:=RD.pn_none (none_of (r:=r) (.inl (by simpa using hv)))
  refine yGPG hn_g1 ?_
  refine yC hn_g1 (one_fa) ?_
  refine yGT hC hn_g1 ?_
  refine .tup ⟨.c (ler_bool hs.2.2.symm),.c ?_,.c ?_,trivial⟩
  ·rw [hs.1];exact .nils
  ·rw [hs.2.1];exact ler_ws
 ·have hv':r.valid=true:=by simpa using hv
  refine yG hn_g1 ?_
  refine yF hn_g1 (fun hn=>?_) fun hn=>?_
  ·have hs:=RD.pn_none (none_of (r:=r) (.inr hn))
   refine yG hn_g1 ?_
   refine yC hn_g1 (one_fa) ?_
   refine yGT hC hn_g1 ?_
   refine .tup ⟨.c (ler_bool hs.2.2.symm),.c ?_,.c ?_,trivial⟩
   ·rw [hs.1];exact .nils
   ·rw [hs.2.1];exact ler_ws
  ·have hs:=RD.pn_words hw (some_of hv' hn)
   refine yG hn_g1 ?_
   refine aw_dr 9 ty_mixed (by kernel_rfl) ?_
   refine yGT hC hn_g1 ?_
   refine .tup ⟨.c (ler_bool hs.2.2.symm),.c ?_,.c ?_,trivial⟩
   ·rw [hs.1];exact ler_ws
   ·rw [hs.2.1];exact ler_ws
theorem lerl_rd {h:Heap} {r:RD}:LeRL h (rdc r) (rdc r):=⟨.bool _,ler_ws,ler_ws,trivial⟩
theorem ler_rd {h:Heap} {r s:RD} (e:r=s):LeRA h (.agg (rdc r)) (.agg (rdc s)):=by subst e;exact .one (.agg lerl_rd)
theorem rform_fa (neg:Bool) (n d:Nat) (hn:(words n).length≤68719476736) (hd:(words d).length≤68719476736) (h0:d≠0):
  Fa Tryz.prog 91 [.c (.bool neg),.c (ws false (words n)),.c (ws false (words d))] (.agg (rdc (rd (sq neg n d)))):=by
 refine fa_of_body Tryz.func91 rfl rfl (by simp [Tryz.ntmps91]) fun C hC=> ?_
 simp only [initS,Nat.reduceAdd]
 refine xG ?_
 refine xA fun g6 hn_g6=>?_
 refine yG hn_g6 ?_
 refine yC hn_g6 (bitsW n hn) ?_
 refine yG hn_g6 ?_
 refine yF hn_g6 (fun hb=>?_) fun hb=>?_
 ·have hz:n=0:=bitlen_zero.1 (by have:=eq_of_beq hb;omega)
  refine yGWSGT hC hn_g6 ?_
  rw [hz,sq_zero,rd_zero]
  exact .one (.agg ⟨.bool _,.nils,.nils,trivial⟩)
 ·have hz:n≠0:=fun e=>by rw [e] at hb;cases hb
  have hg:Nat.gcd n d≠0:=fun e=>h0 (Nat.eq_zero_of_gcd_eq_zero_right e)
  have hgl:(words (Nat.gcd n d)).length≤68719476736:=Nat.le_trans (words_len_mono (Nat.gcd_le_left _ (Nat.pos_of_ne_zero hz))) hn
  refine yG hn_g6 ?_
  refine yC hn_g6 (gcdW n d hn hd) ?_
  refine yG hn_g6 ?_
  refine yC hn_g6 (divW n (Nat.gcd n d) hn hgl hg) ?_
  refine yG hn_g6 ?_
  refine yC hn_g6 (divW d (Nat.gcd n d) hd hgl hg) ?_
  refine yGWSGT hC hn_g6 ?_
  rw [rd_sq hz h0]
  exact .one (.agg ⟨.bool _,ler_ws,ler_ws,trivial⟩)
end Go.Proofs.YtefekdejgbceiaaGreat
namespace Go.Proofs.YtefekdejgbceiaaGreat
open Go.AI Go.PN
attribute [local irreducible] aw Fa Fh DrK
theorem words_min:words 9223372036854775808=[0,2147483648]:=by
 rw [words_cons om,words_cons om,show(9223372036854775808/4294967296/4294967296:Nat)=0 from rfl,words_zero]
theorem int_neg {n:Int} (h0: -9223372036854775808<n) (h1:n≤9223372036854775807):wrapZ .i64 (0-n)= -n:=by
 rw [wrapZ_eq,wrap_inRange (k:=.i64) (by simp only [inRange];omega)];omega
theorem words_small {n:Nat} (h:n≤9223372036854775808):(words n).length≤2:=words_len_le (Nat.lt_of_le_of_lt h (by decide))
theorem rsize_fa (n:Int) (h0: -9223372036854775808≤n) (h1:n≤9223372036854775807):Fa Tryz.prog 93 [.c (.int .i64 n)] (.c (ws true (words n.natAbs))):=by
 refine fa_of_body Tryz.func93 rfl rfl (by simp [Tryz.ntmps93]) fun C hC=> ?_
 simp only [initS,Nat.reduceAdd]
 refine xG ?_
 refine xF (fun hb=>?_) fun hb=>?_
 ·have hn:n= -9223372036854775808:=eq_of_beq hb
  refine xG ?_
  refine aw_buildSlice (xs:=[.const (.int .u32 0),.const (.int .u32 2147483648)]) (cells:=[.int .u32 0,.int .u32 2147483648]) rfl rfl rfl ty_e_ws (by rw [envP,ty_z_u32];rfl) rfl om om (by intro x hx;simp only [List.mem_cons,List.not_mem_nil,or_false] at hx;rcases hx with rfl|rfl<;>exact⟨rfl,rfl,rfl⟩) rfl fun g hg=> ?_
  refine xSGT hC ?_
  subst hn
  rw [show((-9223372036854775808:Int).natAbs)=9223372036854775808 from rfl,words_min]
  exact .one (.c (ler_oslws eE (by simp) rfl (fun j hj=>by match j,hj with|0,_=>rfl|1,_=>rfl)))
 ·have hn:n≠ -9223372036854775808:=fun e=>by rw [e] at hb;cases hb
  refine xG ?_
  rw [int_neg om h1]
  have hm:(if-n>n then-n else n)=(n.natAbs:Int):=by split<;>omega
  rw [hm]
  refine xC (of_fa (n.natAbs:Int) ?_ ?_) ?_
  ·omega
  ·omega
  refine xGT hC ?_
  exact .one (.c ler_ws)
theorem sq_int (n:Int):sq (decide (n<0)) n.natAbs 1=(n:Rat):=by
 unfold sq sgn
 rw [Rat.mkRat_one]
 congr 1
 split
 ·rename_i h;simp only [decide_eq_true_eq] at h;omega
 ·rename_i h;simp only [decide_eq_true_eq] at h;omega
theorem rof_fa (n:Int) (h0: -9223372036854775808≤n) (h1:n≤9223372036854775807):Fa Tryz.prog 50 [.c (.int .i64 n)] (.agg (rdc (rd (n:Rat)))):=by
 have hl:=words_small (n:=n.natAbs) om
 refine fa_of_body Tryz.func50 rfl rfl (by simp [Tryz.ntmps50]) fun C hC=> ?_
 simp only [initS,Nat.reduceAdd]
 refine xG ?_
 refine xA fun g2 hn_g2=>?_
 refine yG hn_g2 ?_
 refine yC hn_g2 (rsize_fa n h0 h1) ?_
 refine yG hn_g2 ?_
 refine yC hn_g2 (one_fa) ?_
 refine yG hn_g2 ?_
 rw [show([1]:List Nat)=words 1 from words_one.symm]
 refine yC hn_g2 (rform_fa _ n.natAbs 1 ?_ ?_ ?_) ?_
 ·omega
 ·rw [words_one];simp
 ·omega
 refine yGWSGT hC hn_g2 ?_
 exact ler_rd (by rw [sq_int])
theorem rneg_fa (r:RD) (hw:r.wf 1073741824):Fa Tryz.prog 120 [.agg (rdc r)] (.agg (rdc (rd (-r.q)))):=by
 obtain⟨hl1,hl2⟩:=RD.p_len hw om
 refine fa_of_body Tryz.func120 rfl rfl (by simp [Tryz.ntmps120]) fun C hC=> ?_
 simp only [initS,Nat.reduceAdd]
 refine xG ?_
 refine xB fun g1 hn_g1=>?_
 refine yA hn_g1 fun g2 hn_g2=>?_
 have J1:=oj hn_g1 hn_g2
 refine yG J1 ?_
 refine yC J1 (rparts_fa r hw) ?_
 refine yG J1 ?_
 refine yC J1 (rform_fa _ r.pn r.pd ?_ ?_ (RD.pd_ne hw)) ?_
 ·omega
 ·omega
 refine yGWSGT hC J1 ?_
 exact ler_rd (by rw [sq_neg];rfl)
theorem sign_zero {r:RD} {L:Nat} (hw:r.wf L) (h:(((words r.pn).length:Int)==0)=true):0=signQ r.q:=by
 have h1:r.pn=0:=words_eq_nil.1 (List.length_eq_zero_iff.1 (by have:=eq_of_beq h;omega))
 unfold RD.q
 rw [h1,sq_zero];rfl
theorem sign_some {r:RD} {L:Nat} (hw:r.wf L) (h:(((words r.pn).length:Int)==0)=false):signQ r.q=if r.ps then-1 else 1:=by
 have h1:r.pn≠0:=fun e=>by rw [e,words_zero] at h;cases h
 unfold signQ RD.q
 rw [if_neg (sq_ne h1 (RD.pd_ne hw))]
 have:=sq_lt (neg:=r.ps) h1 (RD.pd_ne hw)
 simp only [this]
theorem rsign_fa (r:RD) (hw:r.wf 1073741824):Fa Tryz.prog 58 [.agg (rdc r)] (.c (.int .i64 (signQ r.q))):=by
 refine fa_of_body Tryz.func58 rfl rfl (by simp [Tryz.ntmps58]) fun C hC=> ?_
 simp only [initS,Nat.reduceAdd]
 refine xG ?_
 refine xB fun g1 hn_g1=>?_
 refine yG hn_g1 ?_
 refine yC hn_g1 (rparts_fa r hw) ?_
 refine yG hn_g1 ?_
 refine yF hn_g1 (fun hb=>?_) fun hb=>?_
 ·refine yGT hC hn_g1 ?_
  exact .one (.c (ler_int (sign_zero hw hb)))
 ·refine yG hn_g1 ?_
  refine yF hn_g1 (fun hp=>?_) fun hp=>?_
  ·refine yGT hC hn_g1 ?_
   refine .one (.c (ler_int ?_))
   rw [sign_some hw hb,hp];rfl
  ·refine yGT hC hn_g1 ?_
   refine .one (.c (ler_int ?_))
   rw [sign_some hw hb,hp];rfl
theorem not_of_bne {a b:Bool} (h:(a==b)=false):b= !a:=by cases a<;>cases b<;>simp_all
theorem radd_fa (a b:RD) (ha:a.wf 1073741824) (hb:b.wf 1073741824):Fa Tryz.prog 109 [.agg (rdc a),.agg (rdc b)] (.agg (rdc (rd (a.q+b.q)))):=by
 obtain⟨l1,l2⟩:=RD.p_len ha om
 obtain⟨l3,l4⟩:=RD.p_len hb om
 have d1:=RD.pd_ne ha
 have d2:=RD.pd_ne hb
 have dd:a.pd*b.pd≠0:=Nat.mul_ne_zero d1 d2
 have m1:=words_mul_len a.pn b.pd
 have m2:=words_mul_len b.pn a.pd
 have m3:=words_mul_len a.pd b.pd
 have m4:=words_add_len (m:=a.pn*b.pd) (n:=b.pn*a.pd) (k:=2147483648) om om
 refine fa_of_body Tryz.func109 rfl rfl (by simp [Tryz.ntmps109]) fun C hC=> ?_
 simp only [initS,Nat.reduceAdd]
 refine xG ?_
 refine xB fun g2 hn_g2=>?_
 refine yB hn_g2 fun g3 hn_g3=>?_
 refine yA (oj hn_g2 hn_g3) fun g4 hn_g4=>?_
 have J1:=oj hn_g2 (oj hn_g3 hn_g4)
 refine yG J1 ?_
 refine yC J1 (rparts_fa a ha) ?_
 refine yG J1 ?_
 refine yC J1 (rparts_fa b hb) ?_
 refine yG J1 ?_
 refine yC J1 (mulW a.pn b.pd ?_ ?_) ?_
 ·omega
 ·omega
 refine yG J1 ?_
 refine yC J1 (mulW b.pn a.pd ?_ ?_) ?_
 ·omega
 ·omega
 refine yG J1 ?_
 refine yC J1 (mulW a.pd b.pd ?_ ?_) ?_
 ·omega
 ·omega
 refine yG J1 ?_
 refine yF J1 (fun hs=>?_) fun hs=>?_
 ·have hs':a.ps=b.ps:=eq_of_beq hs
  refine yG J1 ?_
  refine yC J1 (addW _ _ ?_ ?_) ?_
  ·omega
  ·omega
  refine yG J1 ?_
  refine yC J1 (rform_fa _ _ _ ?_ ?_ dd) ?_
  ·omega
  ·omega
  refine yGWSGT hC J1 ?_
  refine ler_rd ?_
  rw [sq_add_same _ d1 d2]
  unfold RD.q;rw [hs']
 ·have hs':b.ps= !a.ps:=not_of_bne hs
  refine yG J1 ?_
  refine yC J1 (cmpW _ _ ?_ ?_) ?_
  ·omega
  ·omega
  refine yG J1 ?_
  refine yF J1 (fun hc=>?_) fun hc=>?_
  ·have hle:b.pn*a.pd≤a.pn*b.pd:=by
    have:=of_decide_eq_true hc
    unfold cmpN at this
    split at this
    ·omega
    ·omega
   have hl5:=words_len_mono (Nat.sub_le (a.pn*b.pd) (b.pn*a.pd))
   refine yG J1 ?_
   refine yC J1 (subW _ _ ?_ ?_ hle) ?_
   ·omega
   ·omega
   refine yG J1 ?_
   refine yC J1 (rform_fa _ _ _ ?_ ?_ dd) ?_
   ·omega
   ·omega
   refine yGWSGT hC J1 ?_
   refine ler_rd ?_
   rw [sq_add_ge _ d1 d2 hle]
   unfold RD.q;rw [hs']
  ·have hle:a.pn*b.pd≤b.pn*a.pd:=by
    have:=of_decide_eq_false hc
    unfold cmpN at this
    split at this
    ·omega
    ·split at this<;>omega
   have hl5:=words_len_mono (Nat.sub_le (b.pn*a.pd) (a.pn*b.pd))
   refine yG J1 ?_
   refine yC J1 (subW _ _ ?_ ?_ hle) ?_
   ·omega
   ·omega
   refine yG J1 ?_
   refine yC J1 (rform_fa _ _ _ ?_ ?_ dd) ?_
   ·omega
   ·omega
   refine yGWSGT hC J1 ?_
   refine ler_rd ?_
   rw [hs',sq_add_lt _ d1 d2 hle]
   unfold RD.q;rw [hs']
theorem rmul_fa (a b:RD) (ha:a.wf 1073741824) (hb:b.wf 1073741824):Fa Tryz.prog 47 [.agg (rdc a),.agg (rdc b)] (.agg (rdc (rd (a.q*b.q)))):=by
 obtain⟨l1,l2⟩:=RD.p_len ha om
 obtain⟨l3,l4⟩:=RD.p_len hb om
 have d1:=RD.pd_ne ha
 have d2:=RD.pd_ne hb
 have dd:a.pd*b.pd≠0:=Nat.mul_ne_zero d1 d2
 have m1:=words_mul_len a.pn b.pn
 have m3:=words_mul_len a.pd b.pd
 refine fa_of_body Tryz.func47 rfl rfl (by simp [Tryz.ntmps47]) fun C hC=> ?_
 simp only [initS,Nat.reduceAdd]
 refine xG ?_
 refine xB fun g2 hn_g2=>?_
 refine yB hn_g2 fun g3 hn_g3=>?_
 refine yA (oj hn_g2 hn_g3) fun g4 hn_g4=>?_
 have J1:=oj hn_g2 (oj hn_g3 hn_g4)
 refine yG J1 ?_
 refine yC J1 (rparts_fa a ha) ?_
 refine yG J1 ?_
 refine yC J1 (rparts_fa b hb) ?_
 refine yG J1 ?_
 refine yC J1 (mulW _ _ ?_ ?_) ?_
 ·omega
 ·omega
 refine yG J1 ?_
 refine yC J1 (mulW _ _ ?_ ?_) ?_
 ·omega
 ·omega
 refine yG J1 ?_
 refine yC J1 (rform_fa _ _ _ ?_ ?_ dd) ?_
 ·omega
 ·omega
 refine yGWSGT hC J1 ?_
 exact ler_rd (by rw [sq_mul];rfl)
theorem neg_wf {r:RD} (hw:r.wf 1073741824):(rd (-r.q)).wf 1073741824:=rd_wf (fits_neg (RD.fits hw om))
theorem rsub_fa (a b:RD) (ha:a.wf 1073741824) (hb:b.wf 1073741824):Fa Tryz.prog 80 [.agg (rdc a),.agg (rdc b)] (.agg (rdc (rd (a.q-b.q)))):=by
 refine fa_of_body Tryz.func80 rfl rfl (by simp [Tryz.ntmps80]) fun C hC=> ?_
 simp only [initS,Nat.reduceAdd]
 refine xG ?_
 refine xB fun g2 hn_g2=>?_
 refine yB hn_g2 fun g3 hn_g3=>?_
 refine yA (oj hn_g2 hn_g3) fun g4 hn_g4=>?_
 have J1:=oj hn_g2 (oj hn_g3 hn_g4)
 refine yG J1 ?_
 refine aw_dr 4 ty_mixed (by kernel_rfl) ?_
 refine yG J1 ?_
 refine yD J1 (rneg_fa b hb) ?_
 refine yG J1 ?_
 refine yD J1 (radd_fa a (rd (-b.q)) ha (neg_wf hb)) ?_
 refine yGWSGT hC J1 ?_
 exact ler_rd (by rw [rd_q,Rat.sub_eq_add_neg])
end Go.Proofs.YtefekdejgbceiaaGreat
namespace Go.Proofs.YtefekdejgbceiaaGreat
open Go.AI Go.PN
attribute [local irreducible] aw Fa Fh DrK
theorem val_ext {xs ys:List Nat} (h:∀j,xs.getD j 0=ys.getD j 0):val xs=val ys:=by
 induction xs generalizing ys with
 |nil=>
  refine(val_zero fun y hy=> ?_).symm
  obtain⟨i,hi,rfl⟩:=List.mem_iff_getElem.1 hy
  have:=h i
  rw [List.getD_eq_getElem?_getD,List.getD_eq_getElem?_getD,List.getElem?_eq_getElem hi] at this
  simpa using this.symm
 |cons x xs ih=>
  cases ys with
  |nil=>
   refine val_zero fun y hy=> ?_
   obtain⟨i,hi,rfl⟩:=List.mem_iff_getElem.1 hy
   have:=h i
   rw [List.getD_eq_getElem?_getD,List.getD_eq_getElem?_getD,List.getElem?_eq_getElem hi] at this
   simpa using this
  |cons y ys=>
   have h0:=h 0
   simp only [List.getD_cons_zero] at h0
   have h1:=ih (ys:=ys) fun j=>by have:=h (j+1);simpa only [List.getD_cons_succ] using this
   simp only [val,h0,h1]
theorem val_lt_of {xs ys:List Nat} {i:Nat} (hx:∀x∈xs,x<4294967296) (hlt:xs.getD i 0<ys.getD i 0) (hz:∀j,i<j→xs.getD j 0=ys.getD j 0):val xs<val ys:=by
 induction xs generalizing ys i with
 |nil=>
  have hy0:val ys≠0:=fun e=>by
   have:∀(l:List Nat) (k:Nat),val l=0→l.getD k 0=0:=by
    intro l
    induction l with
    |nil=>intro k _;simp
    |cons a l ih=>
     intro k hk
     simp only [val] at hk
     cases k with
     |zero=>simp only [List.getD_cons_zero];omega
     |succ k=>simp only [List.getD_cons_succ];exact ih k om
   rw [this ys i e] at hlt
   omega
  simp only [val];omega
 |cons x xs ih=>
  have hxl:x<4294967296:=hx x (by simp)
  cases ys with
  |nil=>simp at hlt
  |cons y ys=>
   cases i with
   |zero=>
    simp only [List.getD_cons_zero] at hlt
    have:=val_ext (xs:=xs) (ys:=ys) fun j=>by have:=hz (j+1) om;simpa only [List.getD_cons_succ] using this
    simp only [val,this];omega
   |succ i=>
    simp only [List.getD_cons_succ] at hlt
    have:=ih (ys:=ys) (i:=i) (fun z hz=>hx z (by simp [hz])) hlt (fun j hj=>by have:=hz (j+1) om;simpa only [List.getD_cons_succ] using this)
    simp only [val];omega
theorem word_lt' {xs ys:List Nat} {i:Nat} (hx:∀x∈xs,x<4294967296) (_hy:∀x∈ys,x<4294967296) (hlt:xs.getD i 0<ys.getD i 0) (hz:∀j,i<j→xs.getD j 0=ys.getD j 0):val xs<val ys:=val_lt_of hx hlt hz
theorem qword_fa (xs:List Nat) (i:Nat) (hx:∀x∈xs,x<4294967296):Fa Tryz.prog 103 [.c (ws false xs),.c (.int .i64 i)] (.c (.int .u64 (xs.getD i 0:Nat))):=by
 have hb:=getD_lt hx i
 refine fa_of_body Tryz.func103 rfl rfl (by simp [Tryz.ntmps103]) fun C hC=> ?_
 simp only [initS,Nat.reduceAdd]
 refine xG ?_
 refine xF (fun hb=>?_) fun hb=>?_
 ·simp only [decide_eq_true_eq] at hb
  refine xGT hC ?_
  exact .one (.c (ler_int rfl))
 ·simp only [decide_eq_false_iff_not] at hb
  refine xGT hC ?_
  refine .one (.c (ler_int ?_))
  rw [getD_ge om];rfl
theorem qtrim_fa (xs:List Nat) (hx:∀x∈xs,x<4294967296) (hl:xs.length≤1099511627776):Fa Tryz.prog 104 [.c (ws false xs)] (.c (ws true (words (val xs)))):=by
 refine fa_of_body Tryz.func104 rfl rfl (by simp [Tryz.ntmps104]) fun C hC=> ?_
 simp only [initS,Nat.reduceAdd]
 apply aw_seq
 apply aw_region
 refine xH ?_
 apply aw_seq
 apply aw_region
 refine xH ?_
 apply aw_seq
 refine aw_cut (fun m:Nat=>[(0,.c (ws false xs)),(3,.c (.int .i64 m))]) (fun _=>[]) (fun m=>m≤xs.length∧words (val xs)=xs.take m) ?_ ?_
 ·apply aw_block
  refine aw_lp (fun m:Nat=>[(0,.c (ws false xs)),(3,.c (.int .i64 m))]) (fun _=>[]) (fun m=>m≤xs.length∧(∀j,m≤j→xs.getD j 0=0)) id xs.length eB zZ ⟨Nat.le_refl _,fun j hj=>getD_ge hj⟩ ?_
  rintro m ⟨hm,hz⟩
  have hend:(m=0∨xs.getD (m-1) 0≠0)→words (val xs)=xs.take m:=trim_eq xs m hx hm hz
  refine xG ?_
  refine aw_split 8 eE (fun h0=> ?_) (fun h0=> ?_)<;>refine xS ?_
  ·have h0':0<m:=dT h0
   refine xG ?_
   refine xF (fun hb=>?_) fun hb=>?_
   ·have hb':xs.getD (m-1) 0=0:=by have:=eq_of_beq hb;omega
    refine xG ?_
    refine aw_stop ⟨m-1,by simp only [id];omega,eB,zZ,by omega,fun j hj=> ?_⟩
    by_cases hjm:j=m-1
    ·rw [hjm];exact hb'
    ·exact hz j om
   ·have hb':xs.getD (m-1) 0≠0:=fun e=>by rw [e] at hb;cases hb
    refine xG ?_
    exact aw_stop ⟨m,eB,zZ,hm,hend (.inr hb')⟩
  ·have h0':m=0:=dF h0
   refine xG ?_
   refine xN ?_
   refine xG ?_
   exact aw_stop ⟨m,eB,zZ,hm,hend (.inl h0')⟩
 rintro m ⟨hm,hw⟩
 refine xG ?_
 refine aw_buildSlice (xs:=[]) (cells:=[]) rfl rfl rfl ty_e_ws (by rw [envP,ty_z_u32];rfl) rfl om om (by simp) rfl fun g hg=> ?_
 refine xSG ?_
 by_cases h0:0<m
 ·refine aw_append rfl rfl rfl ty_e_ws ty_z_u32 rfl om eE eE om eE .row (fun _ _=>rfl) h0 (by unfold maxLen;omega) om eE fun g' hg'=> ?_
  refine xSGT hC ?_
  refine .one (.c ?_)
  rw [hw]
  refine ler_oslws eE om (by simp;omega) (fun j hj=> ?_)
  simp only [appF,Nat.not_lt_zero,if_false,Nat.sub_zero,Nat.zero_add]
  rw [getD_take hj]
 ·have hm0:m=0:=by omega
  subst hm0
  refine aw_append0 rfl rfl rfl ty_e_ws eE rfl eE .row eE ?_
  refine xSGT hC ?_
  refine .one (.c ?_)
  rw [hw]
  exact ler_oslws eE om rfl (fun j hj=>by omega)
theorem qcmp_fa (xs ys:List Nat) (hx:∀x∈xs,x<4294967296) (hy:∀x∈ys,x<4294967296) (hlx:xs.length≤68719476736) (hly:ys.length≤68719476736):
  Fa Tryz.prog 97 [.c (ws false xs),.c (ws false ys)] (.c (.int .i64 (cmpN (val xs) (val ys)))):=by
 refine fa_of_body Tryz.func97 rfl rfl (by simp [Tryz.ntmps97]) fun C hC=> ?_
 simp only [initS,Nat.reduceAdd]
 refine xG ?_
 have hmx:(if(ys.length:Int)>xs.length then(ys.length:Int) else xs.length)=((max xs.length ys.length:Nat):Int):=by split<;>omega
 rw [hmx]
 refine aw_lp (fun m:Nat=>[(0,.c (ws false xs)),(1,.c (ws false ys)),(5,.c (.int .i64 ((m:Int)-1)))]) (fun _=>[]) (fun m=>m≤max xs.length ys.length∧∀j,m≤j→xs.getD j 0=ys.getD j 0) id (max xs.length ys.length) eB zZ ⟨Nat.le_refl _,fun j hj=>by rw [getD_ge om,getD_ge om]⟩ ?_
 rintro m ⟨hm,hz⟩
 refine xG ?_
 refine xF (fun hb=>?_) fun hb=>?_
 ·obtain⟨i,rfl⟩:∃i,m=i+1:=⟨m-1,dT hb⟩
  have e14:((i+1:Nat):Int)-1=(i:Int):=by omega
  rw [e14]
  refine xG ?_
  refine xC (qword_fa xs i hx) ?_
  refine xG ?_
  refine xC (qword_fa ys i hy) ?_
  refine xG ?_
  refine xF (fun hlt=>?_) fun hlt=>?_
  ·have hlt':xs.getD i 0<ys.getD i 0:=dT hlt
   refine xGT hC ?_
   refine .one (.c (ler_int ?_))
   rw [cmpN,if_pos (word_lt' hx hy hlt' (fun j hj=>hz j om))]
  ·refine xG ?_
   refine xC (qword_fa xs i hx) ?_
   refine xG ?_
   refine xC (qword_fa ys i hy) ?_
   refine xG ?_
   refine xF (fun hgt=>?_) fun hgt=>?_
   ·have hgt':ys.getD i 0<xs.getD i 0:=dT hgt
    have hv:=word_lt' hy hx hgt' (fun j hj=>(hz j om).symm)
    refine xGT hC ?_
    refine .one (.c (ler_int ?_))
    rw [cmpN,if_neg om,if_neg om]
   ·have heq:xs.getD i 0=ys.getD i 0:=by have:=of_decide_eq_false hgt;have:=of_decide_eq_false hlt;omega
    refine xG ?_
    refine aw_stop ⟨i,by simp only [id];omega,eB,zZ,by omega,fun j hj=> ?_⟩
    by_cases hji:j=i
    ·rw [hji];exact heq
    ·exact hz j om
 ·have hm0:m=0:=dF hb
  subst hm0
  refine xGT hC ?_
  refine .one (.c (ler_int ?_))
  rw [cmpN,val_ext (fun j=>hz j om)];simp
end Go.Proofs.YtefekdejgbceiaaGreat
namespace Go.Proofs.YtefekdejgbceiaaGreat
open Go.AI Go.PN
attribute [local irreducible] aw Fa Fh DrK
theorem set_push {zs:List Nat} {i v:Nat} (h:zs.length=i):((zs++[0]).set i v).take (i+1)=zs++[v]:=by
 subst h
 rw [List.set_append_right _ _ (Nat.le_refl _),List.take_of_length_le (by simp)]
 simp
theorem take_push {zs:List Nat} {i:Nat} (h:zs.length=i):(zs++[0]).take i=zs:=by subst h;simp
theorem push_lt {zs:List Nat} {v:Nat} (hz:∀x∈zs,x<4294967296) (hv:v<4294967296):∀x∈zs++[v],x<4294967296:=fun x hx=>by
 rcases List.mem_append.1 hx with h|h
 ·exact hz x h
 ·rw [List.mem_singleton.1 h];exact hv
theorem some_ne {g:Nat} {n:Nat}:(some g:Option Nat)=none→n=0:=fun e=>by cases e
theorem qadd_fa (xs ys:List Nat) (hx:∀x∈xs,x<4294967296) (hy:∀x∈ys,x<4294967296) (hlx:xs.length≤68719476736) (hly:ys.length≤68719476736):
  Fa Tryz.prog 96 [.c (ws false xs),.c (ws false ys)] (.c (ws true (words (val xs+val ys)))):=by
 refine fa_of_body Tryz.func96 rfl rfl (by simp [Tryz.ntmps96]) fun C hC=> ?_
 simp only [initS,Nat.reduceAdd]
 refine xG ?_
 have hmx:(if(ys.length:Int)>xs.length then(ys.length:Int) else xs.length)+1=((max xs.length ys.length+1:Nat):Int):=by split<;>omega
 rw [hmx]
 generalize hn:max xs.length ys.length+1=n
 refine aw_lp (fun x:Option Nat×Nat×Nat×List Nat=>[(0,.c (ws false xs)),(1,.c (ws false ys)),(5,.c (gs x.1 1 x.2.1)),(6,.c (.int .u64 x.2.2.1)),(14,.c (.int .i64 n)),(15,.c (.int .i64 x.2.1))]) (fun x=>gh x.1 139 x.2.1 (wf x.2.2.2))
  (fun x=>(x.1=none→x.2.1=0)∧x.2.1≤n∧x.2.2.1≤1∧x.2.2.2.length=x.2.1∧(∀y∈x.2.2.2,y<4294967296)∧val x.2.2.2+4294967296^x.2.1*x.2.2.1=val (xs.take x.2.1)+val (ys.take x.2.1)) (fun x=>n-x.2.1) (none,0,0,[]) eB zZ
  ⟨fun _=>rfl,Nat.zero_le _,Nat.zero_le _,rfl,by simp,by simp [val]⟩ ?_
 rintro ⟨og,i,c,zs⟩ ⟨hog,hi,hc,hzl,hz,hv⟩
 dsimp only at hog hi hc hzl hz hv⊢
 refine xG ?_
 refine xF (fun hb=>?_) fun hb=>?_
 ·have hin:i<n:=dT hb
  have hxi:=getD_lt hx i
  have hyi:=getD_lt hy i
  refine xG ?_
  refine xC (qword_fa xs i hx) ?_
  refine xG ?_
  refine xC (qword_fa ys i hy) ?_
  refine xG ?_
  have ew:wrapZ .u32 ((((xs.getD i 0:Nat):Int)+((ys.getD i 0:Nat):Int))+(c:Int))=(((c+(xs.getD i 0+ys.getD i 0))%4294967296:Nat):Int):=by rw [wrapZ_eq,IntKind.wrap_u32];omega
  rw [ew]
  have hst:=add_step (zs:=zs++[0]) (i:=i) (c:=c) (xs:=xs) (ys:=ys) (by simp;omega) (by rw [take_push hzl];exact hv)
  rw [set_push hzl] at hst
  refine aw_push (pre:=[]) rfl rfl rfl rfl rfl rfl rfl eE eE (by rfl) om om eE om (by exact hog) eE (by rfl) (by rfl) (by first|rfl|simp only [Nat.mul_one,List.nil_append,List.cons_append]<;>rfl) (by unfold maxLen;omega) om (by exact wf_push hzl _) fun g hn_g=> ?_
  replace hn_g:=Heap.ne_of hn_g
  first|dsimp only [Heap.ne,gh] at hn_g|dsimp only [Heap.ne] at hn_g|skip
  refine ySG hn_g ?_
  refine aw_stop ⟨(some g,i+1,(c+(xs.getD i 0+ys.getD i 0))/4294967296,zs++[(c+(xs.getD i 0+ys.getD i 0))%4294967296]),by dsimp only;omega,(zB hn_g),zZ,some_ne,by dsimp only;omega,by dsimp only;omega,by simp;omega,push_lt hz om,hst⟩
 ·have hin:i=n:=dF hb
  subst hin
  refine xG ?_
  refine aw_callq (qtrim_fa zs hz om) rfl rfl rfl ⟨.c (le_gsw hog hzl),trivial⟩ ?_
  refine xSGT hC ?_
  rw [add_end hx hy om (by rw [hzl,List.take_of_length_le om];exact hv)]
  exact .one (.c ler_ws)
theorem qsub_fa (xs ys:List Nat) (hx:∀x∈xs,x<4294967296) (hy:∀x∈ys,x<4294967296) (hlx:xs.length≤68719476736) (hly:ys.length≤68719476736) (hle:val ys≤val xs):
  Fa Tryz.prog 98 [.c (ws false xs),.c (ws false ys)] (.tup [.c (ws true (words (val xs-val ys))),.c (.int .i64 0)]):=by
 refine fa_of_body Tryz.func98 rfl rfl (by simp [Tryz.ntmps98]) fun C hC=> ?_
 simp only [initS,Nat.reduceAdd]
 refine xG ?_
 refine xC (qcmp_fa xs ys hx hy hlx hly) ?_
 refine xG ?_
 refine xF (fun hb=>?_) fun hb=>?_
 ·have:=of_decide_eq_true hb
  unfold cmpN at this
  split at this
  ·omega
  ·split at this<;>omega
 refine xG ?_
 refine aw_lp (fun x:Option Nat×Nat×Nat×List Nat=>[(0,.c (ws false xs)),(1,.c (ws false ys)),(6,.c (gs x.1 1 x.2.1)),(7,.c (.int .u64 x.2.2.1)),(15,.c (.int .i64 xs.length)),(16,.c (.int .i64 x.2.1))]) (fun x=>gh x.1 139 x.2.1 (wf x.2.2.2))
  (fun x=>(x.1=none→x.2.1=0)∧x.2.1≤xs.length∧x.2.2.1≤1∧x.2.2.2.length=x.2.1∧(∀y∈x.2.2.2,y<4294967296)∧val x.2.2.2+val (ys.take x.2.1)=val (xs.take x.2.1)+4294967296^x.2.1*x.2.2.1) (fun x=>xs.length-x.2.1) (none,0,0,[]) eB zZ
  ⟨fun _=>rfl,Nat.zero_le _,Nat.zero_le _,rfl,by simp,by simp [val]⟩ ?_
 rintro ⟨og,i,b,zs⟩ ⟨hog,hi,hbb,hzl,hz,hv⟩
 dsimp only at hog hi hbb hzl hz hv⊢
 refine xG ?_
 refine xF (fun hb=>?_) fun hb=>?_
 ·have hin:i<xs.length:=dT hb
  have hxi:=getD_lt hx i
  have hyi:=getD_lt hy i
  refine xG ?_
  refine xC (qword_fa xs i hx) ?_
  refine xG ?_
  refine xC (qword_fa ys i hy) ?_
  (refine aw_2q false rfl (fun R hR=> ?_);simp only [go_sem];(with_reducible refine hR _ _ ?_ ?_);(focus (((try simp only [inRange])<;>and_intros<;>first|exact True.intro|omega|trivial);done));clear hR R)
  refine xG ?_
  (refine aw_2q false rfl (fun R hR=> ?_);simp only [go_sem];(with_reducible refine hR _ _ ?_ ?_);(focus (((try simp only [inRange])<;>and_intros<;>first|exact True.intro|omega|trivial);done));clear hR R)
  rw [wrap_subD hxi hyi hbb]
  obtain⟨st1,st2⟩:=sub_step (zs:=zs++[0]) (i:=i) (by simp;omega) hxi hyi hbb (by rw [take_push hzl];exact hv)
  rw [set_push hzl] at st1
  generalize subD (xs.getD i 0) (ys.getD i 0) b=D at st1 st2⊢
  obtain⟨v,b2,e1,e2,hvl,st⟩:∃v b2:Nat,wrapZ .u32 (D:Int)=(v:Int)∧shrZ .u64 (D:Int) 63=(b2:Int)∧v<4294967296∧(val (zs++[v])+val (ys.take (i+1))=val (xs.take (i+1))+4294967296^(i+1)*b2∧b2≤1):=
   ⟨_,_,wrap_u32_nat D,shr63_nat D,Nat.mod_lt _ om,st1,st2⟩
  clear st1 st2
  refine xG ?_
  rw [e1]
  refine aw_push (pre:=[]) rfl rfl rfl rfl rfl rfl rfl eE eE (by rfl) om om eE om (by exact hog) eE (by rfl) (by rfl) (by first|rfl|simp only [Nat.mul_one,List.nil_append,List.cons_append]<;>rfl) (by unfold maxLen;omega) om (by exact wf_push hzl _) fun g hn_g=> ?_
  replace hn_g:=Heap.ne_of hn_g
  first|dsimp only [Heap.ne,gh] at hn_g|dsimp only [Heap.ne] at hn_g|skip
  refine yS hn_g ?_
  refine yG (oj hn_g e2) ?_
  refine aw_stop ⟨(some g,i+1,b2,zs++[v]),by dsimp only;omega,(zB (oj hn_g e2)),zZ,some_ne,by dsimp only;omega,st.2,by simp;omega,push_lt hz hvl,st.1⟩
 ·have hin:i=xs.length:=dF hb
  subst hin
  refine xG ?_
  refine aw_callq (qtrim_fa zs hz om) rfl rfl rfl ⟨.c (le_gsw hog hzl),trivial⟩ ?_
  refine xSGT hC ?_
  rw [sub_end hx hz hzl hle (by rw [List.take_of_length_le om];exact hv)]
  exact .tup ⟨.c ler_ws,.c (.int _ _),trivial⟩
theorem qmul_fa (xs ys:List Nat) (hx:∀x∈xs,x<4294967296) (hy:∀x∈ys,x<4294967296) (hlx:xs.length≤68719476736) (hly:ys.length≤68719476736):
  Fa Tryz.prog 56 [.c (ws false xs),.c (ws false ys)] (.c (ws true (words (val xs*val ys)))):=by
 refine fa_of_body Tryz.func56 rfl rfl (by simp [Tryz.ntmps56]) fun C hC=> ?_
 simp only [initS,Nat.reduceAdd]
 refine xG ?_
 have hn0:(xs.length:Int)+(ys.length:Int)+1=((xs.length+ys.length+1:Nat):Int):=by omega
 rw [hn0]
 generalize hn:xs.length+ys.length+1=n
 refine aw_make (n:=n) (c:=n) rfl rfl rfl ty_e_ws ty_z_u32 rfl om eE eE rfl rfl om om om fun g hg=> ?_
 rw [make_wf n]
 refine xSG ?_
 refine aw_lp (fun x:Nat×List Nat=>[(1,.c (ws false ys)),(5,.c (.osl g 1 0 n)),(18,.c (ws false xs)),(19,.c (.int .i64 xs.length)),(20,.c (.int .i64 x.1))]) (fun x=>[(g,.cells 139 n (wf x.2))])
  (fun x=>x.1≤xs.length∧x.2.length=n∧(∀y∈x.2,y<4294967296)∧val x.2=val (xs.take x.1)*val ys) (fun x=>xs.length-x.1) (0,List.replicate n 0) eB zZ
  ⟨Nat.zero_le _,by simp,replicate_lt _,by simp [val,val_replicate]⟩ ?_
 rintro ⟨i,z0⟩ ⟨hi,hzl0,hz0,hv0⟩
 dsimp only at hi hzl0 hz0 hv0⊢
 refine xG ?_
 refine xF (fun hb=>?_) fun hb=>?_
 ·have hin:i<xs.length:=dT hb
  have hxi:=getD_lt hx i
  have hz0':val z0<4294967296^(i+ys.length):=by
   rw [hv0,Nat.pow_add]
   exact Nat.mul_lt_mul_of_lt_of_lt (val_take_lt xs hx i om) (val_lt ys hy)
  refine xG ?_
  generalize hxx:xs.getD i 0=x at*
  refine aw_lp (fun s:Nat×Nat×List Nat=>[(1,.c (ws false ys)),(5,.c (.osl g 1 0 n)),(6,.c (.int .i64 i)),(7,.c (.int .u32 x)),(8,.c (.int .u64 s.2.1)),(18,.c (ws false xs)),(19,.c (.int .i64 xs.length)),(20,.c (.int .i64 i)),(27,.c (.int .i64 ((ys.length:Int)+1))),(28,.c (.int .i64 s.1))]) (fun s=>[(g,.cells 139 n (wf s.2.2))])
   (fun s=>s.1≤ys.length+1∧s.2.1<4294967296∧s.2.2.length=n∧(∀y∈s.2.2,y<4294967296)∧(∀j,i+s.1≤j→s.2.2.getD j 0=z0.getD j 0)∧(s.1=ys.length+1→s.2.1=0)∧val s.2.2+4294967296^(i+s.1)*s.2.1=val z0+4294967296^i*(x*val (ys.take s.1))) (fun s=>ys.length+1-s.1) (0,0,z0) eB zZ
   ⟨Nat.zero_le _,by simp,hzl0,hz0,fun _ _=>rfl,fun _=>rfl,by simp [val]⟩ ?_
  rintro ⟨k,c,zs⟩ ⟨hk,hc,hzl,hz,hzz,hce,hv⟩
  dsimp only at hk hc hzl hz hzz hce hv⊢
  refine xG ?_
  refine xF (fun hb=>?_) fun hb=>?_
  ·have hkn:k<ys.length+1:=dT hb
   have hyk:=getD_lt hy k
   have hzk:=getD_lt hz (i+k)
   have hst:=mul_step (ys:=ys) (x:=x) (zs:=zs) (c:=c) om hv
   have hmb:=mul_bound hxi hyk
   have hmb2:(0:Int)≤(x:Int)*((ys.getD k 0:Nat):Int)∧(x:Int)*((ys.getD k 0:Nat):Int)≤18446744065119617025:=by rw [←Int.natCast_mul];omega
   have hlast:k=ys.length→(c+(x*ys.getD k 0+zs.getD (i+k) 0))/4294967296=0:=fun e=>by
    subst e
    rw [getD_ge (Nat.le_refl _),hzz _ (Nat.le_refl _),getD_zero_of_lt hz0' (Nat.le_refl _)]
    omega
   refine xG ?_
   refine aw_dr 17 ty_mixed (by kernel_rfl) ?_
   refine xG ?_
   refine xD (qword_fa ys k hy) ?_
   refine xG ?_
   have ew:(x:Int)*((ys.getD k 0:Nat):Int)+((zs.getD (i+k) 0:Nat):Int)+(c:Int)=((c+(x*ys.getD k 0+zs.getD (i+k) 0):Nat):Int):=by simp;omega
   rw [ew,wrap_u32_nat]
   refine xW ?_
   refine xS ?_
   rw [updF_wf om]
   refine xG ?_
   refine aw_stop ⟨(k+1,(c+(x*ys.getD k 0+zs.getD (i+k) 0))/4294967296,zs.set (i+k) ((c+(x*ys.getD k 0+zs.getD (i+k) 0))%4294967296)),by dsimp only;omega,eB,zZ,by dsimp only;omega,by dsimp only;omega,by simpa using hzl,set_lt hz om,fun j hj=> ?_,fun e=>hlast (by simpa using e),hst⟩
   dsimp only at hj⊢
   rw [Go.PN.getD_set_ne om]
   exact hzz j om
  ·have hkn:k=ys.length+1:=dF hb
   subst hkn
   refine xG ?_
   rw [hce rfl,Nat.mul_zero,Nat.add_zero,hv0,List.take_of_length_le (l:=ys) om] at hv
   refine aw_stop ⟨(i+1,zs),by dsimp only;omega,eB,zZ,by dsimp only;omega,hzl,hz,?_⟩
   dsimp only
   rw [hv,val_take_succ,hxx,Nat.add_mul,Nat.mul_assoc]
 ·have hin:i=xs.length:=dF hb
  subst hin
  refine xG ?_
  refine aw_callq (qtrim_fa z0 hz0 om) rfl rfl rfl (by refine xS ?_;exact .c (lec_oslws eE om om (fun j _=>by rw [Nat.zero_add];rfl))) ?_
  refine xSGT hC ?_
  rw [hv0,List.take_length]
  exact .one (.c ler_ws)
end Go.Proofs.YtefekdejgbceiaaGreat
namespace Go.Proofs.YtefekdejgbceiaaGreat
open Go.AI Go.PN
attribute [local irreducible] aw Fa Fh DrK
theorem bitlen_top {n m:Nat} (h1:2^m≤n) (h2:n<2^(m+1)):bitlen n=m+1:=by
 have:=bitlen_div h1
 have h3:n/2^m=1:=by
  rw [Nat.pow_succ] at h2
  exact Nat.div_eq_of_lt_le om om
 rw [this,h3];rfl
theorem shr_u32 (x n:Nat) (hn:n≤32):shrZ .u32 (x:Int) (n:Int)=((x/2^n:Nat):Int):=by
 rw [shrZ_eq]
 have h1:min (n:Int).toNat IntKind.u32.bits=n:=by show min (n:Int).toNat 32=n;omega
 rw [h1,Int.fdiv_eq_ediv_of_nonneg _ (by exact Int.le_of_lt (Int.pow_pos om))]
 rw [Int.natCast_ediv,Int.natCast_pow];rfl
theorem and_u32_1 (x:Nat) (hx:x<4294967296):andZ .u32 (x:Int) 1=((x%2:Nat):Int):=by
 rw [andZ_eq]
 show IntKind.u32.wrap (((BitVec.ofInt 32 (x:Int)&&&BitVec.ofInt 32 1).toNat:Nat):Int)=_
 have:(BitVec.ofInt 32 (x:Int)&&&BitVec.ofInt 32 1).toNat=x%2:=by
  rw [BitVec.toNat_and]
  have e1:(BitVec.ofInt 32 (x:Int)).toNat=x:=by rw [BitVec.ofInt_natCast,BitVec.toNat_ofNat];omega
  have e2:(BitVec.ofInt 32 1).toNat=1:=rfl
  rw [e1,e2,Nat.and_one_is_mod]
 rw [this,IntKind.wrap_u32];omega
theorem bit_step {x k:Nat}:x%2^(k+1)=x%2^k+2^k*(x/2^k%2):=by
 rw [Nat.pow_succ,Nat.mod_mul]
theorem bits_some {V i x k:Nat} (hV:V<4294967296^i) (hb:x/2^k%2=1):bitlen (V+4294967296^i*(x%2^(k+1)))=32*i+k+1:=by
 have hp:(4294967296:Nat)^i=2^(32*i):=by rw [Nat.pow_mul]
 rw [bit_step,hb,Nat.mul_one]
 have hm:x%2^k<2^k:=Nat.mod_lt _ (Nat.two_pow_pos k)
 rw [hp] at hV⊢
 have e1:2^(32*i+k)=2^(32*i)*2^k:=Nat.pow_add ..
 refine bitlen_top ?_ ?_
 ·rw [e1,Nat.mul_add];omega
 ·rw [Nat.pow_succ,e1,Nat.mul_add]
  have:=Nat.mul_le_mul_left (2^(32*i)) (show x%2^k+1≤2^k from hm)
  rw [Nat.mul_add,Nat.mul_one] at this
  omega
theorem qbits_fa (xs:List Nat) (hx:∀x∈xs,x<4294967296) (hlx:xs.length≤68719476736):Fa Tryz.prog 100 [.c (ws false xs)] (.c (.int .i64 (bitlen (val xs):Nat))):=by
 refine fa_of_body Tryz.func100 rfl rfl (by simp [Tryz.ntmps100]) fun C hC=> ?_
 simp only [initS,Nat.reduceAdd]
 refine xG ?_
 refine aw_lp (fun i:Nat=>[(3,.c (.int .i64 (bitlen (val (xs.take i)):Nat))),(7,.c (ws false xs)),(8,.c (.int .i64 xs.length)),(9,.c (.int .i64 i))]) (fun _=>[]) (fun i=>i≤xs.length) (fun i=>xs.length-i) 0 eB zZ (Nat.zero_le _) ?_
 rintro i hi
 refine xG ?_
 refine xF (fun hb=>?_) fun hb=>?_
 ·have hin:i<xs.length:=dT hb
  have hxi:=getD_lt hx i
  have hvt:=val_take_lt xs hx i om
  refine xG ?_
  generalize hxx:xs.getD i 0=x at*
  refine aw_lp (fun k:Nat=>[(3,.c (.int .i64 (bitlen (val (xs.take i)+4294967296^i*(x%2^k)):Nat))),(4,.c (.int .i64 i)),(5,.c (.int .u32 x)),(7,.c (ws false xs)),(8,.c (.int .i64 xs.length)),(9,.c (.int .i64 i)),(14,.c (.int .i64 k))]) (fun _=>[]) (fun k=>k≤32) (fun k=>32-k) 0 (by refine xS ?_;and_intros<;>first|exact True.intro|rfl|(rw [Nat.pow_zero,Nat.mod_one,Nat.mul_zero,Nat.add_zero])) zZ (Nat.zero_le _) ?_
  rintro k hk
  refine xG ?_
  refine xF (fun hb=>?_) fun hb=>?_
  ·have hk':k<32:=dT hb
   have hd:x/2^k<4294967296:=Nat.lt_of_le_of_lt (Nat.div_le_self _ _) hxi
   have e1:=shr_u32 x k om
   have e2:=and_u32_1 (x/2^k) hd
   have J1:=oj e1 e2
   refine yG J1 ?_
   refine yF J1 (fun hc=>?_) fun hc=>?_
   ·have hc':x/2^k%2=1:=by have:=eq_of_beq hc;omega
    refine yG J1 ?_
    refine aw_stop ⟨k+1,by omega,(by refine yS J1 ?_;and_intros<;>first|exact True.intro|rfl|exact c_int (by rw [bits_some hvt hc'];omega)),zZ,by omega⟩
   ·have hc':x/2^k%2=0:=by
     have h1:¬(((x/2^k%2:Nat):Int)=1):=fun e=>by rw [e] at hc;cases hc
     omega
    refine yG J1 ?_
    refine aw_stop ⟨k+1,by omega,(by refine yS J1 ?_;and_intros<;>first|exact True.intro|rfl|(rw [bit_step,hc',Nat.mul_zero,Nat.add_zero])),zZ,by omega⟩
  ·have hk':k=32:=dF hb
   subst hk'
   refine xG ?_
   refine aw_stop ⟨i+1,by omega,(by refine xS ?_;and_intros<;>first|exact True.intro|rfl|(rw [val_take_succ,hxx,Nat.mod_eq_of_lt (show x<2^32 from hxi)])),zZ,by omega⟩
 ·have hin:i=xs.length:=dF hb
  subst hin
  refine xGT hC ?_
  rw [List.take_length]
  exact .one (.c (.int _ _))
theorem up_step {xs zs:List Nat} {i s c:Nat} (h:val zs+4294967296^i*c=val (xs.take i)*2^s) (hl:zs.length=i):
  val (zs++[(c+xs.getD i 0*2^s)%4294967296])+4294967296^(i+1)*((c+xs.getD i 0*2^s)/4294967296)=val (xs.take (i+1))*2^s:=by
 rw [val_append,hl,val_take_succ]
 simp only [val,Nat.mul_zero,Nat.add_zero]
 have e:=Nat.mod_add_div (c+xs.getD i 0*2^s) 4294967296
 generalize (c+xs.getD i 0*2^s)%4294967296=v at*
 generalize (c+xs.getD i 0*2^s)/4294967296=d at*
 rw [Nat.add_mul,←h,Nat.pow_succ,Nat.mul_assoc,Nat.mul_assoc,Nat.add_assoc,←Nat.mul_add,e,Nat.mul_add,Nat.add_assoc]
theorem or_carry {c x s:Nat} (hc:c<2^s):c|||x*2^s=c+x*2^s:=by
 rw [Nat.or_comm,Nat.mul_comm,←Nat.two_pow_add_eq_or_of_lt hc,Nat.add_comm]
theorem up_carry {c x s:Nat} (hc:c<2^s) (hx:x<4294967296):(c+x*2^s)/4294967296<2^s:=by
 rw [Nat.div_lt_iff_lt_mul om]
 have:=Nat.mul_le_mul_right (2^s) (show x+1≤4294967296 from hx)
 rw [Nat.add_mul,Nat.one_mul] at this
 rw [Nat.mul_comm (2^s)]
 omega
theorem up_lt {c x s:Nat} (hc:c<2^s) (hx:x<4294967296) (hs:s<32):c+x*2^s<18446744073709551616:=by
 have h1:=Nat.mul_le_mul_right (2^s) (show x+1≤4294967296 from hx)
 rw [Nat.add_mul,Nat.one_mul] at h1
 have h2:=Nat.mul_le_mul_left 4294967296 (pow_lt_32 (show s≤32 from by omega))
 omega
theorem qup_fa (xs:List Nat) (s:Nat) (hx:∀x∈xs,x<4294967296) (hlx:xs.length≤68719476736) (hs:s<32):Fa Tryz.prog 132 [.c (ws false xs),.c (.int .i64 s)] (.c (ws true (words (val xs*2^s)))):=by
 refine fa_of_body Tryz.func132 rfl rfl (by simp [Tryz.ntmps132]) fun C hC=> ?_
 simp only [initS,Nat.reduceAdd]
 refine xG ?_
 refine aw_lp (fun x:Option Nat×Nat×Nat×List Nat=>[(1,.c (.int .i64 s)),(5,.c (gs x.1 1 x.2.1)),(6,.c (.int .u64 x.2.2.1)),(9,.c (ws false xs)),(10,.c (.int .i64 xs.length)),(11,.c (.int .i64 x.2.1))]) (fun x=>gh x.1 139 x.2.1 (wf x.2.2.2))
  (fun x=>(x.1=none→x.2.1=0)∧x.2.1≤xs.length∧x.2.2.1<2^s∧x.2.2.2.length=x.2.1∧(∀y∈x.2.2.2,y<4294967296)∧val x.2.2.2+4294967296^x.2.1*x.2.2.1=val (xs.take x.2.1)*2^s) (fun x=>xs.length-x.2.1) (none,0,0,[]) eB zZ
  ⟨fun _=>rfl,Nat.zero_le _,Nat.two_pow_pos s,rfl,by simp,by simp [val]⟩ ?_
 rintro ⟨og,i,c,zs⟩ ⟨hog,hi,hc,hzl,hz,hv⟩
 dsimp only at hog hi hc hzl hz hv⊢
 have hp:=pow_lt_32 (show s≤32 from by omega)
 refine xG ?_
 refine xF (fun hb=>?_) fun hb=>?_
 ·have hin:i<xs.length:=dT hb
  have hxi:=getD_lt hx i
  have hlt:=up_lt hc hxi hs
  have e1:=shl_u64 (xs.getD i 0) s hxi om
  have e2:orZ .u64 (c:Int) ((xs.getD i 0*2^s:Nat):Int)=((c+xs.getD i 0*2^s:Nat):Int):=by
   rw [or_u64 _ _ om om,or_carry hc]
  have e3:=wrap_u32_nat (c+xs.getD i 0*2^s)
  have e4:=nat_div_32 (c+xs.getD i 0*2^s)
  have hst:=up_step (xs:=xs) hv hzl
  have hcc:=up_carry hc hxi
  have J1:=oj e1 (oj e2 (oj e3 e4))
  refine yG J1 ?_
  refine aw_push (pre:=[]) rfl rfl rfl rfl rfl rfl rfl (zE J1) (zE J1) (by rfl) om om (zE J1) om (by exact hog) (zE J1) (by rfl) (by rfl) (by first|rfl|simp only [Nat.mul_one,List.nil_append,List.cons_append]<;>rfl) (by unfold maxLen;omega) om (by exact wf_push hzl _) fun g hn_g=> ?_
  replace hn_g:=Heap.ne_of hn_g
  first|dsimp only [Heap.ne,gh] at hn_g|dsimp only [Heap.ne] at hn_g|skip
  have J2:=oj e1 (oj e2 (oj e3 (oj e4 hn_g)))
  refine ySG J2 ?_
  refine aw_stop ⟨(some g,i+1,(c+xs.getD i 0*2^s)/4294967296,zs++[(c+xs.getD i 0*2^s)%4294967296]),by dsimp only;omega,(zB J2),zZ,some_ne,by dsimp only;omega,hcc,by simp;omega,push_lt hz om,hst⟩
 ·have hin:i=xs.length:=dF hb
  subst hin
  have e3:wrapZ .u32 (c:Int)=(c:Int):=by rw [wrap_u32_nat,Nat.mod_eq_of_lt om]
  refine yG e3 ?_
  refine aw_push (pre:=[]) rfl rfl rfl rfl rfl rfl rfl (zE e3) (zE e3) (by rfl) om om (zE e3) om (by exact hog) (zE e3) (by rfl) (by rfl) (by first|rfl|simp only [Nat.mul_one,List.nil_append,List.cons_append]<;>rfl) (by unfold maxLen;omega) om (by exact wf_push hzl _) fun g hn_g=> ?_
  replace hn_g:=Heap.ne_of hn_g
  first|dsimp only [Heap.ne,gh] at hn_g|dsimp only [Heap.ne] at hn_g|skip
  have J3:=oj e3 hn_g
  refine ySG J3 ?_
  refine aw_callq (qtrim_fa (zs++[c]) (push_lt hz om) (by simp;omega)) rfl rfl rfl ⟨.c (le_gsw some_ne (by simp;omega)),trivial⟩ ?_
  refine ySGT hC J3 ?_
  rw [val_append,hzl]
  simp only [val,Nat.mul_zero,Nat.add_zero]
  rw [hv,List.take_length]
  exact .one (.c ler_ws)
theorem rgt_take {s:Nat} {xs zs:List Nat} {i:Nat} (hi:i<xs.length) (hl:zs=(rgt s xs).take i):zs++[(xs.getD i 0+xs.getD (i+1) 0*4294967296)/2^s%4294967296]=(rgt s xs).take (i+1):=by
 rw [←rgt_getD s xs i hi,hl]
 have hil:i<(rgt s xs).length:=by rw [rgt_length];exact hi
 rw [List.take_succ_eq_append_getElem hil]
 congr 2
 rw [List.getD_eq_getElem?_getD,List.getElem?_eq_getElem hil];rfl
theorem qdown_fa (xs:List Nat) (s:Nat) (hx:∀x∈xs,x<4294967296) (hlx:xs.length≤68719476736) (hs:s<32):Fa Tryz.prog 133 [.c (ws false xs),.c (.int .i64 s)] (.c (ws true (words (val xs/2^s)))):=by
 refine fa_of_body Tryz.func133 rfl rfl (by simp [Tryz.ntmps133]) fun C hC=> ?_
 simp only [initS,Nat.reduceAdd]
 refine xG ?_
 refine aw_lp (fun x:Option Nat×Nat×List Nat=>[(0,.c (ws false xs)),(1,.c (.int .i64 s)),(5,.c (gs x.1 1 x.2.1)),(7,.c (ws false xs)),(8,.c (.int .i64 xs.length)),(9,.c (.int .i64 x.2.1))]) (fun x=>gh x.1 139 x.2.1 (wf x.2.2))
  (fun x=>(x.1=none→x.2.1=0)∧x.2.1≤xs.length∧x.2.2=(rgt s xs).take x.2.1) (fun x=>xs.length-x.2.1) (none,0,[]) eB zZ
  ⟨fun _=>rfl,Nat.zero_le _,by simp⟩ ?_
 rintro ⟨og,i,zs⟩ ⟨hog,hi,hzs⟩
 dsimp only at hog hi hzs⊢
 have hzl:zs.length=i:=by rw [hzs,List.length_take,rgt_length];omega
 refine xG ?_
 refine xF (fun hb=>?_) fun hb=>?_
 ·have hin:i<xs.length:=dT hb
  have hxi:=getD_lt hx i
  have hxj:=getD_lt hx (i+1)
  refine xG ?_
  refine xC (qword_fa xs i hx) ?_
  refine xG ?_
  refine xC (qword_fa xs (i+1) hx) ?_
  have e1:=shl_u64_32 (xs.getD (i+1) 0) hxj
  have e2:=or_u64_join' (xs.getD (i+1) 0) (xs.getD i 0) hxj hxi
  have e3:=shr_u64 (xs.getD (i+1) 0*4294967296+xs.getD i 0) s om
  have e4:=wrap_u32_nat ((xs.getD (i+1) 0*4294967296+xs.getD i 0)/2^s)
  have e5:=rgt_take (s:=s) hin hzs
  rw [Nat.add_comm (xs.getD i 0)] at e5
  have J1:=oj e1 (oj e2 (oj e3 e4))
  refine yG J1 ?_
  refine aw_push (pre:=[]) rfl rfl rfl rfl rfl rfl rfl (zE J1) (zE J1) (by rfl) om om (zE J1) om (by exact hog) (zE J1) (by rfl) (by rfl) (by first|rfl|simp only [Nat.mul_one,List.nil_append,List.cons_append]<;>rfl) (by unfold maxLen;omega) om (by exact wf_push hzl _) fun g hn_g=> ?_
  replace hn_g:=Heap.ne_of hn_g
  first|dsimp only [Heap.ne,gh] at hn_g|dsimp only [Heap.ne] at hn_g|skip
  have J2:=oj e1 (oj e2 (oj e3 (oj e4 hn_g)))
  refine ySG J2 ?_
  refine aw_stop ⟨(some g,i+1,zs++[(xs.getD (i+1) 0*4294967296+xs.getD i 0)/2^s%4294967296]),by dsimp only;omega,(zB J2),zZ,some_ne,by dsimp only;omega,e5⟩
 ·have hin:i=xs.length:=dF hb
  subst hin
  rw [List.take_of_length_le (by rw [rgt_length];omega)] at hzs
  refine xG ?_
  refine aw_callq (qtrim_fa zs (by rw [hzs];exact rgt_lt s xs) om) rfl rfl rfl ⟨.c (le_gsw hog hzl),trivial⟩ ?_
  refine xSGT hC ?_
  rw [hzs,rgt_val om xs hx]
  exact .one (.c ler_ws)
end Go.Proofs.YtefekdejgbceiaaGreat
