/- Parts of one proof, laid by a program. -/
import Derived.Test.YtfcnbgmclfkfcaaGreatM00
import Derived.Test.YtfcnbgmclfkfcaaGreatM25
set_option linter.unusedSimpArgs false
set_option linter.unusedVariables false
namespace Go.PN
open Go.AI
structure ToOk (f:FM) (tl:List Int) (k:Nat):Prop where
 len:tl.length=f.vars.toNat+f.nodes.length
 at':∀a:Int,0≤a→a<f.vars+k→(belL f).getD a.toNat false=true→tl.getD a.toNat 0=toR f a
end Go.PN
namespace Go.Proofs.YtfcnbgmclfkfcaaGreat
open Go.AI Go.PN
theorem toOk_set {f:FM} (v0:0≤f.vars) {tl:List Int} {k:Nat} (hk:k<f.nodes.length) (h:ToOk f tl k):ToOk f (tl.set (f.vars.toNat+k) (f.vars+szTo f k)) (k+1):=by
 have hl:=h.len
 refine⟨by rw [List.length_set];exact hl,fun a a0 a1 hm=> ?_⟩
 by_cases e:a=f.vars+k
 ·subst e
  rw [show(f.vars+(k:Int)).toNat=f.vars.toNat+k from by omega,getZset om]
  unfold toR
  rw [if_neg om,show(f.vars+(k:Int)-f.vars).toNat=k from by omega]
 ·rw [getZset' om]
  exact h.at' a a0 om hm
theorem toOk_skip {f:FM} (v0:0≤f.vars) {tl:List Int} {k:Nat} (h:ToOk f tl k) (hm:(belL f).getD (f.vars.toNat+k) false=false):ToOk f tl (k+1):=by
 refine⟨h.len,fun a a0 a1 ha=> ?_⟩
 by_cases e:a=f.vars+k
 ·subst e
  rw [show(f.vars+(k:Int)).toNat=f.vars.toNat+k from by omega,hm] at ha
  cases ha
 ·exact h.at' a a0 om ha
attribute [local irreducible] aw Fa Fh DrK
set_option maxRecDepth 100000 in
set_option maxHeartbeats 6400000 in
theorem ftrim_fh (f:FM) (hn:f.nodes.length≤1099511627776) (ha:ArgsOk f) (hc:fcode f=0):Fh Tryz.prog 76 [] [.agg (fmc false f)] (fun x h=>h=[]∧x=.tup [.agg (fmc true (trimF f)),.c .nilI]):=by
 have ok:=fr_ok hc
 have v0:=ok.v0
 have v24:=ok.v24
 have n128:=ok.n128
 have t0:=ok.t0
 have t1:=ok.t1
 have z:=ieq_t hc
 have hbl:(belL f).length=f.vars.toNat+f.nodes.length:=belTo_len f f.nodes.length
 have htop:=bel_top ok f.nodes.length
 refine fh_of_body Tryz.func76 rfl rfl (by simp [Tryz.ntmps76]) fun C hC=> ?_
 simp only [initS,Nat.reduceAdd]
 refine yG z ?_
 refine yB z fun g1 hn_g1=>?_
 refine yG (oj z hn_g1) ?_
 refine yA (oj z hn_g1) fun g2 hn_g2=>?_
 have J1:=oj z (oj hn_g1 hn_g2)
 refine yG J1 ?_
 refine aw_callq (fcheck_fa f hn ha om om) rfl rfl rfl (zL J1) ?_
 refine ySGNG J1 ?_
 refine yA J1 fun g5 hn_g5=>?_
 have J2:=oj z (oj hn_g1 (oj hn_g2 hn_g5))
 refine yGWSG J2 ?_
 refine aw_make (n:=f.vars.toNat+f.nodes.length) (c:=f.vars.toNat+f.nodes.length) (size:=1) (bytes:=8) (z:=[.int .i64 0]) rfl rfl rfl (zE J2) (zE J2) rfl om (zE J2) (zE J2) om om om om om fun g6 hn_g6=> ?_
 simp only [Nat.mul_one]
 rw [make_is]
 replace hn_g6:=Heap.ne_of hn_g6
 dsimp only [Heap.ne] at hn_g6
 have J3:=oj z (oj hn_g1 (oj hn_g2 (oj hn_g5 hn_g6)))
 refine ySG J3 ?_
 obtain⟨V,hV⟩:∃V:Nat,f.vars=V:=⟨f.vars.toNat,by omega⟩
 have hVt:f.vars.toNat=V:=by omega
 refine aw_lp (fun x:Nat×List Int=>[(1,.c (.optr g1 0)),(2,.c (.optr g2 0)),(5,.c (.optr g5 0)),(6,.c (.osl g6 1 0 (f.vars.toNat+f.nodes.length))),(31,.c (.int .i64 f.vars)),(32,.c (.int .i64 x.1))]) (fun x=>[(g6,.cells 3 (f.vars.toNat+f.nodes.length) (isF x.2)),(g5,.cells 24 3 (ofL [.int .i64 f.vars,.nils,.int .i64 0])),(g2,.cells 24 3 (ofL [.int .i64 0,.nils,.int .i64 0])),(g1,.cells 24 3 (ofL (fmc false f)))]) (fun x=>x.1≤V∧x.2.length=f.vars.toNat+f.nodes.length∧∀q:Nat,q<x.1→x.2.getD q 0=q) (fun x=>V-x.1) (0,List.replicate (f.vars.toNat+f.nodes.length) 0) (zB J3) zZ ⟨Nat.zero_le _,by simp,fun q hq=>by omega⟩ ?_
 rintro ⟨i,zs⟩ ⟨hi,hzl,hz⟩
 dsimp only at hi hzl hz⊢
 refine yG J3 ?_
 refine yF J3 (fun hb1=>?_) fun hb1=>?_
 ·have hin:i<V:=dT hb1
  refine yGWS J3 ?_
  rw [updF_is om]
  refine yG J3 ?_
  refine aw_stop ⟨(i+1,zs.set i i),by dsimp only;omega,(zB J3),zZ,by dsimp only;omega,by simpa using hzl,fun k hk=> ?_⟩
  dsimp only at hk⊢
  by_cases hki:k=i
  ·subst hki;exact getZset om
  ·rw [getZset' hki];exact hz k om
 have hin:i=V:=dF hb1
 subst hin
 have to0:ToOk f zs 0:=⟨hzl,fun a a0 a1 _=>by
  have:=hz a.toNat om
  rw [this]
  unfold toR
  rw [if_pos om];omega⟩
 clear hz hb1 J3
 have J4:=oj z (oj hn_g1 (oj hn_g2 (oj hn_g5 hn_g6)))
 refine yG J4 ?_
 refine aw_dr 7 ty_mixed (by kernel_rfl) ?_
 refine yG J4 ?_
 refine yD J4 (below_fa f ok) ?_
 refine yG J4 ?_
 rw [show(belL f).length-f.vars.toNat=f.nodes.length from by omega]
 refine aw_lp (fun x:Nat×Option Nat×List Int=>[(1,.c (.optr g1 0)),(2,.c (.optr g2 0)),(5,.c (.optr g5 0)),(6,.c (.osl g6 1 0 (f.vars.toNat+f.nodes.length))),(44,.c (.row true 1 f.nodes.length fun j=>.bool ((belL f).getD (f.vars.toNat+j) false))),(45,.c (.int .i64 f.nodes.length)),(46,.c (.int .i64 x.1))])
  (fun x=>[(g6,.cells 3 (f.vars.toNat+f.nodes.length) (isF x.2.2)),(g5,.cells 24 3 (ofL [.int .i64 f.vars,gs x.2.1 3 (szTo f x.1),.int .i64 0])),(g2,.cells 24 3 (ofL [.int .i64 0,.nils,.int .i64 0])),(g1,.cells 24 3 (ofL (fmc false f)))]++gh x.2.1 106 (szTo f x.1*3) (fnsF (trTo f x.1)))
  (fun x=>x.1≤f.nodes.length∧(x.2.1=none→szTo f x.1=0)∧ToOk f x.2.2 x.1) (fun x=>f.nodes.length-x.1) (0,none,zs) (zB J4) (by simp only [gh,List.append_nil];exact List.Sublist.refl _) ⟨Nat.zero_le _,fun _=>rfl,to0⟩ ?_
 clear hzl to0 J4
 rintro ⟨k,oN,tl⟩ ⟨hk,hoN,hto⟩
 dsimp only at hk hoN hto⊢
 have htl:=hto.len
 have hsz:=szTo_le f k
 simp only [List.cons_append,List.nil_append]
 have J5:=oj z (oj hn_g1 (oj hn_g2 (oj hn_g5 hn_g6)))
 refine yG J5 ?_
 refine yF J5 (fun h1=>?_) fun h1=>?_
 ·have h1':k<f.nodes.length:=dT h1
  have hln:=ok.len h1'
  have hs1:szTo f (k+1)=szTo f k+if(belL f).getD (f.vars.toNat+k) false then 1 else 0:=rfl
  have hr1:trTo f (k+1)=if(belL f).getD (f.vars.toNat+k) false then trTo f k++[⟨(f.nodes.getD k fn0).kind,(f.nodes.getD k fn0).k,(f.nodes.getD k fn0).args.map (toR f)⟩] else trTo f k:=rfl
  refine yG J5 ?_
  refine yF J5 (fun hm=>?_) fun hm=>?_
  ·have hm':(belL f).getD (f.vars.toNat+k) false=false:=by simpa using hm
   rw [if_neg (by rw [hm'];simp)] at hs1 hr1
   refine yG J5 ?_
   refine aw_stop ⟨(k+1,oN,tl),by dsimp only;omega,(zB J5),?_,by dsimp only;omega,by dsimp only;rw [hs1];exact hoN,toOk_skip v0 hto hm'⟩
   dsimp only
   rw [hs1,hr1]
   exact List.Sublist.refl _
  have hm':(belL f).getD (f.vars.toNat+k) false=true:=by simpa using hm
  rw [if_pos hm'] at hs1 hr1
  have hargs:∀j,j<(f.nodes.getD k fn0).args.length→0≤(f.nodes.getD k fn0).args.getD j 0∧(f.nodes.getD k fn0).args.getD j 0<f.vars+k∧tl.getD ((f.nodes.getD k fn0).args.getD j 0).toNat 0=toR f ((f.nodes.getD k fn0).args.getD j 0):=fun j hj=>by
   obtain⟨a0,a1⟩:=ok.at h1' hj
   refine⟨a0,a1,hto.at' _ a0 a1 (bel_arg ok h1' hm' ?_)⟩
   rw [getDZ hj];exact List.getElem_mem hj
  refine yG J5 ?_
  generalize hx:f.nodes.getD k fn0=x at*
  refine yA (oj z (oj hn_g1 (oj hn_g2 (oj hn_g5 (oj hn_g6 hx))))) fun g10 hn_g10=>?_
  have J6:=oj z (oj hn_g1 (oj hn_g2 (oj hn_g5 (oj hn_g6 (oj hx hn_g10)))))
  refine yGWSG J6 ?_
  refine yA J6 fun g11 hn_g11=>?_
  have J7:=oj z (oj hn_g1 (oj hn_g2 (oj hn_g5 (oj hn_g6 (oj hx (oj hn_g10 hn_g11))))))
  refine yGWSG J7 ?_
  refine aw_lp (fun y:Nat×Option Nat=>[(1,.c (.optr g1 0)),(2,.c (.optr g2 0)),(5,.c (.optr g5 0)),(6,.c (.osl g6 1 0 (f.vars.toNat+f.nodes.length))),(44,.c (.row true 1 f.nodes.length fun j=>.bool ((belL f).getD (f.vars.toNat+j) false))),(45,.c (.int .i64 f.nodes.length)),(46,.c (.int .i64 k)),(8,.c (.int .i64 k)),(11,.c (.optr g11 0)),(64,.c (is true x.args)),(65,.c (.int .i64 x.args.length)),(66,.c (.int .i64 y.1))])
   (fun y=>((g11,.cells 106 3 (ofL [.int .i64 x.kind,.int .i64 x.k,gs y.2 1 y.1]))::(g6,.cells 3 (f.vars.toNat+f.nodes.length) (isF tl))::(g5,.cells 24 3 (ofL [.int .i64 f.vars,gs oN 3 (szTo f k),.int .i64 0]))::(g2,.cells 24 3 (ofL [.int .i64 0,.nils,.int .i64 0]))::(g1,.cells 24 3 (ofL (fmc false f)))::gh oN 106 (szTo f k*3) (fnsF (trTo f k)))++gh y.2 3 y.1 (isF ((x.args.take y.1).map (toR f))))
   (fun y=>y.1≤x.args.length∧(y.2=none→y.1=0)) (fun y=>x.args.length-y.1) (0,none) (zB J7) (by
    simp only [gh,gs,List.append_nil]
    exact List.Sublist.cons_cons _ (List.Sublist.cons _ (List.Sublist.refl _))) ⟨Nat.zero_le _,fun _=>rfl⟩ ?_
  rintro ⟨j,oa⟩ ⟨hj,hoa⟩
  dsimp only at hj hoa⊢
  simp only [List.cons_append]
  refine yG J7 ?_
  refine yF J7 (fun h2=>?_) fun h2=>?_
  ·have h2':j<x.args.length:=dT h2
   obtain⟨a0,a1,a2⟩:=hargs j h2'
   obtain⟨i2,hi2⟩:=Int.eq_ofNat_of_zero_le a0
   rw [hi2] at a1
   have a2':=a2
   rw [hi2,Int.toNat_natCast] at a2'
   have htk:x.args.take (j+1)=x.args.take j++[x.args.getD j 0]:=by rw [getDZ h2',List.take_succ_eq_append_getElem h2']
   have hlk:((x.args.take j).map (toR f)).length=j:=by rw [List.length_map,List.length_take];omega
   refine yG (oj z (oj hn_g1 (oj hn_g2 (oj hn_g5 (oj hn_g6 (oj hx (oj hn_g10 (oj hn_g11 hi2)))))))) ?_
   refine aw_drB 7 ty_mixed (by kernel_rfl) ?_
   repeat first|(refine drb_2q true rfl (fun R hR=> ?_);simp only [go_sem,z,hn_g1,hn_g2,hn_g5,hn_g6,hx,hn_g10,hn_g11,hi2];(with_reducible refine hR _ _ ?_ ?_);(focus (((try simp only [inRange])<;>and_intros<;>first|exact True.intro|omega|trivial);done));clear hR R)|fail
   refine drb_new rfl (NewX.buildSlice (xs:=[.tmp 75]) (cells:=[.int .i64 (tl.getD i2 0)]) rfl rfl rfl (zE (oj z (oj hn_g1 (oj hn_g2 (oj hn_g5 (oj hn_g6 (oj hx (oj hn_g10 (oj hn_g11 hi2))))))))) (by refine yS (oj z (oj hn_g1 (oj hn_g2 (oj hn_g5 (oj hn_g6 (oj hx (oj hn_g10 (oj hn_g11 hi2)))))))) ?_;rfl) rfl om om (by intro x hx;simp only [List.mem_singleton] at hx;subst hx;exact⟨rfl,rfl,rfl⟩) rfl (by simp [Op.operands])) (by kernel_rfl) ?_
   have J8:=oj z (oj hn_g1 (oj hn_g2 (oj hn_g5 (oj hn_g6 (oj hx (oj hn_g10 (oj hn_g11 hi2)))))))
   refine yS J8 ?_
   refine drb_nil fun γ=> ?_
   refine yS J8 ?_
   rw [a2']
   generalize γ 6=gt
   refine aw_push2 (e:=3) (size:=1) (bytes:=8) (n:=j) (z:=[.int .i64 0]) (og:=oa) (f:=isF ((x.args.take j).map (toR f))) (pre:=(g11,.cells 106 3 (ofL [.int .i64 x.kind,.int .i64 x.k,gs oa 1 j]))::(g6,.cells 3 (f.vars.toNat+f.nodes.length) (isF tl))::(g5,.cells 24 3 (ofL [.int .i64 f.vars,gs oN 3 (szTo f k),.int .i64 0]))::(g2,.cells 24 3 (ofL [.int .i64 0,.nils,.int .i64 0]))::(g1,.cells 24 3 (ofL (fmc false f)))::gh oN 106 (szTo f k*3) (fnsF (trTo f k))) (f':=isF ((x.args.take (j+1)).map (toR f))) (v:=.c (.int .i64 (toR f i2))) rfl rfl rfl (zE J8) (zE J8) rfl om om (zE J8) (zE J8) hoa (by rfl) (by rfl) (by simp only [Nat.mul_one,List.cons_append];rfl) (by unfold maxLen;omega) om (by rw [htk,List.map_append,hi2];exact is_push hlk _) fun g hn_g=> ?_
   have J9:=oj z (oj hn_g1 (oj hn_g2 (oj hn_g5 (oj hn_g6 (oj hx (oj hn_g10 (oj hn_g11 hi2)))))))
   refine yS J9 ?_
   try simp only [List.cons_append,Nat.mul_one]
   refine yH J9 ?_
   refine yW J9 ?_
   refine ySG J9 ?_
   refine aw_stop ⟨(j+1,some g),by dsimp only;omega,(zB J9),?_,by dsimp only;omega,fun e=>by cases e⟩
   exact List.Sublist.refl _
  ·have h2':j=x.args.length:=dF h2
   subst h2'
   rw [List.take_length]
   refine aw_perm (h':=(g11,.cells 106 3 (ofL [.int .i64 x.kind,.int .i64 x.k,gs oa 1 x.args.length]))::(gh oa 3 (x.args.length*1) (isF (x.args.map (toR f)))++((g6,.cells 3 (f.vars.toNat+f.nodes.length) (isF tl))::(g5,.cells 24 3 (ofL [.int .i64 f.vars,gs oN 3 (szTo f k),.int .i64 0]))::(g2,.cells 24 3 (ofL [.int .i64 0,.nils,.int .i64 0]))::(g1,.cells 24 3 (ofL (fmc false f)))::gh oN 106 (szTo f k*3) (fnsF (trTo f k))))) (by
    rw [Nat.mul_one]
    exact List.Perm.cons _ (List.perm_append_comm (l₁:=(g6,.cells 3 (f.vars.toNat+f.nodes.length) (isF tl))::(g5,.cells 24 3 (ofL [.int .i64 f.vars,gs oN 3 (szTo f k),.int .i64 0]))::(g2,.cells 24 3 (ofL [.int .i64 0,.nils,.int .i64 0]))::(g1,.cells 24 3 (ofL (fmc false f)))::gh oN 106 (szTo f k*3) (fnsF (trTo f k))))) ?_
   refine aw_frzG (j0:=2) (og:=oa) (s:=1) (n:=x.args.length) (f':=ofL [.int .i64 x.kind,.int .i64 x.k,is true (x.args.map (toR f))]) rfl (by show CV.row true 1 (x.args.map (toR f)).length _=_;rw [List.length_map]) (fun j hj hne=> ?_) hoa (fun g e=> ?_) ?_
   ·match j,hj,hne with
    |0,_,_=>rfl
    |1,_,_=>rfl
    |2,_,hne=>exact absurd rfl hne
   ·exact fun h=>by have:=(hC g).1 h;simp [Heap.keys] at this
   have hvk:f.vars+(k:Int)=((i+k:Nat):Int):=by omega
   have hlen:=lenCV_gs (s:=3) hoN
   repeat first|apply wa1|apply wa2|apply wa3|apply wa4|apply wa5 rfl|apply wa6|apply wa7|(refine wb1 rfl fun R r=>?_;simp only[go_sem,z,hn_g1,hn_g2,hn_g5,hn_g6,hx,hn_g10,hn_g11,hvk,↓hlen];with_reducible show R (some _);with_reducible refine r _ _ ?_;clear r R)
   refine aw_store rfl rfl rfl rfl (by simp only[go_sem,z,hn_g1,hn_g2,hn_g5,hn_g6,hx,hn_g10,hn_g11,hvk,↓hlen]<;>rfl) (by simp only[go_sem,z,hn_g1,hn_g2,hn_g5,hn_g6,hx,hn_g10,hn_g11,hvk,↓hlen]<;>rfl) (by simp only[go_sem,z,hn_g1,hn_g2,hn_g5,hn_g6,hx,hn_g10,hn_g11,hvk,↓hlen]<;>rfl) (by simp only[go_sem,z,hn_g1,hn_g2,hn_g5,hn_g6,hx,hn_g10,hn_g11,hvk,↓hlen]<;>rfl) (fun _ e=>by cases e) (by first|rfl|exact solid_gs3|exact solid_gs2) (by rfl) (by first|omega|simp) rfl ?_
   (try simp only[go_sem,z,hn_g1,hn_g2,hn_g5,hn_g6,hx,hn_g10,hn_g11,hvk,↓hlen])
   rw [updF_is om]
   repeat first|apply wa1|apply wa2|apply wa3|apply wa4|apply wa5 rfl|apply wa6|apply wa7|(refine wb1 rfl fun R r=>?_;simp only[go_sem,z,hn_g1,hn_g2,hn_g5,hn_g6,hx,hn_g10,hn_g11,hvk,↓hlen];with_reducible show R (some _);with_reducible refine r _ _ ?_;clear r R)
   refine aw_push (pre:=[(g11,.cells 106 3 (ofL [.int .i64 x.kind,.int .i64 x.k,is true (x.args.map (toR f))])),(g6,.cells 3 (f.vars.toNat+f.nodes.length) (isF (tl.set (i+k) (f.vars+szTo f k)))),(g5,.cells 24 3 (ofL [.int .i64 f.vars,gs oN 3 (szTo f k),.int .i64 0])),(g2,.cells 24 3 (ofL [.int .i64 0,.nils,.int .i64 0])),(g1,.cells 24 3 (ofL (fmc false f)))]) rfl rfl rfl rfl rfl rfl rfl (by simp only[go_sem,z,hn_g1,hn_g2,hn_g5,hn_g6,hx,hn_g10,hn_g11,hvk,↓hlen]<;>rfl) (by simp only[go_sem,z,hn_g1,hn_g2,hn_g5,hn_g6,hx,hn_g10,hn_g11,hvk,↓hlen]<;>rfl) (by rfl) om om (by simp only[go_sem,z,hn_g1,hn_g2,hn_g5,hn_g6,hx,hn_g10,hn_g11,hvk,↓hlen]<;>rfl) om (by exact hoN) (by simp only[go_sem,z,hn_g1,hn_g2,hn_g5,hn_g6,hx,hn_g10,hn_g11,hvk,↓hlen]<;>rfl) (by rfl) (by rfl) (by first|rfl|simp only [Nat.mul_one,List.nil_append,List.cons_append]<;>rfl) (by unfold maxLen;omega) om (by exact lf_push (xs:=trTo f k) (trTo_len f k) (⟨x.kind,x.k,x.args.map (toR f)⟩:FN) om) fun g hn_g=> ?_
   replace hn_g:=Heap.ne_of hn_g
   first|dsimp only [Heap.ne,gh] at hn_g|dsimp only [Heap.ne] at hn_g|skip
   (try simp only[go_sem,z,hn_g1,hn_g2,hn_g5,hn_g6,hx,hn_g10,hn_g11,hvk,↓hlen,hn_g])
   repeat first|apply wa1|apply wa2|apply wa3|apply wa4|apply wa5 rfl|apply wa6|apply wa7|(refine wb1 rfl fun R r=>?_;simp only[go_sem,z,hn_g1,hn_g2,hn_g5,hn_g6,hx,hn_g10,hn_g11,hvk,↓hlen,hn_g];with_reducible show R (some _);with_reducible refine r _ _ ?_;clear r R)
   refine aw_store rfl rfl rfl rfl (by simp only[go_sem,z,hn_g1,hn_g2,hn_g5,hn_g6,hx,hn_g10,hn_g11,hvk,↓hlen,hn_g]<;>rfl) (by simp only[go_sem,z,hn_g1,hn_g2,hn_g5,hn_g6,hx,hn_g10,hn_g11,hvk,↓hlen,hn_g]<;>rfl) (by simp only[go_sem,z,hn_g1,hn_g2,hn_g5,hn_g6,hx,hn_g10,hn_g11,hvk,↓hlen,hn_g]<;>rfl) (by simp only[go_sem,z,hn_g1,hn_g2,hn_g5,hn_g6,hx,hn_g10,hn_g11,hvk,↓hlen,hn_g]<;>rfl) (fun _ e=>by cases e) (by first|rfl|exact solid_gs3|exact solid_gs2) (by rfl) (by first|omega|simp) rfl ?_
   (try simp only[go_sem,z,hn_g1,hn_g2,hn_g5,hn_g6,hx,hn_g10,hn_g11,hvk,↓hlen,hn_g])
   repeat first|apply wa1|apply wa2|apply wa3|apply wa4|apply wa5 rfl|apply wa6|apply wa7|(refine wb1 rfl fun R r=>?_;simp only[go_sem,z,hn_g1,hn_g2,hn_g5,hn_g6,hx,hn_g10,hn_g11,hvk,↓hlen,hn_g];with_reducible show R (some _);with_reducible refine r _ _ ?_;clear r R)
   refine aw_stop ⟨(k+1,some g,tl.set (i+k) (f.vars+szTo f k)),by dsimp only;omega,(by simp only[go_sem,z,hn_g1,hn_g2,hn_g5,hn_g6,hx,hn_g10,hn_g11,hvk,↓hlen,hn_g]<;>and_intros<;>first|exact True.intro|(with_reducible rfl)|exact c_int om|rfl),?_,by dsimp only;omega,fun e=>(by cases e),?_⟩
   ·dsimp only
    rw [hs1,hr1]
    exact List.Sublist.cons _ (List.Sublist.refl _)
   ·have:=toOk_set v0 h1' hto
    rwa [hVt] at this
 ·have h1':k=f.nodes.length:=dF h1
  subst h1'
  obtain⟨tp,htp⟩:=Int.eq_ofNat_of_zero_le t0
  have htt:=hto.at' f.top t0 t1 htop
  rw [htp,Int.toNat_natCast,←htp] at htt
  have J10:=oj z (oj hn_g1 (oj hn_g2 (oj hn_g5 (oj hn_g6 htp))))
  refine yGWS J10 ?_
  rw [htt]
  refine aw_perm (h':=(g5,.cells 24 3 (ofL [.int .i64 f.vars,gs oN 3 (szTo f f.nodes.length),.int .i64 (toR f f.top)]))::(gh oN 106 (szTo f f.nodes.length*3) (fnsF (trTo f f.nodes.length))++[(g6,.cells 3 (f.vars.toNat+f.nodes.length) (isF tl)),(g2,.cells 24 3 (ofL [.int .i64 0,.nils,.int .i64 0])),(g1,.cells 24 3 (ofL (fmc false f)))])) ((List.Perm.swap _ _ _).trans (List.Perm.cons _ (List.perm_append_comm (l₁:=([(g6,.cells 3 (f.vars.toNat+f.nodes.length) (isF tl)),(g2,.cells 24 3 (ofL [.int .i64 0,.nils,.int .i64 0])),(g1,.cells 24 3 (ofL (fmc false f)))]:Heap))))) ?_
  refine aw_frzG (j0:=1) (og:=oN) (s:=3) (n:=szTo f f.nodes.length) (f':=ofL (fmc true (trimF f))) rfl (by show CV.row true 3 (trTo f f.nodes.length).length _=_;rw [trTo_len];rfl) (fun j hj hne=> ?_) hoN (fun g e=> ?_) ?_
  ·match j,hj,hne with
   |0,_,_=>rfl
   |1,_,hne=>exact absurd rfl hne
   |2,_,_=>rfl
  ·exact fun h=>by have:=(hC g).1 h;simp [Heap.keys] at this
  refine yGWSG J10 ?_
  refine aw_rethw (h':=[]) rfl (List.nil_sublist _) (fun R hR=> ?_)
  simp only [go_sem,z,hn_g1,hn_g2,hn_g5,hn_g6,htp]
  refine hR _ rfl ?_
  exact⟨rfl,rfl⟩
end Go.Proofs.YtfcnbgmclfkfcaaGreat
namespace Go.AI
section
variable {E : Env} {K : List It} {σ σ' : Sl} {h : Heap} {all rest : List Oper} {o : Oper}
def fnB (f:FuncId) (g:Nat):CV:=.raw (.func (.func f) #[.pointer (some ⟨g,0,none⟩)] #[])
theorem aw_makeFuncB {f:FuncId} {x:Operand} {g:Nat} (hop:o.op=.makeFunc (.func f) #[x] #[]) (hw:wantA all σ o=some true) (hd:dstOk E.N o.dst=true) (hx:ev σ x=.c (.optr g 0))
 (k:aw E (.ops all rest::K) (σ.setO o.dst (.c (fnB f g))) h):aw E (.ops all (o::rest)::K) σ h:=by
 refine aw_step hw (fun a w s=> ?_) k
 have h1:=ev_rep s x
 rw [hx] at h1
 have h1':a.eval x=.pointer (some ⟨g,0,none⟩):=h1
 refine⟨.func (.func f) #[.pointer (some ⟨g,0,none⟩)] #[],w,.inl ?_,s.put hd rfl⟩
 have h2:Array.map a.eval #[x]= #[.pointer (some ⟨g,0,none⟩)]:=by simp [h1']
 have h3:Array.map a.eval #[]= #[]:=by simp
 simp only [execOp,hop,Instr.makeFunc,h2,h3]
 rfl
theorem aw_callhB {f:FuncId} {x:Operand} {g:Nat} {xs:List Operand} {ts:Array TypeId} {hc hr:Heap} {args:List AV} {Q:AV→Heap→Prop} (hf:Fh E.P f hc (.c (.optr g 0)::args) Q) (hop:o.op=.call {callee:=.value x,args:=xs.toArray,argTypes:=ts}) (hw:wantA all σ o=some true) (hd:dstOk E.N o.dst=true) (hx:ev σ x=.c (fnB f g))
 (hp:h.Perm (hc++hr)) (le:LeA [] (xs.map (ev σ)) args) (k:∀r h',Q r h'→(∀g∈h'.keys,g∉hr.keys)→aw E (.ops all rest::K) (σ.setO o.dst r) (h'++hr)):aw E (.ops all (o::rest)::K) σ h:=fun a w s=>by
 show wpList _ _ _ _ _ _
 unfold wpList
 rw [if_pos (s.wanted hw)]
 refine .inl ?_
 unfold Oper.wp
 have hv:a.eval x=.func (.func f) #[.pointer (some ⟨g,0,none⟩)] #[]:=by
  have:=ev_rep s x
  rw [hx] at this
  exact this
 have hrun:(execOp a.eval o).run E.P w=.ok (.enter f (.pointer (some ⟨g,0,none⟩)::xs.map a.eval).toArray) w:=by
  simp only [execOp,hop,resolve,hv,Deferred.ofValue,invoke,Sem.run_bind]
  have:=hf.1.run (#[.pointer (some ⟨g,0,none⟩)]++(Array.map a.eval xs.toArray)++ #[]) w
  simp only [Sem.run_pure,Result.andThen_ok]
  rw [show((Value.pointer (some ⟨g,0,none⟩)::xs.map a.eval).toArray)=(#[.pointer (some ⟨g,0,none⟩)]++(Array.map a.eval xs.toArray)++ #[]) from by simp]
  exact this
 rw [hrun]
 show Calls _ _ _ _ _
 refine(hf.use s hp (show RepT (Stab E.C h w) w (.c (.optr g 0)::args) (Value.pointer (some ⟨g,0,none⟩)::xs.map a.eval) from⟨rfl,LeA.rep0 s le⟩)).mono ?_
 rintro e w' ⟨v,r,h',rfl,hq,hfr,s',hrep⟩
 exact k r h' hq hfr _ _ (s'.put hd hrep)
end
end Go.AI
namespace Go.Proofs.YtfcnbgmclfkfcaaGreat
open Go.AI Go.PN
attribute [local irreducible] aw Fa Fh DrK
def OpOk (f:FuncId) (g:Bool→Bool→Bool):Prop:=∀(gT gU gM:Nat) {o pl:List Int} (_:OdOk o pl) {og:Option Nat} {ns:List DN} {mm:Mem3} (_:TS o og ns mm) (_:ns.length+2^(o.length+2)≤1000000000) {a b:Int} (_:RefOk ns a) (_:RefOk ns b),
 Fh Tryz.prog f (THp gT gU gM og o pl ns mm) [.c (.optr gT 0),.c (.int .i64 a),.c (.int .i64 b)] (OpQ gT gU gM o pl ns (2^(o.length+2)) fun s=>g (evalD ns s a) (evalD ns s b))
theorem OpQ.more {gT gU gM:Nat} {o pl:List Int} {ns:List DN} {n m:Nat} {f:Nat→Bool} (h:n≤m) {x:AV} {hp:Heap}:OpQ gT gU gM o pl ns n f x hp→OpQ gT gU gM o pl ns m f x hp:=by
 rintro ⟨og',ns',mm',r,h1,h2,h3⟩
 exact⟨og',ns',mm',r,h1,⟨h2.tab,h2.pre,by have:=h2.len;omega⟩,h3⟩
theorem and_opok:OpOk 61 fun a b=>a&&b:=fun gT gU gM o pl ho og ns mm hs hn a b ha hb=>by
 have hB:2^(o.length+2)=2^(o.length+1)*2:=Nat.pow_succ ..
 exact(tand_fh gT gU gM ho hs om ha hb).mono fun x h=>OpQ.more om
theorem or_opok:OpOk 63 fun a b=>a||b:=fun gT gU gM o pl ho og ns mm hs hn a b ha hb=>by
 have hB:2^(o.length+2)=2^(o.length+1)*2:=Nat.pow_succ ..
 exact(tor_fh gT gU gM ho hs om ha hb).mono fun x h=>OpQ.more om
theorem xor_opok:OpOk 127 fun a b=>a !=b:=fun gT gU gM o pl ho og ns mm hs hn a b ha hb=>by
 have hB:2^(o.length+2)=2^(o.length+1)*2:=Nat.pow_succ ..
 exact(txor_fh gT gU gM ho hs om ha hb).mono fun x h=>OpQ.more om
set_option maxRecDepth 100000 in
set_option maxHeartbeats 3200000 in
theorem join_fh {F:FuncId} {g:Bool→Bool→Bool} (hF:OpOk F g) (gT gU gM:Nat) {o pl:List Int} (ho:OdOk o pl) {og:Option Nat} {ns:List DN} {mm:Mem3} (hs:TS o og ns mm) (refs:List Int) (hl:refs.length≤1000) (hn:ns.length+refs.length*2^(o.length+2)≤1000000000) {a:Int} (ha:RefOk ns a) (hr:∀r∈refs,RefOk ns r):
 Fh Tryz.prog 126 (THp gT gU gM og o pl ns mm) [.c (is true refs),.c (.int .i64 a),.c (fnB F gT)] (OpQ gT gU gM o pl ns (refs.length*2^(o.length+2)) fun s=>refs.foldl (fun b r=>g b (evalD ns s r)) (evalD ns s a)):=by
 refine fh_of_body Tryz.func126 rfl rfl (by simp [Tryz.ntmps126]) fun C hC=> ?_
 simp only [initS,Nat.reduceAdd]
 refine xG ?_
 refine aw_lp (fun y:Nat×Option Nat×List DN×Mem3×Int=>[(1,.c (.int .i64 y.2.2.2.2)),(2,.c (fnB F gT)),(9,.c (is true refs)),(10,.c (.int .i64 refs.length)),(11,.c (.int .i64 y.1))]) (fun y=>THp gT gU gM y.2.1 o pl y.2.2.1 y.2.2.2.1)
  (fun y=>y.1≤refs.length∧TS o y.2.1 y.2.2.1 y.2.2.2.1∧Later o ns y.2.2.1 (y.1*2^(o.length+2))∧RefOk y.2.2.1 y.2.2.2.2∧∀s,evalD y.2.2.1 s y.2.2.2.2=(refs.take y.1).foldl (fun b r=>g b (evalD ns s r)) (evalD ns s a)) (fun y=>refs.length-y.1) (0,og,ns,mm,a) eB zZ ⟨Nat.zero_le _,hs,Later.refl hs.tab _,ha,fun s=>rfl⟩ ?_
 rintro ⟨j,og1,ns1,mm1,a1⟩ ⟨hj,h1,h2,h3,h4⟩
 dsimp only at hj h1 h2 h3 h4⊢
 refine xG ?_
 refine xF (fun hb=>?_) fun hb=>?_
 ·have hb':j<refs.length:=dT hb
  have hmul:(j+1)*2^(o.length+2)=j*2^(o.length+2)+2^(o.length+2):=Nat.succ_mul ..
  have hle:(j+1)*2^(o.length+2)≤refs.length*2^(o.length+2):=Nat.mul_le_mul_right _ hb'
  have hl2:=h2.len
  have hrj:RefOk ns (refs.getD j 0):=by rw [getDZ hb'];exact hr _ (List.getElem_mem hb')
  refine xG ?_
  refine aw_callhB (hr:=[]) (hF gT gU gM ho h1 om h3 (h2.ref hrj)) rfl rfl rfl eE (by rw [List.append_nil]) eL ?_
  rintro _ _ ⟨og2,ns2,mm2,r,e1,e2,e3,e4,rfl,rfl⟩ _
  rw [List.append_nil]
  refine xSG ?_
  refine aw_stop ⟨(j+1,og2,ns2,mm2,r),by dsimp only;omega,eB,zZ,by dsimp only;omega,e1,h2.trans e2 (by dsimp only;omega),e3,fun s=> ?_⟩
  dsimp only
  rw [e4]
  dsimp only
  rw [h4,h2.eval hs.tab hrj,List.take_succ_eq_append_getElem hb',List.foldl_append,getDZ hb']
  rfl
 ·have hb':j=refs.length:=dF hb
  subst hb'
  rw [List.take_length] at h4
  refine xGU ?_
  exact⟨og1,ns1,mm1,a1,h1,h2,h3,h4,rfl,rfl⟩
end Go.Proofs.YtfcnbgmclfkfcaaGreat
namespace Go.PN
open Go.AI
def cntH (ns:List DN) (refs:List Int) (s:Nat):Nat:=(refs.filter fun r=>evalD ns s r).length
theorem cntH_push (ns:List DN) (refs:List Int) (r:Int) (s:Nat):cntH ns (refs++[r]) s=cntH ns refs s+if evalD ns s r then 1 else 0:=by
 unfold cntH
 rw [List.filter_append,List.length_append,List.filter_cons]
 split<;>simp
structure NeedOk (ns0:List DN) (refs:List Int) (ns:List DN) (zs:List Int) (k i jj:Nat):Prop where
 len:zs.length=k+1
 at':∀q,q≤k→RefOk ns (zs.getD q 0)∧∀s,evalD ns s (zs.getD q 0)=decide (q≤cntH ns0 (refs.take (if jj<q then i+1 else i)) s)
end Go.PN
namespace Go.Proofs.YtfcnbgmclfkfcaaGreat
open Go.AI Go.PN
attribute [local irreducible] aw Fa Fh DrK
theorem need_start {ns:List DN} {refs:List Int} {k:Nat}:NeedOk ns refs ns ((List.replicate (k+1) 0).set 0 1) k 0 k:=by
 refine⟨by simp,fun q hq=> ?_⟩
 rw [if_neg om,List.take_zero]
 by_cases h:q=0
 ·subst h
  rw [getZset (by simp)]
  exact⟨ref1,fun s=>by rw [ev1];simp⟩
 ·rw [getZset' h]
  have:(List.replicate (k+1) (0:Int)).getD q 0=0:=by
   rw [List.getD_eq_getElem?_getD,List.getElem?_replicate];split<;>rfl
  rw [this]
  exact⟨ref0,fun s=>by rw [ev0];show false=decide (q≤0);exact(decide_eq_false om).symm⟩
theorem need_round {ns0 ns:List DN} {refs zs:List Int} {k i:Nat} (h:NeedOk ns0 refs ns zs k i 0):NeedOk ns0 refs ns zs k (i+1) k:=by
 refine⟨h.len,fun q hq=> ?_⟩
 obtain⟨h1,h2⟩:=h.at' q hq
 refine⟨h1,fun s=> ?_⟩
 rw [h2 s,if_neg (show¬k<q by omega)]
 by_cases e:q=0
 ·subst e;simp
 ·rw [if_pos om]
theorem need_step {o:List Int} {ns0 ns ns2:List DN} {refs zs:List Int} {k i q n m:Nat} (ht0:TabOk o ns0) (hl0:Later o ns0 ns m) (ht:TabOk o ns) (hl:Later o ns ns2 n) (h:NeedOk ns0 refs ns zs k i (q+1)) (hq:q+1≤k) (hi:i<refs.length) (hr:RefOk ns0 (refs.getD i 0)) {r:Int} (hr2:RefOk ns2 r)
 (he:∀s,evalD ns2 s r=if evalD ns s (refs.getD i 0) then evalD ns s (zs.getD q 0) else evalD ns s (zs.getD (q+1) 0)):NeedOk ns0 refs ns2 (zs.set (q+1) r) k i q:=by
 have hzl:=h.len
 refine⟨by rw [List.length_set];exact hzl,fun p hp=> ?_⟩
 by_cases e:p=q+1
 ·subst e
  rw [getZset om]
  refine⟨hr2,fun s=> ?_⟩
  rw [he s,hl0.eval ht0 hr,(h.at' q om).2 s,(h.at' (q+1) om).2 s,if_pos (show q<q+1 by omega),if_neg (show¬q+1<q by omega),if_neg (show¬q+1<q+1 by omega),List.take_succ_eq_append_getElem hi,cntH_push,←getDZ hi]
  cases evalD ns0 s (refs.getD i 0)<;>simp
 ·rw [getZset' e]
  obtain⟨h1,h2⟩:=h.at' p hp
  refine⟨hl.ref h1,fun s=> ?_⟩
  rw [hl.eval ht h1,h2 s]
  by_cases e2:q<p
  ·rw [if_pos e2,if_pos (show q+1<p by omega)]
  ·rw [if_neg e2,if_neg (show¬q+1<p by omega)]
set_option maxRecDepth 100000 in
set_option maxHeartbeats 6400000 in
theorem vote_fh (gT gU gM:Nat) {o pl:List Int} (ho:OdOk o pl) {og:Option Nat} {ns:List DN} {mm:Mem3} (hs:TS o og ns mm) (refs:List Int) (hl:refs.length≤1000) (k:Nat) (hk:k≤1000) (hn:ns.length+refs.length*(k*2^(o.length+1))+2^(o.length+1)≤1000000000) (hr:∀r∈refs,RefOk ns r):
 Fh Tryz.prog 128 (THp gT gU gM og o pl ns mm) [.c (.optr gT 0),.c (is true refs),.c (.int .i64 k)] (OpQ gT gU gM o pl ns (refs.length*(k*2^(o.length+1))) fun s=>decide (k≤cntH ns refs s)):=by
 refine fh_of_body Tryz.func128 rfl rfl (by simp [Tryz.ntmps128]) fun C hC=> ?_
 simp only [initS,Nat.reduceAdd]
 refine xG ?_
 refine aw_make (n:=k+1) (c:=k+1) (size:=1) (bytes:=8) (z:=[.int .i64 0]) rfl rfl rfl eE eE rfl om eE eE om om om om om fun gN hn_gN=> ?_
 clear hn_gN
 simp only [Nat.mul_one]
 rw [make_is]
 simp only [THp,TH,List.cons_append,List.nil_append]
 refine aw_nd fun hnd=> ?_
 simp only [Heap.keys,List.map_cons] at hnd
 replace hnd:=ndP_of hnd
 dsimp only [ndP,neA] at hnd
 refine ySGWS hnd ?_
 rw [updF_is (zs:=List.replicate (k+1) 0) (i:=0) (v:=1) (by rw [List.length_replicate];omega)]
 refine yG hnd ?_
 have hcost:∀i j:Nat,i*(k*2^(o.length+1))+j*2^(o.length+1)+2^(o.length+1)=i*(k*2^(o.length+1))+(j+1)*2^(o.length+1):=fun i j=>by rw [Nat.succ_mul];omega
 refine aw_lp (fun y:Nat×Option Nat×List DN×Mem3×List Int=>[(0,.c (.optr gT 0)),(2,.c (.int .i64 k)),(7,.c (.osl gN 1 0 (k+1))),(16,.c (is true refs)),(17,.c (.int .i64 refs.length)),(18,.c (.int .i64 y.1))]) (fun y=>[(gN,.cells 3 (k+1) (isF y.2.2.2.2))]++THp gT gU gM y.2.1 o pl y.2.2.1 y.2.2.2.1)
  (fun y=>y.1≤refs.length∧TS o y.2.1 y.2.2.1 y.2.2.2.1∧Later o ns y.2.2.1 (y.1*(k*2^(o.length+1)))∧NeedOk ns refs y.2.2.1 y.2.2.2.2 k y.1 k) (fun y=>refs.length-y.1) (0,og,ns,mm,(List.replicate (k+1) 0).set 0 1) (zB hnd) zZ ⟨Nat.zero_le _,hs,Later.refl hs.tab _,need_start⟩ ?_
 clear hnd
 rintro ⟨i,og1,ns1,mm1,zs1⟩ ⟨hi,h1,h2,h3⟩
 dsimp only at hi h1 h2 h3⊢
 refine xG ?_
 refine xF (fun hb=>?_) fun hb=>?_
 ·have hb':i<refs.length:=dT hb
  have hri:RefOk ns (refs.getD i 0):=by rw [getDZ hb'];exact hr _ (List.getElem_mem hb')
  have hle:(i+1)*(k*2^(o.length+1))≤refs.length*(k*2^(o.length+1)):=Nat.mul_le_mul_right _ hb'
  have hle1:(i+1)*(k*2^(o.length+1))=i*(k*2^(o.length+1))+k*2^(o.length+1):=Nat.succ_mul ..
  refine xG ?_
  refine aw_lp (fun y:Nat×Option Nat×List DN×Mem3×List Int=>[(0,.c (.optr gT 0)),(2,.c (.int .i64 k)),(7,.c (.osl gN 1 0 (k+1))),(16,.c (is true refs)),(17,.c (.int .i64 refs.length)),(18,.c (.int .i64 i)),(9,.c (.int .i64 (refs.getD i 0))),(10,.c (.int .i64 y.1))]) (fun y=>[(gN,.cells 3 (k+1) (isF y.2.2.2.2))]++THp gT gU gM y.2.1 o pl y.2.2.1 y.2.2.2.1)
   (fun y=>y.1≤k∧TS o y.2.1 y.2.2.1 y.2.2.2.1∧Later o ns y.2.2.1 (i*(k*2^(o.length+1))+(k-y.1)*2^(o.length+1))∧NeedOk ns refs y.2.2.1 y.2.2.2.2 k i y.1) (fun y=>y.1) (k,og1,ns1,mm1,zs1) eB zZ ⟨Nat.le_refl _,h1,h2.trans (Later.refl h1.tab 0) om,h3⟩ ?_
  clear h1 h2 h3 og1 ns1 mm1 zs1
  rintro ⟨j,og1,ns1,mm1,zs⟩ ⟨hj,h1,h2,h3⟩
  dsimp only at hj h1 h2 h3⊢
  refine xG ?_
  refine xF (fun hj0=>?_) fun hj0=>?_
  ·obtain⟨q,rfl⟩:∃q,j=q+1:=⟨j-1,dT hj0⟩
   have hqi:((q+1:Nat):Int)-1=(q:Nat):=by omega
   have hzl:=h3.len
   have hl2:=h2.len
   have hkq:(k-(q+1)+1)*2^(o.length+1)≤k*2^(o.length+1):=Nat.mul_le_mul_right _ om
   have hc1:=hcost i (k-(q+1))
   have hB1:ns1.length+2^(o.length+1)≤1000000000:=by
    clear hs h1 h2 h3 ho hcost
    generalize 2^(o.length+1)=B at*
    generalize i*(k*B)=X at*
    generalize (k-(q+1)+1)*B=Y at*
    generalize (k-(q+1))*B=Z at*
    generalize (i+1)*(k*B)=U at*
    generalize refs.length*(k*B)=V at*
    generalize k*B=W at*
    omega
   have hB2:i*(k*2^(o.length+1))+(k-(q+1))*2^(o.length+1)+(2^(o.length+1)-1)≤i*(k*2^(o.length+1))+(k-q)*2^(o.length+1):=by
    rw [show k-q=k-(q+1)+1 from by omega,←hc1]
    generalize 2^(o.length+1)=B
    omega
   simp only [THp,TH,List.cons_append,List.nil_append]
   refine aw_nd fun hnd=> ?_
   simp only [Heap.keys,List.map_cons] at hnd
   replace hnd:=ndP_of hnd
   dsimp only [ndP,neA] at hnd
   have J1:=oj hnd hqi
   refine yG J1 ?_
   refine aw_cw ([(gN,.cells 3 (k+1) (isF zs))]) [(0,0),(1,0),(2,0),(3,0),(4,0),(5,0),(6,0),(7,0),(8,0),(9,0),(10,0),(11,0),(12,0),(13,1),(14,0),(15,2)] ty_mixed (by kernel_rfl) eI ?_
   refine yG J1 ?_
   refine cw_callh (hc:=THp gT gU gM og1 o pl ns1 mm1) (hr:=[(gN,.cells 3 (k+1) (isF zs))]) rfl (choose_fh gT gU gM ho h1 hB1 (h2.ref hri) (h3.at' q om).1 (h3.at' (q+1) om).1) rfl rfl rfl (List.perm_append_comm (l₁:=[(gN,_)])) (zL J1) (by
    rintro _ _ ⟨_,_,_,_,_,_,_,_,rfl,rfl⟩;exact has0_app2 eI) ?_ (hm:=.inr ⟨rfl,rfl⟩)
   rintro _ _ ⟨og2,ns2,mm2,r,e1,e2,e3,e4,rfl,rfl⟩ _
   refine yS J1 ?_
   refine cw_perm List.perm_append_comm ?_
   simp only [List.cons_append,List.nil_append]
   refine ySG J1 ?_
   refine cw_store (FP':=[]) rfl rfl rfl rfl rfl (zE J1) (zE J1) (zE J1) (zE J1) (fun _ e=>by cases e) rfl rfl (by show(q+1)+1≤_;omega) rfl has0_nil ?_
   simp only [AV.cells]
   rw [updF_is om]
   refine ySG J1 ?_
   have he2:=e2.len
   exact aw_stop ⟨(q,og2,ns2,mm2,zs.set (q+1) r),by dsimp only;omega,(zB J1),zZ,by dsimp only;omega,e1,h2.trans e2 hB2,need_step hs.tab h2 h1.tab e2 h3 hj hb' hri e3 e4⟩
  ·have hj':j=0:=dF hj0
   subst hj'
   refine xG ?_
   exact aw_stop ⟨(i+1,og1,ns1,mm1,zs),by dsimp only;omega,eB,zZ,by dsimp only;omega,h1,h2.trans (Later.refl h1.tab 0) (by dsimp only;rw [Nat.sub_zero];omega),need_round h3⟩
 ·have hb':i=refs.length:=dF hb
  subst hb'
  have hzl:=h3.len
  obtain⟨h4,h5⟩:=h3.at' k (Nat.le_refl _)
  simp only [Nat.lt_irrefl,if_false,List.take_length] at h5
  refine xG ?_
  refine aw_keep [(6,.c (.int .i64 (zs1.getD k 0)))] (THp gT gU gM og1 o pl ns1 mm1) eB (List.Sublist.cons _ (List.Sublist.refl _)) ?_
  refine xU ?_
  exact⟨og1,ns1,mm1,_,h1,h2,h4,h5,rfl,rfl⟩
end Go.Proofs.YtfcnbgmclfkfcaaGreat
namespace Go.PN
open Go.AI
theorem cntV_cons (v:Int→Bool) (r:Int) (rs:List Int):cntV v (r::rs)=(if v r then 1 else 0)+cntV v rs:=by
 unfold cntV
 rw [List.filter_cons]
 split
 ·rw [List.length_cons];omega
 ·omega
theorem cntV_le (v:Int→Bool):∀rs:List Int,cntV v rs≤rs.length:=fun rs=>List.length_filter_le ..
theorem fold_and (v:Int→Bool):∀(rs:List Int) (b:Bool),rs.foldl (fun b r=>b&&v r) b=(b&&decide (cntV v rs=rs.length))
 |[],b=>by simp [cntV]
 |r::rs,b=>by
  rw [List.foldl_cons,fold_and v rs,cntV_cons,List.length_cons,Bool.and_assoc]
  have:=cntV_le v rs
  cases h:v r
  ·have:¬((0:Nat)+cntV v rs=rs.length+1):=by omega
   simp only [Bool.false_eq_true,if_false,Bool.false_and,decide_eq_false this]
  ·have:decide (1+cntV v rs=rs.length+1)=decide (cntV v rs=rs.length):=decide_eq_decide.2 om
   simp only [if_true,Bool.true_and,this]
theorem fold_or (v:Int→Bool):∀(rs:List Int) (b:Bool),rs.foldl (fun b r=>b||v r) b=(b||decide (0<cntV v rs))
 |[],b=>by simp [cntV]
 |r::rs,b=>by
  rw [List.foldl_cons,fold_or v rs,cntV_cons,Bool.or_assoc]
  cases h:v r
  ·simp
  ·have:decide (0<1+cntV v rs)=true:=decide_eq_true om
   simp only [if_true,Bool.true_or,this]
theorem fold_xor (v:Int→Bool):∀(rs:List Int) (b:Bool),rs.foldl (fun b r=>b !=v r) b=(b !=decide (cntV v rs%2=1))
 |[],b=>by simp [cntV]
 |r::rs,b=>by
  rw [List.foldl_cons,fold_xor v rs,cntV_cons]
  cases h:v r
  ·simp
  ·have:decide ((1+cntV v rs)%2=1)= !decide (cntV v rs%2=1):=by
    rw [←decide_not];exact decide_eq_decide.2 om
   simp only [if_true,this]
   cases b<;>cases decide (cntV v rs%2=1)<;>rfl
end Go.PN
namespace Go.Proofs.YtfcnbgmclfkfcaaGreat
open Go.AI Go.PN
attribute [local irreducible] aw Fa Fh DrK
set_option maxRecDepth 100000 in
set_option maxHeartbeats 6400000 in
theorem bnode_fh (gT gU gM:Nat) {o pl:List Int} (ho:OdOk o pl) {og:Option Nat} {ns:List DN} {mm:Mem3} (hs:TS o og ns mm) (x:FN) (refs:List Int) (hk0:0≤x.kind) (hk5:x.kind≤5) (hari:arityB x.kind refs.length=true) (hkc:kcode ⟨x.kind,x.k,refs⟩=0) (hn:ns.length+256*2^(o.length+2)≤1000000000) (hr:∀r∈refs,RefOk ns r):
 Fh Tryz.prog 77 (THp gT gU gM og o pl ns mm) [.c (.optr gT 0),.agg [.int .i64 x.kind,.int .i64 x.k,is true x.args],.c (is true refs)] (OpQ gT gU gM o pl ns (256*2^(o.length+2)) fun s=>nodeV (evalD ns s) ⟨x.kind,x.k,refs⟩):=by
 have hB:2^(o.length+2)=2^(o.length+1)*2:=Nat.pow_succ ..
 have hBp:0<2^(o.length+1):=Nat.pow_pos om
 unfold arityB at hari
 unfold kcode at hkc
 dsimp only at hkc
 have hl16:refs.length≤16:=by
  split at hari
  ·have:=of_decide_eq_true hari;omega
  ·split at hari
   ·have:=of_decide_eq_true hari;omega
   ·have:=of_decide_eq_true (Bool.and_eq_true_iff.1 hari).2;omega
 have hcost:refs.length*2^(o.length+2)≤256*2^(o.length+2):=Nat.mul_le_mul_right _ om
 refine fh_of_body Tryz.func77 rfl rfl (by simp [Tryz.ntmps77]) fun C hC=> ?_
 simp only [initS,Nat.reduceAdd]
 refine xG ?_
 refine xB fun g4 hn_g4=>?_
 refine yG hn_g4 ?_
 refine yF hn_g4 (fun h0=>?_) fun h0=>?_
 ·have e:x.kind=0:=eq_of_beq h0
  rw [if_pos e] at hkc
  have hk:x.k=0∨x.k=1:=by
   split at hkc
   ·cases hkc
   ·omega
  refine yG hn_g4 ?_
  refine aw_keep [(6,.c (.int .i64 x.k))] (THp gT gU gM og o pl ns mm) (zB hn_g4) (List.Sublist.cons _ (List.Sublist.refl _)) ?_
  refine yU hn_g4 ?_
  refine⟨og,ns,mm,x.k,hs,Later.refl hs.tab _,?_,fun s=> ?_,rfl,rfl⟩
  ·rcases hk with h|h<;>rw [h]
   ·exact ref0
   ·exact ref1
  ·unfold nodeV
   dsimp only
   rw [if_pos h0]
   rcases hk with h|h<;>rw [h]
   ·exact ev0
   ·exact ev1
 refine yG hn_g4 ?_
 refine yF hn_g4 (fun h1=>?_) fun h1=>?_
 ·have e:x.kind=1:=eq_of_beq h1
  rw [if_neg om,if_pos e] at hari
  obtain⟨q,hq⟩:∃q,refs=[q]:=List.length_eq_one_iff.1 (dT hari)
  subst hq
  refine yG hn_g4 ?_
  refine aw_callh (hc:=THp gT gU gM og o pl ns mm) (hr:=[(g4,.cells 106 3 (ofL [.int .i64 x.kind,.int .i64 x.k,is true x.args]))]) (tnot_fh gT gU gM ho hs om (hr q (List.mem_singleton.2 rfl))) rfl rfl rfl (List.perm_append_comm (l₁:=[(g4,_)])) (zL hn_g4) ?_
  rintro _ _ ⟨og',ns',mm',r,e1,e2,e3,e4,rfl,rfl⟩ _
  refine ySG hn_g4 ?_
  refine aw_keep [(6,.c (.int .i64 r))] (THp gT gU gM og' o pl ns' mm') (zB hn_g4) (by simp only [THp,TH,List.cons_append,List.nil_append,List.append_assoc];exact List.sublist_append_left (THp gT gU gM og' o pl ns' mm') _) ?_
  refine yU hn_g4 ?_
  refine⟨og',ns',mm',r,e1,⟨e2.tab,e2.pre,by have:=e2.len;omega⟩,e3,fun s=> ?_,rfl,rfl⟩
  rw [e4]
  unfold nodeV
  dsimp only
  rw [if_neg (by rw [h0];simp),if_pos h1,cntV_cons]
  cases evalD ns s q<;>rfl
 refine yG hn_g4 ?_
 refine yF hn_g4 (fun h2=>?_) fun h2=>?_
 ·have e:x.kind=2:=eq_of_beq h2
  refine yG hn_g4 ?_
  refine aw_makeFuncB (g:=gT) rfl rfl rfl (zE hn_g4) ?_
  refine ySG hn_g4 ?_
  refine aw_callh (hc:=THp gT gU gM og o pl ns mm) (hr:=[(g4,.cells 106 3 (ofL [.int .i64 x.kind,.int .i64 x.k,is true x.args]))]) (join_fh and_opok gT gU gM ho hs refs om om ref1 hr) rfl rfl rfl (List.perm_append_comm (l₁:=[(g4,_)])) (zL hn_g4) ?_
  rintro _ _ ⟨og',ns',mm',r,e1,e2,e3,e4,rfl,rfl⟩ _
  refine ySG hn_g4 ?_
  refine aw_keep [(6,.c (.int .i64 r))] (THp gT gU gM og' o pl ns' mm') (zB hn_g4) (by simp only [THp,TH,List.cons_append,List.nil_append,List.append_assoc];exact List.sublist_append_left (THp gT gU gM og' o pl ns' mm') _) ?_
  refine yU hn_g4 ?_
  refine⟨og',ns',mm',r,e1,⟨e2.tab,e2.pre,by have:=e2.len;omega⟩,e3,fun s=> ?_,rfl,rfl⟩
  rw [e4]
  unfold nodeV
  dsimp only
  rw [if_neg (by rw [h0];simp),if_neg (by rw [h1];simp),if_pos h2]
  rw [fold_and,ev1,Bool.true_and,Bool.eq_iff_iff,decide_eq_true_iff,beq_iff_eq]
  exact Int.ofNat_inj.symm
 refine yG hn_g4 ?_
 refine yF hn_g4 (fun h3=>?_) fun h3=>?_
 ·have e:x.kind=3:=eq_of_beq h3
  refine yG hn_g4 ?_
  refine aw_makeFuncB (g:=gT) rfl rfl rfl (zE hn_g4) ?_
  refine ySG hn_g4 ?_
  refine aw_callh (hc:=THp gT gU gM og o pl ns mm) (hr:=[(g4,.cells 106 3 (ofL [.int .i64 x.kind,.int .i64 x.k,is true x.args]))]) (join_fh or_opok gT gU gM ho hs refs om om ref0 hr) rfl rfl rfl (List.perm_append_comm (l₁:=[(g4,_)])) (zL hn_g4) ?_
  rintro _ _ ⟨og',ns',mm',r,e1,e2,e3,e4,rfl,rfl⟩ _
  refine ySG hn_g4 ?_
  refine aw_keep [(6,.c (.int .i64 r))] (THp gT gU gM og' o pl ns' mm') (zB hn_g4) (by simp only [THp,TH,List.cons_append,List.nil_append,List.append_assoc];exact List.sublist_append_left (THp gT gU gM og' o pl ns' mm') _) ?_
  refine yU hn_g4 ?_
  refine⟨og',ns',mm',r,e1,⟨e2.tab,e2.pre,by have:=e2.len;omega⟩,e3,fun s=> ?_,rfl,rfl⟩
  rw [e4]
  unfold nodeV
  dsimp only
  rw [if_neg (by rw [h0];simp),if_neg (by rw [h1];simp),if_neg (by rw [h2];simp),if_pos h3]
  rw [fold_or,ev0,Bool.false_or]
  exact decide_eq_decide.2 om
 refine yG hn_g4 ?_
 refine yF hn_g4 (fun h5=>?_) fun h5=>?_
 ·have e:x.kind=5:=eq_of_beq h5
  refine yG hn_g4 ?_
  refine aw_makeFuncB (g:=gT) rfl rfl rfl (zE hn_g4) ?_
  refine ySG hn_g4 ?_
  refine aw_callh (hc:=THp gT gU gM og o pl ns mm) (hr:=[(g4,.cells 106 3 (ofL [.int .i64 x.kind,.int .i64 x.k,is true x.args]))]) (join_fh xor_opok gT gU gM ho hs refs om om ref0 hr) rfl rfl rfl (List.perm_append_comm (l₁:=[(g4,_)])) (zL hn_g4) ?_
  rintro _ _ ⟨og',ns',mm',r,e1,e2,e3,e4,rfl,rfl⟩ _
  refine ySG hn_g4 ?_
  refine aw_keep [(6,.c (.int .i64 r))] (THp gT gU gM og' o pl ns' mm') (zB hn_g4) (by simp only [THp,TH,List.cons_append,List.nil_append,List.append_assoc];exact List.sublist_append_left (THp gT gU gM og' o pl ns' mm') _) ?_
  refine yU hn_g4 ?_
  refine⟨og',ns',mm',r,e1,⟨e2.tab,e2.pre,by have:=e2.len;omega⟩,e3,fun s=> ?_,rfl,rfl⟩
  rw [e4]
  unfold nodeV
  dsimp only
  rw [if_neg (by rw [h0];simp),if_neg (by rw [h1];simp),if_neg (by rw [h2];simp),if_neg (by rw [h3];simp),if_neg (by rw [e];decide)]
  rw [fold_xor,ev0,Bool.eq_iff_iff]
  have hrem:remZ ((cntV (evalD ns s) refs:Nat):Int) 2=((cntV (evalD ns s) refs%2:Nat):Int):=rem_nat _ 2
  rw [hrem,beq_iff_eq,Bool.false_bne,decide_eq_true_iff]
  omega
 ·have e:x.kind=4:=by
   have a0:x.kind≠0:=by simpa using h0
   have a1:x.kind≠1:=by simpa using h1
   have a2:x.kind≠2:=by simpa using h2
   have a3:x.kind≠3:=by simpa using h3
   have a5:x.kind≠5:=by simpa using h5
   omega
  rw [if_neg om,if_pos e] at hkc
  obtain⟨kn,hkn⟩:=Int.eq_ofNat_of_zero_le (a:=x.k) (by split at hkc<;>omega)
  have hk1:1≤kn∧kn≤refs.length:=by split at hkc<;>omega
  have hc0:refs.length*(kn*2^(o.length+1))≤16*(16*2^(o.length+1)):=Nat.mul_le_mul hl16 (Nat.mul_le_mul_right _ om)
  have hc1:ns.length+refs.length*(kn*2^(o.length+1))+2^(o.length+1)≤1000000000:=by
   rw [hB] at hn
   generalize refs.length*(kn*2^(o.length+1))=X at*
   generalize 2^(o.length+1)=B at*
   omega
  have hc2:refs.length*(kn*2^(o.length+1))≤256*2^(o.length+2):=by
   rw [hB]
   generalize refs.length*(kn*2^(o.length+1))=X at*
   generalize 2^(o.length+1)=B at*
   omega
  have J1:=oj hn_g4 hkn
  refine yG J1 ?_
  refine aw_callh (hc:=THp gT gU gM og o pl ns mm) (hr:=[(g4,.cells 106 3 (ofL [.int .i64 x.kind,.int .i64 x.k,is true x.args]))]) (vote_fh gT gU gM ho hs refs om kn om hc1 hr) rfl rfl rfl (List.perm_append_comm (l₁:=[(g4,_)])) (zL J1) ?_
  rintro _ _ ⟨og',ns',mm',r,e1,e2,e3,e4,rfl,rfl⟩ _
  refine ySG J1 ?_
  refine aw_keep [(6,.c (.int .i64 r))] (THp gT gU gM og' o pl ns' mm') (zB J1) (by simp only [THp,TH,List.cons_append,List.nil_append,List.append_assoc];exact List.sublist_append_left (THp gT gU gM og' o pl ns' mm') _) ?_
  refine yU J1 ?_
  refine⟨og',ns',mm',r,e1,⟨e2.tab,e2.pre,by have:=e2.len;omega⟩,e3,fun s=> ?_,rfl,rfl⟩
  rw [e4]
  unfold nodeV
  dsimp only
  rw [if_neg (by rw [h0];simp),if_neg (by rw [h1];simp),if_neg (by rw [h2];simp),if_neg (by rw [h3];simp),if_pos (by rw [e];decide)]
  refine decide_eq_decide.2 ?_
  show kn≤cntV (evalD ns s) refs↔_
  omega
end Go.Proofs.YtfcnbgmclfkfcaaGreat
