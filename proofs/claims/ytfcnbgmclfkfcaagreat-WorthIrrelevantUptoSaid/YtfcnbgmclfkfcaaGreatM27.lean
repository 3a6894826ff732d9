/- Parts of one proof, laid by a program. -/
import Derived.Test.YtfcnbgmclfkfcaaGreatM00
import Derived.Test.YtfcnbgmclfkfcaaGreatM26
set_option linter.unusedSimpArgs false
set_option linter.unusedVariables false
namespace Go.PN
theorem and_256 {a b c d:Nat} (ha:a<256) (hc:c<256):(a+256*b)&&&(c+256*d)=(a&&&c)+256*(b&&&d):=by
 have e:∀x y:Nat,x<256→x+256*y=2^8*y+x:=fun x y _=>by omega
 have hac:a&&&c<2^8:=Nat.and_lt_two_pow a om
 rw [e a b ha,e c d hc,e _ _ hac]
 refine Nat.eq_of_testBit_eq fun j=> ?_
 rw [Nat.testBit_and,Nat.testBit_two_pow_mul_add _ om,Nat.testBit_two_pow_mul_add _ om,Nat.testBit_two_pow_mul_add _ hac]
 split
 ·rw [Nat.testBit_and]
 ·rw [Nat.testBit_and]
def one1 (x m:Nat):Nat:=(x/2&&&m)+(x&&&m)
def one2 (x m:Nat):Nat:=(x/4&&&m)+(x&&&m)
def one3 (x m:Nat):Nat:=(x+x/16)&&&m
theorem d1:∀b<256,∀q<2,(b/2+128*q)&&&85=b/2&&&85:=by decide+kernel
theorem d2:∀b<256,∀q<4,(b/4+64*q)&&&51=b/4&&&51:=by decide+kernel
theorem d3:∀b<256,∀q<5,(one2 (one1 b 85) 51+one2 (one1 b 85) 51/16+16*q)&&&15=one3 (one2 (one1 b 85) 51) 15∧one2 (one1 b 85) 51+one2 (one1 b 85) 51/16+16*q<256:=by decide+kernel
theorem d4:∀b<256,one1 b 85<256∧one2 (one1 b 85) 51<256∧one2 (one1 b 85) 51%16<5∧one3 (one2 (one1 b 85) 51) 15=popF 8 b:=by decide+kernel
theorem d5:∀b<256,popF 8 b≤8:=by decide+kernel
theorem one1_256 {b r m:Nat} (hb:b<256):one1 (b+256*r) (85+256*m)=one1 b 85+256*one1 r m:=by
 unfold one1
 rw [show(b+256*r)/2=(b/2+128*(r%2))+256*(r/2) from by omega,and_256 om om,and_256 hb om,d1 b hb _ om]
 omega
theorem one2_256 {b r m:Nat} (hb:b<256):one2 (b+256*r) (51+256*m)=one2 b 51+256*one2 r m:=by
 unfold one2
 rw [show(b+256*r)/4=(b/4+64*(r%4))+256*(r/4) from by omega,and_256 om om,and_256 hb om,d2 b hb _ om]
 omega
theorem one3_256 {b r m:Nat} (hb:b<256) (hr:r%16<5):one3 (one2 (one1 b 85) 51+256*r) (15+256*m)=one3 (one2 (one1 b 85) 51) 15+256*one3 r m:=by
 obtain⟨e1,e2⟩:=d3 b hb (r%16) hr
 rw [←e1]
 unfold one3
 generalize one2 (one1 b 85) 51=y at*
 rw [show y+256*r+(y+256*r)/16=(y+y/16+16*(r%16))+256*(r+r/16) from by omega,and_256 e2 om]
theorem pop_byte (b r:Nat) (hb:b<256):popN (b+256*r)=popF 8 b+popN r:=by
 have step:∀y:Nat,popN y=y%2+(y/2%2+(y/2/2%2+(y/2/2/2%2+(y/2/2/2/2%2+(y/2/2/2/2/2%2+(y/2/2/2/2/2/2%2+(y/2/2/2/2/2/2/2%2+popN (y/2/2/2/2/2/2/2/2)))))))):=fun y=>by
  rw [pop_half y,pop_half (y/2),pop_half (y/2/2),pop_half (y/2/2/2),pop_half (y/2/2/2/2),pop_half (y/2/2/2/2/2),pop_half (y/2/2/2/2/2/2),pop_half (y/2/2/2/2/2/2/2)]
 rw [step,show(b+256*r)/2/2/2/2/2/2/2/2=r from by omega]
 simp only [popF]
 omega
theorem pop_small (b:Nat) (hb:b<256):popN b=popF 8 b:=pop_eq (k:=8) om
theorem ones_three {x:Nat} (hx:x<16777216):∃p q r:Nat,p≤8∧q≤8∧r≤8∧one1 x 6148914691236517205<16777216∧one2 (one1 x 6148914691236517205) 3689348814741910323<16777216∧one3 (one2 (one1 x 6148914691236517205) 3689348814741910323) 1085102592571150095=p+256*(q+256*r)∧popN x=p+q+r:=by
 obtain⟨b,c,d,hb,hc,hd,rfl⟩:∃b c d,b<256∧c<256∧d<256∧x=b+256*(c+256*d):=⟨x%256,x/256%256,x/65536,by omega,by omega,by omega,by omega⟩
 have z1:∀m,one1 d (85+256*m)=one1 d 85:=fun m=>by
  have:=one1_256 (b:=d) (r:=0) (m:=m) hd
  rw [Nat.mul_zero,Nat.add_zero] at this
  rw [this];unfold one1;simp
 have e1:one1 (b+256*(c+256*d)) 6148914691236517205=one1 b 85+256*(one1 c 85+256*one1 d 85):=by
  rw [show 6148914691236517205=85+256*(85+256*(85+256*366503875925)) from rfl,one1_256 hb,one1_256 hc,z1]
 obtain⟨b1,b2,b3,b4⟩:=d4 b hb
 obtain⟨c1,c2,c3,c4⟩:=d4 c hc
 obtain⟨d1',d2',d3',d4'⟩:=d4 d hd
 have z2:∀m,one2 (one1 d 85) (51+256*m)=one2 (one1 d 85) 51:=fun m=>by
  have:=one2_256 (b:=one1 d 85) (r:=0) (m:=m) d1'
  rw [Nat.mul_zero,Nat.add_zero] at this
  rw [this];unfold one2;simp
 have e2:one2 (one1 b 85+256*(one1 c 85+256*one1 d 85)) 3689348814741910323=one2 (one1 b 85) 51+256*(one2 (one1 c 85) 51+256*one2 (one1 d 85) 51):=by
  rw [show 3689348814741910323=51+256*(51+256*(51+256*219902325555)) from rfl,one2_256 b1,one2_256 c1,z2]
 have z3:∀m,one3 (one2 (one1 d 85) 51) (15+256*m)=one3 (one2 (one1 d 85) 51) 15:=fun m=>by
  have:=one3_256 (b:=d) (r:=0) (m:=m) hd om
  rw [Nat.mul_zero,Nat.add_zero] at this
  rw [this]
  have:one3 0 m=0:=by unfold one3;simp
  rw [this];omega
 have e3:one3 (one2 (one1 b 85) 51+256*(one2 (one1 c 85) 51+256*one2 (one1 d 85) 51)) 1085102592571150095=popF 8 b+256*(popF 8 c+256*popF 8 d):=by
  rw [show 1085102592571150095=15+256*(15+256*(15+256*64677154575)) from rfl,one3_256 hb om,one3_256 hc d3',z3,b4,c4,d4']
 refine⟨popF 8 b,popF 8 c,popF 8 d,d5 b hb,d5 c hc,d5 d hd,by rw [e1];omega,by rw [e1,e2];omega,by rw [e1,e2,e3],?_⟩
 rw [pop_byte _ _ hb,pop_byte _ _ hc,pop_small d hd]
 omega
end Go.PN
namespace Go.AI
theorem and_u64' (a b:Nat) (ha:a<18446744073709551616) (hb:b<18446744073709551616):andZ .u64 (a:Int) (b:Int)=((a&&&b:Nat):Int):=by
 have hx:a&&&b<2^64:=Nat.and_lt_two_pow a om
 rw [andZ_eq]
 show IntKind.u64.wrap (((BitVec.ofInt 64 (a:Int))&&&(BitVec.ofInt 64 (b:Int))).toNat:Int)=_
 rw [BitVec.toNat_and,ofInt64,ofInt64,Nat.mod_eq_of_lt ha,Nat.mod_eq_of_lt hb,IntKind.wrap_u64]
 omega
theorem aw_condF0 {E:Env} {K:List It} {σ:Sl} {h:Heap} {x y:Code} (k:aw E (.code y::K) σ h):aw E (.code (.cond (.const (.bool false)) x y)::K) σ h:=fun a w s=>wp_cond_split (t:=false) rfl (fun e=>by cases e) (fun _=>k a w s)
end Go.AI
namespace Go.Proofs.YtfcnbgmclfkfcaaGreat
open Go.AI Go.PN
attribute [local irreducible] aw Fa Fh DrK
set_option maxRecDepth 100000 in
set_option maxHeartbeats 3200000 in
theorem ones64_fa (x:Nat) (hx:x<16777216):Fa Tryz.prog 208 [.c (.int .u64 x)] (.c (.int .i64 (popN x))):=by
 obtain⟨p,q,r,hp,hq,hr,h1,h2,h3,hpop⟩:=ones_three hx
 obtain⟨m1,hm1,hm1'⟩:∃m:Nat,m=6148914691236517205∧m<18446744073709551616:=⟨_,rfl,by decide⟩
 obtain⟨m2,hm2,hm2'⟩:∃m:Nat,m=3689348814741910323∧m<18446744073709551616:=⟨_,rfl,by decide⟩
 obtain⟨m3,hm3,hm3'⟩:∃m:Nat,m=1085102592571150095∧m<18446744073709551616:=⟨_,rfl,by decide⟩
 have c1:(6148914691236517205:Int)=(m1:Int):=by omega
 have c2:(3689348814741910323:Int)=(m2:Int):=by omega
 have c3:(1085102592571150095:Int)=(m3:Int):=by omega
 rw [←hm1,←hm2,←hm3] at h3
 rw [←hm1,←hm2] at h2
 rw [←hm1] at h1
 clear hm1 hm2 hm3
 obtain⟨a1,ha1⟩:∃a,x/2&&&m1=a:=⟨_,rfl⟩
 obtain⟨a2,ha2⟩:∃a,x&&&m1=a:=⟨_,rfl⟩
 obtain⟨y,hy⟩:∃a,one1 x m1=a:=⟨_,rfl⟩
 obtain⟨b1,hb1⟩:∃a,y/4&&&m2=a:=⟨_,rfl⟩
 obtain⟨b2,hb2⟩:∃a,y&&&m2=a:=⟨_,rfl⟩
 obtain⟨z,hz⟩:∃a,one2 y m2=a:=⟨_,rfl⟩
 rw [hy] at h1 h2 h3
 rw [hz] at h2 h3
 have s1:a1+a2=y:=by rw [←hy,←ha1,←ha2];rfl
 have s2:b1+b2=z:=by rw [←hz,←hb1,←hb2];rfl
 obtain⟨w,hw⟩:∃w,p+256*(q+256*r)=w:=⟨_,rfl⟩
 have s3:(z+z/16)&&&m3=w:=by rw [←hw,←h3];rfl
 clear h3 hy hz
 have f1:shrZ .u64 (x:Int) 1=((x/2:Nat):Int):=shr_u64 x 1 om
 have f2:andZ .u64 ((x/2:Nat):Int) 6148914691236517205=(a1:Int):=by rw [c1,and_u64' _ _ om hm1',ha1]
 have f3:andZ .u64 (x:Int) 6148914691236517205=(a2:Int):=by rw [c1,and_u64' _ _ om hm1',ha2]
 have f4:shrZ .u64 (y:Int) 2=((y/4:Nat):Int):=shr_u64 y 2 om
 have f5:andZ .u64 ((y/4:Nat):Int) 3689348814741910323=(b1:Int):=by rw [c2,and_u64' _ _ om hm2',hb1]
 have f6:andZ .u64 (y:Int) 3689348814741910323=(b2:Int):=by rw [c2,and_u64' _ _ om hm2',hb2]
 have f7:shrZ .u64 (z:Int) 4=((z/16:Nat):Int):=shr_u64 z 4 om
 have f8:andZ .u64 (((z/16:Nat):Int)+(z:Int)) 1085102592571150095=(w:Int):=by
  rw [c3,show((z/16:Nat):Int)+(z:Int)=((z+z/16:Nat):Int) from by omega,and_u64' _ _ om hm3',s3]
 have f9:shrZ .u64 (w:Int) 8=((w/256:Nat):Int):=shr_u64 w 8 om
 obtain⟨u,hu⟩:∃u,w+w/256=u:=⟨_,rfl⟩
 have f10:shrZ .u64 (u:Int) 16=((u/65536:Nat):Int):=shr_u64 u 16 om
 obtain⟨v,hv⟩:∃v,u+u/65536=v:=⟨_,rfl⟩
 have f11:shrZ .u64 (v:Int) 32=((v/4294967296:Nat):Int):=shr_u64 v 32 om
 have g1:(a1:Int)+(a2:Int)=(y:Int):=by omega
 have g2:(b1:Int)+(b2:Int)=(z:Int):=by omega
 have g3:(w:Int)+((w/256:Nat):Int)=(u:Int):=by omega
 have g4:(u:Int)+((u/65536:Nat):Int)=(v:Int):=by omega
 have hu':u=p+q+256*(q+r)+65536*r:=by
  have:w/256=q+256*r:=by omega
  omega
 have hv':v=p+q+r+256*(q+r)+65536*r:=by
  have:u/65536=r:=by omega
  omega
 have g5:(v:Int)+((v/4294967296:Nat):Int)=(v:Int):=by omega
 have f12:andZ .i64 (v:Int) 127=((popN x:Nat):Int):=by
  rw [show(127:Int)=((127:Nat):Int) from rfl,andZ_nat _ _ om om,show(127:Nat)=2^7-1 from rfl,Nat.and_two_pow_sub_one_eq_mod,hpop]
  omega
 have f13:wrapZ .i64 (v:Int)=(v:Int):=by rw [wrapZ_eq,wrap_i64 om om]
 refine fa_of_body Tryz.func208 rfl rfl (by simp [Tryz.ntmps208]) fun C hC=> ?_
 simp only [initS,Nat.reduceAdd]
 have J1:=oj f13 (oj f1 (oj f2 (oj f3 (oj f4 (oj f5 (oj f6 (oj f7 (oj f8 (oj f9 (oj f10 (oj f11 (oj f12 (oj g1 (oj g2 (oj g3 (oj g4 g5))))))))))))))))
 refine yGT hC J1 ?_
 exact .one (.c (ler_int rfl))
set_option maxRecDepth 100000 in
theorem ones_fa (x:Nat) (hx:x<16777216):Fa Tryz.prog 163 [.c (.int .u64 x)] (.c (.int .i64 (popN x))):=by
 refine fa_of_body Tryz.func163 rfl rfl (by simp [Tryz.ntmps163]) fun C hC=> ?_
 simp only [initS,Nat.reduceAdd]
 refine xG ?_
 refine aw_condF0 ?_
 refine xG ?_
 refine xC (ones64_fa x hx) ?_
 refine xGT hC ?_
 exact .one (.c (ler_int rfl))
end Go.Proofs.YtfcnbgmclfkfcaaGreat
namespace Go.AI
open Go.Sort
theorem fr_grow {w w':World} (h:Fr (fun _=>False) w w'):∃q os',w'=grow (w.drewN q) os':=by
 refine⟨w'.drawn-w.drawn,w'.heap.extract w.heap.size w'.heap.size,?_⟩
 have h1:=h.os
 have h2:=h.tape
 have h3:=h.output
 have h4:=h.drawn
 have h5:=h.size
 have h6:=h.block
 have hh:w'.heap=w.heap++w'.heap.extract w.heap.size w'.heap.size:=by
  refine Array.ext_getElem? fun b=> ?_
  by_cases hb:b<w.heap.size
  ·rw [Array.getElem?_append_left hb];exact h6 b hb (fun x=>x)
  ·rw [Array.getElem?_append_right om,Array.getElem?_extract]
   by_cases hb2:b<w'.heap.size
   ·rw [if_pos om];congr 1;omega
   ·rw [if_neg om,Array.getElem?_eq_none om]
 have hd:w.drawn+(w'.drawn-w.drawn)=w'.drawn:=by omega
 cases w with
 |mk heap tape drawn os output=>
  cases w' with
  |mk heap' tape' drawn' os' output'=>
   simp only at h1 h2 h3 hh hd
   subst h1 h2 h3
   unfold grow World.drewN
   simp only [World.mk.injEq,true_and]
   exact⟨hh,hd.symm,trivial⟩
end Go.AI
namespace Go.PN
open Go.AI Go.Sort
def cmpC (a b:Int):Int:=if a<b then-1 else if b<a then 1 else 0
def cmpI (x y:Nat):Int:=if cmpC (popN x) (popN y)≠0 then cmpC (popN x) (popN y) else cmpC x y
abbrev SetF:=Fin 16777216
def toF (s:Nat):SetF:=Fin.ofNat 16777216 s
theorem toF_val {s:Nat} (h:s<16777216):(toF s).val=s:=Nat.mod_eq_of_lt h
instance:Inhabited SetF:=⟨toF 0⟩
def encF (x:SetF):Value:=.int .i64 (x.val:Int)
def cfF (x y:SetF):Int:=cmpI x.val y.val
theorem lt_key (x y:SetF):Go.Proofs.ltOf cfF x y=keyLt x.val y.val:=by
 unfold Go.Proofs.ltOf cfF cmpI cmpC keyLt
 rw [Bool.eq_iff_iff]
 simp only [decide_eq_true_eq,Bool.or_eq_true,Bool.and_eq_true]
 split<;>split<;>(try split)<;>(try split)<;>omega
theorem swoF:SWO (Go.Proofs.ltOf cfF) where
 irrefl x:=by rw [lt_key];exact key_irr _
 trans x y z h1 h2:=by rw [lt_key] at*;exact key_trans h1 h2
 ntrans x y z h1 h2:=by
  rw [lt_key] at*
  simp only [keyLt,Bool.or_eq_false_iff,Bool.and_eq_false_iff,decide_eq_false_iff_not] at*
  omega
theorem srt_of {d:Array SetF} (hs:SortedIn (Go.Proofs.ltOf cfF) 0 d.size d) (hn:(d.toList.map (·.val)).Nodup):Srt (d.toList.map (·.val)):=by
 unfold Srt
 rw [List.pairwise_iff_getElem]
 intro i j hi hj hij
 rw [List.length_map,Array.length_toList] at hi hj
 have h1:=hs i j (Nat.zero_le _) hij hj
 rw [lt_key,getElem!_pos d j hj,getElem!_pos d i hi] at h1
 rw [List.getElem_map,List.getElem_map,Array.getElem_toList,Array.getElem_toList]
 refine key_total h1 fun e=> ?_
 have:=List.pairwise_iff_getElem.1 hn i j (by simpa using hi) (by simpa using hj) hij
 rw [List.getElem_map,List.getElem_map,Array.getElem_toList,Array.getElem_toList] at this
 exact this e.symm
end Go.PN
namespace Go.Proofs.YtfcnbgmclfkfcaaGreat
open Go.AI Go.PN Go.Sort
attribute [local irreducible] aw Fa Fh DrK
set_option maxHeartbeats 800000 in
theorem compare_fa (a b:Int):Fa Tryz.prog 162 [.c (.int .i64 a),.c (.int .i64 b)] (.c (.int .i64 (cmpC a b))):=by
 have hnan:∀x:Int,Fa Tryz.prog 206 [.c (.int .i64 x)] (.c (.bool false)):=fun x=>by
  refine fa_of_body Tryz.func206 rfl rfl (by simp [Tryz.ntmps206]) fun C hC=> ?_
  simp only [initS,Nat.reduceAdd]
  refine xGT hC ?_
  exact .one (.c (ler_bool (by simp)))
 unfold cmpC
 refine fa_of_body Tryz.func162 rfl rfl (by simp [Tryz.ntmps162]) fun C hC=> ?_
 simp only [initS,Nat.reduceAdd]
 refine xG ?_
 refine xC (hnan a) ?_
 refine xG ?_
 refine xC (hnan b) ?_
 refine xG ?_
 refine xN ?_
 refine xG ?_
 refine xN ?_
 refine xG ?_
 refine xF (fun h1=>?_) fun h1=>?_
 ·have h1':=of_decide_eq_true h1
  rw [if_pos h1']
  refine xGT hC ?_
  exact .one (.c (ler_int rfl))
 have h1':=of_decide_eq_false h1
 rw [if_neg h1']
 refine xG ?_
 refine xF (fun h2=>?_) fun h2=>?_
 ·have h2':=of_decide_eq_true h2
  rw [if_pos om]
  refine xGT hC ?_
  exact .one (.c (ler_int rfl))
 ·have h2':=of_decide_eq_false h2
  rw [if_neg om]
  refine xGT hC ?_
  exact .one (.c (ler_int rfl))
set_option maxHeartbeats 800000 in
theorem or_fa (a b:Int):Fa Tryz.prog 161 [.c (is false [a,b])] (.c (.int .i64 (if a≠0 then a else b))):=by
 refine fa_of_body Tryz.func161 rfl rfl (by simp [Tryz.ntmps161]) fun C hC=> ?_
 simp only [initS,Nat.reduceAdd]
 refine xG ?_
 refine aw_lp (fun i:Nat=>[(3,.c (.int .i64 0)),(6,.c (is false [a,b])),(7,.c (.int .i64 2)),(8,.c (.int .i64 i))]) (fun _=>[]) (fun i=>i≤2∧(0<i→a=0)∧(1<i→b=0)) (fun i=>2-i) 0 eB zZ ⟨by omega,by omega,by omega⟩ ?_
 rintro i ⟨hi,ha,hb⟩
 refine xG ?_
 refine xF (fun h1=>?_) fun h1=>?_
 ·have h1':=of_decide_eq_true h1
  refine xG ?_
  refine xF (fun h2=>?_) fun h2=>?_
  ·have h2':¬[a,b].getD i 0=0:=by simpa using h2
   refine xGT hC ?_
   refine .one (.c (ler_int ?_))
   obtain rfl|rfl:i=0∨i=1:=by omega
   ·exact(if_pos h2').symm
   ·rw [if_neg (by simp [ha])];rfl
  ·have h2':[a,b].getD i 0=0:=by simpa using h2
   refine xG ?_
   refine aw_stop ⟨i+1,by omega,eB,zZ,by omega,fun _=> ?_,fun _=> ?_⟩
   ·obtain rfl|rfl:i=0∨i=1:=by omega
    ·exact h2'
    ·exact ha om
   ·obtain rfl:i=1:=by omega
    exact h2'
 ·have h1':=of_decide_eq_false h1
  obtain rfl:i=2:=by omega
  refine xGT hC ?_
  refine .one (.c (ler_int ?_))
  rw [if_neg (by simp [ha]),hb om]
set_option maxHeartbeats 1600000 in
theorem listCmp_fa (x y:Nat) (hx:x<16777216) (hy:y<16777216):Fa Tryz.prog 160 [.c (.int .i64 x),.c (.int .i64 y)] (.c (.int .i64 (cmpI x y))):=by
 have w1:wrapZ .u64 (x:Int)=(x:Int):=by rw [wrapZ_eq,IntKind.wrap_u64];omega
 have w2:wrapZ .u64 (y:Int)=(y:Int):=by rw [wrapZ_eq,IntKind.wrap_u64];omega
 unfold cmpI
 refine fa_of_body Tryz.func160 rfl rfl (by simp [Tryz.ntmps160]) fun C hC=> ?_
 simp only [initS,Nat.reduceAdd]
 have J1:=oj w1 w2
 refine yG J1 ?_
 refine yC J1 (ones_fa x hx) ?_
 refine yG J1 ?_
 refine yC J1 (ones_fa y hy) ?_
 refine yG J1 ?_
 refine yC J1 (compare_fa (popN x) (popN y)) ?_
 refine yG J1 ?_
 refine yC J1 (compare_fa x y) ?_
 refine yG J1 ?_
 refine aw_buildSlice (xs:=[.tmp 11,.tmp 14]) (cells:=[.int .i64 (cmpC (popN x) (popN y)),.int .i64 (cmpC x y)]) rfl rfl rfl (zE J1) (by refine yS J1 ?_;rfl) rfl om om (by intro z hz;simp only [List.mem_cons,List.not_mem_nil,or_false] at hz;rcases hz with rfl|rfl<;>exact⟨rfl,rfl,rfl⟩) rfl fun g hg=> ?_
 refine yS J1 ?_
 refine aw_callq (or_fa (cmpC (popN x) (popN y)) (cmpC x y)) rfl rfl rfl (by refine yS J1 ?_;exact .c (.osl (ty:=3) (m:=2) (f:=ofL [.int .i64 (cmpC (popN x) (popN y)),.int .i64 (cmpC x y)]) (by simp [Heap.get]) om (fun j hj=>by match j,hj with|0,_=>exact .refl _|1,_=>exact .refl _))) ?_
 refine ySGT hC J1 ?_
 exact .one (.c (ler_int rfl))
end Go.Proofs.YtfcnbgmclfkfcaaGreat
namespace Go.Proofs.YtfcnbgmclfkfcaaGreat
open Go.AI Go.PN Go.Sort
theorem cmpLays (blk off size:Nat) (w:World):Go.Proofs.CmpLays1 Tryz.prog 160 #[] encF cfF blk off size w:=by
 intro m os dk _ x y
 refine((listCmp_fa x.val y.val x.isLt y.isLt).2 (fun _ _=>False) _ [encF x,encF y] (fun _ h=>h) (fun _ _ h=>h.elim) ⟨rfl,rfl,trivial⟩).mono ?_
 rintro e w' ⟨v,rfl,hr,hfr⟩
 have hv:v=.int .i64 (cmpI x.val y.val):=hr
 refine⟨by rw [hv];rfl,?_⟩
 exact fr_grow hfr
theorem sw_heap {w:World} {g n:Nat} {cs:Array Value} {ty:TypeId} {fr:Nat×Nat} (hb:w.heap[g]?=some (.cells cs ty fr)) (m:Nat) (d:Array SetF) (os:Array Obj):
 (Go.Proofs.sortWorld encF w g 0 m d os).heap[g]?=some (.cells (putCells encF 0 d cs) ty fr)∧(∀b,b<w.heap.size→b≠g→(Go.Proofs.sortWorld encF w g 0 m d os).heap[b]?=w.heap[b]?)∧w.heap.size≤(Go.Proofs.sortWorld encF w g 0 m d os).heap.size:=by
 have hg:g<w.heap.size:=(Array.getElem?_eq_some_iff.1 hb).1
 have hsz:(putRow encF (Sort.ahead w m) g 0 d).heap.size=w.heap.size:=by simp [putRow,mapBlock,Sort.ahead]
 refine⟨?_,fun b hbs hne=> ?_,?_⟩
 ·unfold Go.Proofs.sortWorld
  rw [heap_grow_old _ _ (by rw [hsz];exact hg)]
  simp only [putRow,mapBlock,Sort.ahead,Array.getElem?_modify,if_true,hb,Option.map_some]
  rfl
 ·unfold Go.Proofs.sortWorld
  rw [heap_grow_old _ _ (by rw [hsz];exact hbs)]
  simp only [putRow,mapBlock,Sort.ahead,Array.getElem?_modify]
  rw [if_neg (fun e=>hne e.symm)]
 ·unfold Go.Proofs.sortWorld
  rw [size_grow,hsz]
  omega
set_option maxHeartbeats 1600000 in
theorem sort_fh (g:Nat) (zs:List Nat) (hm:∀x∈zs,x<16777216) (hn:zs.Nodup) (hl:zs.length≤1000000000):
 Fh Tryz.prog 159 [(g,.cells 3 zs.length (isF (zL zs)))] [.c (.osl g 1 0 zs.length),.c (.raw (.func (.func 160) #[] #[]))] (fun x h=>x=.tup []∧h=[(g,.cells 3 zs.length (isF (zL (sortN zs))))]):=by
 refine⟨⟨_,Tryz.func159,rfl,rfl⟩,fun C vs hC hnd ho hr=> ?_⟩
 match vs,hr with
 |[v1,v2],⟨h1,h2,_⟩=>
  obtain⟨c,rfl,hnc,hcm,_⟩:∃c,v1=.slice (some ⟨g,0,none⟩) zs.length c∧zs.length≤c∧c≤maxLen∧Has C.w0 g (0+c*1):=h1
  obtain rfl:v2=.func (.func 160) #[] #[]:=h2
  obtain⟨cs,hb,hcs,hj⟩:=ho g _ (List.mem_singleton.2 rfl)
  have hgl:g<C.w0.heap.size:=(Array.getElem?_eq_some_iff.1 hb).1
  have hget:∀j,j<zs.length→cs[j]?=some (.int .i64 (zs.getD j 0:Nat)):=fun j hjl=>by
   obtain⟨u,hu,hru⟩:=hj j hjl
   have:u=.int .i64 ((zL zs).getD j 0):=hru
   rw [hu,this,zL_get]
  let d:Array SetF:=(zs.map toF).toArray
  have hds:d.size=zs.length:=by simp [d]
  have hdj:∀j,j<zs.length→encF d[j]! =.int .i64 (zs.getD j 0:Nat):=fun j hjl=>by
   have hjd:j<d.size:=by rw [hds];exact hjl
   rw [getElem!_pos d j hjd]
   have:d[j]=toF zs[j]:=by simp [d]
   unfold encF
   rw [this,toF_val (hm _ (List.getElem_mem hjl)),List.getD_eq_getElem?_getD,List.getElem?_eq_getElem hjl]
   rfl
  have hH:Holds encF C.w0 g 0 d:=fun j hjl=>by
   rw [hds] at hjl
   refine⟨?_,?_⟩
   ·unfold World.cell?
    simp only [hb,Option.isSome_none,Bool.false_eq_true,if_false,Nat.zero_add]
    rw [hget j hjl,hdj j hjl]
   ·unfold World.frozen?
    simp only [hb]
    simp
  have eg:∀args w,(callFunc 160 args).run Tryz.prog w=.ok (.enter 160 args) w:=fun args w=>(listCmp_fa 0 0 (by decide) (by decide)).1.run args w
  have hsz:d.size<4611686018427387904:=by
   rw [hds]
   unfold maxLen at hcm
   omega
  have hcon:=Go.Proofs.Any.slices_SortFunc sortL encF (fun _=>rfl) cfF swoF 160 #[] g 0 c d C.w0 eg (cmpLays g 0 d.size C.w0) hH hgl hsz
  rw [hds] at hcon
  refine hcon.mono ?_
  rintro e w' ⟨rfl,d',n,os,hp,hs,rfl⟩
  obtain⟨hp1,_,hp3⟩:=hp
  have hd's:d'.size=zs.length:=by rw [hp1,hds]
  have hpl:d'.toList.Perm d.toList:=by
   rw [←hds] at hp3
   have e1:d'.extract 0 d.size=d':=by rw [←hp1];exact Array.extract_size
   have e2:d.extract 0 d.size=d:=Array.extract_size
   rw [e1,e2] at hp3
   exact hp3
  have hdm:d.toList.map (·.val)=zs:=by
   show((zs.map toF).toArray.toList).map (·.val)=zs
   rw [List.toList_toArray,List.map_map]
   conv=>rhs;rw [←List.map_id zs]
   exact List.map_congr_left fun x hx=>toF_val (hm x hx)
  have hperm:(d'.toList.map (·.val)).Perm zs:=by rw [←hdm];exact hpl.map _
  have hsrt:Srt (d'.toList.map (·.val)):=srt_of (by rw [hp1];rw [hds];exact hs) (hperm.nodup_iff.2 hn)
  have hys:d'.toList.map (·.val)=sortN zs:=srt_ext hsrt (sort_srt zs) fun x=>by rw [sort_mem];exact hperm.mem_iff
  obtain⟨q1,q2,q3⟩:=sw_heap (n:=0) hb n d' os
  have hlen:(putCells encF 0 d' cs).size=cs.size:=by simp [putCells]
  refine⟨.tuple #[],.tup [],[(g,.cells 3 zs.length (isF (zL (sortN zs))))],rfl,⟨rfl,rfl⟩,by simp [Heap.keys],fun g' hg'=> ?_,⟨[],rfl,trivial⟩,fun g' o' hm'=> ?_,?_⟩
  ·simp only [Heap.keys,List.map_cons,List.map_nil,List.mem_singleton] at hg'
   subst hg'
   exact .inl ((hC _).2 (by simp [Heap.keys]))
  ·rw [List.mem_singleton] at hm'
   injection hm' with e1 e2
   subst e1 e2
   refine⟨putCells encF 0 d' cs,q1,by rw [hlen];exact hcs,fun j hjl=>⟨.int .i64 ((sortN zs).getD j 0:Nat),?_,?_⟩⟩
   ·have hjc:j<cs.size:=Nat.lt_of_lt_of_le hjl hcs
    unfold putCells
    rw [Array.getElem?_mapIdx,Array.getElem?_eq_getElem hjc,Option.map_some,if_pos ⟨Nat.zero_le _,by omega⟩,Nat.sub_zero,getElem!_pos d' j om]
    unfold encF
    rw [←hys,List.getD_eq_getElem?_getD,List.getElem?_map,List.getElem?_eq_getElem (by simpa using (by omega:j<d'.size))]
    simp
   ·show _=_
    rw [zL_get]
  ·refine⟨rfl,rfl,rfl,q3,?_,fun b hbs hno=>q2 b hbs (fun e=>hno ((hC b).2 (by simp [Heap.keys,e]))),fun g' m' hh=> ?_⟩
   ·show C.w0.drawn≤C.w0.drawn+n
    omega
   ·by_cases e:g'=g
    ·subst e
     obtain⟨cs',ty',⟨fr,hc'⟩,hs'⟩:=hh
     rw [hb] at hc'
     injection hc' with hc'
     injection hc' with e1 e2 e3
     subst e1
     exact⟨_,_,⟨_,q1⟩,by rw [hlen];exact hs'⟩
    ·have hl:=hh.lt
     obtain⟨cs',ty',⟨fr,hc'⟩,hs'⟩:=hh
     exact⟨cs',ty',⟨fr,(q2 g' hl e).trans hc'⟩,hs'⟩
end Go.Proofs.YtfcnbgmclfkfcaaGreat
namespace Go.Proofs.YtfcnbgmclfkfcaaGreat
open Go.AI Go.PN
attribute [local irreducible] aw Fa Fh DrK
set_option maxHeartbeats 1600000 in
set_option maxRecDepth 10000 in
theorem len64z_fa:Fa Tryz.prog 230 [.c (.int .u64 0)] (.c (.int .i64 0)):=by
 refine fa_of_body Tryz.func230 rfl rfl (by simp [Tryz.ntmps230]) fun C hC=> ?_
 simp only [initS,Nat.reduceAdd]
 refine xG ?_
 refine xN ?_
 refine xG ?_
 refine xN ?_
 refine xG ?_
 refine xN ?_
 refine xG ?_
 have w0:wrapZ .u8 (0:Int)=((0:Nat):Int):=by rw [wrapZ_eq];rfl
 refine yS w0 ?_
 refine aw_idx (i:=0) rfl rfl rfl ty_str rfl (zE w0) (by decide+kernel) om ?_
 refine ySGT hC w0 ?_
 exact .one (.c (ler_int rfl))
theorem lenz_fa:Fa Tryz.prog 205 [.c (.int .u64 0)] (.c (.int .i64 0)):=by
 refine fa_of_body Tryz.func205 rfl rfl (by simp [Tryz.ntmps205]) fun C hC=> ?_
 simp only [initS,Nat.reduceAdd]
 refine xG ?_
 refine aw_condF0 ?_
 refine xG ?_
 refine xC (len64z_fa) ?_
 refine xGT hC ?_
 exact .one (.c (ler_int rfl))
set_option maxHeartbeats 1600000 in
theorem insz_fh:Fh Tryz.prog 183 [] [.c .nils,.c (.int .i64 0),.c (.int .i64 0),.c (.raw (.func (.func 160) #[] #[]))] (fun x h=>x=.tup []∧h=[]):=by
 refine fh_of_body Tryz.func183 rfl rfl (by simp [Tryz.ntmps183]) fun C hC=> ?_
 simp only [initS,Nat.reduceAdd]
 refine xG ?_
 refine aw_lp (fun _:Unit=>[(8,.c (.int .i64 1)),(2,.c (.int .i64 0))]) (fun _=>[]) (fun _=>(0:Nat)=0) (fun _=>0) () eB zZ rfl ?_
 rintro _ _
 refine xG ?_
 refine xN ?_
 refine xG ?_
 refine xV ?_
 exact⟨rfl,rfl⟩
set_option maxHeartbeats 1600000 in
theorem pdqz_fh:Fh Tryz.prog 204 [] [.c .nils,.c (.int .i64 0),.c (.int .i64 0),.c (.int .i64 0),.c (.raw (.func (.func 160) #[] #[]))] (fun x h=>x=.tup []∧h=[]):=by
 refine fh_of_body Tryz.func204 rfl rfl (by simp [Tryz.ntmps204]) fun C hC=> ?_
 simp only [initS,Nat.reduceAdd]
 refine xG ?_
 refine aw_lp (fun _:Unit=>[(0,.c .nils),(1,.c (.int .i64 0)),(2,.c (.int .i64 0)),(4,.c (.raw (.func (.func 160) #[] #[])))]) (fun _=>[]) (fun _=>(0:Nat)=0) (fun _=>0) () eB zZ rfl ?_
 rintro _ _
 refine xG ?_
 refine xP ?_
 refine xG ?_
 refine aw_callh (hc:=[]) (hr:=[]) insz_fh rfl rfl rfl (.refl _) eL ?_
 rintro _ _ ⟨rfl,rfl⟩ _
 refine xSGU ?_
 exact⟨rfl,rfl⟩
set_option maxHeartbeats 1600000 in
theorem sortz_fh:Fh Tryz.prog 159 [] [.c .nils,.c (.raw (.func (.func 160) #[] #[]))] (fun x h=>x=.tup []∧h=[]):=by
 have w0:wrapZ .u64 ((0:Nat):Int)=0:=by rw [wrapZ_eq];rfl
 refine fh_of_body Tryz.func159 rfl rfl (by simp [Tryz.ntmps159]) fun C hC=> ?_
 simp only [initS,Nat.reduceAdd]
 refine yG w0 ?_
 refine yC w0 (lenz_fa) ?_
 refine yG w0 ?_
 refine aw_callh (hc:=[]) (hr:=[]) pdqz_fh rfl rfl rfl (.refl _) (zL w0) ?_
 rintro _ _ ⟨rfl,rfl⟩ _
 refine ySG w0 ?_
 refine yV w0 ?_
 exact⟨rfl,rfl⟩
abbrev LiH (g7:Nat) (x:Option Nat×List Nat):Heap:=(g7,.cells 52 1 (ofL [gs x.1 1 x.2.length]))::gh x.1 3 x.2.length (isF (zL x.2))
set_option maxHeartbeats 1600000 in
theorem list1_fh (g7:Nat) (x:Option Nat×List Nat) (s:Nat) (hx:x.1=none→x.2.length=0) (hl:x.2.length≤1000000000):
 Fh Tryz.prog 158 (LiH g7 x) [.c (.int .i64 s),.c (.optr g7 0)] (fun r h=>∃y:Option Nat×List Nat,y.2=x.2++[s]∧(y.1=none→y.2.length=0)∧r=.tup []∧h=LiH g7 y):=by
 obtain⟨og,l⟩:=x
 dsimp only at hx hl⊢
 have hp:∀j,j<(l.length+1)*1→appF (isF (zL l)) (l.length*1) (ofL [.int .i64 (s:Int)]) j=isF (zL (l++[s])) j:=by
  have:=is_push (zL_len l) (s:Int)
  rw [zL_push] at this
  exact this
 refine fh_of_body Tryz.func158 rfl rfl (by simp [Tryz.ntmps158]) fun C hC=> ?_
 simp only [initS,Nat.reduceAdd]
 refine aw_nd fun hnd=> ?_
 refine xG ?_
 refine aw_push (pre:=[(g7,.cells 52 1 (ofL [gs og 1 l.length]))]) rfl rfl rfl rfl rfl rfl rfl eE eE (by rfl) om om eE om (by exact hx) eE (by rfl) (by rfl) (by first|rfl|simp only [Nat.mul_one,List.nil_append,List.cons_append]<;>rfl) (by unfold maxLen;omega) om (by exact hp) fun g hn_g=> ?_
 replace hn_g:=Heap.ne_of hn_g
 first|dsimp only [Heap.ne,gh] at hn_g|dsimp only [Heap.ne] at hn_g|skip
 refine ySGWSG hn_g ?_
 refine aw_keep [] (LiH g7 (some g,l++[s])) (zB hn_g) (by
  unfold LiH
  simp only [List.length_append,List.length_cons,List.length_nil,Nat.zero_add,Nat.mul_one,gs,gh]
  exact List.Sublist.refl _) ?_
 refine yV hn_g ?_
 exact⟨(some g,l++[s]),rfl,some_ne,rfl,rfl⟩
theorem sort_nodup (l:List Nat):(sortN l).Nodup:=(sort_srt l).imp fun h e=>by
 subst e
 rw [key_irr] at h
 cases h
theorem sort_perm {l:List Nat} (h:l.Nodup):(sortN l).Perm l:=(List.perm_ext_iff_of_nodup (sort_nodup l) h).2 fun _=>sort_mem
theorem sort_len {l:List Nat} (h:l.Nodup):(sortN l).length=l.length:=(sort_perm h).length_eq
theorem RS_snoc {g7:Nat}:∀{l:List Nat} {x y:Option Nat×List Nat},RS (fun(a:Option Nat×List Nat) (s:Nat) (b:Option Nat×List Nat)=>b.2=a.2++[s]) x l y→y.2=x.2++l
 |[],x,y,h=>by
  have h:x=y:=h
  rw [h,List.append_nil]
 |s::l,x,y,⟨z,h1,h2⟩=>by
  rw [RS_snoc (g7:=g7) h2,h1,List.append_assoc]
  rfl
set_option maxRecDepth 100000 in
set_option maxHeartbeats 3200000 in
theorem zlist_fh {n:Nat} {F:Nat→Bool} (z:ZD) (hz:ZOut n F z) (h24:n≤24) (hn:z.nodes.length≤4096) (hc:cntZ z.nodes z.root≤1024):
 Fh Tryz.prog 109 [] [.agg (zdc false z)] (fun x h=>x=.tup [.c (is true (zL (sortN (setsZ z.nodes z.root 0)))),.c .nilI]∧h=[]):=by
 have hf:((cntZ z.nodes z.root>1024)=False):=eq_false om
 have hd:decide (cntZ z.nodes z.root>1024)=false:=decide_eq_false om
 have hlen:(setsZ z.nodes z.root 0).length≤1024:=by unfold cntZ at hc;omega
 have hb0:∀j:Nat,evZ n z.nodes z.root≤j→(0:Nat).testBit j=false:=fun j _=>Nat.zero_testBit j
 have hnd:=sets_nodup hz.tab z.root hz.ref 0 hb0
 have hm:∀s∈setsZ z.nodes z.root 0,s<16777216:=fun s hs=>by
  obtain⟨t,ht,rfl⟩:=(sets_mem hz.tab z.root hz.ref 0 hb0 s).1 hs
  rw [Nat.zero_or]
  have:=mem_bits hz.tab z.root hz.ref t ht
  have h1:t<2^n:=Nat.lt_pow_two_of_testBit _ fun j hj=>by
   cases hb:t.testBit j with
   |false=>rfl
   |true=>have:=(this j hb).2;omega
  exact Nat.lt_of_lt_of_le h1 (Nat.pow_le_pow_right om h24)
 refine fh_of_body Tryz.func109 rfl rfl (by simp [Tryz.ntmps109]) fun C hC=> ?_
 simp only [initS,Nat.reduceAdd]
 refine xG ?_
 refine xB fun g1 hn_g1=>?_
 refine yG hn_g1 ?_
 refine aw_buildSlice (xs:=[.tmp 9]) (cells:=zdc false z) rfl rfl rfl (zE hn_g1) (by refine yS hn_g1 ?_;rfl) rfl om om (by intro x hx;simp only [List.mem_singleton] at hx;subst hx;exact⟨rfl,rfl,rfl⟩) rfl fun g9 hn_g9=> ?_
 replace hn_g9:=Heap.ne_of hn_g9
 dsimp only [Heap.ne] at hn_g9
 have J1:=oj hn_g1 hn_g9
 refine yS J1 ?_
 refine aw_frzT (t:=10) (zdsF [z]) (zE J1) (zE J1) om (fun h=>by have:=(hC g9).1 h;simp [Heap.keys] at this) (fun q hq=>by match q,hq with|0,_=>rfl|1,_=>rfl) rfl (zE J1) ?_
 refine ySG J1 ?_
 refine aw_callh (hc:=[]) (hr:=[(g1,.cells 133 2 (ofL (zdc false z)))]) (zopen_fh z hz h24 hn) rfl rfl rfl (.refl _) (zL J1) ?_
 rintro _ _ ⟨gT,gU,gM,og,hog,rfl,rfl⟩ _
 have hs:ZS n og z.nodes []:=⟨hog,hz.tab,fun e he=>absurd he List.not_mem_nil⟩
 refine ySGNG J1 ?_
 refine aw_callh (hc:=ZHp gT gU gM og z.nodes []) (hr:=[(g1,.cells 133 2 (ofL (zdc false z)))]) (zcount_ok n gT gU gM h24 (z.root.toNat+1) og z.nodes [] z.root hs om hz.ref om) rfl rfl rfl (.refl _) (zL J1) ?_
 rintro _ _ ⟨mm,hzp,rfl,rfl⟩ _
 have hs1:=hzp.zs
 refine yS J1 ?_
 have J2:=oj hn_g1 (oj hn_g9 hd)
 refine yGNG J2 ?_
 refine aw_perm (List.perm_append_comm (l₂:=[(g1,AObj.cells 133 2 (ofL (zdc false z)))])) ?_
 simp only [List.cons_append,List.nil_append]
 refine yA J2 fun g7 hn_g7=>?_
 have J3:=oj hn_g1 (oj hn_g9 (oj hd hn_g7))
 refine yG J3 ?_
 refine aw_makeFunc (gs:=[g7]) rfl rfl rfl (zE J3) ?_
 refine ySG J3 ?_
 refine aw_callh (hc:=ZHp gT gU gM og z.nodes mm++LiH g7 (none,[])) (hr:=[(g1,.cells 133 2 (ofL (zdc false z)))]) (zeach_fh (LiH g7) (fun x m=>(x.1=none→x.2.length=0)∧x.2.length+m≤1024) (fun a s b=>b.2=a.2++[s]) 158 [g7] gT gU gM h24 hs1 om (fun x s m hx hs2=>(list1_fh g7 x s hx.1 om).mono fun r h ⟨y,h1,h2,h3,h4⟩=>⟨y,h1,⟨h2,by rw [h1,List.length_append,List.length_singleton];omega⟩,h3,h4⟩) hz.ref (none,[]) (m:=0) ⟨fun _=>rfl,by simp only [List.length_nil];omega⟩) rfl rfl rfl (by rw [List.append_assoc];exact List.perm_append_comm (l₁:=[(g7,_),(g1,_)])) (zL J3) ?_
 rintro _ _ ⟨⟨og7,l7⟩,hrs,hf7,rfl,rfl⟩ _
 have hl7:l7=setsZ z.nodes z.root 0:=by have:=RS_snoc (g7:=g7) hrs;simpa using this
 subst hl7
 generalize setsZ z.nodes z.root 0=l7 at*
 have hsl:=sort_len hnd
 refine aw_keep [(7,.c (.optr g7 0))] (LiH g7 (og7,l7)) (zB J3) ((List.sublist_append_right _ _).trans (List.sublist_append_left _ _)) ?_
 cases og7 with
 |none=>
  obtain rfl:l7=[]:=List.length_eq_zero_iff.1 (hf7.1 rfl)
  simp only [LiH,gs,gh,List.length_nil]
  refine ySG J3 ?_
  refine aw_callh (hc:=[]) (hr:=[(g7,.cells 52 1 (ofL [.nils]))]) sortz_fh rfl rfl rfl (.refl _) (zL J3) ?_
  rintro _ _ ⟨rfl,rfl⟩ _
  refine ySG J3 ?_
  refine aw_keep [(2,.c .nils),(3,.c .nilI)] [] (zB J3) (List.nil_sublist _) ?_
  refine aw_conv (t:=2) (v:=.c (is true [])) (fun S w u hr=>repC_nil hr) rfl ?_
  refine yS J3 ?_
  refine yU J3 ?_
  exact⟨rfl,rfl⟩
 |some g=>
  simp only [LiH,gs,gh]
  refine aw_nd fun hnk=> ?_
  have hng:((g7=g)=False∧(g=g7)=False):=by
   have h2:g7∉[g]:=(List.nodup_cons.1 hnk).1
   exact⟨eq_false fun e=>h2 (by rw [e];simp),eq_false fun e=>h2 (by rw [e];simp)⟩
  have J4:=oj hn_g1 (oj hn_g9 (oj hd (oj hn_g7 hng)))
  refine ySG J4 ?_
  refine aw_callh (hc:=[(g,.cells 3 l7.length (isF (zL l7)))]) (hr:=[(g7,.cells 52 1 (ofL [.osl g 1 0 l7.length]))]) (sort_fh g l7 hm hnd om) rfl rfl rfl (List.perm_append_comm (l₁:=[(g7,_)])) (zL J4) ?_
  rintro _ _ ⟨rfl,rfl⟩ _
  refine ySG J4 ?_
  refine aw_keep [(2,.c (.osl g 1 0 l7.length)),(3,.c .nilI)] [(g,.cells 3 l7.length (isF (zL (sortN l7))))] (zB J4) (List.sublist_append_left _ _) ?_
  refine aw_frzT (t:=2) (isF (zL (sortN l7))) (zE J4) (zE J4) om (fun h=>by have:=(hC g).1 h;simp [Heap.keys] at this) (fun q hq=>by rw [Nat.zero_add]) rfl (zE J4) ?_
  refine yS J4 ?_
  refine yU J4 ?_
  refine⟨?_,rfl⟩
  show AV.tup [.c (.row true 1 l7.length _),_]=AV.tup [.c (.row true 1 (zL (sortN l7)).length _),_]
  rw [zL_len,hsl]
end Go.Proofs.YtfcnbgmclfkfcaaGreat
