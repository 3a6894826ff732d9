/- Parts of one proof, laid by a program. -/
import Derived.Test.YtfcnbgmclfkfcaaGreatM00
import Derived.Test.YtfcnbgmclfkfcaaGreatM19
set_option linter.unusedSimpArgs false
set_option linter.unusedVariables false
namespace Go.PN
open Go.AI
theorem ref0 {ns:List DN}:RefOk ns 0:=⟨by omega,by omega⟩
theorem ev_leaf {n:Nat} {ns:List DN} {r:Int} (h:r<2):evZ n ns r=n:=if_pos h
theorem ev_two {n:Nat} {ns:List DN} {r:Int} (h:ZTab n ns) (hr:RefOk ns r) (hv:evZ n ns r<n):2≤r:=by
 refine Classical.byContradiction fun hc=> ?_
 rw [ev_leaf om] at hv
 omega
def kidsZ (n:Nat) (ns:List DN) (r v:Int):Int×Int:=if evZ n ns r≠v then(r,0) else((ns.getD (r-2).toNat dn0).lo,(ns.getD (r-2).toNat dn0).hi)
structure KZ (n:Nat) (ns:List DN) (r v a b:Int):Prop where
 ra:RefOk ns a
 rb:RefOk ns b
 ea:v+1≤evZ n ns a
 eb:v+1≤evZ n ns b
 la:a≤r
 lb:b≤r
 mem:∀s:Nat,memZ ns r s=if s.testBit v.toNat then memZ ns b (s^^^2^v.toNat) else memZ ns a s
 hit:∀s:Nat,hitZ ns r s=(hitZ ns a s||(s.testBit v.toNat&&hitZ ns b s))
theorem kz_node {n:Nat} {ns:List DN} (h:ZTab n ns) {r:Int} (hr:RefOk ns r) (h2:2≤r):KZ n ns r (ns.getD (r-2).toNat dn0).v (ns.getD (r-2).toNat dn0).lo (ns.getD (r-2).toNat dn0).hi:=by
 have hi:(r-2).toNat<ns.length:=by unfold RefOk at hr;omega
 obtain⟨k1,k2⟩:=h.kids hi
 obtain⟨_,_,l0,l1,h0,h1'⟩:=(h _ hi).nk
 exact⟨k1,k2,(h _ hi).bl,(h _ hi).bh,by omega,by omega,fun s=>mem_step h h2 hr s,fun s=>hit_step h h2 hr s⟩
theorem kidsZ_ok {n:Nat} {ns:List DN} (h:ZTab n ns) {r v:Int} (hr:RefOk ns r) (hv0:0≤v) (hvn:v<n) (hv:v≤evZ n ns r):KZ n ns r v (kidsZ n ns r v).1 (kidsZ n ns r v).2:=by
 unfold kidsZ
 by_cases e:evZ n ns r=v
 ·rw [if_neg (by simpa using e)]
  have h2:2≤r:=ev_two h hr om
  have:=kz_node h hr h2
  rw [evZ_node h2] at e
  rw [←e]
  exact this
 ·rw [if_pos e]
  refine⟨hr,ref0,by show v+1≤evZ n ns r;omega,by rw [ev_leaf om];omega,Int.le_refl _,hr.1,fun s=> ?_,fun s=> ?_⟩
  ·dsimp only
   split
   ·rename_i hb
    rw [mem_leaf (by omega:(0:Int)≤1)]
    cases hm:memZ ns r s
    ·simp
    ·have:=mem_bits h r hr s hm _ hb
     omega
   ·rfl
  ·dsimp only
   rw [hit_leaf (by omega:(0:Int)≤1)]
   simp
theorem hit_zero {n:Nat} {ns:List DN} (h:ZTab n ns) {r:Int} (hr:RefOk ns r) (he:memZ ns r 0=true) (s:Nat):hitZ ns r s=true:=
 (hit_iff h r hr s).2 ⟨0,fun j hj=>by simp at hj,he⟩
structure WOk (n:Nat) (ns:List DN) (a b r:Int):Prop where
 pa:RefOk ns a
 pb:RefOk ns b
 pr:RefOk ns r
 ev:min (evZ n ns a) (evZ n ns b)≤evZ n ns r
 sem:∀s,memZ ns r s=(memZ ns a s&& !hitZ ns b s)
theorem WOk.later {n:Nat} {x y:List DN} {k:Nat} (h:ZLat n x y k) (hx:ZTab n x) {a b r:Int} (w:WOk n x a b r):WOk n y a b r:=
 ⟨h.ref w.pa,h.ref w.pb,h.ref w.pr,by rw [h.ev w.pa,h.ev w.pb,h.ev w.pr];exact w.ev,fun s=>by rw [h.mem hx w.pr,h.mem hx w.pa,h.hit hx w.pb];exact w.sem s⟩
theorem w_base {n:Nat} {ns:List DN} (h:ZTab n ns) {a b:Int} (ha:RefOk ns a) (hb:RefOk ns b) (hc:a=0∨memZ ns b 0=true):WOk n ns a b 0:=by
 refine⟨ha,hb,ref0,by rw [ev_leaf (r:=0) om];have:=(evZ_le h ha).2.1;omega,fun s=> ?_⟩
 rw [mem_leaf (by omega:(0:Int)≤1)]
 rcases hc with rfl|hc
 ·rw [mem_leaf (by omega:(0:Int)≤1)];rfl
 ·rw [hit_zero h hb hc];simp
theorem w_base2 {n:Nat} {ns:List DN} (h:ZTab n ns) {a b:Int} (ha:RefOk ns a) (hb:RefOk ns b) (hn:memZ ns b 0=false) (hc:b=0∨a=1):WOk n ns a b a:=by
 refine⟨ha,hb,ha,by omega,fun s=> ?_⟩
 rcases hc with rfl|rfl
 ·rw [hit_leaf (by omega:(0:Int)≤1)];simp
 ·rw [mem_leaf (by omega:(1:Int)≤1)]
  by_cases e:s=0
  ·subst e
   have:hitZ ns b 0=false:=by
    cases hh:hitZ ns b 0
    ·rfl
    ·obtain⟨t,t1,t2⟩:=(hit_iff h b hb 0).1 hh
     have:t=0:=Nat.eq_of_testBit_eq fun j=>by
      cases hj:t.testBit j
      ·simp
      ·have:=t1 j hj;simp at this
     subst this
     rw [hn] at t2;cases t2
   rw [this];rfl
  ·rw [decide_eq_false e];simp
theorem w_step {n:Nat} {n0 n1 n2 n3:List DN} {k1 k2 k3:Nat} (h0:ZTab n n0) {a b v a0 a1 b0 b1 x y z:Int} (ha:RefOk n0 a) (hb:RefOk n0 b) (hv0:0≤v) (hvn:v<n) (hv:v=min (evZ n n0 a) (evZ n n0 b))
 (ka:KZ n n0 a v a0 a1) (kb:KZ n n0 b v b0 b1) (l1:ZLat n n0 n1 k1) (wx:WOk n n1 a0 b0 x) (l2:ZLat n n1 n2 k2) (wy:WOk n n2 a1 b0 y) (l3:ZLat n n2 n3 k3) (wz:WOk n n3 y b1 z):
 ZLat n n3 (mkZ n3 v x z).1 1∧ZLat n n0 (mkZ n3 v x z).1 (k1+k2+k3+1)∧WOk n (mkZ n3 v x z).1 a b (mkZ n3 v x z).2∧RefOk n3 x∧RefOk n3 z∧v<evZ n n3 x∧v<evZ n n3 z:=by
 have l12:=l1.trans l2 (Nat.le_refl _)
 have l13:=l12.trans l3 (Nat.le_refl _)
 have l23:=l2.trans l3 (Nat.le_refl _)
 have ex:v<evZ n n3 x:=by
  rw [l23.ev wx.pr]
  have:=wx.ev
  rw [l1.ev ka.ra,l1.ev kb.ra] at this
  have h1:=ka.ea
  have h2:=kb.ea
  omega
 have ey:v<evZ n n3 y:=by
  rw [l3.ev wy.pr]
  have:=wy.ev
  rw [l12.ev ka.rb,l12.ev kb.ra] at this
  have h1:=ka.eb
  have h2:=kb.ea
  omega
 have ez:v<evZ n n3 z:=by
  have:=wz.ev
  rw [l13.ev kb.rb] at this
  have h2:=kb.eb
  omega
 have rx:RefOk n3 x:=l23.ref wx.pr
 obtain⟨m1,m2,m3,m4⟩:=mkZ_ok l13.tab hv0 hvn rx wz.pr ex ez
 have lall:=l13.trans m1 (Nat.le_refl _)
 refine⟨m1,lall,⟨lall.ref ha,lall.ref hb,m2,by rw [lall.ev ha,lall.ev hb];omega,fun s=> ?_⟩,rx,wz.pr,ex,ez⟩
 rw [m4,lall.mem h0 ha,lall.hit h0 hb,ka.mem,kb.hit]
 split
 ·rename_i hs
  rw [wz.sem,l3.mem l12.tab wy.pr,wy.sem,l12.mem h0 ka.rb,l12.hit h0 kb.ra,l13.hit h0 kb.rb]
  have e1:hitZ n0 b0 (s^^^2^v.toNat)=hitZ n0 b0 s:=hit_xor h0 kb.ra hv0 (by have:=kb.ea;omega) s
  have e2:hitZ n0 b1 (s^^^2^v.toNat)=hitZ n0 b1 s:=hit_xor h0 kb.rb hv0 (by have:=kb.eb;omega) s
  rw [e1,e2,hs]
  cases memZ n0 a1 (s^^^2^v.toNat)<;>cases hitZ n0 b0 s<;>cases hitZ n0 b1 s<;>rfl
 ·rename_i hs
  rw [l23.mem l1.tab wx.pr,wx.sem,l1.mem h0 ka.ra,l1.hit h0 kb.ra,eq_false_of_ne_true hs]
  simp
def popF:Nat→Nat→Nat
 |0,_=>0
 |k+1,s=>s%2+popF k (s/2)
def popN (s:Nat):Nat:=popF s s
theorem popF_fuel:∀(k s:Nat),s<2^k→∀j,k≤j→popF j s=popF k s
 |0,s,h,j,_=>by
  have:s=0:=by simpa using h
  subst this
  have:∀j,popF j 0=0:=by intro j;induction j with
   |zero=>rfl
   |succ j ih=>rw [popF];simpa using ih
  rw [this,this]
 |k+1,s,h,j,hj=>by
  obtain⟨i,rfl⟩:∃i,j=i+1:=⟨j-1,by omega⟩
  rw [popF,popF,popF_fuel k (s/2) (by rw [Nat.pow_succ] at h;omega) i om]
theorem pop_eq {k s:Nat} (h:s<2^k):popN s=popF k s:=by
 unfold popN
 have hs:s<2^s:=Nat.lt_two_pow_self
 rcases Nat.le_total k s with h1|h1
 ·exact popF_fuel k s h s h1
 ·exact(popF_fuel s s hs k h1).symm
theorem pop_half (s:Nat):popN s=s%2+popN (s/2):=by
 have hs:s<2^(s+1):=Nat.lt_of_lt_of_le Nat.lt_two_pow_self (Nat.pow_le_pow_right om om)
 rw [pop_eq hs,popF,pop_eq (k:=s) (s:=s/2) (by rw [Nat.pow_succ] at hs;omega)]
structure UOk (n:Nat) (ns:List DN) (a k r:Int):Prop where
 pa:RefOk ns a
 pr:RefOk ns r
 ev:evZ n ns a≤evZ n ns r
 sem:∀s,memZ ns r s=(memZ ns a s&&decide ((popN s:Int)≤k))
theorem UOk.later {n:Nat} {x y:List DN} {k:Nat} (h:ZLat n x y k) (hx:ZTab n x) {a b r:Int} (w:UOk n x a b r):UOk n y a b r:=
 ⟨h.ref w.pa,h.ref w.pr,by rw [h.ev w.pa,h.ev w.pr];exact w.ev,fun s=>by rw [h.mem hx w.pr,h.mem hx w.pa];exact w.sem s⟩
def setsF (ns:List DN):Nat→Int→Nat→List Nat
 |0,r,b=>if r=1 then [b] else []
 |k+1,r,b=>if r<2 then(if r=1 then [b] else []) else setsF ns k (ns.getD (r-2).toNat dn0).lo b++setsF ns k (ns.getD (r-2).toNat dn0).hi (b|||2^(ns.getD (r-2).toNat dn0).v.toNat)
def setsZ (ns:List DN) (r:Int) (b:Nat):List Nat:=setsF ns r.toNat r b
theorem setsF_fuel {n:Nat} {ns:List DN} (h:ZTab n ns):∀(k:Nat) (r:Int) (b:Nat),RefOk ns r→r.toNat≤k→setsF ns k r b=setsF ns r.toNat r b
 |0,r,b,hr,hk=>by rw [show r.toNat=0 from by omega]
 |k+1,r,b,hr,hk=>by
  unfold RefOk at hr
  by_cases h1:r<2
  ·rw [setsF,if_pos h1]
   cases hq:r.toNat with
   |zero=>rfl
   |succ j=>rw [setsF,if_pos h1]
  ·obtain⟨j,hj⟩:∃j,r.toNat=j+1:=⟨r.toNat-1,by omega⟩
   have hi:(r-2).toNat<ns.length:=by omega
   obtain⟨k1,k2⟩:=h.kids hi
   obtain⟨_,_,l0,l1,h0,h1'⟩:=(h _ hi).nk
   rw [hj,setsF,setsF,if_neg h1,if_neg h1,setsF_fuel h k _ _ k2 om,setsF_fuel h j _ _ k2 om,setsF_fuel h k _ _ k1 om,setsF_fuel h j _ _ k1 om]
termination_by k=>k
decreasing_by all_goals omega
theorem sets_leaf {ns:List DN} {r:Int} (h:r<2) (b:Nat):setsZ ns r b=if r=1 then [b] else []:=by
 unfold setsZ
 cases hq:r.toNat with
 |zero=>rfl
 |succ j=>rw [setsF,if_pos h]
theorem sets_step {n:Nat} {ns:List DN} (h:ZTab n ns) {r:Int} (h2:2≤r) (hr:RefOk ns r) (b:Nat):setsZ ns r b=setsZ ns (ns.getD (r-2).toNat dn0).lo b++setsZ ns (ns.getD (r-2).toNat dn0).hi (b|||2^(ns.getD (r-2).toNat dn0).v.toNat):=by
 unfold RefOk at hr
 have hi:(r-2).toNat<ns.length:=by omega
 obtain⟨k1,k2⟩:=h.kids hi
 obtain⟨_,_,l0,l1,h0,h1'⟩:=(h _ hi).nk
 obtain⟨j,hj⟩:∃j,r.toNat=j+1:=⟨r.toNat-1,by omega⟩
 unfold setsZ
 rw [hj,setsF,if_neg om,setsF_fuel h j _ _ k2 om,setsF_fuel h j _ _ k1 om]
theorem sets_mem {n:Nat} {ns:List DN} (h:ZTab n ns):∀r,RefOk ns r→∀b:Nat,(∀j:Nat,evZ n ns r≤j→b.testBit j=false)→∀s,s∈setsZ ns r b↔∃t,memZ ns r t=true∧s=b|||t:=by
 refine h.ind (fun r h0 h1 b _ s=> ?_) fun r h2 hr il ih b hb s=> ?_
 ·rw [sets_leaf om]
  constructor
  ·intro hs
   split at hs
   ·rename_i e
    rw [List.mem_singleton] at hs
    exact⟨0,by rw [mem_leaf h1,e];rfl,by rw [hs,Nat.or_zero]⟩
   ·cases hs
  ·rintro ⟨t,ht,rfl⟩
   rw [mem_leaf h1] at ht
   simp only [Bool.and_eq_true,decide_eq_true_eq] at ht
   rw [if_pos ht.1,ht.2,Nat.or_zero]
   exact List.mem_singleton.2 rfl
 ·have hi:(r-2).toNat<ns.length:=by unfold RefOk at hr;omega
  have nd:=h _ hi
  obtain⟨v0,v1,_⟩:=nd.nk
  obtain⟨k1,k2⟩:=h.kids hi
  have bl:=nd.bl
  have bh:=nd.bh
  rw [evZ_node h2] at hb
  have ms:=mem_step h h2 hr
  rw [sets_step h h2 hr,List.mem_append,il b (fun j hj=>hb j om),ih _ (fun j hj=>by
   rw [Nat.testBit_or,hb j om,Nat.testBit_two_pow,decide_eq_false om];rfl)]
  generalize hv:(ns.getD (r-2).toNat dn0).v.toNat=v at*
  constructor
  ·rintro (⟨t,t1,rfl⟩|⟨t,t1,rfl⟩)
   ·refine⟨t,?_,rfl⟩
    rw [ms,if_neg,t1]
    intro hbt
    have:=mem_bits h _ k1 t t1 _ hbt
    omega
   ·have hbt:t.testBit v=false:=by
     cases hbt:t.testBit v
     ·rfl
     ·have:=mem_bits h _ k2 t t1 _ hbt
      omega
    refine⟨t^^^2^v,?_,?_⟩
    ·rw [ms,if_pos (by rw [xor_bit,hbt];simp),Nat.xor_assoc,Nat.xor_self,Nat.xor_zero]
     exact t1
    ·refine Nat.eq_of_testBit_eq fun j=> ?_
     rw [Nat.testBit_or,Nat.testBit_or,Nat.testBit_or,xor_bit,Nat.testBit_two_pow]
     by_cases e:v=j
     ·subst e;rw [hbt];simp
     ·simp [e]
  ·rintro ⟨t,t1,rfl⟩
   rw [ms] at t1
   split at t1
   ·rename_i hbt
    refine .inr ⟨_,t1,?_⟩
    refine Nat.eq_of_testBit_eq fun j=> ?_
    rw [Nat.testBit_or,Nat.testBit_or,Nat.testBit_or,xor_bit,Nat.testBit_two_pow]
    by_cases e:v=j
    ·subst e;rw [hbt];simp
    ·simp [e]
   ·exact .inl ⟨t,t1,rfl⟩
theorem sets_bits {n:Nat} {ns:List DN} (h:ZTab n ns) {r:Int} (hr:RefOk ns r) {b:Nat} (hb:∀j:Nat,evZ n ns r≤j→b.testBit j=false) {s:Nat} (hs:s∈setsZ ns r b):∀j:Nat,(j:Int)<evZ n ns r→s.testBit j=b.testBit j:=by
 obtain⟨t,t1,rfl⟩:=(sets_mem h r hr b hb s).1 hs
 intro j hj
 rw [Nat.testBit_or]
 cases ht:t.testBit j
 ·simp
 ·have:=mem_bits h r hr t t1 j ht
  omega
theorem sets_nodup {n:Nat} {ns:List DN} (h:ZTab n ns):∀r,RefOk ns r→∀b:Nat,(∀j:Nat,evZ n ns r≤j→b.testBit j=false)→(setsZ ns r b).Nodup:=by
 refine h.ind (fun r h0 h1 b _=> ?_) fun r h2 hr il ih b hb=> ?_
 ·rw [sets_leaf om]
  split<;>simp
 ·have hi:(r-2).toNat<ns.length:=by unfold RefOk at hr;omega
  have nd:=h _ hi
  obtain⟨v0,v1,_⟩:=nd.nk
  obtain⟨k1,k2⟩:=h.kids hi
  have bl:=nd.bl
  have bh:=nd.bh
  rw [evZ_node h2] at hb
  rw [sets_step h h2 hr]
  generalize hv:(ns.getD (r-2).toNat dn0).v.toNat=v at*
  have b1:∀j:Nat,evZ n ns (ns.getD (r-2).toNat dn0).lo≤j→b.testBit j=false:=fun j hj=>hb j om
  have b2:∀j:Nat,evZ n ns (ns.getD (r-2).toNat dn0).hi≤j→(b|||2^v).testBit j=false:=fun j hj=>by
   rw [Nat.testBit_or,hb j om,Nat.testBit_two_pow,decide_eq_false om];rfl
  refine List.nodup_append.2 ⟨il b b1,ih _ b2,fun x hx y hy e=> ?_⟩
  subst e
  have e1:=sets_bits h k1 b1 hx v om
  have e2:=sets_bits h k2 b2 hy v om
  rw [e1,Nat.testBit_or,Nat.testBit_two_pow,hb v om] at e2
  simp at e2
theorem setsF_app {n:Nat} {ns xs:List DN} (h:ZTab n ns):∀(k:Nat) (r:Int) (b:Nat),RefOk ns r→setsF (ns++xs) k r b=setsF ns k r b
 |0,r,s,_=>rfl
 |k+1,r,s,hr=>by
  rw [setsF,setsF]
  split
  ·rfl
  ·rename_i h1
   unfold RefOk at hr
   obtain⟨k1,k2⟩:=h.kids (show(r-2).toNat<ns.length by omega)
   rw [getD_app om,setsF_app h k _ _ k1,setsF_app h k _ _ k2]
def cntZ (ns:List DN) (r:Int):Int:=(setsZ ns r 0).length
theorem sets_len {n:Nat} {ns:List DN} (h:ZTab n ns):∀r,RefOk ns r→∀b b':Nat,(setsZ ns r b).length=(setsZ ns r b').length:=by
 refine h.ind (fun r h0 h1 b b'=> ?_) fun r h2 hr il ih b b'=> ?_
 ·rw [sets_leaf om,sets_leaf om];split<;>rfl
 ·rw [sets_step h h2 hr,sets_step h h2 hr,List.length_append,List.length_append,il b b',ih _ (b'|||2^(ns.getD (r-2).toNat dn0).v.toNat)]
theorem cnt_leaf {ns:List DN} {r:Int} (h0:0≤r) (h:r<2):cntZ ns r=r:=by
 unfold cntZ
 rw [sets_leaf h]
 by_cases e:r=1
 ·subst e;rfl
 ·rw [if_neg e];simp;omega
theorem cnt_step {n:Nat} {ns:List DN} (h:ZTab n ns) {r:Int} (h2:2≤r) (hr:RefOk ns r):cntZ ns r=cntZ ns (ns.getD (r-2).toNat dn0).lo+cntZ ns (ns.getD (r-2).toNat dn0).hi:=by
 have hi:(r-2).toNat<ns.length:=by unfold RefOk at hr;omega
 obtain⟨k1,k2⟩:=h.kids hi
 unfold cntZ
 rw [sets_step h h2 hr,List.length_append,sets_len h _ k2 (0|||2^(ns.getD (r-2).toNat dn0).v.toNat) 0]
 omega
theorem cnt_app {n:Nat} {ns xs:List DN} (h:ZTab n ns) {r:Int} (hr:RefOk ns r):cntZ (ns++xs) r=cntZ ns r:=by
 unfold cntZ setsZ
 rw [setsF_app h _ _ _ hr]
theorem cntZ_le {n:Nat} {ns:List DN} (h:ZTab n ns):∀r,RefOk ns r→0≤cntZ ns r∧cntZ ns r≤2^(n-(evZ n ns r).toNat):=by
 refine h.ind (fun r h0 h1=> ?_) fun r h2 hr il ih=> ?_
 ·rw [cnt_leaf h0 om]
  have:(1:Int)≤2^(n-(evZ n ns r).toNat):=by
   have:=Nat.pow_pos (n:=n-(evZ n ns r).toNat) (show 0<2 by omega)
   exact_mod_cast this
  omega
 ·have hi:(r-2).toNat<ns.length:=by unfold RefOk at hr;omega
  have nd:=h _ hi
  obtain⟨v0,v1,_⟩:=nd.nk
  obtain⟨k1,k2⟩:=h.kids hi
  have bl:=nd.bl
  have bh:=nd.bh
  rw [cnt_step h h2 hr,evZ_node h2]
  have e1:=evZ_le h k1
  have e2:=evZ_le h k2
  obtain⟨q,hq⟩:∃q,n-(ns.getD (r-2).toNat dn0).v.toNat=q+1:=⟨n-(ns.getD (r-2).toNat dn0).v.toNat-1,by omega⟩
  rw [hq]
  have p1:(2:Int)^(n-(evZ n ns (ns.getD (r-2).toNat dn0).lo).toNat)≤2^q:=by
   have:=Nat.pow_le_pow_right (n:=2) om (show n-(evZ n ns (ns.getD (r-2).toNat dn0).lo).toNat≤q by omega)
   exact_mod_cast this
  have p2:(2:Int)^(n-(evZ n ns (ns.getD (r-2).toNat dn0).hi).toNat)≤2^q:=by
   have:=Nat.pow_le_pow_right (n:=2) om (show n-(evZ n ns (ns.getD (r-2).toNat dn0).hi).toNat≤q by omega)
   exact_mod_cast this
  have p3:(2:Int)^(q+1)=2^q*2:=Int.pow_succ 2 q
  omega
end Go.PN
namespace Go.AI
@[go_sem ↓] theorem updF_3_0' (a b c x:CV):updF (ofL [a,b,c]) 0 [x]=ofL [x,b,c]:=updF_at [a,b,c] 0 x (by simp)
end Go.AI
namespace Go.PN
open Go.AI
def ZH (T DT:TypeId) (gT gU gM:Nat) (og:Option Nat) (ns:List DN) (mm:Mem3):Heap:=
 [(gT,.cells T 3 (ofL [gs og 3 ns.length,.raw (.map (some gU)),.raw (.map (some gM))])),(gU,.gen (MapI dkV (uqTo ns 0))),(gM,.gen (MapI keyS (mmL mm)))]++gh og DT (ns.length*3) (dnsF ns)
theorem zh_ne {T DT:TypeId} {gT gU gM:Nat} {og:Option Nat} {ns:List DN} {mm:Mem3} (hnd:(ZH T DT gT gU gM og ns mm).keys.Nodup):(((gT=gU)=False∧(gU=gT)=False)∧((gT=gM)=False∧(gM=gT)=False)∧((gU=gM)=False∧(gM=gU)=False))∧∀g,og=some g→((gT=g)=False∧(g=gT)=False)∧((gU=g)=False∧(g=gU)=False)∧((gM=g)=False∧(g=gM)=False):=by
 cases og with
 |none=>
  simp only [ZH,gh,Heap.keys,List.append_nil,List.map_cons,List.map_nil] at hnd
  obtain⟨⟨h1,h2,_⟩,⟨h3,_⟩,_⟩:=ndP_of hnd
  exact⟨⟨h1,h2,h3⟩,fun g e=>by cases e⟩
 |some g'=>
  simp only [ZH,gh,Heap.keys,List.cons_append,List.nil_append,List.map_cons,List.map_nil] at hnd
  obtain⟨⟨h1,h2,h4,_⟩,⟨h3,h5,_⟩,⟨h6,_⟩,_⟩:=ndP_of hnd
  refine⟨⟨h1,h2,h3⟩,fun g e=> ?_⟩
  injection e with e
  subst e
  exact⟨h4,h5,h6⟩
end Go.PN
namespace Go.Proofs.YtfcnbgmclfkfcaaGreat
open Go.AI Go.PN
attribute [local irreducible] aw Fa Fh DrK
abbrev ZHp (gT gU gM:Nat) (og:Option Nat) (ns:List DN) (mm:Mem3):Heap:=ZH 224 145 gT gU gM og ns mm
theorem ty_ks:KeyOk Tryz.prog 234 keyS:=keyS_ok (by kernel_rfl)
set_option maxRecDepth 100000 in
set_option maxHeartbeats 3200000 in
theorem zmake_fh (gT gU gM:Nat) (og:Option Nat) (ns:List DN) (mm:Mem3) (v lo hi:Int) (hog:og=none→ns.length=0) (hn:ns.length≤1000000000):
 Fh Tryz.prog 218 (ZHp gT gU gM og ns mm) [.c (.optr gT 0),.c (.int .i64 v),.c (.int .i64 lo),.c (.int .i64 hi)]
  (fun r h=>∃og',(og'=none→(mkZ ns v lo hi).1.length=0)∧r=.c (.int .i64 (mkZ ns v lo hi).2)∧h=ZHp gT gU gM og' (mkZ ns v lo hi).1 mm):=by
 refine fh_of_body Tryz.func218 rfl rfl (by simp [Tryz.ntmps218]) fun C hC=> ?_
 simp only [initS,Nat.reduceAdd]
 refine aw_nd fun hnd=> ?_
 obtain⟨d,d4⟩:=zh_ne hnd
 have hlen:=lenCV_gs (s:=3) hog
 unfold ZHp ZH
 simp only [List.cons_append,List.nil_append]
 repeat first|apply wa1|apply wa2|apply wa3|apply wa4|apply wa5 rfl|apply wa6|apply wa7|(refine wb1 rfl fun R r=>?_;simp only[go_sem,d,↓hlen];with_reducible show R (some _);with_reducible refine r _ _ ?_;clear r R)
 refine aw_cond (by simp only[go_sem,d,↓hlen]<;>rfl) (fun h1=> ?_) (fun h1=> ?_)
 ·have h1':hi=0:=eq_of_beq h1
  repeat first|apply wa1|apply wa2|apply wa3|apply wa4|apply wa5 rfl|apply wa6|apply wa7|(refine wb1 rfl fun R r=>?_;simp only[go_sem,d,↓hlen];with_reducible show R (some _);with_reducible refine r _ _ ?_;clear r R)
  (refine aw_rethq rfl fun R r=>?_;simp only[go_sem,d,↓hlen];refine r _ rfl ?_;clear r R)
  unfold mkZ
  rw [if_pos h1']
  exact⟨og,hog,rfl,rfl⟩
 have h1':¬hi=0:=by simpa using h1
 repeat first|apply wa1|apply wa2|apply wa3|apply wa4|apply wa5 rfl|apply wa6|apply wa7|(refine wb1 rfl fun R r=>?_;simp only[go_sem,d,↓hlen];with_reducible show R (some _);with_reducible refine r _ _ ?_;clear r R)
 refine aw_alloc rfl rfl rfl (by simp only[go_sem,d,↓hlen]<;>rfl) fun g9 hn_g9=> ?_
 replace hn_g9:=Heap.ne_of hn_g9
 first|dsimp only [Heap.ne,gh] at hn_g9|dsimp only [Heap.ne] at hn_g9|skip
 (try simp only[go_sem,d,↓hlen,hn_g9])
 repeat first|apply wa1|apply wa2|apply wa3|apply wa4|apply wa5 rfl|apply wa6|apply wa7|(refine wb1 rfl fun R r=>?_;simp only[go_sem,d,↓hlen,hn_g9];with_reducible show R (some _);with_reducible refine r _ _ ?_;clear r R)
 refine aw_store rfl rfl rfl rfl (by simp only[go_sem,d,↓hlen,hn_g9]<;>rfl) (by simp only[go_sem,d,↓hlen,hn_g9]<;>rfl) (by simp only[go_sem,d,↓hlen,hn_g9]<;>rfl) (by simp only[go_sem,d,↓hlen,hn_g9]<;>rfl) (fun _ e=>by cases e) (by rfl) (by rfl) (by first|omega|simp) rfl ?_
 (try simp only[go_sem,d,↓hlen,hn_g9])
 repeat first|apply wa1|apply wa2|apply wa3|apply wa4|apply wa5 rfl|apply wa6|apply wa7|(refine wb1 rfl fun R r=>?_;simp only[go_sem,d,↓hlen,hn_g9];with_reducible show R (some _);with_reducible refine r _ _ ?_;clear r R)
 refine aw_dr 11 ty_mixed (by kernel_rfl) ?_
 repeat first|apply wa1|apply wa2|apply wa3|apply wa4|apply wa5 rfl|apply wa6|apply wa7|(refine wb1 rfl fun R r=>?_;simp only[go_sem,d,↓hlen,hn_g9];with_reducible show R (some _);with_reducible refine r _ _ ?_;clear r R)|apply wa8|(refine wd1 rfl fun R r=>?_;simp only[go_sem,d,↓hlen,hn_g9];with_reducible show R (some _);with_reducible refine r _ _ ?_;clear r R)
 refine drk_lookup2 (a:=dk ⟨v,lo,hi⟩) (kv:=uqTo ns 0) (Kf:=dkV) (kt:=145) (et:=3) rfl rfl rfl (by kernel_rfl) dk_ok ty_iz (by simp only[go_sem,d,↓hlen,hn_g9]<;>rfl) (by simp only[go_sem,d,↓hlen,hn_g9]<;>rfl) (by simp only[go_sem,d,↓hlen,hn_g9]<;>rfl) dk_rep ?_
 (try simp only[go_sem,d,↓hlen,hn_g9])
 rw [uq_get]
 cases hf:findN ⟨v,lo,hi⟩ ns 0 with
 |some i=>
  try simp only [Option.map_some,Option.getD_some,Option.isSome_some,cstC]
  repeat first|apply wa1|apply wa2|apply wa3|apply wa4|apply wa5 rfl|apply wa6|apply wa7|(refine wb1 rfl fun R r=>?_;simp only[go_sem,d,↓hlen,hn_g9];with_reducible show R (some _);with_reducible refine r _ _ ?_;clear r R)|apply wa8|(refine wd1 rfl fun R r=>?_;simp only[go_sem,d,↓hlen,hn_g9];with_reducible show R (some _);with_reducible refine r _ _ ?_;clear r R)
  refine aw_condF (by simp only[go_sem,d,↓hlen,hn_g9]<;>rfl) ?_
  repeat first|apply wa1|apply wa2|apply wa3|apply wa4|apply wa5 rfl|apply wa6|apply wa7|(refine wb1 rfl fun R r=>?_;simp only[go_sem,d,↓hlen,hn_g9];with_reducible show R (some _);with_reducible refine r _ _ ?_;clear r R)|apply wa8|(refine wd1 rfl fun R r=>?_;simp only[go_sem,d,↓hlen,hn_g9];with_reducible show R (some _);with_reducible refine r _ _ ?_;clear r R)
  refine aw_keep [(8,.c (.int .i64 (2+i)))] (ZHp gT gU gM og ns mm) (by simp only[go_sem,d,↓hlen,hn_g9]<;>and_intros<;>first|exact True.intro|(with_reducible rfl)|exact c_int om|rfl) (List.Sublist.cons _ (List.Sublist.refl _)) ?_
  (refine aw_rethq rfl fun R r=>?_;simp only[go_sem,d,↓hlen,hn_g9];refine r _ rfl ?_;clear r R)
  unfold mkZ
  rw [if_neg h1',hf]
  exact⟨og,hog,rfl,rfl⟩
 |none=>
  try simp only [Option.map_none,Option.getD_none,Option.isSome_none,cstC]
  repeat first|apply wa1|apply wa2|apply wa3|apply wa4|apply wa5 rfl|apply wa6|apply wa7|(refine wb1 rfl fun R r=>?_;simp only[go_sem,d,↓hlen,hn_g9];with_reducible show R (some _);with_reducible refine r _ _ ?_;clear r R)|apply wa8|(refine wd1 rfl fun R r=>?_;simp only[go_sem,d,↓hlen,hn_g9];with_reducible show R (some _);with_reducible refine r _ _ ?_;clear r R)
  refine aw_condT (by simp only[go_sem,d,↓hlen,hn_g9]<;>rfl) ?_
  repeat first|apply wa1|apply wa2|apply wa3|apply wa4|apply wa5 rfl|apply wa6|apply wa7|(refine wb1 rfl fun R r=>?_;simp only[go_sem,d,↓hlen,hn_g9];with_reducible show R (some _);with_reducible refine r _ _ ?_;clear r R)
  refine aw_cut (fun g:Nat=>[(0,.c (.optr gT 0)),(9,.c (.optr g9 0)),(10,.c (.int .i64 (2+(ns.length:Int))))]) (fun g=>(g9,.cells 145 3 (ofL [.int .i64 v,.int .i64 lo,.int .i64 hi]))::(gT,.cells 224 3 (ofL [.osl g 3 0 (ns.length+1),.raw (.map (some gU)),.raw (.map (some gM))]))::(gU,.gen (MapI dkV (uqTo ns 0)))::(gM,.gen (MapI keyS (mmL mm)))::[(g,.cells 145 ((ns.length+1)*3) (dnsF (ns++[⟨v,lo,hi⟩])))]) (fun g=>g∉Heap.keys [(g9,.cells 0 0 (ofL [])),(gT,.cells 0 0 (ofL [])),(gU,.cells 0 0 (ofL [])),(gM,.cells 0 0 (ofL []))]) ?_ ?_
  ·refine aw_drL 7 0 36 ty_mixed (by kernel_rfl) ?_
   repeat (refine drg_2q rfl fun R r=>?_;simp only[go_sem,d,↓hlen,hn_g9];with_reducible show R (some _);with_reducible refine r _ _ ?_;clear r R)
   refine drg_new rfl (NewX.buildSlice (xs:=[.tmp 41]) (cells:=[.int .i64 v,.int .i64 lo,.int .i64 hi]) rfl rfl rfl (by simp only[go_sem,d,↓hlen,hn_g9]<;>rfl) (by(try simp only[go_sem,d,↓hlen,hn_g9]);rfl) rfl om om (by intro x hx;simp only [List.mem_singleton] at hx;subst hx;exact⟨rfl,rfl,rfl⟩) rfl (by simp [Op.operands])) (by kernel_rfl) ?_
   (try simp only[go_sem,d,↓hlen,hn_g9])
   refine drg_nil ⟨by simp,fun γ=> ?_,fun γ=> ?_⟩
   ·simp only [List.drop_succ_cons,List.drop_zero,List.take_succ_cons,List.take_zero,List.cons_append,List.nil_append]
    (try simp only[go_sem,d,↓hlen,hn_g9])
    try simp only [List.cons_append,List.nil_append]
    generalize γ 6=gt
    refine aw_push2 (e:=145) (size:=3) (bytes:=24) (n:=ns.length) (z:=[.int .i64 0,.int .i64 0,.int .i64 0]) (f:=dnsF ns) (pre:=[(g9,.cells 145 3 (ofL [.int .i64 v,.int .i64 lo,.int .i64 hi])),(gT,.cells 224 3 (ofL [gs og 3 ns.length,.raw (.map (some gU)),.raw (.map (some gM))])),(gU,.gen (MapI dkV (uqTo ns 0))),(gM,.gen (MapI keyS (mmL mm)))]) (f':=dnsF (ns++[⟨v,lo,hi⟩])) (v:=.agg [.int .i64 v,.int .i64 lo,.int .i64 hi]) rfl rfl rfl (by simp only[go_sem,d,↓hlen,hn_g9]<;>rfl) (by simp only[go_sem,d,↓hlen,hn_g9]<;>rfl) rfl om om (by simp only[go_sem,d,↓hlen,hn_g9]<;>rfl) (by simp only[go_sem,d,↓hlen,hn_g9]<;>rfl) hog (by rfl) (by rfl) (by simp only [List.cons_append,List.nil_append];rfl) (by unfold maxLen;omega) om (lf_push (xs:=ns) rfl (⟨v,lo,hi⟩:DN) om) fun g hn_g=> ?_
    (try simp only[go_sem,d,↓hlen,hn_g9])
    simp only [gs,gh,List.cons_append,List.nil_append]
    repeat first|apply wa7|(refine wb1 rfl fun R r=>?_;simp only[go_sem,d,↓hlen,hn_g9];with_reducible show R (some _);with_reducible refine r _ _ ?_;clear r R)|apply wa8|(refine wd1 rfl fun R r=>?_;simp only[go_sem,d,↓hlen,hn_g9];with_reducible show R (some _);with_reducible refine r _ _ ?_;clear r R)
    refine aw_store rfl rfl rfl rfl (by simp only[go_sem,d,↓hlen,hn_g9]<;>rfl) (by simp only[go_sem,d,↓hlen,hn_g9]<;>rfl) (by simp only[go_sem,d,↓hlen,hn_g9]<;>rfl) (by simp only[go_sem,d,↓hlen,hn_g9]<;>rfl) (fun _ e=>by cases e) (by rfl) (by rfl) (by first|omega|simp) rfl ?_
    (try simp only[go_sem,d,↓hlen,hn_g9])
    repeat first|apply wa7|(refine wb1 rfl fun R r=>?_;simp only[go_sem,d,↓hlen,hn_g9];with_reducible show R (some _);with_reducible refine r _ _ ?_;clear r R)
    exact aw_stop ⟨g,(by simp only[go_sem,d,↓hlen,hn_g9]<;>and_intros<;>first|exact True.intro|(with_reducible rfl)|exact c_int om|rfl),(List.Sublist.refl _),hn_g⟩
   ·simp only [List.drop_succ_cons,List.drop_zero,List.take_succ_cons,List.take_zero,List.cons_append,List.nil_append]
    (try simp only[go_sem,d,↓hlen,hn_g9])
    try simp only [List.cons_append,List.nil_append]
    generalize γ 6=gt
    refine aw_push2 (e:=145) (size:=3) (bytes:=24) (n:=ns.length) (z:=[.int .i64 0,.int .i64 0,.int .i64 0]) (f:=dnsF ns) (pre:=[(g9,.cells 145 3 (ofL [.int .i64 v,.int .i64 lo,.int .i64 hi])),(gT,.cells 224 3 (ofL [gs og 3 ns.length,.raw (.map (some gU)),.raw (.map (some gM))])),(gU,.gen (MapI dkV (uqTo ns 0))),(gM,.gen (MapI keyS (mmL mm)))]) (f':=dnsF (ns++[⟨v,lo,hi⟩])) (v:=.agg [.int .i64 v,.int .i64 lo,.int .i64 hi]) rfl rfl rfl (by simp only[go_sem,d,↓hlen,hn_g9]<;>rfl) (by simp only[go_sem,d,↓hlen,hn_g9]<;>rfl) rfl om om (by simp only[go_sem,d,↓hlen,hn_g9]<;>rfl) (by simp only[go_sem,d,↓hlen,hn_g9]<;>rfl) hog (by rfl) (by rfl) (by simp only [List.cons_append,List.nil_append];rfl) (by unfold maxLen;omega) om (lf_push (xs:=ns) rfl (⟨v,lo,hi⟩:DN) om) fun g hn_g=> ?_
    (try simp only[go_sem,d,↓hlen,hn_g9])
    simp only [gs,gh,List.cons_append,List.nil_append]
    repeat first|apply wa7|(refine wb1 rfl fun R r=>?_;simp only[go_sem,d,↓hlen,hn_g9];with_reducible show R (some _);with_reducible refine r _ _ ?_;clear r R)
    refine aw_store rfl rfl rfl rfl (by simp only[go_sem,d,↓hlen,hn_g9]<;>rfl) (by simp only[go_sem,d,↓hlen,hn_g9]<;>rfl) (by simp only[go_sem,d,↓hlen,hn_g9]<;>rfl) (by simp only[go_sem,d,↓hlen,hn_g9]<;>rfl) (fun _ e=>by cases e) (by rfl) (by rfl) (by first|omega|simp) rfl ?_
    (try simp only[go_sem,d,↓hlen,hn_g9])
    repeat first|apply wa7|(refine wb1 rfl fun R r=>?_;simp only[go_sem,d,↓hlen,hn_g9];with_reducible show R (some _);with_reducible refine r _ _ ?_;clear r R)
    exact aw_stop ⟨g,(by simp only[go_sem,d,↓hlen,hn_g9]<;>and_intros<;>first|exact True.intro|(with_reducible rfl)|exact c_int om|rfl),(List.Sublist.refl _),hn_g⟩
  rintro g hn_g
  replace hn_g:=Heap.ne_of hn_g
  dsimp only [Heap.ne] at hn_g
  repeat first|apply wa1|apply wa2|apply wa3|apply wa4|apply wa5 rfl|apply wa6|apply wa7|(refine wb1 rfl fun R r=>?_;simp only[go_sem,d,↓hlen,hn_g9,hn_g];with_reducible show R (some _);with_reducible refine r _ _ ?_;clear r R)
  refine aw_dr 6 ty_mixed (by kernel_rfl) ?_
  repeat first|apply wa1|apply wa2|apply wa3|apply wa4|apply wa5 rfl|apply wa6|apply wa7|(refine wb1 rfl fun R r=>?_;simp only[go_sem,d,↓hlen,hn_g9,hn_g];with_reducible show R (some _);with_reducible refine r _ _ ?_;clear r R)|apply wa8|(refine wd1 rfl fun R r=>?_;simp only[go_sem,d,↓hlen,hn_g9,hn_g];with_reducible show R (some _);with_reducible refine r _ _ ?_;clear r R)
  refine aw_mapNew (a:=dk ⟨v,lo,hi⟩) (kv:=uqTo ns 0) (Kf:=dkV) (v:=.int .i64 (2+(ns.length:Int))) rfl rfl rfl (kt:=145) (et:=3) (by kernel_rfl) dk_ok (by simp only[go_sem,d,↓hlen,hn_g9,hn_g]<;>rfl) (by simp only[go_sem,d,↓hlen,hn_g9,hn_g]<;>rfl) (by simp only[go_sem,d,↓hlen,hn_g9,hn_g]<;>rfl) dk_rep (cv:=.c (.int .i64 (2+(ns.length:Int)))) (by simp only[go_sem,d,↓hlen,hn_g9,hn_g]<;>rfl) (fun S w u h=>h) (by rw [uq_get,hf];rfl) (by simp only[go_sem,d,↓hlen,hn_g9,hn_g]<;>rfl) ?_
  have hup:=uq_push ⟨v,lo,hi⟩ ns 0
  rw [Nat.zero_add] at hup
  rw [←hup]
  (try simp only[go_sem,d,↓hlen,hn_g9,hn_g])
  repeat first|apply wa1|apply wa2|apply wa3|apply wa4|apply wa5 rfl|apply wa6|apply wa7|(refine wb1 rfl fun R r=>?_;simp only[go_sem,d,↓hlen,hn_g9,hn_g];with_reducible show R (some _);with_reducible refine r _ _ ?_;clear r R)|apply wa8|(refine wd1 rfl fun R r=>?_;simp only[go_sem,d,↓hlen,hn_g9,hn_g];with_reducible show R (some _);with_reducible refine r _ _ ?_;clear r R)
  refine aw_keep [(8,.c (.int .i64 (2+(ns.length:Int))))] (ZHp gT gU gM (some g) (ns++[⟨v,lo,hi⟩]) mm) (by simp only[go_sem,d,↓hlen,hn_g9,hn_g]<;>and_intros<;>first|exact True.intro|(with_reducible rfl)|exact c_int om|rfl) (by
   unfold ZHp ZH
   rw [List.length_append]
   exact List.Sublist.cons _ (List.Sublist.refl _)) ?_
  (refine aw_rethq rfl fun R r=>?_;simp only[go_sem,d,↓hlen,hn_g9,hn_g];refine r _ rfl ?_;clear r R)
  unfold mkZ
  rw [if_neg h1',hf]
  exact⟨some g,some_ne,rfl,rfl⟩
set_option maxRecDepth 100000 in
set_option maxHeartbeats 1600000 in
theorem zevent_fh (gT gU gM:Nat) (og:Option Nat) (ns:List DN) (mm:Mem3) (r:Int) (hog:og=none→ns.length=0) (hn:ns.length≤1000000000) (hr:RefOk ns r):
 Fh Tryz.prog 237 (ZHp gT gU gM og ns mm) [.c (.optr gT 0),.c (.int .i64 r)] (fun x h=>x=.c (.int .i64 (evZ 24 ns r))∧h=ZHp gT gU gM og ns mm):=by
 unfold RefOk at hr
 refine fh_of_body Tryz.func237 rfl rfl (by simp [Tryz.ntmps237]) fun C hC=> ?_
 simp only [initS,Nat.reduceAdd]
 refine xG ?_
 refine xF (fun h1=>?_) fun h1=>?_
 ·have h1':=of_decide_eq_true h1
  refine xGU ?_
  unfold evZ
  rw [if_pos h1']
  exact⟨rfl,rfl⟩
 have h1':=of_decide_eq_false h1
 refine aw_nd fun hnd=> ?_
 obtain⟨d,d4⟩:=zh_ne hnd
 obtain⟨g,rfl⟩:∃g,og=some g:=by
  cases og with
  |none=>have:=hog rfl;omega
  |some g=>exact⟨g,rfl⟩
 have q:=d4 g rfl
 have hi:(r-2).toNat<ns.length:=by omega
 unfold ZHp ZH
 simp only [gs,gh,List.cons_append,List.nil_append]
 refine yG (oj d q) ?_
 refine yU (oj d q) ?_
 unfold evZ
 rw [if_neg h1']
 exact⟨rfl,rfl⟩
set_option maxRecDepth 100000 in
set_option maxHeartbeats 1600000 in
theorem zkids_fh (gT gU gM:Nat) (og:Option Nat) (ns:List DN) (mm:Mem3) (r L:Int) (hog:og=none→ns.length=0) (hn:ns.length≤1000000000) (hr:RefOk ns r) (hL:L<24):
 Fh Tryz.prog 238 (ZHp gT gU gM og ns mm) [.c (.optr gT 0),.c (.int .i64 r),.c (.int .i64 L)] (fun x h=>x=.tup [.c (.int .i64 (kidsZ 24 ns r L).1),.c (.int .i64 (kidsZ 24 ns r L).2)]∧h=ZHp gT gU gM og ns mm):=by
 refine fh_of_body Tryz.func238 rfl rfl (by simp [Tryz.ntmps238]) fun C hC=> ?_
 simp only [initS,Nat.reduceAdd]
 refine xG ?_
 refine aw_callh (hr:=[]) (zevent_fh gT gU gM og ns mm r hog hn hr) rfl rfl rfl (by rw [List.append_nil]) eL ?_
 rintro _ _ ⟨rfl,rfl⟩ _
 rw [List.append_nil]
 refine xSG ?_
 refine xF (fun h1=>?_) fun h1=>?_
 ·refine xGU ?_
  unfold kidsZ
  rw [if_pos (by simpa using h1)]
  exact⟨rfl,rfl⟩
 have h1':evZ 24 ns r=L:=by simpa using h1
 have hr2:2≤r:=by
  refine Classical.byContradiction fun hc=> ?_
  rw [ev_leaf om] at h1'
  omega
 unfold RefOk at hr
 refine aw_nd fun hnd=> ?_
 obtain⟨d,d4⟩:=zh_ne hnd
 obtain⟨g,rfl⟩:∃g,og=some g:=by
  cases og with
  |none=>have:=hog rfl;omega
  |some g=>exact⟨g,rfl⟩
 have q:=d4 g rfl
 unfold ZHp ZH
 simp only [gs,gh,List.cons_append,List.nil_append]
 refine yG (oj d q) ?_
 refine yA (oj d q) fun g8 hn_g8=>?_
 have J1:=oj d (oj q hn_g8)
 refine yGWSG J1 ?_
 refine aw_dr 6 ty_mixed (by kernel_rfl) ?_
 refine yG J1 ?_
 refine aw_keep [(6,.c (.int .i64 (ns.getD (r-2).toNat dn0).lo)),(7,.c (.int .i64 (ns.getD (r-2).toNat dn0).hi))] (ZHp gT gU gM (some g) ns mm) (zB J1) (List.Sublist.cons _ (List.Sublist.refl _)) ?_
 refine yU J1 ?_
 unfold kidsZ
 rw [if_neg (by simpa using h1')]
 exact⟨rfl,rfl⟩
set_option maxRecDepth 100000 in
set_option maxHeartbeats 1600000 in
theorem zempty_fh (gT gU gM:Nat) (og:Option Nat) (ns:List DN) (mm:Mem3) (r:Int) {n:Nat} (hog:og=none→ns.length=0) (hn:ns.length≤1000000000) (ht:ZTab n ns) (hr:RefOk ns r):
 Fh Tryz.prog 235 (ZHp gT gU gM og ns mm) [.c (.optr gT 0),.c (.int .i64 r)] (fun x h=>x=.c (.bool (memZ ns r 0))∧h=ZHp gT gU gM og ns mm):=by
 refine fh_of_body Tryz.func235 rfl rfl (by simp [Tryz.ntmps235]) fun C hC=> ?_
 simp only [initS,Nat.reduceAdd]
 refine aw_nd fun hnd=> ?_
 obtain⟨d,d4⟩:=zh_ne hnd
 refine xG ?_
 refine aw_lp (fun x:Int=>[(0,.c (.optr gT 0)),(1,.c (.int .i64 x))]) (fun _=>ZHp gT gU gM og ns mm) (fun x=>RefOk ns x∧memZ ns x 0=memZ ns r 0) (fun x=>x.toNat) r eB zZ ⟨hr,rfl⟩ ?_
 rintro x ⟨hx,hm⟩
 refine xG ?_
 refine xF (fun h1=>?_) fun h1=>?_
 ·have h1':=of_decide_eq_true h1
  have hx':=hx
  unfold RefOk at hx'
  have hi:(x-2).toNat<ns.length:=by omega
  obtain⟨g,rfl⟩:∃g,og=some g:=by
   cases og with
   |none=>have:=hog rfl;omega
   |some g=>exact⟨g,rfl⟩
  have q:=d4 g rfl
  obtain⟨k1,k2⟩:=ht.kids hi
  obtain⟨_,_,l0,l1,_,_⟩:=(ht _ hi).nk
  unfold ZHp ZH
  simp only [gs,gh,List.cons_append,List.nil_append]
  refine yG (oj d q) ?_
  refine aw_stop ⟨(ns.getD (x-2).toNat dn0).lo,?_,(zB (oj d q)),zZ,k1,?_⟩
  ·omega
  ·rw [←hm,mem_step ht h1' hx]
   simp
 ·have h1':=of_decide_eq_false h1
  refine xGU ?_
  refine⟨?_,rfl⟩
  rw [←hm,mem_leaf om]
  simp
  try rfl
end Go.Proofs.YtfcnbgmclfkfcaaGreat
namespace Go.Proofs.YtfcnbgmclfkfcaaGreat
open Go.AI Go.PN
attribute [local irreducible] aw Fa Fh DrK
theorem th_ne {gT gU gM:Nat} {og:Option Nat} {o pl:List Int} {ns:List DN} {mm:Mem3} (hnd:(THp gT gU gM og o pl ns mm).keys.Nodup):(¬gT=gU∧¬gU=gT)∧(¬gT=gM∧¬gM=gT)∧(¬gU=gM∧¬gM=gU)∧∀g,og=some g→(¬gT=g∧¬g=gT)∧(¬gU=g∧¬g=gU)∧(¬gM=g∧¬g=gM):=by
 cases og with
 |none=>
  simp only [THp,TH,gh,Heap.keys,List.append_nil,List.map_cons,List.map_nil,List.nodup_cons,List.mem_cons,List.not_mem_nil,or_false,not_or,not_false_eq_true,List.nodup_nil,and_true] at hnd
  obtain⟨⟨h1,h2⟩,h3⟩:=hnd
  exact⟨⟨h1,fun e=>h1 e.symm⟩,⟨h2,fun e=>h2 e.symm⟩,⟨h3,fun e=>h3 e.symm⟩,fun g e=>by cases e⟩
 |some g'=>
  simp only [THp,TH,gh,Heap.keys,List.cons_append,List.nil_append,List.map_cons,List.map_nil,List.nodup_cons,List.mem_cons,List.not_mem_nil,or_false,not_or,not_false_eq_true,List.nodup_nil,and_true] at hnd
  obtain⟨⟨h1,h2,h4⟩,⟨h3,h5⟩,h6⟩:=hnd
  refine⟨⟨h1,fun e=>h1 e.symm⟩,⟨h2,fun e=>h2 e.symm⟩,⟨h3,fun e=>h3 e.symm⟩,fun g e=> ?_⟩
  injection e with e
  subst e
  exact⟨⟨h4,fun e=>h4 e.symm⟩,⟨h5,fun e=>h5 e.symm⟩,⟨h6,fun e=>h6 e.symm⟩⟩
def PlOk (o pl:List Int):Prop:=pl.length=o.length∧∀v:Nat,v<o.length→pl.getD v 0=placeZ o v
set_option maxRecDepth 100000 in
set_option maxHeartbeats 1600000 in
theorem level_fh (gT gU gM:Nat) (og:Option Nat) (o pl:List Int) (ns:List DN) (mm:Mem3) (r:Int) (hog:og=none→ns.length=0) (hn:ns.length≤1000000000) (ht:TabOk o ns) (hr:RefOk ns r) (hpl:PlOk o pl) (ho:o.length≤1000):
 Fh Tryz.prog 164 (THp gT gU gM og o pl ns mm) [.c (.optr gT 0),.c (.int .i64 r)] (fun x h=>x=.c (.int .i64 (lvZ o ns r))∧h=THp gT gU gM og o pl ns mm):=by
 unfold RefOk at hr
 refine fh_of_body Tryz.func164 rfl rfl (by simp [Tryz.ntmps164]) fun C hC=> ?_
 simp only [initS,Nat.reduceAdd]
 refine aw_nd fun hnd=> ?_
 obtain⟨d1,d2,d3,d4⟩:=th_ne hnd
 unfold THp TH
 simp only [List.cons_append,List.nil_append]
 have J1:=oj d1 (oj d2 d3)
 refine yG J1 ?_
 refine yF J1 (fun h1=>?_) fun h1=>?_
 ·have h1':=of_decide_eq_true h1
  refine yG J1 ?_
  refine yU J1 ?_
  unfold lvZ
  rw [if_pos h1']
  exact⟨rfl,rfl⟩
 have h1':=of_decide_eq_false h1
 obtain⟨g,rfl⟩:∃g,og=some g:=by
  cases og with
  |none=>have:=hog rfl;omega
  |some g=>exact⟨g,rfl⟩
 obtain⟨q1,q2,q3⟩:=d4 g rfl
 have hi:(r-2).toNat<ns.length:=by omega
 obtain⟨v0,v1,_,_,_,_⟩:=(ht _ hi).nk
 obtain⟨p1,p2⟩:=hpl
 have hv:=p2 (ns.getD (r-2).toNat dn0).v.toNat om
 rw [show(((ns.getD (r-2).toNat dn0).v.toNat:Nat):Int)=(ns.getD (r-2).toNat dn0).v from by omega] at hv
 simp only [gs,gh]
 have J2:=oj d1 (oj d2 (oj d3 (oj q1 (oj q2 (oj q3 hv)))))
 refine yG J2 ?_
 refine aw_dr 16 ty_mixed (by kernel_rfl) ?_
 refine yG J2 ?_
 refine yU J2 ?_
 unfold lvZ
 rw [if_neg h1']
 exact⟨rfl,rfl⟩
set_option maxRecDepth 100000 in
set_option maxHeartbeats 1600000 in
theorem kids_fh (gT gU gM:Nat) (og:Option Nat) (o pl:List Int) (ns:List DN) (mm:Mem3) (r L:Int) (hog:og=none→ns.length=0) (hn:ns.length≤1000000000) (ht:TabOk o ns) (hr:RefOk ns r) (hpl:PlOk o pl) (ho:o.length≤1000) (hL:L<o.length):
 Fh Tryz.prog 165 (THp gT gU gM og o pl ns mm) [.c (.optr gT 0),.c (.int .i64 r),.c (.int .i64 L)] (fun x h=>x=.tup [.c (.int .i64 (kidsF o ns r L).1),.c (.int .i64 (kidsF o ns r L).2)]∧h=THp gT gU gM og o pl ns mm):=by
 refine fh_of_body Tryz.func165 rfl rfl (by simp [Tryz.ntmps165]) fun C hC=> ?_
 simp only [initS,Nat.reduceAdd]
 refine xG ?_
 refine aw_callh (hr:=[]) (level_fh gT gU gM og o pl ns mm r hog hn ht hr hpl ho) rfl rfl rfl (by rw [List.append_nil]) eL ?_
 rintro _ _ ⟨rfl,rfl⟩ _
 rw [List.append_nil]
 refine xSG ?_
 refine xF (fun h1=>?_) fun h1=>?_
 ·refine xGU ?_
  unfold kidsF
  rw [if_pos (by simpa using h1)]
  exact⟨rfl,rfl⟩
 have h1':lvZ o ns r=L:=by simpa using h1
 have hr2:2≤r:=by
  refine Classical.byContradiction fun hc=> ?_
  unfold lvZ at h1'
  rw [if_pos om] at h1'
  omega
 unfold RefOk at hr
 refine aw_nd fun hnd=> ?_
 obtain⟨d1,d2,d3,d4⟩:=th_ne hnd
 obtain⟨g,rfl⟩:∃g,og=some g:=by
  cases og with
  |none=>have:=hog rfl;omega
  |some g=>exact⟨g,rfl⟩
 obtain⟨q1,q2,q3⟩:=d4 g rfl
 unfold THp TH
 simp only [gs,gh,List.cons_append,List.nil_append]
 have J1:=oj d1 (oj d2 (oj d3 (oj q1 (oj q2 q3))))
 refine yG J1 ?_
 refine yA J1 fun g8 hn_g8=>?_
 have J2:=oj d1 (oj d2 (oj d3 (oj q1 (oj q2 (oj q3 hn_g8)))))
 refine yGWSG J2 ?_
 refine aw_dr 6 ty_mixed (by kernel_rfl) ?_
 refine yG J2 ?_
 refine aw_keep [(6,.c (.int .i64 (ns.getD (r-2).toNat dn0).lo)),(7,.c (.int .i64 (ns.getD (r-2).toNat dn0).hi))] (THp gT gU gM (some g) o pl ns mm) (zB J2) (List.Sublist.cons _ (List.Sublist.refl _)) ?_
 refine yU J2 ?_
 unfold kidsF
 rw [if_neg (by simpa using h1')]
 exact⟨rfl,rfl⟩
set_option maxHeartbeats 800000 in
theorem event_fh (gT gU gM:Nat) (og:Option Nat) (o pl:List Int) (ns:List DN) (mm:Mem3) (v:Int) (hog:og=none→ns.length=0) (hn:ns.length≤1000000000):
 Fh Tryz.prog 62 (THp gT gU gM og o pl ns mm) [.c (.optr gT 0),.c (.int .i64 v)]
  (fun r h=>∃og',(og'=none→(mkF ns v 0 1).1.length=0)∧r=.c (.int .i64 (mkF ns v 0 1).2)∧h=THp gT gU gM og' o pl (mkF ns v 0 1).1 mm):=by
 refine fh_of_body Tryz.func62 rfl rfl (by simp [Tryz.ntmps62]) fun C hC=> ?_
 simp only [initS,Nat.reduceAdd]
 refine xG ?_
 refine aw_callh (hr:=[]) (make_fh gT gU gM og o pl ns mm v 0 1 hog hn) rfl rfl rfl (by rw [List.append_nil]) eL ?_
 rintro _ _ ⟨og',h1,rfl,rfl⟩ _
 rw [List.append_nil]
 refine xSGU ?_
 exact⟨og',h1,rfl,rfl⟩
end Go.Proofs.YtfcnbgmclfkfcaaGreat
namespace Go.Proofs.YtfcnbgmclfkfcaaGreat
open Go.AI Go.PN
attribute [local irreducible] aw Fa Fh DrK
theorem ty_k3:KeyOk Tryz.prog 187 key3:=by
 obtain⟨_,inf,hi,hsz,_⟩:=tElem_spec (show tElem Tryz.prog 52=some (3,1,8) from by kernel_rfl)
 exact key3_ok Tryz.underlying187 Tryz.underlying3 hi hsz
theorem key3_rep {c a b:Int}:∀(S:Bool→Nat→Prop) (w:World) (u:Value),Rep S w (.agg [.int .i64 c,.int .i64 a,.int .i64 b]) u→u=key3 (c,a,b):=by
 rintro S w u ⟨us,rfl,h⟩
 match us,h with
 |[x,y,z],⟨h1,h2,h3,_⟩=>
  have h1:x=_:=h1
  have h2:y=_:=h2
  have h3:z=_:=h3
  rw [h1,h2,h3];rfl
structure OdOk (o pl:List Int):Prop where
 perm:Perm0 o
 pl:PlOk o pl
 l24:o.length≤24
theorem OdOk.mem {o pl:List Int} (h:OdOk o pl):∀v:Int,0≤v→v<o.length→v∈o:=fun v h0 h1=>by
 have:=h.perm.all (j:=v.toNat) om
 rwa [show((v.toNat:Nat):Int)=v from by omega] at this
theorem OdOk.at {o pl:List Int} (h:OdOk o pl):∀i:Nat,i<o.length→0≤o.getD i 0∧o.getD i 0<o.length∧placeZ o (o.getD i 0)=i:=fun i hi=>by
 have:=h.perm.range (o.getD i 0) (by rw [getDZ hi];exact List.getElem_mem hi)
 exact⟨this.1,this.2,place_get h.perm.nodup hi⟩
def ChooseOk (gT gU gM:Nat) (o pl:List Int) (k:Nat):Prop:=∀(og:Option Nat) (ns:List DN) (mm:Mem3) (c a b:Int),(og=none→ns.length=0)→ns.length+2^k≤1000000000→TabOk o ns→MemOk o ns mm→RefOk ns c→RefOk ns a→RefOk ns b→o.length+1≤lv3 o ns (c,a,b)+k→
    Fh Tryz.prog 110 (THp gT gU gM og o pl ns mm) [.c (.optr gT 0),.c (.int .i64 c),.c (.int .i64 a),.c (.int .i64 b)]
     (fun x h=>∃og' ns' mm' r,(og'=none→ns'.length=0)∧ChP o ns mm c a b (lv3 o ns (c,a,b)) k ns' mm' r∧x=.c (.int .i64 r)∧h=THp gT gU gM og' o pl ns' mm')
theorem mmL_push (mm:Mem3) (k:Int×Int×Int) (r:Int):mmL mm++[(k,.int .i64 r)]=mmL (mm++[(k,r)]):=by simp [mmL]
set_option maxRecDepth 100000 in
set_option maxHeartbeats 6400000 in
theorem choose_ok (gT gU gM:Nat) (o pl:List Int) (ho:OdOk o pl):∀k,ChooseOk gT gU gM o pl k:=by
 intro k
 induction k with
 |zero=>
  intro og ns mm c a b _ _ _ _ _ _ _ hk
  have h1:=lv_le (o:=o) (ns:=ns) (r:=c)
  unfold lv3 at hk
  simp only at hk
  omega
 |succ k ih=>
  intro og ns mm c a b hog hn ht hm hc ha hb hk
  have l24:=ho.l24
  have lc:=lv_le (o:=o) (ns:=ns) (r:=c)
  have hp2:2^(k+1)=2^k+2^k:=by rw [Nat.pow_succ];omega
  have hp1:0<2^k:=Nat.pow_pos om
  have hL:lv3 o ns (c,a,b)≤lvZ o ns c∧lv3 o ns (c,a,b)≤lvZ o ns a∧lv3 o ns (c,a,b)≤lvZ o ns b:=by
   unfold lv3
   simp only
   omega
  have hlen:=lenCV_gs (s:=3) hog
  refine fh_of_body Tryz.func110 rfl rfl (by simp [Tryz.ntmps110]) fun C hC=> ?_
  simp only [initS,Nat.reduceAdd]
  refine xI ?_
  refine aw_cut (fun _:Unit=>[(0,.c (.optr gT 0)),(1,.c (.int .i64 c)),(2,.c (.int .i64 a)),(3,.c (.int .i64 b))]) (fun _=>THp gT gU gM og o pl ns mm) (fun _=>(¬c=1∧¬a=b)∧¬c=0∧¬(a=1∧b=0)) ?_ ?_
  ·refine xG ?_
   refine aw_split 25 eE (fun hb=> ?_) (fun hb=> ?_)<;>refine xS ?_
   ·refine xG ?_
    have hb':c=1:=by simpa using hb
    refine xP ?_
    refine xGU ?_
    exact⟨og,ns,mm,a,hog,ChP.same ht hm ha hL.2.1 (fun s=>by rw [hb',evalD_leaf (r:=1) om];rfl),rfl,rfl⟩
   ·have h1:¬c=1:=by simpa using hb
    refine xG ?_
    refine xF (fun h2=>?_) fun h2=>?_
    ·have h2':a=b:=by simpa using h2
     refine xGU ?_
     exact⟨og,ns,mm,a,hog,ChP.same ht hm ha hL.2.1 (fun s=>by rw [h2'];split<;>rfl),rfl,rfl⟩
    ·have h2':¬a=b:=by simpa using h2
     refine xG ?_
     refine xF (fun h3=>?_) fun h3=>?_
     ·have h3':c=0:=by simpa using h3
      refine xGU ?_
      exact⟨og,ns,mm,b,hog,ChP.same ht hm ‹RefOk ns b› hL.2.2 (fun s=>by rw [h3',evalD_leaf (r:=0) om];rfl),rfl,rfl⟩
     ·have h3':¬c=0:=by simpa using h3
      refine xG ?_
      refine aw_split 38 eE (fun h4=> ?_) (fun h4=> ?_)<;>refine xS ?_
      ·have h4':a=1:=by simpa using h4
       refine xG ?_
       refine xF (fun h5=>?_) fun h5=>?_
       ·have h5':b=0:=by simpa using h5
        refine xGU ?_
        exact⟨og,ns,mm,c,hog,ChP.same ht hm hc hL.1 (fun s=>by rw [h4',h5',evalD_leaf (r:=1) om,evalD_leaf (r:=0) om];cases evalD ns s c<;>rfl),rfl,rfl⟩
       ·have h5':¬b=0:=by simpa using h5
        refine xG ?_
        exact aw_stop ⟨(),eB,zZ,⟨h1,h2'⟩,h3',fun x=>h5' x.2⟩
      ·have h4':¬a=1:=by simpa using h4
       refine xG ?_
       refine xN ?_
       refine xG ?_
       exact aw_stop ⟨(),eB,zZ,⟨h1,h2'⟩,h3',fun x=>h4' x.1⟩
  rintro _ ⟨⟨n1,n2⟩,n3,n4⟩
  have hc2:2≤c:=by unfold RefOk at hc;omega
  have hclt:=lv_lt ht hc hc2
  have g0:=lv3_nonneg ho.mem ht hc
  have g1:=lv3_nonneg ho.mem ht ha
  have g2:=lv3_nonneg ho.mem ht hb
  obtain⟨L,hLe⟩:∃L,lv3 o ns (c,a,b)=L:=⟨_,rfl⟩
  rw [hLe] at hL hk⊢
  have hL0:0≤L:=by rw [←hLe];unfold lv3;simp only;omega
  refine aw_nd fun hnd=> ?_
  obtain⟨d1,d2,d3,d4⟩:=th_ne hnd
  unfold THp TH
  simp only [List.cons_append,List.nil_append]
  have J1:=oj d1 (oj d2 d3)
  refine yG J1 ?_
  refine aw_pure rfl (buildArr_ok Tryz.underlying187 (el:=3) (n:=3) (s:=1) (ag:=false) (z:=[.int .i64 0,.int .i64 0,.int .i64 0]) (out:=[.int .i64 c,.int .i64 a,.int .i64 b]) (by kernel_rfl) (by kernel_rfl) (by rfl) (by decide) (by rfl)) rfl rfl ?_
  refine ySG J1 ?_
  refine yA J1 fun g9 hn_g9=>?_
  have J2:=oj d1 (oj d2 (oj d3 hn_g9))
  refine yGWSG J2 ?_
  refine aw_dr 11 ty_mixed (by kernel_rfl) ?_
  refine yG J2 ?_
  refine drk_lookup2 (a:=(c,a,b)) (kv:=mmL mm) (Kf:=key3) (kt:=187) (et:=3) rfl rfl rfl (by kernel_rfl) ty_k3 ty_iz (zE J2) (zE J2) (zE J2) key3_rep ?_
  refine yS J2 ?_
  rw [mm_get]
  cases hf:memGet (c,a,b) mm with
  |some r=>
   try simp only [Option.map_some,Option.getD_some,Option.isSome_some,cstC]
   refine yGPG J2 ?_
   refine aw_keep [(8,.c (.int .i64 r))] (THp gT gU gM og o pl ns mm) (zB J2) (List.Sublist.cons _ (List.Sublist.refl _)) ?_
   refine yU J2 ?_
   have me:=hm _ (mem_mem hf)
   exact⟨og,ns,mm,r,hog,ChP.same ht hm me.r (by rw [←hLe];exact me.lv) me.sem,rfl,rfl⟩
  |none=>
   try simp only [Option.map_none,Option.getD_none,Option.isSome_none,cstC]
   refine yGNG J2 ?_
   refine aw_callh (hc:=THp gT gU gM og o pl ns mm) (hr:=[(g9,.cells 187 3 (ofL [.int .i64 c,.int .i64 a,.int .i64 b]))]) (level_fh gT gU gM og o pl ns mm c hog om ht hc ho.pl om) rfl rfl rfl (List.perm_append_singleton _ _).symm (zL J2) ?_
   rintro _ _ ⟨rfl,rfl⟩ _
   refine ySG J2 ?_
   refine aw_callh (level_fh gT gU gM og o pl ns mm a hog om ht ha ho.pl om) rfl rfl rfl (.refl _) (zL J2) ?_
   rintro _ _ ⟨rfl,rfl⟩ _
   refine ySG J2 ?_
   refine aw_callh (level_fh gT gU gM og o pl ns mm b hog om ht hb ho.pl om) rfl rfl rfl (.refl _) (zL J2) ?_
   rintro _ _ ⟨rfl,rfl⟩ _
   refine yS J2 ?_
   refine aw_min3 (a:=lvZ o ns c) (b:=lvZ o ns a) (c:=lvZ o ns b) rfl rfl rfl (zE J2) (zE J2) (zE J2) ?_
   have hmin:min (lvZ o ns c) (min (lvZ o ns a) (lvZ o ns b))=L:=hLe
   rw [hmin]
   refine ySG J2 ?_
   refine aw_callh (kids_fh gT gU gM og o pl ns mm c L hog om ht hc ho.pl om om) rfl rfl rfl (.refl _) (zL J2) ?_
   rintro _ _ ⟨rfl,rfl⟩ _
   refine ySG J2 ?_
   refine aw_callh (kids_fh gT gU gM og o pl ns mm a L hog om ht ha ho.pl om om) rfl rfl rfl (.refl _) (zL J2) ?_
   rintro _ _ ⟨rfl,rfl⟩ _
   refine ySG J2 ?_
   refine aw_callh (kids_fh gT gU gM og o pl ns mm b L hog om ht hb ho.pl om om) rfl rfl rfl (.refl _) (zL J2) ?_
   rintro _ _ ⟨rfl,rfl⟩ _
   refine ySG J2 ?_
   obtain⟨c0,c1,c2,c3,_⟩:=kids_ok ht ho.mem hc hL0 om hL.1
   obtain⟨a0,a1,a2,a3,_⟩:=kids_ok ht ho.mem ha hL0 om hL.2.1
   obtain⟨b0,b1,b2,b3,_⟩:=kids_ok ht ho.mem hb hL0 om hL.2.2
   have q0:L+1≤lv3 o ns ((kidsF o ns c L).1,(kidsF o ns a L).1,(kidsF o ns b L).1):=by unfold lv3;simp only;omega
   have q1:L+1≤lv3 o ns ((kidsF o ns c L).2,(kidsF o ns a L).2,(kidsF o ns b L).2):=by unfold lv3;simp only;omega
   refine aw_callh (ih og ns mm _ _ _ hog om ht hm c0 a0 b0 om) rfl rfl rfl (.refl _) (zL J2) ?_
   rintro _ _ ⟨og1,ns1,mm1,lo,hog1,p1,rfl,rfl⟩ _
   refine ySG J2 ?_
   have w1:=p1.lat.len
   have hk2:lv3 o ns1 ((kidsF o ns c L).2,(kidsF o ns a L).2,(kidsF o ns b L).2)=lv3 o ns ((kidsF o ns c L).2,(kidsF o ns a L).2,(kidsF o ns b L).2):=p1.lat.lv3 c1 a1 b1
   refine aw_callh (ih og1 ns1 mm1 _ _ _ hog1 om p1.lat.tab p1.mem (p1.lat.ref c1) (p1.lat.ref a1) (p1.lat.ref b1) om) rfl rfl rfl (.refl _) (zL J2) ?_
   rintro _ _ ⟨og2,ns2,mm2,hi,hog2,p2,rfl,rfl⟩ _
   have w2:=p2.lat.len
   rw [hk2] at p2
   have st:=ChP.step ho.mem ho.at ht hc ha hb hL0 om hLe (p1.mono q0) (p2.mono q1)
   have habs:∀e∈mm2,e.1≠(c,a,b):=by
    intro e he ec
    have hl12:∀{n},Later o ns ns1 n→lv3 o ns1 (c,a,b)=L:=fun h=>by rw [h.lv3 (k:=(c,a,b)) hc ha hb];exact hLe
    rcases p2.mnew e he with h|h
    ·rcases p1.mnew e h with h'|h'
     ·exact mem_none hf e h' ec
     ·rw [ec,hl12 p1.lat] at h'
      omega
    ·rw [ec,p2.lat.lv3 (k:=(c,a,b)) (p1.lat.ref hc) (p1.lat.ref ha) (p1.lat.ref hb),hl12 p1.lat] at h
     omega
   refine yS J2 ?_
   refine aw_perm (List.perm_append_singleton _ _) ?_
   refine aw_nd fun hnd2=> ?_
   have hnd3:=(List.nodup_cons.1 hnd2).2
   obtain⟨e1,e2,e3,e4⟩:=th_ne hnd3
   have e9:=(List.nodup_cons.1 hnd2).1
   replace e9:=Heap.ne_of e9
   have hlen2:=lenCV_gs (s:=3) hog2
   unfold THp TH at e9⊢
   simp only [List.cons_append,List.nil_append] at e9⊢
   dsimp only [Heap.ne,gh] at e9
   have J3:=oj d1 (oj d2 (oj d3 (oj hn_g9 e9)))
   refine yG J3 ?_
   refine aw_callh (hc:=THp gT gU gM og2 o pl ns2 mm2) (hr:=[(g9,.cells 187 3 (ofL [.int .i64 c,.int .i64 a,.int .i64 b]))]) (make_fh gT gU gM og2 o pl ns2 mm2 (o.getD L.toNat 0) lo hi hog2 om) rfl rfl rfl (List.perm_append_singleton _ _).symm (zL J3) ?_
   rintro _ _ ⟨og3,hog3,rfl,rfl⟩ _
   refine yS J3 ?_
   refine aw_perm (List.perm_append_singleton _ _) ?_
   unfold THp TH
   simp only [List.cons_append,List.nil_append]
   refine yG J3 ?_
   refine aw_dr 6 ty_mixed (by kernel_rfl) ?_
   refine yG J3 ?_
   refine aw_mapNew (a:=(c,a,b)) (kv:=mmL mm2) (Kf:=key3) (v:=.int .i64 (mkF ns2 (o.getD L.toNat 0) lo hi).2) rfl rfl rfl (kt:=187) (et:=3) (by kernel_rfl) ty_k3 (zE J3) (zE J3) (zE J3) key3_rep (cv:=.c (.int .i64 (mkF ns2 (o.getD L.toNat 0) lo hi).2)) (zE J3) (fun S w u h=>h) (by rw [mm_get,mem_none' habs];rfl) (zE J3) ?_
   rw [mmL_push]
   refine ySG J3 ?_
   refine aw_keep [(8,.c (.int .i64 (mkF ns2 (o.getD L.toNat 0) lo hi).2))] (THp gT gU gM og3 o pl (mkF ns2 (o.getD L.toNat 0) lo hi).1 (mm2++[((c,a,b),(mkF ns2 (o.getD L.toNat 0) lo hi).2)])) (zB J3) (List.Sublist.cons _ (List.Sublist.refl _)) ?_
   refine yU J3 ?_
   exact⟨og3,_,_,_,hog3,st,rfl,rfl⟩
structure TS (o:List Int) (og:Option Nat) (ns:List DN) (mm:Mem3):Prop where
 og:og=none→ns.length=0
 tab:TabOk o ns
 mem:MemOk o ns mm
def OpQ (gT gU gM:Nat) (o pl:List Int) (ns:List DN) (n:Nat) (f:Nat→Bool) (x:AV) (h:Heap):Prop:=∃og' ns' mm' r,TS o og' ns' mm'∧Later o ns ns' n∧RefOk ns' r∧(∀s,evalD ns' s r=f s)∧x=.c (.int .i64 r)∧h=THp gT gU gM og' o pl ns' mm'
theorem choose_fh (gT gU gM:Nat) {o pl:List Int} (ho:OdOk o pl) {og:Option Nat} {ns:List DN} {mm:Mem3} (hs:TS o og ns mm) (hn:ns.length+2^(o.length+1)≤1000000000) {c a b:Int} (hc:RefOk ns c) (ha:RefOk ns a) (hb:RefOk ns b):
 Fh Tryz.prog 110 (THp gT gU gM og o pl ns mm) [.c (.optr gT 0),.c (.int .i64 c),.c (.int .i64 a),.c (.int .i64 b)] (OpQ gT gU gM o pl ns (2^(o.length+1)-1) fun s=>if evalD ns s c then evalD ns s a else evalD ns s b):=by
 have h1:=lv3_nonneg ho.mem hs.tab hc
 have h2:=lv3_nonneg ho.mem hs.tab ha
 have h3:=lv3_nonneg ho.mem hs.tab hb
 have:=choose_ok gT gU gM o pl ho (o.length+1) og ns mm c a b hs.og hn hs.tab hs.mem hc ha hb (by unfold lv3;simp only;omega)
 refine this.mono ?_
 rintro x h ⟨og',ns',mm',r,e1,p,e2,e3⟩
 exact⟨og',ns',mm',r,⟨e1,p.lat.tab,p.mem⟩,p.lat,p.ref,p.sem,e2,e3⟩
end Go.Proofs.YtfcnbgmclfkfcaaGreat
