/- Parts of one proof, laid by a program. -/
import Derived.Test.YtjegkdadeghpjaaGreatDoorW00
import Derived.Test.YtjegkdadeghpjaaGreatDoorW04
set_option linter.unusedSimpArgs false
set_option linter.unusedVariables false
set_option maxRecDepth 100000
set_option maxHeartbeats 12800000
namespace Go.PN
theorem HH (k:Nat):((10^k:Nat):Rat)≠0:=by
 have h:(10^k:Nat)≠0:=Nat.pos_iff_ne_zero.1 (Nat.pow_pos Af)
 intro e
 exact h (by exact_mod_cast e)
end Go.PN
namespace Go.Proofs.YtjegkdadeghpjaaGreatDoor
open Go.AI Go.PN Proofs.Tryz
attribute [local irreducible] aw Fa VA Vk Fh YO
theorem F1 (s:BS) (b:UInt8):Fa prog 389 [.c (.str (sB s)),.c (.str (sB [b]))] (.c (.int .i64 (Lib.indexByte s b))):=by
 have h:=MX s b.toNat
 rw [show b.toNat.toUInt8=b from UInt8.ofNat_toNat] at h
 refine fA func389 fun C hC=>?_
 repeat' first|refine zV o0 ?_|refine yQ o0 h ?_|refine zH o0 ?_ ?_<;>intro hb|fail
 ·refine xT hC ?_
  have hs:=hb
  subst hs
  refine .one (.c (Qn ?_))
  unfold Lib.indexByte;simp
 ·refine xT hC ?_
  exact .one (.c (.int _ _))
theorem MB (s:BS) (b:UInt8) (hl:s.length≤1099511627776) (h:XH b s<s.length):Fa prog 366 [.c (.str (sB s)),.c (.str (sB [b]))] (.aF [.c (.str (sB (s.take (XH b s)))),.c (.str (sB (s.drop (XH b s+1)))),.c (.bool true)]):=by
 have h1:=F1 s b
 rw [Cn,iP h] at h1
 have h2:Fa prog 382 [.c (.str (sB s)),.c (.str (sB [b]))] (.aF [.c (.str (sB (s.take (XH b s)))),.c (.str (sB (s.drop (XH b s+1)))),.c (.bool true)]):=by
  generalize XH b s=e at*
  refine fA func382 fun C hC=>?_
  refine Zg o0 h1 ?_
  refine Xl 12 Qg kR ?_
  refine zA o0 ?_
  refine xT hC ?_
  refine .aF ⟨.c ?_,.c ?_,.c (.bool _),trivial⟩
  ·rw [QmS];exact .str _
  ·rw [VG];exact .str _
 refine fA func366 fun C hC=>?_
 refine Zg o0 h2 ?_
 refine xT hC ?_
 exact .aF ⟨.c (.str _),.c (.str _),.c (.bool _),trivial⟩
theorem MC (s:BS) (b:UInt8) (hl:s.length≤1099511627776) (h:XH b s=s.length):Fa prog 366 [.c (.str (sB s)),.c (.str (sB [b]))] (.aF [.c (.str (sB s)),.c (.str (sB [])),.c (.bool false)]):=by
 have h1:=F1 s b
 rw [Cn,iN om] at h1
 have h2:Fa prog 382 [.c (.str (sB s)),.c (.str (sB [b]))] (.aF [.c (.str (sB s)),.c (.str (sB [])),.c (.bool false)]):=by
  refine fA func382 fun C hC=>?_
  refine Zg o0 h1 ?_
  refine xT hC ?_
  exact .aF ⟨.c (.str _),.c (.str _),.c (.bool _),trivial⟩
 refine fA func366 fun C hC=>?_
 refine Zg o0 h2 ?_
 refine xT hC ?_
 exact .aF ⟨.c (.str _),.c (.str _),.c (.bool _),trivial⟩
theorem QmT (s:BS) (hl:s.length≤1099511627776):Fa prog 341 [.c (.str (sB s))] (.aF [.agg (YS (O2 s)),.c (Z7 (OC s))]):=by
 by_cases lC:s.length>100
 ·have d1:decide (s.length>100)=true:=Dt lC
  have hc:OC s=4:=by unfold OC;rw [iP lC]
  have hr:O2 s=aW:=by unfold O2;rw [hc];rfl
  rw [hc,hr]
  refine fA func341 fun C hC=>?_
  refine zA o0 ?_
  refine xA fun g2 aq=>?_
  refine zA (oj aq d1) ?_
  refine yT hC (oj aq d1) ?_
  exact .aF ⟨.agg ⟨.bool _,.ab,.ab,trivial⟩,.c (Uy rfl Af),trivial⟩
 have d1:decide (s.length>100)=false:=De lC
 have hw:=Cm s 0 hl (Lz _)
 cases hn:qB s with
 |false=>
  have hc:OC s=2:=by unfold OC;rw [iN lC,iP hn]
  have hr:O2 s=aW:=by unfold O2;rw [hc];rfl
  rw [hc,hr]
  refine fA func341 fun C hC=>?_
  refine zA o0 ?_
  refine xA fun g2 aq=>?_
  all_goals try(have Z:=(oj aq d1);(repeat' first|refine zV Z ?_|refine yQ Z (JK _) ?_|refine yQ Z hw ?_|refine zH Z ?_ ?_<;>intro hb|fail);all_goals clear Z)
  all_goals first
   |(exfalso
     unfold qB at hn
     simp_all
     done)
   |(refine yT hC (oj aq d1) ?_
     exact .aF ⟨.agg ⟨.bool _,.ab,.ab,trivial⟩,.c (Uy rfl Af),trivial⟩)
 |true=>
  obtain⟨hf,h0⟩:=HF hn
  have cb:=hn
  unfold qB at cb
  simp only [Ba,Dq,beq_iff_eq] at cb
  have f0:(s.length==0)=false:=by simpa using (show s.length≠0 from by omega)
  have f1:QE (XE s 0)=true:=cb.1.2
  have f2:(Va s 0 !=s.length)=false:=by simpa using cb.2
  have lG:OC s=if XH 47 s<s.length∧Yk (s.drop (XH 47 s+1))=0 then 8 else 0:=by unfold OC;rw [iN lC,iN (by rw [hn];decide)]
  have hA:∀t:BS,t.length≤s.length→(rd (Yk t:Rat)).wf 1073741824∨True:=fun _ _=>.inr trivial
  by_cases cq:XH 47 s<s.length
  ·obtain⟨e,he,he1,zo,lH⟩:∃e,XH 47 s=e∧e+1<s.length∧(∀i,i<e→QE (XE s i)=true)∧(∀i,e<i→i<s.length→QE (XE s i)=true):=by
    cases hf with
    |all h=>have:=(ya h).1;omega
    |two e he hm h1 h2=>
     rcases hm with hm|hm
     ·have:=(wC he hm h1 h2).1;omega
     ·exact⟨e,wB he hm h1,he,h1,h2⟩
   have iW:=MB s 47 hl cq
   rw [he] at iW lG cq
   have ha:=AG (s.take e) (WX zo) (by rw [List.length_take];omega)
   have hb:=AG (s.drop (e+1)) (WY lH) (by rw [List.length_drop];omega)
   have wa:(rd (Yk (s.take e):Rat)).wf 1073741824:=JH (Yp (by have:=K4 (s:=s.take e) (WX zo) (Ac _);rwa [Lk] at this) (by rw [List.length_take];omega))
   have wb:(rd (Yk (s.drop (e+1)):Rat)).wf 1073741824:=JH (Yp (by have:=K4 (s:=s.drop (e+1)) (WY lH) (Ac _);rwa [Lk] at this) (by rw [List.length_drop];omega))
   by_cases hz:Yk (s.drop (e+1))=0
   ·rw [iP ⟨cq,hz⟩] at lG
    have hr:O2 s=aW:=by unfold O2;rw [lG];rfl
    have hd:=QmR _ _ wa wb (by rw [Wv,hz];rfl)
    rw [lG,hr]
    refine fA func341 fun C hC=>?_
    refine zA o0 ?_
    refine xA fun g2 aq=>?_
    all_goals try(have Z:=(oj aq (oj d1 (oj f0 (oj f1 f2))));(repeat' first|refine zV Z ?_|refine yQ Z (JK _) ?_|refine yQ Z hw ?_|refine yQ Z iW ?_|refine yQ Z ha ?_|refine yQ Z hb ?_|refine yQ Z hd ?_|refine zH Z ?_ ?_<;>intro hb|fail);all_goals clear Z)
    refine yT hC (oj aq (oj d1 (oj f0 (oj f1 f2)))) ?_
    exact .aF ⟨.agg JI,.c ZT,trivial⟩
   ·rw [iN (fun h=>hz h.2)] at lG
    have hr:O2 s=rd (oo s):=by unfold O2;rw [iP lG]
    have hq:oo s=(Yk (s.take e):Rat)/(Yk (s.drop (e+1)):Rat):=by unfold oo;rw [he,iP cq]
    have hd:=Mx _ _ wa wb (by rw [Wv];simpa using hz)
    rw [Wv,Wv,←hq,←hr] at hd
    rw [lG]
    refine fA func341 fun C hC=>?_
    refine zA o0 ?_
    refine xA fun g2 aq=>?_
    all_goals try(have Z:=(oj aq (oj d1 (oj f0 (oj f1 f2))));(repeat' first|refine zV Z ?_|refine yQ Z (JK _) ?_|refine yQ Z hw ?_|refine yQ Z iW ?_|refine yQ Z ha ?_|refine yQ Z hb ?_|refine yQ Z hd ?_|refine zH Z ?_ ?_<;>intro hb|fail);all_goals clear Z)
    refine yT hC (oj aq (oj d1 (oj f0 (oj f1 f2)))) ?_
    exact .aF ⟨.agg JI,.c (ZF rfl),trivial⟩
  ·have vi:=MC s 47 hl (by have:=Mz 47 s;omega)
   obtain⟨D5,D6,iW⟩:(∀i,i<(s.take (XH 46 s)).length→QE (XE (s.take (XH 46 s)) i)=true)∧(∀i,i<(s.drop (XH 46 s+1)).length→QE (XE (s.drop (XH 46 s+1)) i)=true)∧∃b,Fa prog 366 [.c (.str (sB s)),.c (.str (sB [46]))] (.aF [.c (.str (sB (s.take (XH 46 s)))),.c (.str (sB (s.drop (XH 46 s+1)))),.c (.bool b)]):=by
    cases hf with
    |all h=>
     have h2:=(ya h).2
     have:=MC s 46 hl h2
     rw [h2,Lk,List.drop_of_length_le om]
     exact⟨h,fun i hi=>absurd hi (by simp),_,this⟩
    |two e he hm h1 h2=>
     rcases hm with hm|hm
     ·have h3:=(wC he hm h1 h2).2
      have:=MB s 46 hl om
      rw [h3] at this⊢
      exact⟨WX h1,WY h2,_,this⟩
     ·have:=wB he hm h1;omega
   obtain⟨bx,iW⟩:=iW
   rw [iN (fun h=>cq h.1)] at lG
   have hr:O2 s=rd (oo s):=by unfold O2;rw [iP lG]
   have hq:oo s=(Yk (s.take (XH 46 s)++s.drop (XH 46 s+1)):Rat)/((10^(s.drop (XH 46 s+1)).length:Nat):Rat):=by unfold oo;rw [iN cq]
   have ia:(s.take (XH 46 s)).length≤100:=by rw [List.length_take];omega
   have iI:(s.drop (XH 46 s+1)).length≤100:=by rw [List.length_drop];omega
   generalize s.take (XH 46 s)=a at*
   generalize s.drop (XH 46 s+1)=b at*
   have lE:∀i,i<(a++b).length→QE (XE (a++b) i)=true:=fun i hi=>by
    by_cases h:i<a.length
    ·have:=D5 i h
     unfold XE at this⊢
     rw [Lg] at this⊢
     rwa [List.getElem?_append_left h]
    ·have:=D6 (i-a.length) (by rw [La] at hi;omega)
     unfold XE at this⊢
     rw [Lg] at this⊢
     rwa [List.getElem?_append_right om]
   have cZ:=AG (a++b) lE (by rw [La];omega)
   have fab:fits (Yk (a++b):Rat) ((a++b).length+1):=by have:=K4 (s:=a++b) lE (Ac _);rwa [Lk] at this
   have wab:(rd (Yk (a++b):Rat)).wf 1073741824:=JH (Yp fab (by rw [La];omega))
   have f10:∀k,k≤100→fits ((10^k:Nat):Rat) (k+1):=fun k _=>Bv (Bw k) om
   have RU:∀k,k≤100→(rd ((10^k:Nat):Rat)).wf 1073741824:=fun k hk=>JH (Yp (f10 k hk) om)
   have h1:=uq 1 om om
   have q9:=uq 10 om om
   have hd:=Mx _ _ wab (RU b.length iI) (by rw [Wv];exact HH _)
   rw [Wv,Wv,←hq,←hr] at hd
   rw [lG]
   refine fA func341 fun C hC=>?_
   refine zA o0 ?_
   refine xA fun g2 aq=>?_
   all_goals try(have Z:=(oj aq (oj d1 (oj f0 (oj f1 f2))));(repeat' first|refine zV Z ?_|refine yQ Z (JK _) ?_|refine yQ Z hw ?_|refine yQ Z vi ?_|refine yQ Z iW ?_|refine yQ Z h1 ?_|refine zH Z ?_ ?_<;>intro hb|fail);all_goals clear Z)
   refine yA (oj aq (oj d1 (oj f0 (oj f1 f2)))) fun g10 bk=>?_
   refine zA (oj aq (oj d1 (oj f0 (oj f1 (oj f2 bk))))) ?_
   refine Qh (fun x:Nat=>[(0,.c (.str (sB s))),(2,.c (.aj g2 0)),(3,.c .aN),(7,.c (.str (sB a))),(8,.c (.str (sB b))),(10,.c (.aj g10 0)),(56,.c (.int .i64 b.length)),(57,.c (.int .i64 x))]) (fun x=>[(g10,.cells 69 3 (ao (YS (rd ((10^x:Nat):Rat))))),(g2,.cells 69 3 (ao [.bool false,.ab,.ab]))]) (fun x=>x≤b.length) (fun x=>b.length-x) 0 (zB (oj aq (oj d1 (oj f0 (oj f1 (oj f2 bk)))))) (by rw [show((10^0:Nat):Rat)=((1:Int):Rat) from by simp];exact Lr _) (Lz _) ?_
   rintro x hx
   all_goals try(have Z:=(oj aq (oj d1 (oj f0 (oj f1 (oj f2 bk)))));(repeat' first|refine zV Z ?_|refine zH Z ?_ ?_<;>intro hb|fail);all_goals clear Z)
   ·have hm:=IT _ _ (RU x om) (show(rd ((10:Int):Rat)).wf 1073741824 from JH (Yp (NQ Af) om))
    rw [Wv,Wv,show((10^x:Nat):Rat)*((10:Int):Rat)=((10^(x+1):Nat):Rat) from by rw [Nat.pow_succ];push_cast;rfl] at hm
    refine Xl 3 Qg kR ?_
    refine mv (oj aq (oj d1 (oj f0 (oj f1 (oj f2 bk))))) q9 hm ?_
    exact Qb ⟨x+1,by omega,(zB (oj aq (oj d1 (oj f0 (oj f1 (oj f2 bk)))))),Lr _,by omega⟩
   ·obtain rfl:x=b.length:=by omega
    refine Xl 8 Qg kR ?_
    refine mv (oj aq (oj d1 (oj f0 (oj f1 (oj f2 bk))))) cZ hd ?_
    refine yT hC (oj aq (oj d1 (oj f0 (oj f1 (oj f2 bk))))) ?_
    exact .aF ⟨.agg JI,.c (ZF rfl),trivial⟩
end Go.Proofs.YtjegkdadeghpjaaGreatDoor
namespace Go.PN
open Go.AI
section
variable {α β γ δ : Type}
def aG (f:PS→α×PS) (k:α→PS→β×PS) (s:PS):β×PS:=k (f s).1 (f s).2
structure aQ (f:PS→α×PS):Prop where
 bD:∀s,(f s).2.l<:+s.l
 stk:∀s,s.e≠0→(f s).2=s
theorem aQ.aG {f:PS→α×PS} {k:α→PS→β×PS} (hf:aQ f) (hk:∀a,aQ (k a)):aQ (aG f k):=
 ⟨fun s=>((hk _).bD _).trans (hf.bD s),fun s h=>by
  have h1:=hf.stk s h
  show(k (f s).1 (f s).2).2=s
  rw [h1]
  exact(hk _).stk s h⟩
theorem QO (a:α):aQ fun s=>(a,s):=⟨fun _=>List.suffix_refl _,fun _ _=>rfl⟩
theorem Y4 (m:PS→Bool):aQ fun s=>QU (m s) s:=by
 refine⟨fun s=> ?_,fun s h=> ?_⟩
 ·unfold QU
  split
  ·split
   ·rename_i h;rw [h];exact List.suffix_refl _
   ·rename_i t l h
    rw [h]
    split
    ·exact List.suffix_cons t l
    ·exact List.suffix_refl _
  ·exact List.suffix_refl _
 ·unfold QU
  rw [iN h]
theorem Qpc (c:PS→Int) (a:α):aQ fun s=>(a,Yv (c s) s):=by
 refine⟨fun s=> ?_,fun s h=> ?_⟩
 ·show(Yv (c s) s).l<:+s.l
  unfold Yv
  split<;>exact List.suffix_refl _
 ·show Yv (c s) s=s
  unfold Yv
  rw [iN h]
theorem tZ {c:PS→Prop} [DecidablePred c] {f g:PS→α×PS} (hf:aQ f) (hg:aQ g):aQ fun s=>if c s then f s else g s:=by
 refine⟨fun s=> ?_,fun s h=> ?_⟩
 ·show(if c s then f s else g s).2.l<:+s.l
  split
  ·exact hf.bD s
  ·exact hg.bD s
 ·show(if c s then f s else g s).2=s
  split
  ·exact hf.stk s h
  ·exact hg.stk s h
theorem HI {c:PS→Bool} {b:α→PS→α×PS} (hb:∀a,aQ (b a)):∀(n:Nat) (a:α),aQ (UD c b n a):=by
 intro n
 induction n with
 |zero=>exact fun a=>QO a
 |succ n ih=>
  intro a
  refine⟨fun s=> ?_,fun s h=> ?_⟩
  ·unfold UD
   split
   ·exact((ih _).bD _).trans ((hb a).bD s)
   ·exact List.suffix_refl _
  ·unfold UD
   rw [iN (fun x=>h x.1)]
theorem Zw {c:PS→Bool} {b:α→PS→α×PS} (hb:∀a,aQ (b a)) (a:α):aQ (KS c b a):=
 ⟨fun s=>(HI hb _ a).bD s,fun s h=>(HI hb _ a).stk s h⟩
theorem XA:aQ Xu:=Y4 _
theorem QJ (w:BS):aQ fun s=>((),Xt w s):=⟨fun s=>(Y4 fun s=>Xe s w).bD s,fun s h=>(Y4 fun s=>Xe s w).stk s h⟩
theorem Zb:aQ Yh:=by
 have h:=Y4 fun s=>X4 s 1
 refine⟨fun s=> ?_,fun s h0=> ?_⟩
 ·have h1:=h.bD s
  unfold Yh
  dsimp only
  split
  ·split
   ·exact h1
   ·exact h1
  ·exact h1
 ·have h1:=h.stk s h0
  unfold Yh
  dsimp only at h1⊢
  rw [h1,iN h0]
theorem UG:aQ Zt:=by
 refine⟨fun s=> ?_,fun s h0=> ?_⟩
 ·have h1:=Zb.bD s
  unfold Zt
  dsimp only
  split
  ·split
   ·split
    ·exact h1
    ·exact h1
   ·exact h1
  ·exact h1
 ·have h1:=Zb.stk s h0
  unfold Zt
  dsimp only
  rw [h1,iN h0]
theorem VH:aQ Y3:=tZ (c:=fun s=>Xe s kT=true) (aQ.aG (QJ kT) fun _=>aQ.aG XA fun t=>QO (64::t)) XA
def pf (l:List TK):Prop:=∀t∈l,QwK t
theorem pf.bD {l r:List TK} (h:pf l) (hs:r<:+l):pf r:=fun t ht=>h t (hs.subset ht)
def o6 (R:α→β→Prop) (f:PS→α×PS) (g:PS→β×PS):Prop:=
 ∀s,pf s.l→s.e=0→(f s).2.e=(g s).2.e∧((f s).2.e=0→(f s).2=(g s).2∧R (f s).1 (g s).1)
theorem o6.aG {R:α→β→Prop} {T:γ→δ→Prop} {f:PS→α×PS} {g:PS→β×PS} {k:α→PS→γ×PS} {k':β→PS→δ×PS} (h:o6 R f g) (hf:aQ f) (hk:∀a b,R a b→o6 T (k a) (k' b)) (r:∀a,aQ (k a)) (r':∀b,aQ (k' b)):o6 T (PN.aG f k) (PN.aG g k'):=by
 intro s ok e0
 obtain⟨h1,h2⟩:=h s ok e0
 show((k (f s).1 (f s).2).2.e=(k' (g s).1 (g s).2).2.e)∧_
 by_cases e1:(f s).2.e=0
 ·obtain⟨h3,h4⟩:=h2 e1
  have:=hk _ _ h4 (f s).2 (ok.bD (hf.bD s)) e1
  unfold PN.aG
  rw [←h3]
  exact this
 ·have e3:=(r (f s).1).stk _ e1
  have e4:=(r' (g s).1).stk _ (by rw [←h1];exact e1)
  rw [e3,e4]
  exact⟨h1,fun x=>absurd (show(k (f s).1 (f s).2).2.e=0 from x) (by rw [e3];exact e1)⟩
theorem o6.pure {R:α→β→Prop} {a:α} {b:β} (h:R a b):o6 R (fun s=>(a,s)) (fun s=>(b,s)):=fun _ _ _=>⟨rfl,fun _=>⟨rfl,h⟩⟩
theorem o6.loop {R:α→β→Prop} {T:γ→δ→Prop} {c c':PS→Bool} {b:α→PS→α×PS} {b':β→PS→β×PS} {k:α→PS→γ×PS} {k':β→PS→δ×PS}
  (rb:∀a,aQ (b a)) (rk:∀a,aQ (k a)) (RM:∀a,aQ (k' a)) (hd:∀a s,s.e=0→c s=true→mS (b a s).2<mS s) (iX:∀a s,s.e=0→c' s=true→mS (b' a s).2<mS s)
  (uV:∀a a' s,R a a'→pf s.l→s.e=0→c s=true→c' s=true→(b a s).2.e=(b' a' s).2.e∧((b a s).2.e=0→(b a s).2=(b' a' s).2∧R (b a s).1 (b' a' s).1))
  (q9:∀(a:α) (a':β) s,pf s.l→s.e=0→c s=true→c' s=false→False)
  (h01:∀(a:α) (a':β) s,pf s.l→s.e=0→c s=false→c' s=true→(k a s).2.e≠0∧(b' a' s).2.e=(k a s).2.e)
  (h00:∀a a' s,R a a'→pf s.l→s.e=0→c s=false→c' s=false→(k a s).2.e=(k' a' s).2.e∧((k a s).2.e=0→(k a s).2=(k' a' s).2∧T (k a s).1 (k' a' s).1)):
  ∀a a',R a a'→o6 T (PN.aG (KS c b a) k) (PN.aG (KS c' b' a') k'):=by
 intro a a' hR s
 generalize hn:mS s=n
 induction n using Nat.strongRecOn generalizing a a' s with
 |_ n ih=>
  intro ok e0
  cases hc:c s with
  |true=>
   cases dv:c' s with
   |false=>exact(q9 a a' s ok e0 hc dv).elim
   |true=>
    obtain⟨h1,h2⟩:=uV a a' s hR ok e0 hc dv
    have l1:=hd a s e0 hc
    have l2:=iX a' s e0 dv
    have s1:PN.aG (KS c b a) k s=PN.aG (KS c b (b a s).1) k (b a s).2:=by unfold PN.aG;rw [Vb hd e0 hc]
    have s2:PN.aG (KS c' b' a') k' s=PN.aG (KS c' b' (b' a' s).1) k' (b' a' s).2:=by unfold PN.aG;rw [Vb iX e0 dv]
    rw [s1,s2]
    by_cases e1:(b a s).2.e=0
    ·obtain⟨h3,h4⟩:=h2 e1
     rw [←h3]
     exact ih _ om _ _ h4 _ rfl (ok.bD ((rb a).bD s)) e1
    ·have q1:PN.aG (KS c b (b a s).1) k (b a s).2=k (b a s).1 (b a s).2:=by unfold PN.aG;rw [Ye (fun x=>e1 x.1)]
     have q2:PN.aG (KS c' b' (b' a' s).1) k' (b' a' s).2=k' (b' a' s).1 (b' a' s).2:=by unfold PN.aG;rw [Ye (fun x=>e1 (h1.trans x.1))]
     rw [q1,q2,(rk _).stk _ e1,(RM _).stk _ (by rw [←h1];exact e1)]
     exact⟨h1,fun x=>absurd x e1⟩
  |false=>
   have q1:PN.aG (KS c b a) k s=k a s:=by unfold PN.aG;rw [Ye (fun x=>by rw [hc] at x;exact absurd x.2 Af)]
   rw [q1]
   cases dv:c' s with
   |false=>
    have q2:PN.aG (KS c' b' a') k' s=k' a' s:=by unfold PN.aG;rw [Ye (fun x=>by rw [dv] at x;exact absurd x.2 Af)]
    rw [q2]
    exact h00 a a' s hR ok e0 hc dv
   |true=>
    obtain⟨h1,h2⟩:=h01 a a' s ok e0 hc dv
    have s2:PN.aG (KS c' b' a') k' s=k' (b' a' s).1 (b' a' s).2:=by
     unfold PN.aG
     rw [Vb iX e0 dv,Ye (fun x=>h1 (h2.symm.trans x.1))]
    rw [s2,(RM _).stk _ (by rw [h2];exact h1)]
    exact⟨h2.symm,fun x=>absurd x h1⟩
def ek (f:PS→α×PS):Prop:=∀s,s.e=0→mS (f s).2<mS s
theorem WZ (m:PS→Bool):ek fun s=>QU (m s) s:=by
 intro s h
 dsimp only
 unfold QU mS
 rw [iP h,iP h]
 split
 ·simp
 ·rename_i t l hl
  rw [hl]
  split
  ·simp
  ·simp
theorem Qug {s r:PS} (h:s.e=0) (hs:r.l<:+s.l):mS r≤mS s:=by
 unfold mS
 rw [iP h]
 split
 ·have:=hs.length_le;omega
 ·omega
theorem sG {f:PS→α×PS} (hf:aQ f) (s:PS):mS (f s).2≤mS s:=by
 by_cases h:s.e=0
 ·exact Qug h (hf.bD s)
 ·rw [hf.stk s h];exact Ac _
theorem ek.aG {f:PS→α×PS} {k:α→PS→β×PS} (hf:ek f) (hk:∀a,aQ (k a)):ek (aG f k):=fun s h=>Nat.lt_of_le_of_lt (sG (hk _) _) (hf s h)
theorem ek.ite {c:PS→Prop} [DecidablePred c] {f g:PS→α×PS} (hf:ek f) (hg:ek g):ek fun s=>if c s then f s else g s:=fun s h=>by
 show mS (if c s then f s else g s).2<mS s
 split
 ·exact hf s h
 ·exact hg s h
theorem W0:ek Xu:=WZ _
theorem Cp (w:BS):ek fun s=>((),Xt w s):=fun s h=>WZ (fun s=>Xe s w) s h
theorem MD:ek Yh:=by
 intro s h
 have h1:=WZ (fun s=>X4 s 1) s h
 dsimp only at h1
 unfold Yh
 dsimp only
 split
 ·split
  ·exact h1
  ·rename_i h2
   unfold mS at h1⊢
   rw [iN h2]
   rw [iP h]
   omega
 ·exact h1
theorem F3:ek Y3:=ek.ite (c:=fun s=>Xe s kT=true) (ek.aG (Cp kT) fun _=>aQ.aG XA fun t=>QO (64::t)) W0
end
section
variable {α β γ δ : Type}
theorem w8 (x:List BS):aQ (nN x):=aQ.aG VH fun t=>QO (x++[t])
theorem ME (x:List BS):ek (nN x):=ek.aG F3 fun t=>QO (x++[t])
def uG (s:PS):List BS×PS:=let q:=KS (fun s=> !Xe s QV) nN [] s
 (q.1,Xt QV q.2)
theorem MF:aQ uG:=aQ.aG (Zw w8 []) fun q=>aQ.aG (QJ QV) fun _=>QO q
def UT (s:PS):Option Int:=if X4 s 0 then sN (oC s) else none
def uR (s:PS):Option Int×PS:=(UT s,(QU (UT s).isSome s).2)
theorem HJ {m:Bool} {s:PS} (e0:s.e=0) (h:s.l=[]):QU m s=([],⟨[],20⟩):=by unfold QU;rw [iP e0,h]
theorem Xd {m:Bool} {s:PS} {t:TK} {l:List TK} (e0:s.e=0) (h:s.l=t::l):QU m s=if m then(t.text,⟨l,0⟩) else([],⟨t::l,2⟩):=by unfold QU;rw [iP e0,h]
theorem Qpe {k:Nat} {s:PS} (h:s.l=[]):X4 s k=false:=by unfold X4;rw [h];simp
theorem QmU {k:Nat} {s:PS} {t:TK} {l:List TK} (e0:s.e=0) (h:s.l=t::l):X4 s k=(t.kind==k):=by unfold X4;rw [h,e0];simp
theorem CE:aQ uR:=by
 have h:=Y4 fun s=>(UT s).isSome
 exact⟨fun s=>h.bD s,fun s h0=>h.stk s h0⟩
def DD (nm:BS) (k:Option Int):PS→Xk×PS:=PN.aG (fun s=>if k=some 2 then Zt s else(0,s)) fun v=>PN.aG (fun s=>if k=some 7 then Yh s else(aW,s)) fun d=>PN.aG uG fun q s=>(⟨nm,k.getD 0,v,q,d⟩,s)
theorem QrN (nm:BS) (k:Option Int):aQ (DD nm k):=aQ.aG (tZ UG (QO 0)) fun _=>aQ.aG (tZ Zb (QO aW)) fun _=>aQ.aG MF fun _=>QO _
theorem Bx:Ku=PN.aG Xu fun nm=>PN.aG uR fun k=>DD nm k:=rfl
theorem W1:aQ Ku:=by rw [Bx];exact aQ.aG XA fun nm=>aQ.aG CE fun k=>QrN nm k
end
section
variable {α β γ δ : Type}
theorem Quh {w:BS} {s:PS} (h:s.l=[]):Xe s w=false:=by unfold Xe;rw [h];simp
theorem Vh {w:BS} {s:PS} {t:TK} {l:List TK} (e0:s.e=0) (h:s.l=t::l):Xe s w=(t.kind !=1&&t.text==w):=by unfold Xe;rw [h,e0];simp
theorem ua {s:PS} {t:TK} {l:List TK} (h:s.l=t::l):oC s=t.text:=by unfold oC;rw [h]
structure Ao (x:List BS×X7) (y:List Bool×X7):Prop where
 ev:x.2=y.2
 len:y.1.length=4
 p:x.1.contains kP=y.1.getD 0 false
 f:x.1.contains bm=y.1.getD 1 false
 r:x.1.contains aI=y.1.getD 2 false
 c:x.1.contains bl=y.1.getD 3 false
theorem Qxr {l:List Bool} (h:l.length=4) (k j:Nat) (hk:k<4):(l.set k true).getD j false=if k=j then true else l.getD j false:=by
 rw [Lg,List.getElem?_set]
 by_cases e:k=j
 ·subst e;rw [iP rfl,iP om,iP rfl];rfl
 ·rw [iN e,iN e,Lg]
theorem Ao.cons {x:List BS×X7} {y:List Bool×X7} (h:Ao x y) (k:Nat) (w:BS) (hw:(k=0∧w=kP)∨(k=1∧w=bm)∨(k=2∧w=aI)∨(k=3∧w=bl)) {u v:X7} (e:u=v):Ao (w::x.1,u) (y.1.set k true,v):=by
 have hp:=h.p
 have hf:=h.f
 have hr:=h.r
 have hc:=h.c
 refine⟨e,by rw [List.length_set];exact h.len,?_,?_,?_,?_⟩
 all_goals
  dsimp only
  rw [List.contains_cons,Qxr h.len k _ om]
  rcases hw with ⟨rfl,rfl⟩|⟨rfl,rfl⟩|⟨rfl,rfl⟩|⟨rfl,rfl⟩
  all_goals first|(rw [hp];rfl)|(rw [hf];rfl)|(rw [hr];rfl)|(rw [hc];rfl)|rfl
theorem Cq (x:List BS×X7):aQ (gR x):=by
 refine⟨fun s=> ?_,fun s h=> ?_⟩
 ·have ht:=(Y4 fun s=>Xe s kP||Xe s bm||Xe s aI||Xe s bl).bD s
  unfold gR
  dsimp only at ht⊢
  split
  ·exact(Qpc (fun _=>6) x).bD s
  ·repeat' split
   all_goals first|exact(Zb.bD _).trans ht|exact(UG.bD _).trans ht|exact ht
 ·have ht:=(Y4 fun s=>Xe s kP||Xe s bm||Xe s aI||Xe s bl).stk s h
  have hv:∀m,QU m s=([],s):=fun m=>by unfold QU;rw [iN h]
  have hz:∀w,Xe s w=false:=fun w=>by unfold Xe;simp [h]
  unfold gR
  dsimp only
  rw [hz,hz,hz,hz,hv]
  rfl
theorem MG (x:List BS×X7):ek (gR x):=by
 intro s e0
 have ht:=WZ (fun s=>Xe s kP||Xe s bm||Xe s aI||Xe s bl) s e0
 dsimp only at ht
 unfold gR
 dsimp only
 split
 ·show mS (Yv 6 s)<mS s
  unfold Yv mS
  rw [iP e0,iP e0];simp
 ·repeat' split
  all_goals first|exact Nat.lt_of_le_of_lt (sG Zb _) ht|exact Nat.lt_of_le_of_lt (sG UG _) ht|exact ht
def Pd (q:List BS×X7):PS→X7×PS:=PN.aG (fun s=>((),Xt QV s)) fun _ s=>(q.2,s)
theorem QmV:KG=PN.aG Xu fun nm=>PN.aG (KS (fun s=> !Xe s QV) gR ([],{bn with name:=nm})) Pd:=rfl
theorem QrO (q:List BS×X7):aQ (Pd q):=aQ.aG (QJ QV) fun _=>QO _
theorem QmW:aQ KG:=by rw [QmV];exact aQ.aG XA fun nm=>aQ.aG (Zw Cq _) QrO
def Rg (s:PS):Bool×PS:=((QU (Xe s nf||Xe s oi) s).1==nf,(QU (Xe s nf||Xe s oi) s).2)
theorem MH:aQ Rg:=by
 have h:=Y4 fun s=>Xe s nf||Xe s oi
 exact⟨fun s=>h.bD s,fun s h0=>h.stk s h0⟩
theorem F4:KH=PN.aG Xu fun nm=>PN.aG Rg fun b=>PN.aG (fun s=>((),Xt QV s)) fun _ s=>(⟨nm,b⟩,s):=rfl
theorem QmX:aQ KH:=by rw [F4];exact aQ.aG XA fun nm=>aQ.aG MH fun b=>aQ.aG (QJ _) fun _=>QO _
end
section
variable {α β γ δ : Type}
theorem w9 (x:List Xk):aQ (nO x):=aQ.aG (QJ Qy) fun _=>aQ.aG W1 fun g=>QO (x++[g])
theorem MI (x:List Xk):ek (nO x):=ek.aG (Cp Qy) fun _=>aQ.aG W1 fun g=>QO (x++[g])
def RB (nm t:BS) (q:List Xk):PS→YT×PS:=PN.aG (fun s=>((),Xt Ya s)) fun _ s=>(⟨nm,t,q⟩,s)
theorem QrP (nm t:BS) (q:List Xk):aQ (RB nm t q):=aQ.aG (QJ _) fun _=>QO _
def y2 (k:BS→PS→α×PS):PS→α×PS:=PN.aG (fun s=>((),Xt Y2 s)) fun _=>PN.aG Y3 fun t=>PN.aG (fun s=>((),Xt WW s)) fun _=>k t
theorem HK {k:BS→PS→α×PS} (h:∀t,aQ (k t)):aQ (y2 k):=aQ.aG (QJ _) fun _=>aQ.aG VH fun t=>aQ.aG (QJ _) fun _=>h t
theorem HL:Wq=PN.aG Xu fun nm=>y2 fun t=>PN.aG (KS (fun s=> !Xe s Ya) nO []) (RB nm t):=rfl
theorem Qpf:aQ Wq:=by rw [HL];exact aQ.aG XA fun nm=>HK fun t=>aQ.aG (Zw w9 _) (QrP nm t)
theorem Nj (x:List Zh):nq x=PN.aG Xu fun w=>PN.aG Yh fun q=>PN.aG (fun s=>((),Xt QV s)) fun _ s=>(x++[⟨w,q⟩],s):=rfl
theorem xa (x:List Zh):aQ (nq x):=by rw [Nj];exact aQ.aG XA fun w=>aQ.aG Zb fun q=>aQ.aG (QJ QV) fun _=>QO (x++[⟨w,q⟩])
theorem MJ (x:List Zh):ek (nq x):=by rw [Nj];exact ek.aG W0 fun w=>aQ.aG Zb fun q=>aQ.aG (QJ QV) fun _=>QO (x++[⟨w,q⟩])
def RI (nm t:BS) (q:List Zh):PS→Ke×PS:=PN.aG (fun s=>((),Xt Ya s)) fun _ s=>(⟨nm,t,q⟩,s)
theorem QrR (nm t:BS) (q:List Zh):aQ (RI nm t q):=aQ.aG (QJ _) fun _=>QO _
theorem F5:KJ=PN.aG Xu fun nm=>y2 fun t=>PN.aG (KS (fun s=> !Xe s Ya) nq []) (RI nm t):=rfl
theorem QmY:aQ KJ:=by rw [F5];exact aQ.aG XA fun nm=>HK fun t=>aQ.aG (Zw xa _) (QrR nm t)
end
section
variable {α β γ δ : Type}
def Po (s:PS):Int×PS:=(if(QU (Xe s OI||Xe s KF) s).1==KF then 1 else 0,(QU (Xe s OI||Xe s KF) s).2)
theorem MK:aQ Po:=by
 have h:=Y4 fun s=>Xe s OI||Xe s KF
 exact⟨fun s=>h.bD s,fun s h0=>h.stk s h0⟩
theorem wD (x:List RD):aQ (nC x):=aQ.aG Zb fun q=>QO (x++[q])
theorem HM (x:List RD):ek (nC x):=ek.aG MD fun q=>QO (x++[q])
theorem wE (x:List BS):aQ (nD x):=aQ.aG XA fun q=>QO (x++[q])
theorem HN (x:List BS):ek (nD x):=ek.aG W0 fun q=>QO (x++[q])
def Pn (nm:BS) (g:Int) (f:List RD):PS→YU×PS:=PN.aG (KS (fun s=>X4 s 0) nD []) fun m=>PN.aG (fun s=>((),Xt QV s)) fun _ s=>(⟨nm,g,m,f⟩,s)
theorem QrS (nm:BS) (g:Int) (f:List RD):aQ (Pn nm g f):=aQ.aG (Zw wE _) fun _=>aQ.aG (QJ _) fun _=>QO _
def Pm (nm:BS) (g:Int):PS→YU×PS:=PN.aG (KS (fun s=>X4 s 1) nC []) fun f=>PN.aG (fun s=>((),Xt O1 s)) fun _=>Pn nm g f
theorem QrT (nm:BS) (g:Int):aQ (Pm nm g):=aQ.aG (Zw wD _) fun f=>aQ.aG (QJ _) fun _=>QrS nm g f
theorem F6:KI=PN.aG Xu fun nm=>PN.aG Po fun g=>Pm nm g:=rfl
theorem QmZ:aQ KI:=by rw [F6];exact aQ.aG XA fun nm=>aQ.aG MK fun g=>QrT nm g
def sr (m:Qz) (w:BS):PS→Qz×PS:=
 if w==Xi then PN.aG KG fun x s=>({m with events:=m.events++[x]},s)
 else if w==Xq then PN.aG KH fun x s=>({m with af:=m.af++[x]},s)
 else if w==Qy then PN.aG Ku fun x s=>({m with an:=m.an++[x]},s)
 else if w==Yb then PN.aG Wq fun x s=>({m with aa:=m.aa++[x]},s)
 else if w==Xr then PN.aG KI fun x s=>({m with ae:=m.ae++[x]},s)
 else if w==Xn then PN.aG KJ fun x s=>({m with ai:=m.ai++[x]},s)
 else fun s=>(m,s)
def stM (s:PS):Bool:=Xe s Xi||Xe s Xq||Xe s Qy||Xe s Yb||Xe s Xr||Xe s Xn
theorem Nk (m:Qz) (s:PS):cG m s=PN.aG (fun s=>QU (stM s) s) (sr m) s:=by
 show cG m s=sr m (QU (stM s) s).1 (QU (stM s) s).2
 unfold cG sr stM
 dsimp only
 generalize QU _ s=r
 repeat' split
 all_goals rfl
theorem ML (m:Qz) (w:BS):aQ (sr m w):=by
 unfold sr
 repeat' split
 ·exact aQ.aG QmW fun _=>QO _
 ·exact aQ.aG QmX fun _=>QO _
 ·exact aQ.aG W1 fun _=>QO _
 ·exact aQ.aG Qpf fun _=>QO _
 ·exact aQ.aG QmZ fun _=>QO _
 ·exact aQ.aG QmY fun _=>QO _
 ·exact QO _
theorem Cr (m:Qz):aQ (cG m):=by
 rw [show cG m=PN.aG (fun s=>QU (stM s) s) (sr m) from funext (Nk m)]
 exact aQ.aG (Y4 stM) (ML m)
theorem Cs (m:Qz):ek (cG m):=by
 rw [show cG m=PN.aG (fun s=>QU (stM s) s) (sr m) from funext (Nk m)]
 exact ek.aG (WZ stM) (ML m)
def RL (m:Qz):PS→Qz×PS:=PN.aG (fun s=>((),Xt Y2 s)) fun _=>PN.aG Y3 fun t=>PN.aG (fun s=>((),Xt QV s)) fun _ s=>({m with top:=t},mf s)
theorem Qpi:OJ=PN.aG (fun s=>((),Xt Vr s)) fun _=>PN.aG Xu fun nm=>PN.aG (fun s=>((),Xt QV s)) fun _=>PN.aG (KS (fun s=> !Xe s Y2) cG {j2 with name:=nm}) RL:=rfl
end
structure RAt (L:List TX) (s:PS) (a:Nat):Prop where
 le:a≤L.length
 nil:¬a<L.length→s.l=[]
 cons:a<L.length→∃l,s.l=(L.getD a jv).t::l∧L.length-l.length=a+1
theorem rat {L:List TX} {s:PS} (hs:s.l<:+L.map TX.t):RAt L s (L.length-s.l.length):=by
 have hl:=hs.length_le
 rw [Lw] at hl
 refine⟨by omega,fun h=>Lh.1 om,fun h=> ?_⟩
 cases hc:s.l with
 |nil=>rw [hc] at h;simp at h
 |cons t l=>
  rw [hc] at hl hs
  rw [Lc] at hl
  refine⟨l,?_,by rw [Lc];omega⟩
  obtain⟨p,hp⟩:=hs
  have dJ:p.length=L.length-(t::l).length:=by
   have:=congrArg List.length hp
   rw [La,Lw] at this
   omega
  have aD:p.length<L.length:=by rw [Lc] at dJ;omega
  have hg:(L.map TX.t)[p.length]?=some t:=by rw [←hp,List.getElem?_append_right (Ac _)];simp
  rw [List.getElem?_map,Li aD] at hg
  rw [←dJ,Lg,Li aD]
  simp only [Option.map_some,Aa] at hg
  rw [Option.getD_some,hg]
theorem RV (n:Nat):(Qc n).getD 0 0=n%4294967296:=by
 by_cases h:n=0
 ·subst h;rw [QA];rfl
 ·rw [XW om];rfl
theorem wdB (n:Nat):(Qc n).getD 1 0=n/4294967296%4294967296:=by
 by_cases h:n=0
 ·subst h;rw [QA];rfl
 ·rw [XW om]
  show(Qc (n/4294967296)).getD 0 0=_
  exact RV _
theorem RD.E8 {r:RD} {L:Nat} (hw:r.wf L):r.q.den=r.pd∧r.q.num=Uc r.ps r.pn:=by
 have hd:=RD.cM hw
 have hg:(Uc r.ps r.pn).natAbs.gcd r.pd=1:=by
  rw [KQ]
  unfold RD.pn RD.pd
  cases hs:r.some with
  |true=>simp only [if_true];exact(RD.cX hw hs).2.2.2.2
  |false=>simp
 obtain⟨h1,h2⟩:=WR (n:=Uc r.ps r.pn) hd
 rw [hg] at h1 h2
 exact⟨by unfold RD.q sq;rw [h2];simp,by unfold RD.q sq;rw [h1];simp⟩
theorem By {s:BS} (hd:∀i,i<s.length→QE (XE s i)=true):fits (Yk s:Rat) (s.length+1):=by have:=K4 hd (Ac s.length);rwa [Lk] at this
theorem Qpj {s:BS} (h:OC s=0):fits (oo s) 500:=by
 unfold OC at h
 split at h
 ·cases h
 ·rename_i lC
  split at h
  ·cases h
  ·rename_i hn
   have hn:qB s=true:=by simpa using hn
   obtain⟨hf,h0⟩:=HF hn
   unfold oo
   by_cases cq:XH 47 s<s.length
   ·rw [iP cq]
    have hz:Yk (s.drop (XH 47 s+1))≠0:=fun e=>by rw [iP ⟨cq,e⟩] at h;cases h
    cases hf with
    |all hh=>have:=(ya hh).1;omega
    |two e he hm h1 h2=>
     rcases hm with hm|hm
     ·have:=(wC he hm h1 h2).1;omega
     ·rw [wB he hm h1] at hz⊢
      have f1:=By (WX h1)
      have f2:=By (WY h2)
      exact Yp (HE f1 f2 (by simpa using hz)) (by rw [List.length_take,List.length_drop];omega)
   ·rw [iN cq]
    have key:(∀i,i<(s.take (XH 46 s)++s.drop (XH 46 s+1)).length→QE (XE (s.take (XH 46 s)++s.drop (XH 46 s+1)) i)=true):=by
     have app:∀(a b:BS),(∀i,i<a.length→QE (XE a i)=true)→(∀i,i<b.length→QE (XE b i)=true)→∀i,i<(a++b).length→QE (XE (a++b) i)=true:=fun a b D5 D6 i hi=>by
      by_cases h:i<a.length
      ·have:=D5 i h
       unfold XE at this⊢
       rw [Lg] at this⊢
       rwa [List.getElem?_append_left h]
      ·have:=D6 (i-a.length) (by rw [La] at hi;omega)
       unfold XE at this⊢
       rw [Lg] at this⊢
       rwa [List.getElem?_append_right om]
     cases hf with
     |all hh=>
      rw [(ya hh).2,Lk,List.drop_of_length_le om]
      exact app _ _ hh fun i hi=>absurd hi (by simp)
     |two e he hm h1 h2=>
      rcases hm with hm|hm
      ·rw [(wC he hm h1 h2).2];exact app _ _ (WX h1) (WY h2)
      ·have:=wB he hm h1;omega
    have f1:=By key
    have f2:fits ((10^(s.drop (XH 46 s+1)).length:Nat):Rat) ((s.drop (XH 46 s+1)).length+1):=Bv (Bw _) om
    exact Yp (HE f1 f2 (HH _)) (by rw [La,List.length_take,List.length_drop];omega)
theorem MM (s:BS):(O2 s).wf 500:=by
 unfold O2
 split
 ·rename_i h;exact JH (Qpj h)
 ·exact⟨fun x hx=>(by cases hx),fun x hx=>(by cases hx),Lz _,Lz _⟩
theorem QrU (s:PS):(Yh s).1.wf 500:=by
 unfold Yh
 dsimp only
 split
 ·exact MM _
 ·exact⟨fun x hx=>(by cases hx),fun x hx=>(by cases hx),Lz _,Lz _⟩
theorem QrV {s:PS} {L:List TX} (hs:s.l<:+L.map TX.t) (h:X4 s 0=true):s.e=0∧L.length-s.l.length<L.length∧(L.getD (L.length-s.l.length) jv).t.text=oC s:=by
 have hr:=rat hs
 unfold X4 at h
 simp only [Ba,Dq] at h
 refine⟨h.1,?_⟩
 by_cases hl:L.length-s.l.length<L.length
 ·obtain⟨l,h1,_⟩:=hr.cons hl
  refine⟨hl,?_⟩
  have h2:oC s=(L.getD (L.length-s.l.length) jv).t.text:=ua h1
  rw [h2]
 ·have:=hr.nil hl
  rw [this] at h
  simp at h
def lB (k:Option Int) (s:PS):Int×PS:=if k=some 2 then Zt s else(0,s)
def j9 (k:Option Int) (s:PS):RD×PS:=if k=some 7 then Yh (lB k s).2 else(aW,(lB k s).2)
theorem QrW (k:Option Int) (s:PS):(j9 k s).2.l<:+s.l:=by
 have h1:(lB k s).2.l<:+s.l:=by
  unfold lB;split
  ·exact UG.bD s
  ·exact List.suffix_refl _
 unfold j9;split
 ·exact(Zb.bD _).trans h1
 ·exact h1
theorem Jj {L:List TX} {s:PS} (hs:s.l<:+L.map TX.t):(Xu s).2.l<:+L.map TX.t:=(XA.bD s).trans hs
theorem MN {s:PS} {k:Nat} (h:X4 s k=true):s.e=0:=by
 unfold X4 at h
 simp only [Ba,Dq] at h
 exact h.1
def lj (seen:List BS):List (BS×Value):=seen.reverse.map fun k=>(k,.bool true)
theorem UH (k:BS) (seen:List BS):lj (k::seen)=lj seen++[(k,.bool true)]:=by unfold lj;simp
theorem F7 (a:BS):∀(l:List (BS×Value)) (k:BS) (v:Value),ZG a (l++[(k,v)])=(match ZG a l with|some x=>some x|none=>if a=k then some v else none)
 |[],k,v=>rfl
 |p::l,k,v=>by
  show(if a=p.1 then some p.2 else ZG a (l++[(k,v)]))=(match (if a=p.1 then some p.2 else ZG a l) with|some x=>some x|none=>_)
  by_cases h:a=p.1
  ·rw [iP h,iP h]
  ·rw [iN h,iN h];exact F7 a l k v
theorem Km (a:BS):∀seen:List BS,ZG a (lj seen)=if seen.contains a then some (.bool true) else none
 |[]=>rfl
 |k::seen=>by
  rw [UH,F7,Km a seen,List.contains_cons]
  by_cases h:seen.contains a=true
  ·rw [iP h,h];simp
  ·have h':seen.contains a=false:=by simpa using h
   rw [h']
   by_cases e:a=k
   ·subst e;simp
   ·have:(a==k)=false:=by simpa using e
    rw [this];simp [e]
theorem JZ {s:PS} {w:BS} (h:Xe s w=true):s.e=0∧∃t l,s.l=t::l∧t.kind≠1∧t.text=w:=by
 unfold Xe at h
 simp only [Ba,Dq] at h
 refine⟨h.1,?_⟩
 cases hl:s.l with
 |nil=>rw [hl] at h;simp at h
 |cons t l=>
  rw [hl] at h
  simp at h
  exact⟨t,l,rfl,h.2.1,h.2.2⟩
theorem QvB {s:PS} {t:TK} {l':List TK} (seen:List BS) (x:X7) (e0:s.e=0) (hl:s.l=t::l') (hk:t.kind≠1) (ht:t.text=kP):gR (seen,x) s=if seen.contains kP=true then((seen,x),Yv 6 s) else((kP::seen,{x with p:=(Yh ⟨l',0⟩).1}),(Yh ⟨l',0⟩).2):=by
 have hi:∀w,Xe s w=(t.text==w):=fun w=>by rw [Vh e0 hl,bne_iff_ne.2 hk,Bool.true_and]
 unfold gR
 rw [hi,hi,hi,hi,ua hl,ht]
 dsimp only
 rw [Xd e0 hl,ht]
 rfl
theorem Qpk {s:PS} {t:TK} {l':List TK} (seen:List BS) (x:X7) (e0:s.e=0) (hl:s.l=t::l') (hk:t.kind≠1) (ht:t.text=bm):gR (seen,x) s=if seen.contains bm=true then((seen,x),Yv 6 s) else((bm::seen,{x with fail:=(Yh ⟨l',0⟩).1}),(Yh ⟨l',0⟩).2):=by
 have hi:∀w,Xe s w=(t.text==w):=fun w=>by rw [Vh e0 hl,bne_iff_ne.2 hk,Bool.true_and]
 unfold gR
 rw [hi,hi,hi,hi,ua hl,ht]
 dsimp only
 rw [Xd e0 hl,ht]
 rfl
theorem QrX {s:PS} {t:TK} {l':List TK} (seen:List BS) (x:X7) (e0:s.e=0) (hl:s.l=t::l') (hk:t.kind≠1) (ht:t.text=aI):gR (seen,x) s=if seen.contains aI=true then((seen,x),Yv 6 s) else((aI::seen,{x with rep:=(Yh ⟨l',0⟩).1}),(Yh ⟨l',0⟩).2):=by
 have hi:∀w,Xe s w=(t.text==w):=fun w=>by rw [Vh e0 hl,bne_iff_ne.2 hk,Bool.true_and]
 unfold gR
 rw [hi,hi,hi,hi,ua hl,ht]
 dsimp only
 rw [Xd e0 hl,ht]
 rfl
theorem Qpl {s:PS} {t:TK} {l':List TK} (seen:List BS) (x:X7) (e0:s.e=0) (hl:s.l=t::l') (hk:t.kind≠1) (ht:t.text=bl):gR (seen,x) s=if seen.contains bl=true then((seen,x),Yv 6 s) else((bl::seen,{x with cost:=(Zt ⟨l',0⟩).1}),(Zt ⟨l',0⟩).2):=by
 have hi:∀w,Xe s w=(t.text==w):=fun w=>by rw [Vh e0 hl,bne_iff_ne.2 hk,Bool.true_and]
 unfold gR
 rw [hi,hi,hi,hi,ua hl,ht]
 dsimp only
 rw [Xd e0 hl,ht]
 rfl
theorem Qui {s:PS} (seen:List BS) (x:X7) (h0:Xe s kP=false) (h1:Xe s bm=false) (h2:Xe s aI=false) (h3:Xe s bl=false):gR (seen,x) s=((((QU false s).1::seen,x),(QU false s).2)):=by
 unfold gR
 rw [h0,h1,h2,h3]
 have ht:(QU false s).1=[]:=by
  unfold QU
  split
  ·split<;>rfl
  ·rfl
 dsimp only
 rw [show(false||false||false||false)=false from rfl,ht]
 rfl
theorem Quj (s:PS) (e0:s.e=0):(QU false s).1=[]∧(QU false s).2.e≠0:=by
 cases hl:s.l with
 |nil=>rw [HJ e0 hl];exact⟨rfl,by simp⟩
 |cons t l=>rw [Xd e0 hl];exact⟨rfl,by simp⟩
structure Og where
 e:Option Nat
 h:Option Nat
 g:Option Nat
 p:Option Nat
 r:Option Nat
 s:Option Nat
structure y3 (m:Qz) (o:Og):Prop where
 e:o.e=none→m.events.length=0
 h:o.h=none→m.af.length=0
 g:o.g=none→m.an.length=0
 p:o.p=none→m.aa.length=0
 r:o.r=none→m.ae.length=0
 s:o.s=none→m.ai.length=0
abbrev mdg (m:Qz) (o:Og):List CV:=[.str (sB m.name),.str (sB m.top),gs o.e 11 m.events.length,gs o.h 2 m.af.length,gs o.g 7 m.an.length,gs o.p 3 m.aa.length,gs o.r 4 m.ae.length,gs o.s 3 m.ai.length]
structure pv (m:Qz) (n:Nat):Prop where
 e:m.events.length≤n
 h:m.af.length≤n
 g:m.an.length≤n
 p:m.aa.length≤n
 r:m.ae.length≤n
 s:m.ai.length≤n
theorem Bz {xs:List X7} {n:Nat} (hn:xs.length=n) (t:X7):∀j,j<(n+1)*11→Xs (Zu xs) (n*11) (ao (OD t)) j=Zu (xs++[t]) j:=YR (s:=11) (c:=OD) (d:=(bn:X7)) hn t Af
theorem HO {xs:List Vq} {n:Nat} (hn:xs.length=n) (t:Vq):∀j,j<(n+1)*2→Xs (Zv xs) (n*2) (ao (kr t)) j=Zv (xs++[t]) j:=YR (s:=2) (c:=kr) (d:=(bw:Vq)) hn t Af
theorem BA {xs:List YT} {n:Nat} (hn:xs.length=n) (t:YT):∀j,j<(n+1)*3→Xs (V0 xs) (n*3) (ao (iO t)) j=V0 (xs++[t]) j:=YR (s:=3) (c:=iO) (d:=(bj:YT)) hn t Af
theorem BB {xs:List YU} {n:Nat} (hn:xs.length=n) (t:YU):∀j,j<(n+1)*4→Xs (Vs xs) (n*4) (ao (UF t)) j=Vs (xs++[t]) j:=YR (s:=4) (c:=UF) (d:=(bJ:YU)) hn t Af
theorem BC {xs:List Ke} {n:Nat} (hn:xs.length=n) (t:Ke):∀j,j<(n+1)*3→Xs (V1 xs) (n*3) (ao (Wr t)) j=V1 (xs++[t]) j:=YR (s:=3) (c:=Wr) (d:=(cd:Ke)) hn t Af
theorem QvC (m:Qz) {s:PS} {t:TK} {l':List TK} (e0:s.e=0) (hl:s.l=t::l') (hk:t.kind≠1) (ht:t.text=Xi):cG m s=({m with events:=m.events++[(KG ⟨l',0⟩).1]},(KG ⟨l',0⟩).2):=by
 have hi:∀w,Xe s w=(t.text==w):=fun w=>by rw [Vh e0 hl,bne_iff_ne.2 hk,Bool.true_and]
 unfold cG
 rw [hi,hi,hi,hi,hi,hi,ht]
 dsimp only
 rw [show(Xi==Xi||Xi==Xq||Xi==Qy||Xi==Yb||Xi==Xr||Xi==Xn)=true from rfl,Xd e0 hl,ht]
 rfl
theorem QvD (m:Qz) {s:PS} {t:TK} {l':List TK} (e0:s.e=0) (hl:s.l=t::l') (hk:t.kind≠1) (ht:t.text=Xq):cG m s=({m with af:=m.af++[(KH ⟨l',0⟩).1]},(KH ⟨l',0⟩).2):=by
 have hi:∀w,Xe s w=(t.text==w):=fun w=>by rw [Vh e0 hl,bne_iff_ne.2 hk,Bool.true_and]
 unfold cG
 rw [hi,hi,hi,hi,hi,hi,ht]
 dsimp only
 rw [show(Xq==Xi||Xq==Xq||Xq==Qy||Xq==Yb||Xq==Xr||Xq==Xn)=true from rfl,Xd e0 hl,ht]
 rfl
theorem QvE (m:Qz) {s:PS} {t:TK} {l':List TK} (e0:s.e=0) (hl:s.l=t::l') (hk:t.kind≠1) (ht:t.text=Qy):cG m s=({m with an:=m.an++[(Ku ⟨l',0⟩).1]},(Ku ⟨l',0⟩).2):=by
 have hi:∀w,Xe s w=(t.text==w):=fun w=>by rw [Vh e0 hl,bne_iff_ne.2 hk,Bool.true_and]
 unfold cG
 rw [hi,hi,hi,hi,hi,hi,ht]
 dsimp only
 rw [show(Qy==Xi||Qy==Xq||Qy==Qy||Qy==Yb||Qy==Xr||Qy==Xn)=true from rfl,Xd e0 hl,ht]
 rfl
theorem QvF (m:Qz) {s:PS} {t:TK} {l':List TK} (e0:s.e=0) (hl:s.l=t::l') (hk:t.kind≠1) (ht:t.text=Yb):cG m s=({m with aa:=m.aa++[(Wq ⟨l',0⟩).1]},(Wq ⟨l',0⟩).2):=by
 have hi:∀w,Xe s w=(t.text==w):=fun w=>by rw [Vh e0 hl,bne_iff_ne.2 hk,Bool.true_and]
 unfold cG
 rw [hi,hi,hi,hi,hi,hi,ht]
 dsimp only
 rw [show(Yb==Xi||Yb==Xq||Yb==Qy||Yb==Yb||Yb==Xr||Yb==Xn)=true from rfl,Xd e0 hl,ht]
 rfl
theorem QvG (m:Qz) {s:PS} {t:TK} {l':List TK} (e0:s.e=0) (hl:s.l=t::l') (hk:t.kind≠1) (ht:t.text=Xr):cG m s=({m with ae:=m.ae++[(KI ⟨l',0⟩).1]},(KI ⟨l',0⟩).2):=by
 have hi:∀w,Xe s w=(t.text==w):=fun w=>by rw [Vh e0 hl,bne_iff_ne.2 hk,Bool.true_and]
 unfold cG
 rw [hi,hi,hi,hi,hi,hi,ht]
 dsimp only
 rw [show(Xr==Xi||Xr==Xq||Xr==Qy||Xr==Yb||Xr==Xr||Xr==Xn)=true from rfl,Xd e0 hl,ht]
 rfl
theorem QvH (m:Qz) {s:PS} {t:TK} {l':List TK} (e0:s.e=0) (hl:s.l=t::l') (hk:t.kind≠1) (ht:t.text=Xn):cG m s=({m with ai:=m.ai++[(KJ ⟨l',0⟩).1]},(KJ ⟨l',0⟩).2):=by
 have hi:∀w,Xe s w=(t.text==w):=fun w=>by rw [Vh e0 hl,bne_iff_ne.2 hk,Bool.true_and]
 unfold cG
 rw [hi,hi,hi,hi,hi,hi,ht]
 dsimp only
 rw [show(Xn==Xi||Xn==Xq||Xn==Qy||Xn==Yb||Xn==Xr||Xn==Xn)=true from rfl,Xd e0 hl,ht]
 rfl
theorem Quk (m:Qz) {s:PS} (n0:Xe s Xi=false) (n1:Xe s Xq=false) (n2:Xe s Qy=false) (n3:Xe s Yb=false) (n4:Xe s Xr=false) (n5:Xe s Xn=false):cG m s=(m,(QU false s).2):=by
 unfold cG
 rw [n0,n1,n2,n3,n4,n5]
 have ht:(QU false s).1=[]:=by
  unfold QU
  split
  ·split<;>rfl
  ·rfl
 dsimp only
 rw [show(false||false||false||false||false||false)=false from rfl,ht]
 rfl
theorem QrZ (s:PS):(QU false s).1=[]:=by
 unfold QU
 split
 ·split<;>rfl
 ·rfl
theorem Zj {α:Type} {l X Y Z:List α} (h:l=X++(Y++Z)):l.Perm ((X++Z)++Y):=by
 rw [h,Lo]
 exact List.Perm.append_left X List.perm_append_comm
end Go.PN
namespace Go.Proofs.YtjegkdadeghpjaaGreatDoor
open Go.AI Go.PN Proofs.Tryz
abbrev wc (L:List TX) (a:Nat) (e:Int):XS:=.cells 162 3 (ao [np true L,.int .i64 a,Z7 e])
abbrev X8 (L:List TX) (s:PS):XS:=wc L (L.length-s.l.length) s.e
attribute [local irreducible] aw Fa VA Vk Fh YO
theorem Vc (g:Nat) (L:List TX) (s:PS) (w:BS) (hs:s.l<:+L.map TX.t) (hL:L.length≤1099511627776):Fg prog 98 g (X8 L s) [.c (.aj g 0),.c (.str (sB w))] (.c (.bool (Xe s w))) (X8 L s):=by
 have h:=rat hs
 generalize ha:L.length-s.l.length=a at h
 have hle:=h.le
 unfold Fg
 rw [show X8 L s=wc L a s.e from by unfold X8;rw [ha]]
 refine fH func98 fun C hC=>?_
 refine zA o0 ?_
 refine Xl 47 Qg kR ?_
 repeat' first|refine zV o0 ?_|refine zH o0 ?_ ?_<;>intro hb|fail
 all_goals
  refine xU ?_
  refine⟨?_,rfl⟩
 ·rename_i h0 h1
  obtain⟨l',hl,_⟩:=h.cons h1
  rw [Vh h0 hl,bne_iff_ne.2 hb,Bool.true_and]
 ·rename_i h0 h1
  obtain⟨l',hl,_⟩:=h.cons h1
  rw [Vh h0 hl,hb];rfl
 ·rw [Quh (h.nil hb)]
 ·rw [show Xe s w=false from by unfold Xe;simp [hb]]
theorem ub (g:Nat) (L:List TX) (s:PS) (k:Nat) (hs:s.l<:+L.map TX.t) (hL:L.length≤1099511627776):Fg prog 161 g (X8 L s) [.c (.aj g 0),.c (.int .i64 k)] (.c (.bool (X4 s k))) (X8 L s):=by
 have h:=rat hs
 generalize ha:L.length-s.l.length=a at h
 have hle:=h.le
 unfold Fg
 rw [show X8 L s=wc L a s.e from by unfold X8;rw [ha]]
 refine fH func161 fun C hC=>?_
 refine zA o0 ?_
 refine Xl 33 Qg kR ?_
 repeat' first|refine zV o0 ?_|refine zH o0 ?_ ?_<;>intro hb|fail
 all_goals
  refine xU ?_
  refine⟨?_,rfl⟩
 ·rename_i h0
  obtain⟨l',hl,_⟩:=h.cons hb
  rw [QmU h0 hl]
 ·rw [Qpe (h.nil hb)]
 ·rw [show X4 s k=false from by unfold X4;simp [hb]]
theorem L4 {c:Int} (h:c≠0):Z7 c=.eZ 32 (.int .i64 c):=by unfold Z7 Ux;rw [iN h]
theorem KT (g:Nat) (L:List TX) (s:PS) (c:Int) (hc:c≠0):Fg prog 168 g (X8 L s) [.c (.aj g 0),.c (.eZ 32 (.int .i64 c))] (.aF []) (X8 L (Yv c s)):=by
 generalize ha:L.length-s.l.length=a
 unfold Fg
 rw [show X8 L s=wc L a s.e from by unfold X8;rw [ha]]
 refine fH func168 fun C hC=>?_
 repeat' first|refine zV o0 ?_|refine zH o0 ?_ ?_<;>intro hb|fail
 ·refine xV ?_
  refine⟨rfl,?_⟩
  unfold Yv
  rw [iP hb]
  show _=[(g,XS.cells 162 3 (ao [np true L,.int .i64 (L.length-s.l.length:Nat),Z7 c]))]
  rw [ha,L4 hc]
 ·refine xV ?_
  refine⟨rfl,?_⟩
  unfold Yv
  rw [iN hb,←ha]
theorem qC {L:List TX} {s:PS} {a:Nat} (ha:L.length-s.l.length=a):X8 L s=wc L a s.e:=by unfold X8;rw [ha]
theorem Yz (g:Nat) (L:List TX) (s:PS) (m:Bool) (hs:s.l<:+L.map TX.t) (hL:L.length≤1099511627776):Fg prog 160 g (X8 L s) [.c (.aj g 0),.c (.bool m)] (.c (.str (sB (QU m s).1))) (X8 L (QU m s).2):=by
 have h:=rat hs
 have f1:=KT g L s 20 Af
 have f2:=KT g L s 2 Af
 generalize ha:L.length-s.l.length=a at h
 have hle:=h.le
 unfold Fg
 rw [qC ha]
 rw [qC ha] at f1 f2
 refine fH func160 fun C hC=>?_
 repeat' first|refine zV o0 ?_|refine yQ o0 f1 ?_|refine yQ o0 f2 ?_|refine zH o0 ?_ ?_<;>intro hb|fail
 ·have h0:s.e≠0:=by simpa using hb
  have ht:QU m s=([],s):=by unfold QU;rw [iN h0]
  refine xU ?_
  rw [ht,←qC ha]
  exact⟨rfl,rfl⟩
 have h0:s.e=0:=by simpa using hb
 refine Xl 11 Qg kR ?_
 repeat' first|refine zV o0 ?_|refine yQ o0 f1 ?_|refine yQ o0 f2 ?_|refine zH o0 ?_ ?_<;>intro hb|fail
 ·have hl:s.l=[]:=h.nil om
  have ht:QU m s=([],⟨[],20⟩):=HJ h0 hl
  refine xU ?_
  rw [ht]
  refine⟨rfl,?_⟩
  unfold Yv
  rw [iP h0,hl]
 ·rename_i h1
  have hm:m=false:=by simpa using hb
  obtain⟨l',hl,zu⟩:=h.cons om
  have ht:=Xd (m:=m) h0 hl
  rw [hm] at ht
  refine xU ?_
  rw [hm,ht]
  refine⟨rfl,?_⟩
  unfold Yv
  rw [iP h0,hl];rfl
 ·rename_i h1
  have hm:m=true:=by simpa using hb
  obtain⟨l',hl,zu⟩:=h.cons om
  have ht:=Xd (m:=m) h0 hl
  rw [hm] at ht
  have e1:((a:Int)+1-1).toNat=a:=by omega
  refine Xl 13 Qg kR ?_
  refine zA e1 ?_
  refine yU e1 ?_
  rw [hm,ht]
  refine⟨rfl,?_⟩
  show _=[(g,XS.cells 162 3 (ao [np true L,.int .i64 (L.length-l'.length:Nat),Z7 0]))]
  rw [zu,h0];rfl
end Go.Proofs.YtjegkdadeghpjaaGreatDoor
namespace Go.Proofs.YtjegkdadeghpjaaGreatDoor
open Go.AI Go.PN Proofs.Tryz
attribute [local irreducible] aw Fa VA Vk Fh YO
theorem Xy (g:Nat) (L:List TX) (s:PS) (w:BS) (hs:s.l<:+L.map TX.t) (hL:L.length≤1099511627776):Fg prog 96 g (X8 L s) [.c (.aj g 0),.c (.str (sB w))] (.aF []) (X8 L (Xt w s)):=by
 have f1:=Vc g L s w hs hL
 have f2:=Yz g L s (Xe s w) hs hL
 unfold Fg
 refine fH func96 fun C hC=>?_
 refine mv o0 f1 f2 ?_
 refine xV ?_
 exact⟨rfl,rfl⟩
theorem VN (g:Nat) (L:List TX) (s:PS) (hs:s.l<:+L.map TX.t) (hL:L.length≤1099511627776):Fg prog 97 g (X8 L s) [.c (.aj g 0)] (.c (.str (sB (Xu s).1))) (X8 L (Xu s).2):=by
 have f1:=ub g L s 0 hs hL
 have f2:=Yz g L s (X4 s 0) hs hL
 unfold Fg
 refine fH func97 fun C hC=>?_
 refine mv o0 f1 f2 ?_
 refine xU ?_
 exact⟨rfl,rfl⟩
theorem wF (g:Nat) (L:List TX) (s:PS) (hs:s.l<:+L.map TX.t) (hL:L.length≤1099511627776) (hw:∀t∈L,t.t.text.length≤1099511627776):Fg prog 100 g (X8 L s) [.c (.aj g 0)] (.c (.str (sB (Y3 s).1))) (X8 L (Y3 s).2):=by
 have f1:=Vc g L s kT hs hL
 have f2:=Xy g L s kT hs hL
 have f3:=VN g L s hs hL
 have f4:=VN g L (Xt kT s) (((QJ kT).bD s).trans hs) hL
 have hlen:(Xu (Xt kT s)).1.length≤1099511627776:=by
  unfold Xu QU
  split
  ·split
   ·simp
   ·rename_i t l hl
    split
    ·have hm:t∈L.map TX.t:=(((QJ kT).bD s).trans hs).subset (by show t∈(Xt kT s).l;rw [hl];exact Lf)
     obtain⟨x,hx,rfl⟩:=List.mem_map.1 hm
     exact hw x hx
    ·simp
  ·simp
 unfold Fg
 unfold Y3
 refine fH func100 fun C hC=>?_
 repeat' first|refine zV o0 ?_|refine yQ o0 f1 ?_|refine yQ o0 f2 ?_|refine yQ o0 f3 ?_|refine yQ o0 f4 ?_|refine zH o0 ?_ ?_<;>intro hb|fail
 ·refine xU ?_
  rw [iP hb]
  exact⟨rfl,rfl⟩
 ·refine xU ?_
  rw [iN (by rw [hb];decide)]
  exact⟨rfl,rfl⟩
theorem Qpm (w:BS):Fa prog 275 [.c (.str (sB w))] (.aF [.c (.int .i64 ((sN w).getD 0)),.c (.bool (sN w).isSome)]):=by
 unfold sN
 refine fA func275 fun C hC=>?_
 repeat' first|refine zV o0 ?_|refine zH o0 ?_ ?_<;>intro hb|fail
 all_goals
  refine xT hC ?_
  refine .aF ⟨.c (Qn ?_),.c (Qe ?_),trivial⟩
  all_goals simp_all
theorem Kg (g:Nat) (L:List TX) (s:PS) (hs:s.l<:+L.map TX.t) (hL:L.length≤1099511627776) (hw:∀t∈L,t.t.text.length≤1099511627776):Fg prog 273 g (X8 L s) [.c (.aj g 0)] (.agg (YS (Yh s).1)) (X8 L (Yh s).2):=by
 have f1:=ub g L s 1 hs hL
 have f2:=Yz g L s (X4 s 1) hs hL
 have hlen:(QU (X4 s 1) s).1.length≤1099511627776:=by
  unfold QU
  split
  ·split
   ·simp
   ·rename_i t l hl
    split
    ·have hm:t∈L.map TX.t:=hs.subset (by rw [hl];exact Lf)
     obtain⟨x,hx,rfl⟩:=List.mem_map.1 hm
     exact hw x hx
    ·simp
  ·simp
 have f3:=QmT (QU (X4 s 1) s).1 hlen
 unfold Fg
 unfold Yh
 dsimp only
 generalize hr:QU (X4 s 1) s=r at*
 obtain⟨t,s1⟩:=r
 dsimp only at*
 refine fH func273 fun C hC=>?_
 refine zA o0 ?_
 refine xA fun g2 aq=>?_
 repeat' first|refine zV aq ?_|refine yQ aq f1 ?_|refine yQ aq f2 ?_|refine yQ aq f3 ?_|refine zH aq ?_ ?_<;>intro hb|fail
 ·have h0:s1.e≠0:=by simpa using hb
  refine UA (f':=ao (YS aW)) FK ?_
  refine QS (h':=[(g,X8 L s1)]) rfl sL fun R r=>?_;simp only[go_sem,aq];refine r _ rfl ?_;clear r R
  rw [iN h0]
  exact⟨rfl,rfl⟩
 have h0:s1.e=0:=by simpa using hb
 refine yA aq fun g4 aC=>?_
 all_goals try(have Z:=(oj aq aC);(repeat' first|refine zV Z ?_|refine zH Z ?_ ?_<;>intro hb|fail);all_goals clear Z)
 ·have hv:OC t≠0:=by simpa using hb
  have f4:=KT g L s1 (OC t) hv
  rw [←L4 hv] at f4
  refine Zg (oj aq aC) f4 ?_
  refine QS (h':=[(g,X8 L (Yv (OC t) s1))]) rfl sL fun R r=>?_;simp only[go_sem,aq,aC];refine r _ rfl ?_;clear r R
  rw [iP h0,iN hv]
  unfold Yv
  rw [iP h0]
  exact⟨rfl,rfl⟩
 ·have hv:OC t=0:=by simpa using hb
  refine QS (h':=[(g,X8 L s1)]) rfl sL fun R r=>?_;simp only[go_sem,aq,aC];refine r _ rfl ?_;clear r R
  rw [iP h0,iP hv]
  exact⟨rfl,rfl⟩
theorem Qul (n:Nat):decide (QX n>63)= !decide (n<9223372036854775808):=by
 by_cases h:n<9223372036854775808
 ·have:=Oi (x:=n) (k:=63) om
  rw [Dt h,De om];rfl
 ·have h1:=Kb (x:=n) (k:=63) om
  have h2:QX (n/2^63)≠0:=fun e=>by
   have:=JG.1 e
   omega
  rw [De h,Dt om];rfl
theorem Qum {n:Nat} (h:n<9223372036854775808):Xz .i64 (oY .u64 ((n%4294967296:Nat):Int) (sU .u64 ((n/4294967296%4294967296:Nat):Int) 32))=(n:Int):=by
 rw [Vo _ om,U2 _ _ om om]
 rw [QM,XN (by simp only [XM];omega)]
 omega
theorem Qr0 (n:Nat) (hn:(Qc n).length≤68719476736):Fa prog 370 [.c (ws false (Qc n))] (.aF [.c (.int .i64 (if n<9223372036854775808 then n else 0)),.c (.bool (decide (n<9223372036854775808)))]):=by
 have h1:=NM n hn
 have h2:=Kl (Qc n) 0 (Qp _)
 have h3:=Kl (Qc n) 1 (Qp _)
 rw [RV] at h2
 rw [wdB] at h3
 have hb:=Qul n
 by_cases h:n<9223372036854775808
 ·have hj:=Qum h
  rw [iP h,Dt h]
  rw [Dt h] at hb
  refine fA func370 fun C hC=>?_
  refine RY (oj hb hj) h1 h2 h3 ?_
  refine yT hC (oj hb hj) ?_
  exact .aF ⟨.c (.int _ _),.c (.bool _),trivial⟩
 ·rw [iN h,De h]
  rw [De h] at hb
  refine fA func370 fun C hC=>?_
  refine RY hb h1 h2 h3 ?_
  refine yT hC hb ?_
  exact .aF ⟨.c (.int _ _),.c (.bool _),trivial⟩
theorem Qpn (a b:Nat):Zs a b=0↔a=b:=by unfold Zs;split<;>(try split)<;>omega
theorem Qr1 {r:RD} {L:Nat} (hw:r.wf L):sT r.q=if r.pd=1∧ -9223372036854775808≤Uc r.ps r.pn∧Uc r.ps r.pn≤9223372036854775807 then some (Uc r.ps r.pn) else none:=by
 obtain⟨h1,h2⟩:=RD.E8 hw
 unfold sT
 rw [h1,h2]
theorem Qr2 (r:RD) (hw:r.wf 1073741824):Fa prog 342 [.agg (YS r)] (.aF [.c (.int .i64 ((sT r.q).getD 0)),.c (.bool (sT r.q).isSome)]):=by
 obtain⟨l1,l2⟩:=RD.cL hw om
 rw [Qr1 hw]
 have h1:=Y0 r hw
 have h2:=sK
 have h3:=y4 r.pd 1 om (by rw [Kc];simp)
 rw [Kc] at h3
 have h4:=H3 (-9223372036854775808) om om
 have h5:=y4 r.pn 9223372036854775808 om (Lt (JJ om) om)
 have h6:=Qr0 r.pn om
 have hn:∀n:Nat,n<9223372036854775808→Xz .i64 (0-(n:Int))= -(n:Int):=fun n hn=>IS om om
 unfold Cd at h1
 generalize r.pd=d at*
 generalize r.pn=n at*
 generalize r.ps=p at*
 refine fA func342 fun C hC=>?_
 refine zA o0 ?_
 refine xB fun g1 ah=>?_
 repeat' first|refine zV ah ?_|refine yQ ah h1 ?_|refine yQ ah h2 ?_|refine yQ ah h3 ?_|refine yQ ah h4 ?_|refine yQ ah h5 ?_|refine yQ ah h6 ?_|refine zH ah ?_ ?_<;>intro hb|fail
 all_goals
  refine yT hC ah ?_
  clear h1 h2 h3 h4 h5 h6
  refine .aF ⟨.c (Qn ?_),.c (Qe ?_),trivial⟩
  all_goals
   simp only [ne_eq,Qpn] at*
   first
    |(exfalso;simp_all;done)
    |(try subst_vars
      try simp only [Bool.not_eq_true',Bool.not_eq_false',decide_eq_false_iff_not,Dq] at*
      unfold Uc
      try rw [hn _ (by split<;>omega)]
      (repeat' split)<;>simp_all<;>omega)
theorem HP (g:Nat) (L:List TX) (s:PS) (hs:s.l<:+L.map TX.t) (hL:L.length≤1099511627776) (hw:∀t∈L,t.t.text.length≤1099511627776):Fg prog 274 g (X8 L s) [.c (.aj g 0)] (.c (.int .i64 (Zt s).1)) (X8 L (Zt s).2):=by
 have f1:=Kg g L s hs hL hw
 have f2:=Qr2 (Yh s).1 (XZ (QrU s) om)
 unfold Fg
 unfold Zt
 dsimp only
 generalize hr:Yh s=r at*
 obtain⟨q,s1⟩:=r
 dsimp only at*
 have f3:=KT g L s1 3 Af
 generalize hi:sT q.q=o at*
 cases o with
 |none=>
  simp only [Option.isSome_none,Option.getD_none] at f2
  refine fH func274 fun C hC=>?_
  refine Zg o0 f1 ?_
  refine xA fun g3 av=>?_
  repeat' first|refine zV av ?_|refine yQ av f2 ?_|refine yQ av f3 ?_|refine zH av ?_ ?_<;>intro hb|fail
  ·have h0:s1.e≠0:=by simpa using hb
   refine QS (h':=[(g,X8 L s1)]) rfl sL fun R r=>?_;simp only[go_sem,av];refine r _ rfl ?_;clear r R
   rw [iN h0]
   exact⟨rfl,rfl⟩
  ·have h0:s1.e=0:=by simpa using hb
   refine QS (h':=[(g,X8 L (Yv 3 s1))]) rfl sL fun R r=>?_;simp only[go_sem,av];refine r _ rfl ?_;clear r R
   rw [iP h0]
   unfold Yv
   rw [iP h0]
   exact⟨rfl,rfl⟩
 |some n=>
  simp only [Option.isSome_some,Option.getD_some] at f2
  refine fH func274 fun C hC=>?_
  refine Zg o0 f1 ?_
  refine xA fun g3 av=>?_
  repeat' first|refine zV av ?_|refine yQ av f2 ?_|refine yQ av f3 ?_|refine zH av ?_ ?_<;>intro hb|fail
  ·have h0:s1.e≠0:=by simpa using hb
   refine QS (h':=[(g,X8 L s1)]) rfl sL fun R r=>?_;simp only[go_sem,av];refine r _ rfl ?_;clear r R
   rw [iN h0]
   exact⟨rfl,rfl⟩
  ·rename_i cQ
   have h0:s1.e=0:=by simpa using cQ
   have hn:n<0:=hb
   refine QS (h':=[(g,X8 L (Yv 3 s1))]) rfl sL fun R r=>?_;simp only[go_sem,av];refine r _ rfl ?_;clear r R
   rw [iP h0]
   try dsimp only
   unfold Yv
   rw [iP h0,iN om]
   exact⟨rfl,rfl⟩
  ·rename_i cQ fD
   have h0:s1.e=0:=by simpa using cQ
   have hn:n>1073741824:=hb
   refine QS (h':=[(g,X8 L (Yv 3 s1))]) rfl sL fun R r=>?_;simp only[go_sem,av];refine r _ rfl ?_;clear r R
   rw [iP h0]
   try dsimp only
   unfold Yv
   rw [iP h0,iN om]
   exact⟨rfl,rfl⟩
  ·rename_i cQ fD
   have h0:s1.e=0:=by simpa using cQ
   have h1:¬n<0:=fD
   have h2:¬n>1073741824:=hb
   refine QS (h':=[(g,X8 L s1)]) rfl sL fun R r=>?_;simp only[go_sem,av];refine r _ rfl ?_;clear r R
   rw [iP h0]
   try dsimp only
   rw [iP om]
   exact⟨rfl,rfl⟩
theorem Qpo (g:Nat) (L:List TX) (s:PS) (hs:s.l<:+L.map TX.t) (hL:L.length≤1099511627776):Fg prog 163 g (X8 L s) [.c (.aj g 0)] (.agg (kr (KH s).1)) (X8 L (KH s).2):=by
 have f1:=VN g L s hs hL
 unfold KH
 dsimp only
 have dz:=(XA.bD s).trans hs
 generalize hr:Xu s=r at*
 obtain⟨nm,s1⟩:=r
 dsimp only at*
 have f2:=Vc g L s1 nf dz hL
 have f3:=Vc g L s1 oi dz hL
 have f4:=Yz g L s1 (Xe s1 nf||Xe s1 oi) dz hL
 have cu:=((Y4 fun s=>Xe s nf||Xe s oi).bD s1).trans dz
 try dsimp only at cu
 cases h1:Xe s1 nf with
 |true=>
  rw [h1] at f2 f4 cu
  rw [Bool.true_or] at f4 cu
  rw [Bool.true_or]
  generalize QU true s1=r at*
  obtain⟨t,s2⟩:=r
  dsimp only at*
  have f6:=Xy g L s2 QV cu hL
  unfold Fg
  refine fH func163 fun C hC=>?_
  refine zA o0 ?_
  refine xA fun g2 aq=>?_
  refine Zg aq f1 ?_
  refine yA aq fun g3 av=>?_
  refine Fc (oj aq av) f2 f3 f4 f6 ?_
  refine QS (h':=[(g,X8 L (Xt QV s2))]) rfl sL fun R r=>?_;simp only[go_sem,aq,av];refine r _ rfl ?_;clear r R
  exact⟨rfl,rfl⟩
 |false=>
  rw [h1] at f2 f4 cu
  rw [Bool.false_or] at f4 cu
  rw [Bool.false_or]
  generalize QU (Xe s1 oi) s1=r at*
  obtain⟨t,s2⟩:=r
  dsimp only at*
  have f6:=Xy g L s2 QV cu hL
  unfold Fg
  refine fH func163 fun C hC=>?_
  refine zA o0 ?_
  refine xA fun g2 aq=>?_
  refine Zg aq f1 ?_
  refine yA aq fun g3 av=>?_
  refine Fc (oj aq av) f2 f3 f4 f6 ?_
  refine QS (h':=[(g,X8 L (Xt QV s2))]) rfl sL fun R r=>?_;simp only[go_sem,aq,av];refine r _ rfl ?_;clear r R
  exact⟨rfl,rfl⟩
theorem Qun (g:Nat) (L:List TX) (s:PS) (hs:s.l<:+L.map TX.t) (hL:L.length≤1099511627776):Fg prog 101 g (X8 L s) [.c (.aj g 0)] (.c (Z7 (mf s).e)) (X8 L (mf s)):=by
 have h:=rat hs
 have f1:=KT g L s 2 Af
 generalize ha:L.length-s.l.length=a at h
 have hle:=h.le
 unfold Fg
 rw [qC ha]
 rw [qC ha] at f1
 refine fH func101 fun C hC=>?_
 refine zA o0 ?_
 refine Xl 17 Qg kR ?_
 repeat' first|refine zV o0 ?_|refine yQ o0 f1 ?_|refine zH o0 ?_ ?_<;>intro hb|fail
 ·rename_i h0
  obtain⟨l',hl,_⟩:=h.cons hb
  have he:mf s=Yv 2 s:=by
   unfold mf Yv
   rw [iP ⟨h0,by rw [hl];simp⟩,iP h0]
  refine xU ?_
  rw [he]
  exact⟨rfl,rfl⟩
 ·have he:mf s=s:=by
   unfold mf
   rw [iN fun z=>z.2 (h.nil hb)]
  refine xU ?_
  rw [he,←qC ha]
  exact⟨rfl,rfl⟩
 ·have he:mf s=s:=by
   unfold mf
   rw [iN fun z=>hb z.1]
  refine xU ?_
  rw [he,←qC ha]
  exact⟨rfl,rfl⟩
theorem Qpp (l:BS) (hl:l.length≤1099511627776):Fh prog 95 [] [.c (.str (sB l))] (fun x h=>∃(out:List TX) (g:Nat),out.map TX.t=(XL l).2∧h=[(g,X8 out ⟨(XL l).2,0⟩)]∧x=.aF [.c (.aj g 0),.c (Z7 (XL l).1)]):=by
 refine fH func95 fun C hC=>?_
 refine zA o0 ?_
 refine Qq (hr:=[]) (QmP l hl) rfl rfl rfl (.refl _) eL ?_
 rintro r h' ⟨rfl,out,ho,rfl⟩ _
 refine zA o0 ?_
 refine xB fun g n_=>?_
 refine zA n_ ?_
 refine yU n_ ?_
 refine⟨out,g,ho,?_,rfl⟩
 unfold X8
 rw [show out.length-(PS.mk (XL l).2 0).l.length=0 from by rw [←ho,Lw];exact Nat.sub_self _]
 rfl
end Go.Proofs.YtjegkdadeghpjaaGreatDoor
namespace Go.AI
section
section
variable {E : Vj} {K : List It} {l : List Oper} {FP FP' : Qa} {σ σ' : Sl} {h : Qa} {o : Oper} {i m : Nat} {cs : List (Nat × Nat)}
theorem Qv {t e size bytes len:Nat} {xs:List Operand} {cells:List CV} (ho:l[i]?=some o) (au:o.op=.buildSlice t len (o9 0 xs).toArray) (hw:Qu l σ o=some true) (hd:Qs E.N o.dst=true) (ht:QP E.P t=some (e,size,bytes))
  (hz:(Qk E.P e).isSome=true) (hl:xs.length=len) (gw:len*size≤16777216) (pX:len≤16777216) (hx:∀x∈xs,(ev σ x).flat=true∧(ev σ x).cells.all CV.aX=true∧(ev σ x).cells.length=size) (hc:(xs.map (ev σ)).flatMap AV.cells=cells) (oN:∀x∈xs,x∈o.op.operands) (fK:Kq FP' h)
  (k:∀g,g∉h.keys→CW E l K FP' cs (σ.az o.dst (.c (.aO g size 0 len))) ((g,.cells e (len*size) (ao cells))::h)) (hm:m=2∨m=1∧FP'=FP:=by first|exact .inl rfl|exact .inr ⟨rfl,rfl⟩):CW E l K FP ((i,m)::cs) σ h:=by
 refine .k6 ho hm (R:=fun r h2=>∃g,g∉h.keys∧r=.c (.aO g size 0 len)∧h2=(g,.cells e (len*size) (ao cells))::h) (fun σ' K hs=> ?_) ?_ ?_
 ·have he:∀x∈xs,ev σ' x=ev σ x:=fun x mY=>XD (oN x mY) hs
  exact Qw au ((Xg hs).trans hw) hd ht hz hl gw pX (fun x mY=>by rw [he x mY];exact hx x mY) (by rw [List.map_congr_left he];exact hc) fun g hg=>XP (Qb ⟨_,⟨g,hg,rfl,rfl⟩,rfl⟩)
 ·rintro r h2 ⟨g,_,_,rfl⟩;exact fun p hp=>Lm _ (fK p hp)
 ·rintro r h2 ⟨g,hg,rfl,rfl⟩;exact k g hg
theorem YJ {t e size bytes n d1 s gt:Nat} {z:List CV} {og:Option Nat} {f f':Nat→CV} {pre:Qa} {v:AV} (ho:l[i]?=some o) (ko:o.op=.call {callee:=.builtin .append,args:= #[.tmp s,.tmp d1],argTypes:= #[t,t]})
  (kg:o.guard=none) (lH:Qs E.N o.dst=true)
  (ht:QP E.P t=some (e,size,bytes)) (hz:Qk E.P e=some z) (aY:z.length=size) (bw:0<size) (bF:size≤16777216)
  (oE:ev σ (.tmp s)=.c (gs og size n)) (oD:ev σ (.tmp d1)=.c (.aO gt size 0 1)) (ax:og=none→n=0) (bo:OV v=true) (js:v.cells.length=size) (hh:h=(gt,.cells e (1*size) (ao v.cells))::(pre++gh og e (n*size) f))
  (dn:n+1≤maxLen) (ed:(n+1)*bytes≤140737488355328) (hf:∀j,j<(n+1)*size→Xs f (n*size) (ao v.cells) j=f' j) (fK:Kq FP' ((gt,.cells e (1*size) (ao v.cells))::pre))
  (k:∀g',g'∉Qa.keys ((gt,.cells e (1*size) (ao v.cells))::pre)→CW E l K FP' cs (σ.az o.dst (.c (gs (some g') size (n+1)))) ((gt,.cells e (1*size) (ao v.cells))::(pre++gh (some g') e ((n+1)*size) f')))
  (hm:m=2∨m=1∧FP'=FP:=by first|exact .inl rfl|exact .inr ⟨rfl,rfl⟩):CW E l K FP ((i,m)::cs) σ h:=by
 subst hh
 obtain⟨Rz,z8⟩:=WM bo
 refine .k6 ho hm (R:=fun r h2=>∃g',g'∉Qa.keys ((gt,.cells e (1*size) (ao v.cells))::pre)∧r=.c (gs (some g') size (n+1))∧h2=(gt,.cells e (1*size) (ao v.cells))::(pre++gh (some g') e ((n+1)*size) f')) (fun σ' K hs=> ?_) ?_ ?_
 ·have cZ:∀jR,Qu l jR o=some true:=fun jR=>by unfold Qu;rw [kg]
  have pO:ev σ' (.tmp s)=.c (gs og size n):=(XD (by rw [ko];simp [Op.operands,Call.operands]) hs).trans oE
  have pN:ev σ' (.tmp d1)=.c (.aO gt size 0 1):=(XD (by rw [ko];simp [Op.operands,Call.operands]) hs).trans oD
  have cl:∀h0:Qa,Src ((gt,.cells e (1*size) (ao v.cells))::h0) size (.aO gt size 0 1) 1 (ao v.cells):=fun h0=>by
   refine .aO (f':=ao v.cells) (m:=1*size) (ty:=e) (by simp [Qa.get]) om (fun j _=>by rw [Nz])
  cases og with
  |none=>
   have jo:n=0:=ax rfl
   subst jo
   refine UX (cx:=.aO gt size 0 1) (k:=1) (f2:=ao v.cells) ko (cZ _) lH ht hz aY bw pO pN (cl _) om om om fun g' ch=> ?_
   refine QY (f':=f') (fun j hj=> ?_) ?_
   ·have:=hf j om
    rw [←this];simp [Xs]
   ·have dx:g'∉Qa.keys ((gt,.cells e (1*size) (ao v.cells))::pre):=fun hm=>ch (by simpa [gh] using hm)
    refine Qj (h':=(gt,.cells e (1*size) (ao v.cells))::(pre++[(g',.cells e (1*size) f')])) ?_ ?_
    ·have:(pre++gh none e (0*size) f)=pre:=by simp [gh]
     rw [this]
     refine(List.Perm.swap _ _ _).trans (List.Perm.cons _ ?_)
     exact(List.perm_append_singleton _ _).symm
    ·exact XP (Qb ⟨_,⟨g',dx,rfl,by simp [gh]⟩,rfl⟩)
  |some g=>
   refine YY fun bf=> ?_
   have kn:g∉pre.keys:=fun hm=>by
    simp only [Qa.keys,gh,Ld,List.map_append,List.map_nil,List.nodup_cons] at bf
    have:=(List.nodup_append.1 bf.2).2.2 g hm g (by simp)
    exact this rfl
   have mN:gt≠g:=fun e=>by
    subst e
    simp [Qa.keys,gh] at bf
   refine YA (cx:=.aO gt size 0 1) (k:=1) (f2:=ao v.cells) (g:=g) (m:=n*size) (f:=f) (h2:=(gt,.cells e (1*size) (ao v.cells))::pre) ko (cZ _) lH ht hz aY bw pO ?_ (Ac _) pN (cl _) ?_ om dn ed ?_ fun g' ch=> ?_
   ·show Qa.get ((gt,_)::(pre++[(g,_)])) g=_
    simp only [Qa.get,iN mN]
    exact Qa.dc kn
   ·intro j hj
    have bp:j<v.cells.length:=by omega
    rw [Of v.cells j v.cells[j] (Li bp)]
    exact List.all_eq_true.1 z8 _ (Le bp)
   ·show Qa.del ((gt,_)::(pre++[(g,_)])) g=_
    rw [Qa.j5 mN,Qa.eC kn]
   ·refine QY (f':=f') hf ?_
    refine Qj (h':=(gt,.cells e (1*size) (ao v.cells))::(pre++[(g',.cells e ((n+1)*size) f')])) ?_ ?_
    ·refine(List.Perm.swap _ _ _).trans (List.Perm.cons _ ?_)
     exact(List.perm_append_singleton _ _).symm
    ·exact XP (Qb ⟨_,⟨g',ch,rfl,rfl⟩,rfl⟩)
 ·rintro r h2 ⟨g',_,_,rfl⟩
  intro p hp
  rcases Lb.1 (fK p hp) with e|hm
  ·exact e▸Lf ..
  ·exact Lm _ (List.mem_append_left _ hm)
 ·rintro r h2 ⟨g',hg,rfl,rfl⟩;exact k g' hg
end
end
section
section
variable {E : Vj} {K : List It} {l : List Oper} {FP : Qa} {σ σ' : Sl} {h : Qa} {o : Oper} {i : Nat} {cs : List (Nat × Nat)}
theorem W2 {f:FuncId} {xs:List Operand} {ts:Array TypeId} {g:Nat} {ob ob':XS} {args:List AV} {r:AV} (ho:l[i]?=some o) (hf:Fg E.P f g ob args r ob') (au:o.op=.call {callee:=.value (.func f),args:=xs.toArray,argTypes:=ts}) (hw:Qu l σ o=some true) (hd:Qs E.N o.dst=true)
  (hg:h.get g=some ob) (le:JT [] (xs.map (ev σ)) args) (fK:Kq FP (h.set g ob')) (k:CW E l K FP cs (σ.az o.dst r) (h.set g ob')):CW E l K FP ((i,1)::cs) σ h:=by
 refine Ur (hc:=[(g,ob)]) (hr:=h.del g) ho hf au hw hd (Qa.dD hg) le ?_ ?_ (hm:=.inr ⟨rfl,rfl⟩)
 ·rintro _ _ ⟨rfl,rfl⟩
  exact fun p hp=>(Qa.set_perm (ob':=ob') hg).mem_iff.1 (fK p hp)
 ·rintro _ _ ⟨rfl,rfl⟩ _
  exact B5 (Qa.set_perm hg).symm k
end
end
end Go.AI
namespace Go.AI
open Go.PN
theorem Yq {xs:List BS} {n:Nat} (hn:xs.length=n) (t:BS):∀j,j<(n+1)*1→Xs (Qi xs) (n*1) (ao (An t)) j=Qi (xs++[t]) j:=YR (s:=1) (c:=An) (d:=([]:BS)) hn t Af
theorem Kv {xs:List Xk} {n:Nat} (hn:xs.length=n) (t:Xk):∀j,j<(n+1)*7→Xs (X1 xs) (n*7) (ao (Zi t)) j=X1 (xs++[t]) j:=YR (s:=7) (c:=Zi) (d:=(aU:Xk)) hn t Af
theorem BD {xs:List Zh} {n:Nat} (hn:xs.length=n) (t:Zh):∀j,j<(n+1)*4→Xs (VJ xs) (n*4) (ao (O3 t)) j=VJ (xs++[t]) j:=YR (s:=4) (c:=O3) (d:=(bE:Zh)) hn t Af
section
theorem Quo (a b:BS):(sB a==sB b)=decide (a=b):=by
 show((sB a).data==(sB b).data)=_
 rw [Bool.eq_iff_iff];simp
section
variable {P : Program}
def dW (l:BS):Value:=.string (sB l)
theorem KU {kt:TypeId} (ht:P.underlying kt=some .string):pb P kt dW:=by
 refine⟨fun b a w=> ?_,fun a ks es w h=> ?_⟩
 ·unfold Instr.checkKey dW
  simp only [Sem.run_bind,run_underlying ht,Result.andThen_ok]
  rfl
 ·unfold Instr.findKey
  simp only [Sem.run_bind,run_underlying ht,Result.andThen_ok]
  have hn:∀(ks:List BS) (es:List MapEntry) (i:Nat),es.map (·.key)=ks.map dW→Instr.findNow .string (dW a) es i=some (cP a ks es i):=by
   intro ks
   induction ks with
   |nil=>
    intro es i h
    cases es with
    |nil=>rfl
    |cons e es=>simp at h
   |cons k ks ih=>
    intro es i h
    cases es with
    |nil=>simp at h
    |cons e es=>
     simp only [Ld,List.cons.injEq] at h
     simp only [Instr.findNow,cP,h.1,dW,Instr.sameNow]
     rw [show((⟨a.toArray⟩:ByteArray)==(⟨k.toArray⟩:ByteArray))=decide (a=k) from Quo a k]
     by_cases hk:a=k
     ·rw [Dt hk,iP hk]
     ·rw [De hk,iN hk]
      exact ih es (i+1) h.2
  rw [hn ks es 0 h]
  rfl
end
section
variable {E : Vj} {K : List It} {σ σ' : Sl} {h : Qa} {all rest : List Oper} {o : Oper}
theorem VZ.oT {l:List Oper} {α:Type} [DecidableEq α] {Kf:α→Value} {t kt et g:TypeId} {kv:List (α×Value)} {x ky:Operand} {ck:AV} {a:α} {z:Value} (au:o.op=.lookup t x ky false) (hw:Qu l σ o=some true) (hd:Qs E.N o.dst=true)
  (ht:pr E.P t=some (kt,et)) (hK:pb E.P kt Kf) (hz:tJ E.P et=some z) (hx:ev σ x=.c (.raw (.map (some g)))) (hg:h.get g=some (.gen (JY Kf kv))) (hk:ev σ ky=ck) (iY:∀S w v,VY S w ck v→v=Kf a):
  VZ E h l σ o (.c (Oz ((ZG a kv).getD z))):=by
 refine⟨hd,fun σ' ac w Q hs s=> ?_⟩
 rw [iP (s.wanted ((Xg hs).trans hw))]
 have h1:=QN s x
 rw [XD (by rw [au];simp [Op.operands]) hs,hx] at h1
 have cU:ac.eval x=.map (some g):=h1
 have h2:=QN s ky
 rw [XD (by rw [au];simp [Op.operands]) hs,hk] at h2
 have jB:=iY _ _ _ h2
 obtain⟨ob,hb,es,c,rfl,lI⟩:=s.heap g _ (Qa.get_mem hg)
 have gi:es.toList.map (·.key)=(kv.map (·.1)).map Kf:=by
  have:=congrArg (List.map Prod.fst) lI
  rw [List.map_map,List.map_map] at this
  rw [List.map_map]
  exact this
 have gg:=hK.find a (kv.map (·.1)) es.toList w gi
 have de:=WT (K:=Kf) a kv es.toList 0 lI
 have Ek:(Instr.lookup t (ac.eval x) (ac.eval ky) false).run E.P w=.ok ((ZG a kv).getD z) w:=by
  rw [cU,jB]
  unfold Instr.lookup
  simp only [Sem.run_bind,run_underlying (Ok ht),Result.andThen_ok,xM hb,Sem.run_pure,hK.check,gg]
  rw [←de]
  cases hf:cP a (kv.map (·.1)) es.toList 0 with
  |none=>simp [Mq hz]
  |some p=>obtain⟨i,v⟩:=p;simp
 have aR:(execOp ac.eval o).run E.P w=.ok (.value ((ZG a kv).getD z)) w:=by
  simp only [execOp,au,Sem.run_bind,Ek,Result.andThen_ok]
  rfl
 unfold Oper.wp
 rw [aR]
 exact s.put hd (WE _ _ _)
theorem JL {l:List Oper} {n:Nat} {α:Type} [DecidableEq α] {Kf:α→Value} {t kt et g:TypeId} {kv:List (α×Value)} {x ky:Operand} {ck:AV} {a:α} {z:Value} (au:o.op=.lookup t x ky false) (hw:Qu l σ o=some true) (hd:Qs E.N o.dst=true)
 (ht:pr E.P t=some (kt,et)) (hK:pb E.P kt Kf) (hz:tJ E.P et=some z) (hx:ev σ x=.c (.raw (.map (some g)))) (hg:h.get g=some (.gen (JY Kf kv))) (hk:ev σ ky=ck) (iY:∀S w v,VY S w ck v→v=Kf a)
 (k:YO E h l K n rest (σ.az o.dst (.c (Oz ((ZG a kv).getD z))))):YO E h l K (n+1) (o::rest) σ:=Uk (VZ.oT au hw hd ht hK hz hx hg hk iY) k
end
end
end Go.AI
namespace Go.Proofs.YtjegkdadeghpjaaGreatDoor
open Go.AI Go.PN Proofs.Tryz
theorem F8 {a b c:CV}:∀j,j<7→∀(S:Bool→Nat→Prop) w u,XQ S w (ao [a,b,c,.ab,.bool false,.ab,.ab] j) u→XQ S w (ao ([a,b,c,.ab]++YS aW) j) u:=fun j hj S w u hr=>by
 match j,hj with
 |0,_=>exact hr
 |1,_=>exact hr
 |2,_=>exact hr
 |3,_=>exact hr
 |4,_=>exact hr
 |5,_=>exact XK hr
 |6,_=>exact XK hr
attribute [local irreducible] aw Fa VA Vk Fh YO
theorem L5 (g:Nat) (L:List TX) (s:PS) (hs:s.l<:+L.map TX.t) (hL:L.length≤1048576) (hw:∀t∈L,t.t.text.length≤1099511627776):Fg prog 164 g (X8 L s) [.c (.aj g 0)] (.agg (Zi (Ku s).1)) (X8 L (Ku s).2):=by
 have f1:=VN g L s hs om
 have dz:=Jj hs
 rw [Bx]
 unfold PN.aG
 generalize Xu s=r at*
 obtain⟨nm,s1⟩:=r
 dsimp only at*
 have f2:=ub g L s1 0 dz om
 have f3:=Yz g L s1 (UT s1).isSome dz om
 have cu:=(CE.bD s1).trans dz
 have jU:(uR s1).1=UT s1:=rfl
 have kg:(uR s1).2=(QU (UT s1).isSome s1).2:=rfl
 rw [jU]
 rw [←kg] at f3
 generalize (uR s1).2=s2 at*
 generalize (QU (UT s1).isSome s1).1=tw at*
 unfold Fg
 refine fH func164 fun C hC=>?_
 apply fy
 apply jP
 refine xA fun g2 aq=>?_
 refine yH aq ?_
 apply fy
 apply jP
 refine yH aq ?_
 refine nY f1 rfl rfl rfl (zE aq) (o5 o0) ?_
 refine yS aq ?_
 refine yH aq ?_
 refine yA aq fun g3 av=>?_
 have J1:=oj aq av
 refine yW J1 ?_
 refine yS J1 ?_
 refine yH J1 ?_
 apply fy
 apply jP
 refine yH J1 ?_
 apply fy
 refine Ym (fun _:Unit=>[(0,.c (.aj g 0)),(2,.c (.aj g2 0)),(3,.c (.aj g3 0)),(4,.c (.bool (UT s1).isSome))]) (fun _=>[(g3,.cells 71 7 (ao [.str (sB nm),.int .i64 ((UT s1).getD 0),.int .i64 0,.ab,.bool false,.ab,.ab])),(g2,.cells 71 7 (ao [.str (sB []),.int .i64 0,.int .i64 0,.ab,.bool false,.ab,.ab])),(g,X8 L s1)]) (fun _=>1=1) ?_ ?_
 ·all_goals repeat' first|refine zV J1 ?_|refine yQ J1 f2 ?_|refine zH J1 ?_ ?_<;>intro hb|fail
  ·obtain⟨h0,h1,h2⟩:=QrV dz hb
   have hk:UT s1=sN (oC s1):=by unfold UT;rw [iP hb]
   have tl:=Qpm (oC s1)
   rw [←hk] at tl
   refine Yl ([(g3,.cells 71 7 (ao [.str (sB nm),.int .i64 0,.int .i64 0,.ab,.bool false,.ab,.ab])),(g,X8 L s1)]) [(0,0),(1,0),(2,0),(3,0),(4,0),(5,0),(6,0),(7,0),(8,0),(9,0),(10,0),(11,0),(12,0),(13,0),(15,0),(14,3),(16,2),(17,0)] Qg kR eI ?_
   have J2:=oj aq (oj av h2)
   refine yG J2 ?_
   refine X9 rfl tl rfl rfl rfl (fun _ _=>(zL J2)) ?_
   refine Xw J2 ?_
   iterate 1 (refine wc3 rfl rfl fun R r=> ?_;simp only [go_sem,aq,av,h2];with_reducible show R (some _);with_reducible refine r _ _ ?_;clear r R)
   have J3:=oj aq (oj av h2)
   refine yS J3 ?_
   refine Xc (FP':=[]) rfl rfl rfl rfl rfl (zE J3) (zE J3) (zE J3) (zE J3) (fun _ e=>by cases e) rfl rfl (show 2≤7 from by omega) rfl Qf ?_
   refine Xw J3 ?_
   refine Qb ⟨(),?_⟩
   and_intros<;>first|rfl|exact Lr _|exact True.intro
  ·have hk:UT s1=none:=by unfold UT;rw [iN (by rw [hb];decide)]
   rw [hk]
   refine Qb ⟨(),?_⟩
   and_intros<;>first|rfl|exact Lr _|exact True.intro
 rintro _ _
 apply fy
 apply jP
 have J4:=oj aq av
 refine yH J4 ?_
 refine nY f3 rfl rfl rfl (zE J4) (o5 o0) ?_
 refine yS J4 ?_
 refine yH J4 ?_
 apply fy
 refine Ym (fun _:Unit=>[(0,.c (.aj g 0)),(2,.c (.aj g2 0)),(3,.c (.aj g3 0))]) (fun _=>[(g3,.cells 71 7 (ao ([.str (sB nm),.int .i64 ((UT s1).getD 0),.int .i64 (lB (UT s1) s2).1,.ab]++YS (j9 (UT s1) s2).1))),(g2,.cells 71 7 (ao [.str (sB []),.int .i64 0,.int .i64 0,.ab,.bool false,.ab,.ab])),(g,X8 L (j9 (UT s1) s2).2)]) (fun _=>1=1) ?_ ?_
 ·have f4:=HP g L s2 cu om hw
  have f5:=Kg g L s2 cu om hw
  by_cases k2:UT s1=some 2
  ·have hv:lB (UT s1) s2=Zt s2:=by unfold lB;rw [iP k2]
   have hd:j9 (UT s1) s2=(aW,(Zt s2).2):=by unfold j9;rw [iN (by rw [k2];decide),hv]
   rw [hv,hd,k2]
   refine Zg J4 f4 ?_
   refine UA (f':=ao ([.str (sB nm),.int .i64 2,.int .i64 (Zt s2).1,.ab]++YS aW)) F8 ?_
   refine Qb ⟨(),?_⟩
   and_intros<;>first|rfl|exact Lr _|exact True.intro
  by_cases k7:UT s1=some 7
  ·have hv:lB (UT s1) s2=(0,s2):=by unfold lB;rw [iN k2]
   have hd:j9 (UT s1) s2=Yh s2:=by unfold j9;rw [iP k7,hv]
   rw [hv,hd,k7]
   refine Zg J4 f5 ?_
   refine Qb ⟨(),?_⟩
   and_intros<;>first|rfl|exact Lr _|exact True.intro
  ·have hv:lB (UT s1) s2=(0,s2):=by unfold lB;rw [iN k2]
   have hd:j9 (UT s1) s2=(aW,s2):=by unfold j9;rw [iN k7,hv]
   have n2:((UT s1).getD 0==(2:Int))=false:=by
    cases hk:UT s1 with
    |none=>rfl
    |some v=>simp only [Option.getD_some];rw [beq_eq_false_iff_ne];intro e;exact k2 (by rw [hk,e])
   have n7:((UT s1).getD 0==(7:Int))=false:=by
    cases hk:UT s1 with
    |none=>rfl
    |some v=>simp only [Option.getD_some];rw [beq_eq_false_iff_ne];intro e;exact k7 (by rw [hk,e])
   rw [hv,hd]
   refine zA (oj aq (oj av (oj n2 n7))) ?_
   refine UA (f':=ao ([.str (sB nm),.int .i64 ((UT s1).getD 0),.int .i64 0,.ab]++YS aW)) F8 ?_
   refine Qb ⟨(),?_⟩
   and_intros<;>first|rfl|exact Lr _|exact True.intro
 rintro _ _
 have fN:(j9 (UT s1) s2).2.l<:+L.map TX.t:=(QrW _ _).trans cu
 have dP:DD nm (UT s1) s2=(⟨nm,(UT s1).getD 0,(lB (UT s1) s2).1,(uG (j9 (UT s1) s2).2).1,(j9 (UT s1) s2).1⟩,(uG (j9 (UT s1) s2).2).2):=rfl
 rw [dP]
 generalize lB (UT s1) s2=v at*
 generalize j9 (UT s1) s2=d at*
 generalize (UT s1).getD 0=kd at*
 obtain⟨d,s3⟩:=d
 obtain⟨v,s3'⟩:=v
 dsimp only at*
 clear f1 f2 f3 jU kg cu dz J4
 unfold uG
 dsimp only
 generalize hF:KS (fun s=> !Xe s QV) nN [] s3=F at*
 apply fy
 refine Ym (fun _:Nat×Option Nat=>[(0,.c (.aj g 0)),(2,.c (.aj g2 0)),(3,.c (.aj g3 0))]) (fun x=>[(g3,.cells 71 7 (ao ([.str (sB nm),.int .i64 kd,.int .i64 v,gs x.2 1 x.1]++YS d))),(g2,.cells 71 7 (ao [.str (sB []),.int .i64 0,.int .i64 0,.ab,.bool false,.ab,.ab])),(g,X8 L F.2)]++gh x.2 9 x.1 (Qi F.1)) (fun x=>F.1.length=x.1∧(x.2=none→x.1=0)) ?_ ?_
 ·apply nr
  refine Qh (fun _:PS×List BS×Nat×Option Nat=>[(0,.c (.aj g 0)),(2,.c (.aj g2 0)),(3,.c (.aj g3 0))]) (fun x=>[(g3,.cells 71 7 (ao ([.str (sB nm),.int .i64 kd,.int .i64 v,gs x.2.2.2 1 x.2.2.1]++YS d))),(g2,.cells 71 7 (ao [.str (sB []),.int .i64 0,.int .i64 0,.ab,.bool false,.ab,.ab])),(g,X8 L x.1)]++gh x.2.2.2 9 x.2.2.1 (Qi x.2.1))
   (fun x=>x.1.l<:+L.map TX.t∧x.2.1.length=x.2.2.1∧(x.2.2.2=none→x.2.2.1=0)∧x.2.2.1+mS x.1≤1048577∧KS (fun s=> !Xe s QV) nN x.2.1 x.1=F) (fun x=>mS x.1) (s3,[],0,none) (zB (oj aq av)) zZ ⟨fN,rfl,fun _=>rfl,?_,hF⟩ ?_
  ·have:=fN.length_le
   rw [Lw] at this
   dsimp only
   unfold mS
   split<;>omega
  rintro ⟨sx,xs,n,og⟩ ⟨cr,hn,ax,hm,aB⟩
  dsimp only at cr hn ax hm aB⊢
  have f2:=Vc g L sx QV cr om
  have f4:=wF g L sx cr om hw
  all_goals try(have Z:=(oj aq av);(repeat' first|refine zV Z ?_|refine yQ Z f2 ?_|refine zH Z ?_ ?_<;>intro hb|fail);all_goals clear Z)
  ·rename_i h0
   have hc:(!Xe sx QV)=true:=hb
   have bP:=Vb (c:=fun s=> !Xe s QV) (b:=nN) (a:=xs) (fun a s h _=>ME a s h) h0 hc
   have aD:=ME xs sx h0
   rw [bP] at aB
   have jY:(nN xs sx).2.l<:+L.map TX.t:=((w8 xs).bD sx).trans cr
   have e1:(nN xs sx).1=xs++[(Y3 sx).1]:=rfl
   have e2:(nN xs sx).2=(Y3 sx).2:=rfl
   rw [e2] at aD jY
   rw [e1,e2] at aB
   generalize Y3 sx=y at*
   obtain⟨t,sy⟩:=y
   dsimp only at*
   refine Yl ([(g3,.cells 71 7 (ao (.str (sB nm)::.int .i64 kd::.int .i64 v::gs og 1 n::YS d)))]) [(0,0),(1,0),(2,0),(3,1),(4,1),(5,1),(6,0),(7,2)] Qg kR eI ?_
   have J5:=oj aq av
   refine yG J5 ?_
   refine W2 rfl f4 rfl rfl rfl (zE J5) (zL J5) (by refine yS J5 ?_;exact Qm (Lf ..) Qf) ?_
   refine Xw J5 ?_
   refine Qv (xs:=[.tmp 54]) (cells:=[.str (sB t)]) rfl rfl rfl rfl (zE J5) (by refine yS J5 ?_;rfl) rfl om om qd rfl Ag (Qm (Lf ..) Qf) (fun ga bR=> ?_) (hm:=.inr ⟨rfl,rfl⟩)
   refine yS J5 ?_
   refine YJ (pre:=[(g3,.cells 71 7 (ao (.str (sB nm)::.int .i64 kd::.int .i64 v::gs og 1 n::YS d))),(g2,.cells 71 7 (ao [.str (sB []),.int .i64 0,.int .i64 0,.ab,.bool false,.ab,.ab])),(g,X8 L sy)]) (og:=og) (n:=n) (s:=52) (d1:=55) (gt:=ga) (v:=.c (.str (sB t))) rfl rfl rfl rfl (zE J5) (zE J5) (by rfl) om om (zE J5) (zE J5) ax (by rfl) (by rfl) (by simp only [Ad,Lq,Ln];rfl) qc om (Yq hn t) (XR (Qm (Lf ..) Qf)) (fun gb bH=> ?_) (hm:=.inr ⟨rfl,rfl⟩)
   replace bR:=Qa.ay bR
   simp only [Qa.ne] at bR
   have J6:=oj aq (oj av bR)
   refine Xw J6 ?_
   refine Xc (FP':=[]) rfl rfl rfl rfl rfl (zE J6) (zE J6) (zE J6) (zE J6) (fun _ e=>by cases e) rfl rfl (show 4≤7 from by omega) rfl Qf ?_
   refine Xw J6 ?_
   refine Qb ⟨(sy,xs++[t],n+1,some gb),?_⟩
   refine⟨aD,?_⟩
   and_intros
   all_goals first|rfl|exact List.Sublist.cons _ (Lr _)|exact True.intro|exact jY|exact Xx|exact aB|(dsimp only;rw [La,hn];rfl)|(dsimp only;omega)
  ·have hc:¬(sx.e=0∧(!Xe sx QV)=true):=fun z=>by rw [hb] at z;exact absurd z.2 Af
   rw [Ye hc] at aB
   subst aB
   refine Qb ⟨(n,og),?_⟩
   and_intros<;>first|rfl|exact Lr _|exact True.intro|exact hn|exact ax
  ·have hc:¬(sx.e=0∧(!Xe sx QV)=true):=fun z=>hb z.1
   rw [Ye hc] at aB
   subst aB
   refine Qb ⟨(n,og),?_⟩
   and_intros<;>first|rfl|exact Lr _|exact True.intro|exact hn|exact ax
 rintro ⟨n,og⟩ ⟨hn,ax⟩
 dsimp only at hn ax⊢
 have jX:F.2.l<:+L.map TX.t:=by
  rw [←hF];exact((Zw w8 []).bD s3).trans fN
 have f6:=Xy g L F.2 QV jX om
 subst hn
 refine YY fun bf=> ?_
 have cj:∀q,og=some q→¬C.bO q:=fun q hq ja=>by
  subst hq
  have:q=g:=by simpa [Qa.keys] using (hC q).1 ja
  subst this
  simp [Qa.keys,gh] at bf
 refine Qj (h':=(g3,.cells 71 7 (ao (.str (sB nm)::.int .i64 kd::.int .i64 v::gs og 1 F.1.length::YS d)))::(gh og 9 (F.1.length*1) (Qi F.1)++[(g2,.cells 71 7 (ao [.str (sB []),.int .i64 0,.int .i64 0,.ab,.bool false,.ab,.ab])),(g,X8 L F.2)])) (by rw [Ad];exact .cons _ (List.perm_append_comm (l₁:=[(g2,.cells 71 7 (ao [.str (sB []),.int .i64 0,.int .i64 0,.ab,.bool false,.ab,.ab])),(g,X8 L F.2)]))) ?_
 refine Q7 (j0:=3) (n:=F.1.length) (s:=1) (f':=ao (.str (sB nm)::.int .i64 kd::.int .i64 v::YH true F.1::YS d)) rfl rfl (fun j hj fG=>by
  match j,hj,fG with
  |0,_,_=>rfl
  |1,_,_=>rfl
  |2,_,_=>rfl
  |4,_,_=>rfl
  |5,_,_=>rfl
  |6,_,_=>rfl) ax cj ?_
 refine Zg (oj aq av) f6 ?_
 refine QS (h':=[(g,X8 L (Xt QV F.2))]) rfl sL fun R r=>?_;simp only[go_sem,aq,av];refine r _ rfl ?_;clear r R
 exact⟨rfl,rfl⟩
theorem Tj {xs:List RD} {n:Nat} (hn:xs.length=n) (t:RD):∀j,j<(n+1)*3→Xs (Z6 xs) (n*3) (ao (YS t)) j=Z6 (xs++[t]) j:=YR (s:=3) (c:=fun r:RD=>[CV.bool r.neg,ws true r.num,ws true r.den]) (d:=aW) hn t Af
theorem Qpq (g:Nat) (L:List TX) (s:PS) (hs:s.l<:+L.map TX.t) (hL:L.length≤1048576) (hw:∀t∈L,t.t.text.length≤1099511627776):Fg prog 166 g (X8 L s) [.c (.aj g 0)] (.agg (UF (KI s).1)) (X8 L (KI s).2):=by
 have f1:=VN g L s hs om
 have dz:=Jj hs
 unfold KI
 dsimp only
 generalize Xu s=r at*
 obtain⟨nm,s1⟩:=r
 dsimp only at*
 have f2:=Vc g L s1 OI dz om
 have f3:=Vc g L s1 KF dz om
 have f4:=Yz g L s1 (Xe s1 OI||Xe s1 KF) dz om
 have cu:=((Y4 fun s=>Xe s OI||Xe s KF).bD s1).trans dz
 try dsimp only at cu
 generalize hr:QU (Xe s1 OI||Xe s1 KF) s1=r at*
 obtain⟨tw,s2⟩:=r
 dsimp only at*
 generalize P5:(if(tw==KF)=true then(1:Int) else 0)=kd
 generalize hF:KS (fun s=>X4 s 1) nC [] s2=F at*
 unfold Fg
 refine fH func166 fun C hC=>?_
 apply fy
 apply jP
 refine xA fun g2 aq=>?_
 refine yH aq ?_
 apply fy
 apply jP
 refine yH aq ?_
 refine nY f1 rfl rfl rfl (zE aq) (o5 o0) ?_
 refine yS aq ?_
 refine yH aq ?_
 refine yA aq fun g3 av=>?_
 have J1:=oj aq av
 refine yW J1 ?_
 refine yS J1 ?_
 refine yH J1 ?_
 apply fy
 refine Ym (fun _:Unit=>[(0,.c (.aj g 0)),(2,.c (.aj g2 0)),(3,.c (.aj g3 0))]) (fun _=>[(g3,.cells 108 4 (ao [.str (sB nm),.int .i64 kd,.ab,.ab])),(g2,.cells 108 4 (ao [.str (sB []),.int .i64 0,.ab,.ab])),(g,X8 L s2)]) (fun _=>1=1) ?_ ?_
 ·cases h1:Xe s1 OI with
  |true=>
   rw [h1] at f2 f4
   rw [Bool.true_or] at f4
   all_goals repeat' first|refine zV J1 ?_|refine yQ J1 f2 ?_|refine yQ J1 f3 ?_|refine yQ J1 f4 ?_|refine zH J1 ?_ ?_<;>intro hb|fail
   all_goals
    refine Qb ⟨(),?_⟩
    rw [←P5]
    simp only [hb,beq_self_eq_true,if_true,if_false,beq_iff_eq]
    and_intros<;>first|rfl|exact Lr _|exact True.intro
  |false=>
   rw [h1] at f2 f4
   rw [Bool.false_or] at f4
   all_goals repeat' first|refine zV J1 ?_|refine yQ J1 f2 ?_|refine yQ J1 f3 ?_|refine yQ J1 f4 ?_|refine zH J1 ?_ ?_<;>intro hb|fail
   all_goals
    refine Qb ⟨(),?_⟩
    rw [←P5]
    simp only [hb,beq_self_eq_true,if_true,if_false,beq_iff_eq]
    and_intros<;>first|rfl|exact Lr _|exact True.intro
 rintro _ _
 clear f1 f2 f3 f4 J1
 apply fy
 refine Ym (fun _:Nat×Option Nat=>[(0,.c (.aj g 0)),(2,.c (.aj g2 0)),(3,.c (.aj g3 0))]) (fun x=>[(g3,.cells 108 4 (ao [.str (sB nm),.int .i64 kd,.ab,gs x.2 3 x.1])),(g2,.cells 108 4 (ao [.str (sB []),.int .i64 0,.ab,.ab])),(g,X8 L F.2)]++gh x.2 69 (x.1*3) (Z6 F.1)) (fun x=>F.1.length=x.1∧(x.2=none→x.1=0)) ?_ ?_
 ·apply nr
  refine Qh (fun _:PS×List RD×Nat×Option Nat=>[(0,.c (.aj g 0)),(2,.c (.aj g2 0)),(3,.c (.aj g3 0))]) (fun x=>[(g3,.cells 108 4 (ao [.str (sB nm),.int .i64 kd,.ab,gs x.2.2.2 3 x.2.2.1])),(g2,.cells 108 4 (ao [.str (sB []),.int .i64 0,.ab,.ab])),(g,X8 L x.1)]++gh x.2.2.2 69 (x.2.2.1*3) (Z6 x.2.1))
   (fun x=>x.1.l<:+L.map TX.t∧x.2.1.length=x.2.2.1∧(x.2.2.2=none→x.2.2.1=0)∧x.2.2.1+mS x.1≤1048577∧KS (fun s=>X4 s 1) nC x.2.1 x.1=F) (fun x=>mS x.1) (s2,[],0,none) (zB (oj aq av)) zZ ⟨cu,rfl,fun _=>rfl,?_,hF⟩ ?_
  ·have:=(cu).length_le
   rw [Lw] at this
   dsimp only
   unfold mS
   split<;>omega
  rintro ⟨sx,xs,n,og⟩ ⟨cr,hn,ax,hm,aB⟩
  dsimp only at cr hn ax hm aB⊢
  have f5:=ub g L sx 1 cr om
  have f7:=Kg g L sx cr om hw
  all_goals try(have Z:=(oj aq av);(repeat' first|refine zV Z ?_|refine yQ Z f5 ?_|refine zH Z ?_ ?_<;>intro hb|fail);all_goals clear Z)
  ·have h0:sx.e=0:=(MN hb)
   have hc:(fun s=>X4 s 1) sx=true:=hb
   have bP:=Vb (c:=fun s=>X4 s 1) (b:=nC) (a:=xs) (fun a s h _=>HM a s h) h0 hc
   have aD:=HM xs sx h0
   rw [bP] at aB
   have jY:(nC xs sx).2.l<:+L.map TX.t:=((wD xs).bD sx).trans cr
   have e1:(nC xs sx).1=xs++[(Yh sx).1]:=rfl
   have e2:(nC xs sx).2=(Yh sx).2:=rfl
   rw [e2] at aD jY
   rw [e1,e2] at aB
   generalize Yh sx=y at*
   obtain⟨t,sy⟩:=y
   dsimp only at*
   refine Yl ([(g3,.cells 108 4 (ao [.str (sB nm),.int .i64 kd,.ab,gs og 3 n]))]) [(0,0),(1,0),(2,0),(3,1),(4,1),(5,1),(6,0),(7,2)] Qg kR eI ?_
   have J2:=oj aq av
   refine yG J2 ?_
   refine W2 rfl f7 rfl rfl rfl (zE J2) (zL J2) (by refine yS J2 ?_;exact Qm (Lf ..) Qf) ?_
   refine Xw J2 ?_
   refine Qv (xs:=[.tmp 22]) (cells:=YS t) rfl rfl rfl rfl (zE J2) (by refine yS J2 ?_;rfl) rfl om om qd rfl Ag (Qm (Lf ..) Qf) (fun ga bR=> ?_) (hm:=.inr ⟨rfl,rfl⟩)
   refine yS J2 ?_
   refine YJ (pre:=[(g3,.cells 108 4 (ao [.str (sB nm),.int .i64 kd,.ab,gs og 3 n])),(g2,.cells 108 4 (ao [.str (sB []),.int .i64 0,.ab,.ab])),(g,X8 L sy)]) (og:=og) (n:=n) (s:=20) (d1:=23) (gt:=ga) (v:=.agg (YS t)) rfl rfl rfl rfl (zE J2) (zE J2) (by rfl) om om (zE J2) (zE J2) ax (by rfl) (by rfl) (by simp only [Ad,Lq,Ln];rfl) qc om (Tj hn t) (XR (Qm (Lf ..) Qf)) (fun gb bH=> ?_) (hm:=.inr ⟨rfl,rfl⟩)
   replace bR:=Qa.ay bR
   simp only [Qa.ne] at bR
   have J3:=oj aq (oj av bR)
   refine Xw J3 ?_
   refine Xc (FP':=[]) rfl rfl rfl rfl rfl (zE J3) (zE J3) (zE J3) (zE J3) (fun _ e=>by cases e) rfl rfl (show 4≤4 from by omega) rfl Qf ?_
   refine Xw J3 ?_
   refine Qb ⟨(sy,xs++[t],n+1,some gb),?_⟩
   refine⟨aD,?_⟩
   and_intros
   all_goals first|rfl|exact List.Sublist.cons _ (Lr _)|exact True.intro|exact jY|exact Xx|exact aB|(dsimp only;rw [La,hn];rfl)|(dsimp only;omega)
  ·have hc:¬(sx.e=0∧(fun s=>X4 s 1) sx=true):=fun z=>by rw [show(fun s=>X4 s 1) sx=false from hb] at z;exact absurd z.2 Af
   rw [Ye hc] at aB
   subst aB
   refine Qb ⟨(n,og),?_⟩
   and_intros<;>first|rfl|exact Lr _|exact True.intro|exact hn|exact ax
 rintro ⟨n,og⟩ ⟨hn,ax⟩
 dsimp only at hn ax⊢
 have lQ:F.2.l<:+L.map TX.t:=by
  rw [←hF];exact((Zw wD []).bD s2).trans (cu)
 subst hn
 refine YY fun bf=> ?_
 have cj:∀q,og=some q→¬C.bO q:=fun q hq ja=>by
  subst hq
  have:q=g:=by simpa [Qa.keys] using (hC q).1 ja
  subst this
  simp [Qa.keys,gh] at bf
 refine Qj (h':=(g3,.cells 108 4 (ao [.str (sB nm),.int .i64 kd,.ab,gs og 3 F.1.length]))::(gh og 69 (F.1.length*3) (Z6 F.1)++[(g2,.cells 108 4 (ao [.str (sB []),.int .i64 0,.ab,.ab])),(g,X8 L F.2)])) (by exact .cons _ (List.perm_append_comm (l₁:=[(g2,.cells 108 4 (ao [.str (sB []),.int .i64 0,.ab,.ab])),(g,X8 L F.2)]))) ?_
 refine Q7 (j0:=3) (n:=F.1.length) (s:=3) (f':=ao [.str (sB nm),.int .i64 kd,.ab,.row true 3 F.1.length (Z6 F.1)]) rfl rfl (fun j hj fG=>by
  match j,hj,fG with
  |0,_,_=>rfl
  |1,_,_=>rfl
  |2,_,_=>rfl
  |j+3,h1,h2=>exact absurd (show j+3=3 from by omega) h2) ax cj ?_
 obtain⟨fs,s3⟩:=F
 dsimp only at lQ⊢
 have f6:=Xy g L s3 O1 lQ om
 have jX:(Xt O1 s3).l<:+L.map TX.t:=((QJ O1).bD s3).trans lQ
 generalize Xt O1 s3=s4 at*
 generalize hF':KS (fun s=>X4 s 0) nD [] s4=F
 clear hF lQ cj bf ax
 have hF:=hF'
 apply fy
 apply jP
 have J4:=oj aq av
 refine yH J4 ?_
 refine nY f6 rfl rfl rfl (zE J4) (o5 o0) ?_
 refine yS J4 ?_
 refine yH J4 ?_
 apply fy
 refine Ym (fun _:Nat×Option Nat=>[(0,.c (.aj g 0)),(2,.c (.aj g2 0)),(3,.c (.aj g3 0))]) (fun x=>[(g3,.cells 108 4 (ao [.str (sB nm),.int .i64 kd,gs x.2 1 x.1,.row true 3 fs.length (Z6 fs)])),(g2,.cells 108 4 (ao [.str (sB []),.int .i64 0,.ab,.ab])),(g,X8 L F.2)]++gh x.2 9 (x.1*1) (Qi F.1)) (fun x=>F.1.length=x.1∧(x.2=none→x.1=0)) ?_ ?_
 ·apply nr
  refine Qh (fun _:PS×List BS×Nat×Option Nat=>[(0,.c (.aj g 0)),(2,.c (.aj g2 0)),(3,.c (.aj g3 0))]) (fun x=>[(g3,.cells 108 4 (ao [.str (sB nm),.int .i64 kd,gs x.2.2.2 1 x.2.2.1,.row true 3 fs.length (Z6 fs)])),(g2,.cells 108 4 (ao [.str (sB []),.int .i64 0,.ab,.ab])),(g,X8 L x.1)]++gh x.2.2.2 9 (x.2.2.1*1) (Qi x.2.1))
   (fun x=>x.1.l<:+L.map TX.t∧x.2.1.length=x.2.2.1∧(x.2.2.2=none→x.2.2.1=0)∧x.2.2.1+mS x.1≤1048577∧KS (fun s=>X4 s 0) nD x.2.1 x.1=F) (fun x=>mS x.1) (s4,[],0,none) (zB J4) zZ ⟨jX,rfl,fun _=>rfl,?_,hF⟩ ?_
  ·have:=(jX).length_le
   rw [Lw] at this
   dsimp only
   unfold mS
   split<;>omega
  rintro ⟨sx,xs,n,og⟩ ⟨cr,hn,ax,hm,aB⟩
  dsimp only at cr hn ax hm aB⊢
  have f5:=ub g L sx 0 cr om
  have f7:=VN g L sx cr om
  all_goals repeat' first|refine zV J4 ?_|refine yQ J4 f5 ?_|refine zH J4 ?_ ?_<;>intro hb|fail
  ·have h0:sx.e=0:=(MN hb)
   have hc:(fun s=>X4 s 0) sx=true:=hb
   have bP:=Vb (c:=fun s=>X4 s 0) (b:=nD) (a:=xs) (fun a s h _=>HN a s h) h0 hc
   have aD:=HN xs sx h0
   rw [bP] at aB
   have jY:(nD xs sx).2.l<:+L.map TX.t:=((wE xs).bD sx).trans cr
   have e1:(nD xs sx).1=xs++[(Xu sx).1]:=rfl
   have e2:(nD xs sx).2=(Xu sx).2:=rfl
   rw [e2] at aD jY
   rw [e1,e2] at aB
   generalize Xu sx=y at*
   obtain⟨t,sy⟩:=y
   dsimp only at*
   refine Yl ([(g3,.cells 108 4 (ao [.str (sB nm),.int .i64 kd,gs og 1 n,.row true 3 fs.length (Z6 fs)]))]) [(0,0),(1,0),(2,0),(3,1),(4,1),(5,1),(6,0),(7,2)] Qg kR eI ?_
   refine yG J4 ?_
   refine W2 rfl f7 rfl rfl rfl (zE J4) (zL J4) (by refine yS J4 ?_;exact Qm (Lf ..) Qf) ?_
   refine Xw J4 ?_
   refine Qv (xs:=[.tmp 33]) (cells:=[.str (sB t)]) rfl rfl rfl rfl (zE J4) (by refine yS J4 ?_;rfl) rfl om om qd rfl Ag (Qm (Lf ..) Qf) (fun ga bR=> ?_) (hm:=.inr ⟨rfl,rfl⟩)
   refine yS J4 ?_
   refine YJ (pre:=[(g3,.cells 108 4 (ao [.str (sB nm),.int .i64 kd,gs og 1 n,.row true 3 fs.length (Z6 fs)])),(g2,.cells 108 4 (ao [.str (sB []),.int .i64 0,.ab,.ab])),(g,X8 L sy)]) (og:=og) (n:=n) (s:=31) (d1:=34) (gt:=ga) (v:=.c (.str (sB t))) rfl rfl rfl rfl (zE J4) (zE J4) (by rfl) om om (zE J4) (zE J4) ax (by rfl) (by rfl) (by simp only [Ad,Lq,Ln];rfl) qc om (Yq hn t) (XR (Qm (Lf ..) Qf)) (fun gb bH=> ?_) (hm:=.inr ⟨rfl,rfl⟩)
   replace bR:=Qa.ay bR
   simp only [Qa.ne] at bR
   have J5:=oj aq (oj av bR)
   refine Xw J5 ?_
   refine Xc (FP':=[]) rfl rfl rfl rfl rfl (zE J5) (zE J5) (zE J5) (zE J5) (fun _ e=>by cases e) rfl rfl (show 3≤4 from by omega) rfl Qf ?_
   refine Xw J5 ?_
   refine Qb ⟨(sy,xs++[t],n+1,some gb),?_⟩
   refine⟨aD,?_⟩
   and_intros
   all_goals first|rfl|exact List.Sublist.cons _ (Lr _)|exact True.intro|exact jY|exact Xx|exact aB|(dsimp only;rw [La,hn];rfl)|(dsimp only;omega)
  ·have hc:¬(sx.e=0∧(fun s=>X4 s 0) sx=true):=fun z=>by rw [show(fun s=>X4 s 0) sx=false from hb] at z;exact absurd z.2 Af
   rw [Ye hc] at aB
   subst aB
   refine Qb ⟨(n,og),?_⟩
   and_intros<;>first|rfl|exact Lr _|exact True.intro|exact hn|exact ax
 rintro ⟨n,og⟩ ⟨hn,ax⟩
 dsimp only at hn ax⊢
 have lQ:F.2.l<:+L.map TX.t:=by
  rw [←hF];exact((Zw wE []).bD s4).trans (jX)
 subst hn
 refine YY fun bf=> ?_
 have cj:∀q,og=some q→¬C.bO q:=fun q hq ja=>by
  subst hq
  have:q=g:=by simpa [Qa.keys] using (hC q).1 ja
  subst this
  simp [Qa.keys,gh] at bf
 refine Qj (h':=(g3,.cells 108 4 (ao [.str (sB nm),.int .i64 kd,gs og 1 F.1.length,.row true 3 fs.length (Z6 fs)]))::(gh og 9 (F.1.length*1) (Qi F.1)++[(g2,.cells 108 4 (ao [.str (sB []),.int .i64 0,.ab,.ab])),(g,X8 L F.2)])) (by rw [Ad];exact .cons _ (List.perm_append_comm (l₁:=[(g2,.cells 108 4 (ao [.str (sB []),.int .i64 0,.ab,.ab])),(g,X8 L F.2)]))) ?_
 refine Q7 (j0:=2) (n:=F.1.length) (s:=1) (f':=ao [.str (sB nm),.int .i64 kd,.row true 1 F.1.length (Qi F.1),.row true 3 fs.length (Z6 fs)]) rfl rfl (fun j hj fG=>by
  match j,hj,fG with
  |0,_,_=>rfl
  |1,_,_=>rfl
  |3,_,_=>rfl) ax cj ?_
 have f8:=Xy g L F.2 QV lQ om
 refine Zg J4 f8 ?_
 refine QS (h':=[(g,X8 L (Xt QV F.2))]) rfl sL fun R r=>?_;simp only[go_sem,aq,av];refine r _ rfl ?_;clear r R
 exact⟨rfl,rfl⟩
theorem Qr3 {a:CV}:∀j,j<11→∀(S:Bool→Nat→Prop) w u,XQ S w (ao [a,.bool false,.ab,.ab,.bool false,.ab,.ab,.bool false,.ab,.ab,.int .i64 0] j) u→XQ S w (ao ([a]++YS aW++YS aW++YS aW++[.int .i64 0]) j) u:=fun j hj S w u hr=>by
 match j,hj with
 |0,_=>exact hr
 |1,_=>exact hr
 |2,_=>exact XK hr
 |3,_=>exact XK hr
 |4,_=>exact hr
 |5,_=>exact XK hr
 |6,_=>exact XK hr
 |7,_=>exact hr
 |8,_=>exact XK hr
 |9,_=>exact XK hr
 |10,_=>exact hr
theorem Qpr (g:Nat) (L:List TX) (s:PS) (hs:s.l<:+L.map TX.t) (hL:L.length≤1048576) (hw:∀t∈L,t.t.text.length≤1099511627776):Fg prog 162 g (X8 L s) [.c (.aj g 0)] (.agg (OD (KG s).1)) (X8 L (KG s).2):=by
 have f1:=VN g L s hs om
 have dz:=Jj hs
 unfold KG
 dsimp only
 generalize Xu s=r at*
 obtain⟨nm,s1⟩:=r
 dsimp only at*
 generalize hF:KS (fun s=> !Xe s QV) gR ([],{bn with name:=nm}) s1=F at*
 have hsF:F.2.l<:+L.map TX.t:=by rw [←hF];exact((Zw Cq _).bD s1).trans dz
 have f8:=Xy g L F.2 QV hsF om
 unfold Fg
 refine fH func162 fun C hC=>?_
 apply fy
 apply jP
 refine xA fun g2 aq=>?_
 refine yH aq ?_
 apply fy
 apply jP
 refine yH aq ?_
 refine nY f1 rfl rfl rfl (zE aq) (o5 o0) ?_
 refine yS aq ?_
 refine yH aq ?_
 refine yA aq fun g3 av=>?_
 have J1:=oj aq av
 refine yW J1 ?_
 refine yS J1 ?_
 refine yH J1 ?_
 refine UA (f':=ao (OD {bn with name:=nm})) Qr3 ?_
 apply fy
 apply jP
 refine FX (Kf:=dW) rfl rfl rfl fun gm b9=> ?_
 replace b9:=Qa.ay b9
 simp only [Qa.ne] at b9
 have J2:=oj aq (oj av b9)
 refine yS J2 ?_
 refine yH J2 ?_
 apply fy
 refine Ym (fun _:Unit=>[(0,.c (.aj g 0)),(2,.c (.aj g2 0)),(3,.c (.aj g3 0))]) (fun _=>[(g3,.cells 101 11 (ao (OD F.1.2))),(g2,.cells 101 11 (ao [.str (sB []),.bool false,.ab,.ab,.bool false,.ab,.ab,.bool false,.ab,.ab,.int .i64 0])),(g,X8 L F.2)]) (fun _=>1=1) ?_ ?_
 ·apply nr
  refine Qh (fun _:PS×List BS×X7=>[(0,.c (.aj g 0)),(2,.c (.aj g2 0)),(3,.c (.aj g3 0)),(4,.c (.raw (.map (some gm))))]) (fun x=>[(gm,.gen (JY dW (lj x.2.1))),(g3,.cells 101 11 (ao (OD x.2.2))),(g2,.cells 101 11 (ao [.str (sB []),.bool false,.ab,.ab,.bool false,.ab,.ab,.bool false,.ab,.ab,.int .i64 0])),(g,X8 L x.1)])
   (fun x=>x.1.l<:+L.map TX.t∧(x.1.e=0→x.2.1.contains []=false)∧KS (fun s=> !Xe s QV) gR (x.2.1,x.2.2) x.1=F) (fun x=>mS x.1) (s1,[],{bn with name:=nm}) (zB J2) zZ ⟨dz,fun _=>rfl,hF⟩ ?_
  rintro ⟨sx,seen,x⟩ ⟨cr,aK,aB⟩
  dsimp only at cr aK aB⊢
  have i0:=Vc g L sx QV cr om
  have i1:=Vc g L sx kP cr om
  have i2:=Vc g L sx bm cr om
  have i3:=Vc g L sx aI cr om
  have i4:=Vc g L sx bl cr om
  have hr:=rat cr
  have gd:=MG (seen,x) sx
  have ik:=((Cq (seen,x)).bD sx).trans cr
  have bP:=fun h0 hc=>Vb (c:=fun s=> !Xe s QV) (b:=gR) (a:=(seen,x)) (s:=sx) (fun a s h _=>MG a s h) h0 hc
  all_goals repeat' first|refine zV J2 ?_|refine yQ J2 i0 ?_|refine yQ J2 i1 ?_|refine yQ J2 i2 ?_|refine yQ J2 i3 ?_|refine yQ J2 i4 ?_|refine zH J2 ?_ ?_<;>intro hb|fail
  ·rename_i h0 hc
   obtain⟨_,t,l',hl,hk,ht⟩:=JZ hb
   have hB:=QvB seen x h0 hl hk ht
   have iV:L.length-sx.l.length<L.length:=Classical.byContradiction fun h=>by have:=hr.nil h;rw [this] at hl;cases hl
   obtain⟨l2,gV,Eh⟩:=hr.cons iV
   have bN:(L.getD (L.length-sx.l.length) jv).t.text=kP:=by
    have hx:=(List.cons.inj (hl.symm.trans gV)).1
    rw [←hx];exact ht
   have cq:l'<:+L.map TX.t:=(show l'<:+sx.l from by rw [hl];exact List.suffix_cons t l').trans cr
   have cJ:=gd h0
   have fm:=bP h0 hc
   have q0:(kP==kP)=true:=rfl
   have q1:(kP==bm)=false:=rfl
   have q2:(kP==aI)=false:=rfl
   have q3:(kP==bl)=false:=rfl
   refine Xl 16 Qg kR ?_
   refine zA (oj aq (oj av (oj b9 (oj bN (oj q0 (oj q1 (oj q2 q3))))))) ?_
   refine JL (a:=kP) (kv:=lj seen) (Kf:=dW) (z:=.bool false) rfl rfl rfl (kt:=9) (et:=4) kR (KU kR) kR (zE (oj aq (oj av (oj b9 (oj bN (oj q0 (oj q1 (oj q2 q3)))))))) (zE (oj aq (oj av (oj b9 (oj bN (oj q0 (oj q1 (oj q2 q3)))))))) (ck:=.c (.str (sB kP))) (zE (oj aq (oj av (oj b9 (oj bN (oj q0 (oj q1 (oj q2 q3)))))))) (fun _ _ _ h=>h) ?_
   rw [Km]
   by_cases cn:seen.contains kP=true
   ·rw [iP cn] at hB⊢
    have f6:=KT g L sx 6 Af
    refine Zg (oj aq (oj av (oj b9 (oj bN (oj q0 (oj q1 (oj q2 q3))))))) f6 ?_
    rw [fm,hB,Ye (fun z=>by have:=z.1;unfold Yv at this;rw [iP h0] at this;exact absurd this (by simp))] at aB
    subst aB
    refine Qb ⟨(),?_⟩
    and_intros<;>first|rfl|exact List.Sublist.cons _ (Lr _)|exact True.intro
   ·rw [iN cn] at hB⊢
    have dS:seen.contains kP=false:=by simpa using cn
    have f6:=Yz g L sx true cr om
    rw [Xd h0 hl,iP rfl,ht] at f6
    dsimp only at f6
    have f7:=Kg g L ⟨l',0⟩ cq om hw
    refine Zg (oj aq (oj av (oj b9 (oj bN (oj q0 (oj q1 (oj q2 q3))))))) f6 ?_
    refine K2 (a:=kP) (kv:=lj seen) (Kf:=dW) (v:=.bool true) rfl rfl rfl (kt:=9) (et:=4) kR (KU kR) (zE (oj aq (oj av (oj b9 (oj bN (oj q0 (oj q1 (oj q2 q3)))))))) (zE (oj aq (oj av (oj b9 (oj bN (oj q0 (oj q1 (oj q2 q3)))))))) (ck:=.c (.str (sB kP))) (zE (oj aq (oj av (oj b9 (oj bN (oj q0 (oj q1 (oj q2 q3)))))))) (fun _ _ _ h=>h) (cv:=.c (.bool true)) (zE (oj aq (oj av (oj b9 (oj bN (oj q0 (oj q1 (oj q2 q3)))))))) (fun _ _ _ h=>h) (by rw [Km,dS];rfl) rfl ?_
    rw [←UH]
    refine Zg (oj aq (oj av (oj b9 (oj bN (oj q0 (oj q1 (oj q2 q3))))))) f7 ?_
    rw [hB] at cJ ik
    rw [fm,hB] at aB
    refine Qb ⟨((Yh ⟨l',0⟩).2,kP::seen,{x with p:=(Yh ⟨l',0⟩).1}),?_⟩
    refine⟨cJ,?_⟩
    and_intros
    all_goals first|rfl|exact Lr _|exact True.intro|exact ik|exact aB|exact fun _=>by dsimp only;rw [List.contains_cons,aK h0];rfl
  ·rename_i h0 hc n0
   obtain⟨_,t,l',hl,hk,ht⟩:=JZ hb
   have hB:=Qpk seen x h0 hl hk ht
   have iV:L.length-sx.l.length<L.length:=Classical.byContradiction fun h=>by have:=hr.nil h;rw [this] at hl;cases hl
   obtain⟨l2,gV,Eh⟩:=hr.cons iV
   have bN:(L.getD (L.length-sx.l.length) jv).t.text=bm:=by
    have hx:=(List.cons.inj (hl.symm.trans gV)).1
    rw [←hx];exact ht
   have cq:l'<:+L.map TX.t:=(show l'<:+sx.l from by rw [hl];exact List.suffix_cons t l').trans cr
   have cJ:=gd h0
   have fm:=bP h0 hc
   have q0:(bm==kP)=false:=rfl
   have q1:(bm==bm)=true:=rfl
   have q2:(bm==aI)=false:=rfl
   have q3:(bm==bl)=false:=rfl
   refine Xl 16 Qg kR ?_
   refine zA (oj aq (oj av (oj b9 (oj bN (oj q0 (oj q1 (oj q2 q3))))))) ?_
   refine JL (a:=bm) (kv:=lj seen) (Kf:=dW) (z:=.bool false) rfl rfl rfl (kt:=9) (et:=4) kR (KU kR) kR (zE (oj aq (oj av (oj b9 (oj bN (oj q0 (oj q1 (oj q2 q3)))))))) (zE (oj aq (oj av (oj b9 (oj bN (oj q0 (oj q1 (oj q2 q3)))))))) (ck:=.c (.str (sB bm))) (zE (oj aq (oj av (oj b9 (oj bN (oj q0 (oj q1 (oj q2 q3)))))))) (fun _ _ _ h=>h) ?_
   rw [Km]
   by_cases cn:seen.contains bm=true
   ·rw [iP cn] at hB⊢
    have f6:=KT g L sx 6 Af
    refine Zg (oj aq (oj av (oj b9 (oj bN (oj q0 (oj q1 (oj q2 q3))))))) f6 ?_
    rw [fm,hB,Ye (fun z=>by have:=z.1;unfold Yv at this;rw [iP h0] at this;exact absurd this (by simp))] at aB
    subst aB
    refine Qb ⟨(),?_⟩
    and_intros<;>first|rfl|exact List.Sublist.cons _ (Lr _)|exact True.intro
   ·rw [iN cn] at hB⊢
    have dS:seen.contains bm=false:=by simpa using cn
    have f6:=Yz g L sx true cr om
    rw [Xd h0 hl,iP rfl,ht] at f6
    dsimp only at f6
    have f7:=Kg g L ⟨l',0⟩ cq om hw
    refine Zg (oj aq (oj av (oj b9 (oj bN (oj q0 (oj q1 (oj q2 q3))))))) f6 ?_
    refine K2 (a:=bm) (kv:=lj seen) (Kf:=dW) (v:=.bool true) rfl rfl rfl (kt:=9) (et:=4) kR (KU kR) (zE (oj aq (oj av (oj b9 (oj bN (oj q0 (oj q1 (oj q2 q3)))))))) (zE (oj aq (oj av (oj b9 (oj bN (oj q0 (oj q1 (oj q2 q3)))))))) (ck:=.c (.str (sB bm))) (zE (oj aq (oj av (oj b9 (oj bN (oj q0 (oj q1 (oj q2 q3)))))))) (fun _ _ _ h=>h) (cv:=.c (.bool true)) (zE (oj aq (oj av (oj b9 (oj bN (oj q0 (oj q1 (oj q2 q3)))))))) (fun _ _ _ h=>h) (by rw [Km,dS];rfl) rfl ?_
    rw [←UH]
    refine Zg (oj aq (oj av (oj b9 (oj bN (oj q0 (oj q1 (oj q2 q3))))))) f7 ?_
    rw [hB] at cJ ik
    rw [fm,hB] at aB
    refine Qb ⟨((Yh ⟨l',0⟩).2,bm::seen,{x with fail:=(Yh ⟨l',0⟩).1}),?_⟩
    refine⟨cJ,?_⟩
    and_intros
    all_goals first|rfl|exact Lr _|exact True.intro|exact ik|exact aB|exact fun _=>by dsimp only;rw [List.contains_cons,aK h0];rfl
  ·rename_i h0 hc n0 n1
   obtain⟨_,t,l',hl,hk,ht⟩:=JZ hb
   have hB:=QrX seen x h0 hl hk ht
   have iV:L.length-sx.l.length<L.length:=Classical.byContradiction fun h=>by have:=hr.nil h;rw [this] at hl;cases hl
   obtain⟨l2,gV,Eh⟩:=hr.cons iV
   have bN:(L.getD (L.length-sx.l.length) jv).t.text=aI:=by
    have hx:=(List.cons.inj (hl.symm.trans gV)).1
    rw [←hx];exact ht
   have cq:l'<:+L.map TX.t:=(show l'<:+sx.l from by rw [hl];exact List.suffix_cons t l').trans cr
   have cJ:=gd h0
   have fm:=bP h0 hc
   have q0:(aI==kP)=false:=rfl
   have q1:(aI==bm)=false:=rfl
   have q2:(aI==aI)=true:=rfl
   have q3:(aI==bl)=false:=rfl
   refine Xl 16 Qg kR ?_
   refine zA (oj aq (oj av (oj b9 (oj bN (oj q0 (oj q1 (oj q2 q3))))))) ?_
   refine JL (a:=aI) (kv:=lj seen) (Kf:=dW) (z:=.bool false) rfl rfl rfl (kt:=9) (et:=4) kR (KU kR) kR (zE (oj aq (oj av (oj b9 (oj bN (oj q0 (oj q1 (oj q2 q3)))))))) (zE (oj aq (oj av (oj b9 (oj bN (oj q0 (oj q1 (oj q2 q3)))))))) (ck:=.c (.str (sB aI))) (zE (oj aq (oj av (oj b9 (oj bN (oj q0 (oj q1 (oj q2 q3)))))))) (fun _ _ _ h=>h) ?_
   rw [Km]
   by_cases cn:seen.contains aI=true
   ·rw [iP cn] at hB⊢
    have f6:=KT g L sx 6 Af
    refine Zg (oj aq (oj av (oj b9 (oj bN (oj q0 (oj q1 (oj q2 q3))))))) f6 ?_
    rw [fm,hB,Ye (fun z=>by have:=z.1;unfold Yv at this;rw [iP h0] at this;exact absurd this (by simp))] at aB
    subst aB
    refine Qb ⟨(),?_⟩
    and_intros<;>first|rfl|exact List.Sublist.cons _ (Lr _)|exact True.intro
   ·rw [iN cn] at hB⊢
    have dS:seen.contains aI=false:=by simpa using cn
    have f6:=Yz g L sx true cr om
    rw [Xd h0 hl,iP rfl,ht] at f6
    dsimp only at f6
    have f7:=Kg g L ⟨l',0⟩ cq om hw
    refine Zg (oj aq (oj av (oj b9 (oj bN (oj q0 (oj q1 (oj q2 q3))))))) f6 ?_
    refine K2 (a:=aI) (kv:=lj seen) (Kf:=dW) (v:=.bool true) rfl rfl rfl (kt:=9) (et:=4) kR (KU kR) (zE (oj aq (oj av (oj b9 (oj bN (oj q0 (oj q1 (oj q2 q3)))))))) (zE (oj aq (oj av (oj b9 (oj bN (oj q0 (oj q1 (oj q2 q3)))))))) (ck:=.c (.str (sB aI))) (zE (oj aq (oj av (oj b9 (oj bN (oj q0 (oj q1 (oj q2 q3)))))))) (fun _ _ _ h=>h) (cv:=.c (.bool true)) (zE (oj aq (oj av (oj b9 (oj bN (oj q0 (oj q1 (oj q2 q3)))))))) (fun _ _ _ h=>h) (by rw [Km,dS];rfl) rfl ?_
    rw [←UH]
    refine Zg (oj aq (oj av (oj b9 (oj bN (oj q0 (oj q1 (oj q2 q3))))))) f7 ?_
    rw [hB] at cJ ik
    rw [fm,hB] at aB
    refine Qb ⟨((Yh ⟨l',0⟩).2,aI::seen,{x with rep:=(Yh ⟨l',0⟩).1}),?_⟩
    refine⟨cJ,?_⟩
    and_intros
    all_goals first|rfl|exact Lr _|exact True.intro|exact ik|exact aB|exact fun _=>by dsimp only;rw [List.contains_cons,aK h0];rfl
  ·rename_i h0 hc n0 n1
   have n2:=hb
   cases hb:Xe sx bl with
   |true=>
    obtain⟨_,t,l',hl,hk,ht⟩:=JZ hb
    have hB:=Qpl seen x h0 hl hk ht
    have iV:L.length-sx.l.length<L.length:=Classical.byContradiction fun h=>by have:=hr.nil h;rw [this] at hl;cases hl
    obtain⟨l2,gV,Eh⟩:=hr.cons iV
    have bN:(L.getD (L.length-sx.l.length) jv).t.text=bl:=by
     have hx:=(List.cons.inj (hl.symm.trans gV)).1
     rw [←hx];exact ht
    have cq:l'<:+L.map TX.t:=(show l'<:+sx.l from by rw [hl];exact List.suffix_cons t l').trans cr
    have cJ:=gd h0
    have fm:=bP h0 hc
    have q0:(bl==kP)=false:=rfl
    have q1:(bl==bm)=false:=rfl
    have q2:(bl==aI)=false:=rfl
    have q3:(bl==bl)=true:=rfl
    refine Xl 16 Qg kR ?_
    refine zA (oj aq (oj av (oj b9 (oj bN (oj q0 (oj q1 (oj q2 q3))))))) ?_
    refine JL (a:=bl) (kv:=lj seen) (Kf:=dW) (z:=.bool false) rfl rfl rfl (kt:=9) (et:=4) kR (KU kR) kR (zE (oj aq (oj av (oj b9 (oj bN (oj q0 (oj q1 (oj q2 q3)))))))) (zE (oj aq (oj av (oj b9 (oj bN (oj q0 (oj q1 (oj q2 q3)))))))) (ck:=.c (.str (sB bl))) (zE (oj aq (oj av (oj b9 (oj bN (oj q0 (oj q1 (oj q2 q3)))))))) (fun _ _ _ h=>h) ?_
    rw [Km]
    by_cases cn:seen.contains bl=true
    ·rw [iP cn] at hB⊢
     have f6:=KT g L sx 6 Af
     refine Zg (oj aq (oj av (oj b9 (oj bN (oj q0 (oj q1 (oj q2 q3))))))) f6 ?_
     rw [fm,hB,Ye (fun z=>by have:=z.1;unfold Yv at this;rw [iP h0] at this;exact absurd this (by simp))] at aB
     subst aB
     refine Qb ⟨(),?_⟩
     and_intros<;>first|rfl|exact List.Sublist.cons _ (Lr _)|exact True.intro
    ·rw [iN cn] at hB⊢
     have dS:seen.contains bl=false:=by simpa using cn
     have f6:=Yz g L sx true cr om
     rw [Xd h0 hl,iP rfl,ht] at f6
     dsimp only at f6
     have f7:=HP g L ⟨l',0⟩ cq om hw
     refine Zg (oj aq (oj av (oj b9 (oj bN (oj q0 (oj q1 (oj q2 q3))))))) f6 ?_
     refine K2 (a:=bl) (kv:=lj seen) (Kf:=dW) (v:=.bool true) rfl rfl rfl (kt:=9) (et:=4) kR (KU kR) (zE (oj aq (oj av (oj b9 (oj bN (oj q0 (oj q1 (oj q2 q3)))))))) (zE (oj aq (oj av (oj b9 (oj bN (oj q0 (oj q1 (oj q2 q3)))))))) (ck:=.c (.str (sB bl))) (zE (oj aq (oj av (oj b9 (oj bN (oj q0 (oj q1 (oj q2 q3)))))))) (fun _ _ _ h=>h) (cv:=.c (.bool true)) (zE (oj aq (oj av (oj b9 (oj bN (oj q0 (oj q1 (oj q2 q3)))))))) (fun _ _ _ h=>h) (by rw [Km,dS];rfl) rfl ?_
     rw [←UH]
     refine Zg (oj aq (oj av (oj b9 (oj bN (oj q0 (oj q1 (oj q2 q3))))))) f7 ?_
     rw [hB] at cJ ik
     rw [fm,hB] at aB
     refine Qb ⟨((Zt ⟨l',0⟩).2,bl::seen,{x with cost:=(Zt ⟨l',0⟩).1}),?_⟩
     refine⟨cJ,?_⟩
     and_intros
     all_goals first|rfl|exact Lr _|exact True.intro|exact ik|exact aB|exact fun _=>by dsimp only;rw [List.contains_cons,aK h0];rfl
   |false=>
    have hB:=Qui seen x n0 n1 n2 hb
    obtain⟨EL,vJ⟩:=Quj sx h0
    have cJ:=gd h0
    have fm:=bP h0 hc
    have f6:=Yz g L sx false cr om
    rw [EL] at f6 hB
    have q0:(([]:BS)==kP)=false:=rfl
    have q1:(([]:BS)==bm)=false:=rfl
    have q2:(([]:BS)==aI)=false:=rfl
    have q3:(([]:BS)==bl)=false:=rfl
    refine Xl 16 Qg kR ?_
    refine Zg (oj aq (oj av (oj b9 (oj q0 (oj q1 (oj q2 q3)))))) f6 ?_
    refine K2 (a:=([]:BS)) (kv:=lj seen) (Kf:=dW) (v:=.bool true) rfl rfl rfl (kt:=9) (et:=4) kR (KU kR) (zE (oj aq (oj av (oj b9 (oj q0 (oj q1 (oj q2 q3))))))) (zE (oj aq (oj av (oj b9 (oj q0 (oj q1 (oj q2 q3))))))) (ck:=.c (.str (sB []))) (zE (oj aq (oj av (oj b9 (oj q0 (oj q1 (oj q2 q3))))))) (fun _ _ _ h=>h) (cv:=.c (.bool true)) (zE (oj aq (oj av (oj b9 (oj q0 (oj q1 (oj q2 q3))))))) (fun _ _ _ h=>h) (by rw [Km,aK h0];rfl) rfl ?_
    rw [←UH]
    have J3:=oj aq (oj av (oj b9 (oj q0 (oj q1 (oj q2 q3)))))
    refine yS J3 ?_
    refine zA J3 ?_
    rw [hB] at cJ ik
    rw [fm,hB] at aB
    refine Qb ⟨((QU false sx).2,[]::seen,x),?_⟩
    refine⟨cJ,?_⟩
    and_intros
    all_goals first|rfl|exact Lr _|exact True.intro|exact ik|exact aB|exact fun z=>absurd z vJ
  ·have hc:¬(sx.e=0∧(fun s=> !Xe s QV) sx=true):=fun z=>by rw [show(fun s=> !Xe s QV) sx=false from hb] at z;exact absurd z.2 Af
   rw [Ye hc] at aB
   subst aB
   refine Qb ⟨(),?_⟩
   and_intros<;>first|rfl|exact List.Sublist.cons _ (Lr _)|exact True.intro
  ·have hc:¬(sx.e=0∧(fun s=> !Xe s QV) sx=true):=fun z=>hb z.1
   rw [Ye hc] at aB
   subst aB
   refine Qb ⟨(),?_⟩
   and_intros<;>first|rfl|exact List.Sublist.cons _ (Lr _)|exact True.intro
 rintro _ _
 refine Zg J2 f8 ?_
 refine QS (h':=[(g,X8 L (Xt QV F.2))]) rfl sL fun R r=>?_;simp only[go_sem,aq,av,b9];refine r _ rfl ?_;clear r R
 exact⟨rfl,rfl⟩
end Go.Proofs.YtjegkdadeghpjaaGreatDoor
namespace Go.Proofs.YtjegkdadeghpjaaGreatDoor
open Go.AI Go.PN Proofs.Tryz
attribute [local irreducible] aw Fa VA Vk Fh YO
theorem Qr4 (g:Nat) (L:List TX) (s:PS) (hs:s.l<:+L.map TX.t) (hL:L.length≤1048576) (hw:∀t∈L,t.t.text.length≤1099511627776):Fg prog 165 g (X8 L s) [.c (.aj g 0)] (.agg (iO (Wq s).1)) (X8 L (Wq s).2):=by
 have f1:=VN g L s hs om
 have dz:=Jj hs
 unfold Wq
 dsimp only
 generalize Xu s=r at*
 obtain⟨nm,s1⟩:=r
 dsimp only at*
 have f2:=Xy g L s1 Y2 dz om
 have cu:(Xt Y2 s1).l<:+L.map TX.t:=((QJ Y2).bD s1).trans dz
 generalize Xt Y2 s1=s2 at*
 have f3:=wF g L s2 cu om hw
 have fN:=(VH.bD s2).trans cu
 generalize Y3 s2=r at*
 obtain⟨tp,s3⟩:=r
 dsimp only at*
 have f4:=Xy g L s3 WW fN om
 have jX:(Xt WW s3).l<:+L.map TX.t:=((QJ WW).bD s3).trans fN
 generalize Xt WW s3=s4 at*
 generalize hF:KS (fun s=> !Xe s Ya) nO [] s4=F at*
 unfold Fg
 refine fH func165 fun C hC=>?_
 refine zA o0 ?_
 refine xA fun g2 aq=>?_
 refine Zg aq f1 ?_
 refine yA aq fun g3 av=>?_
 refine mv (oj aq av) f2 f3 ?_
 refine nY f4 rfl rfl rfl (zE (oj aq av)) (o5 o0) ?_
 have J1:=oj aq av
 refine yS J1 ?_
 refine yH J1 ?_
 apply fy
 refine Ym (fun _:Nat×Option Nat=>[(0,.c (.aj g 0)),(2,.c (.aj g2 0)),(3,.c (.aj g3 0))]) (fun x=>[(g3,.cells 105 3 (ao [.str (sB nm),.str (sB tp),gs x.2 7 x.1])),(g2,.cells 105 3 (ao [.str (sB []),.str (sB []),.ab])),(g,X8 L F.2)]++gh x.2 71 (x.1*7) (X1 F.1)) (fun x=>F.1.length=x.1∧(x.2=none→x.1=0)) ?_ ?_
 ·apply nr
  refine Qh (fun _:PS×List Xk×Nat×Option Nat=>[(0,.c (.aj g 0)),(2,.c (.aj g2 0)),(3,.c (.aj g3 0))]) (fun x=>[(g3,.cells 105 3 (ao [.str (sB nm),.str (sB tp),gs x.2.2.2 7 x.2.2.1])),(g2,.cells 105 3 (ao [.str (sB []),.str (sB []),.ab])),(g,X8 L x.1)]++gh x.2.2.2 71 (x.2.2.1*7) (X1 x.2.1))
   (fun x=>x.1.l<:+L.map TX.t∧x.2.1.length=x.2.2.1∧(x.2.2.2=none→x.2.2.1=0)∧x.2.2.1+mS x.1≤1048577∧KS (fun s=> !Xe s Ya) nO x.2.1 x.1=F) (fun x=>mS x.1) (s4,[],0,none) (zB J1) zZ ⟨jX,rfl,fun _=>rfl,?_,hF⟩ ?_
  ·have:=jX.length_le
   rw [Lw] at this
   dsimp only
   unfold mS
   split<;>omega
  rintro ⟨sx,xs,n,og⟩ ⟨cr,hn,ax,hm,aB⟩
  dsimp only at cr hn ax hm aB⊢
  have f5:=Vc g L sx Ya cr om
  have f6:=Xy g L sx Qy cr om
  have hsw:(Xt Qy sx).l<:+L.map TX.t:=((QJ Qy).bD sx).trans cr
  have f7:=L5 g L (Xt Qy sx) hsw hL hw
  all_goals repeat' first|refine zV J1 ?_|refine yQ J1 f5 ?_|refine yQ J1 f6 ?_|refine zH J1 ?_ ?_<;>intro hb|fail
  ·rename_i h0
   have hc:(!Xe sx Ya)=true:=hb
   have bP:=Vb (c:=fun s=> !Xe s Ya) (b:=nO) (a:=xs) (fun a s h _=>MI a s h) h0 hc
   have aD:=MI xs sx h0
   rw [bP] at aB
   have jY:(nO xs sx).2.l<:+L.map TX.t:=((w9 xs).bD sx).trans cr
   have e1:(nO xs sx).1=xs++[(Ku (Xt Qy sx)).1]:=rfl
   have e2:(nO xs sx).2=(Ku (Xt Qy sx)).2:=rfl
   rw [e2] at aD jY
   rw [e1,e2] at aB
   generalize Ku (Xt Qy sx)=y at*
   obtain⟨t,sy⟩:=y
   dsimp only at*
   refine Yl ([(g3,.cells 105 3 (ao [.str (sB nm),.str (sB tp),gs og 7 n]))]) [(0,0),(1,0),(2,0),(3,1),(4,1),(5,1),(6,0),(7,2)] Qg kR eI ?_
   refine yG J1 ?_
   refine W2 rfl f7 rfl rfl rfl (zE J1) (zL J1) (by refine yS J1 ?_;exact Qm (Lf ..) Qf) ?_
   refine Xw J1 ?_
   refine Qv (xs:=[.tmp 29]) (cells:=Zi t) rfl rfl rfl rfl (zE J1) (by refine yS J1 ?_;rfl) rfl om om qd rfl Ag (Qm (Lf ..) Qf) (fun ga bR=> ?_) (hm:=.inr ⟨rfl,rfl⟩)
   refine yS J1 ?_
   refine YJ (pre:=[(g3,.cells 105 3 (ao [.str (sB nm),.str (sB tp),gs og 7 n])),(g2,.cells 105 3 (ao [.str (sB []),.str (sB []),.ab])),(g,X8 L sy)]) (og:=og) (n:=n) (s:=27) (d1:=30) (gt:=ga) (v:=.agg (Zi t)) rfl rfl rfl rfl (zE J1) (zE J1) (by rfl) om om (zE J1) (zE J1) ax (by rfl) (by rfl) (by simp only [Ad,Lq,Ln];rfl) qc om (Kv hn t) (XR (Qm (Lf ..) Qf)) (fun gb bH=> ?_) (hm:=.inr ⟨rfl,rfl⟩)
   replace bR:=Qa.ay bR
   simp only [Qa.ne] at bR
   have J2:=oj aq (oj av bR)
   refine Xw J2 ?_
   refine Xc (FP':=[]) rfl rfl rfl rfl rfl (zE J2) (zE J2) (zE J2) (zE J2) (fun _ e=>by cases e) rfl rfl (show 3≤3 from by omega) rfl Qf ?_
   refine Xw J2 ?_
   refine Qb ⟨(sy,xs++[t],n+1,some gb),?_⟩
   refine⟨aD,?_⟩
   and_intros
   all_goals first|rfl|exact List.Sublist.cons _ (Lr _)|exact True.intro|exact jY|exact Xx|exact aB|(dsimp only;rw [La,hn];rfl)|(dsimp only;omega)
  ·have hc:¬(sx.e=0∧(!Xe sx Ya)=true):=fun z=>by rw [hb] at z;exact absurd z.2 Af
   rw [Ye hc] at aB
   subst aB
   refine Qb ⟨(n,og),?_⟩
   and_intros<;>first|rfl|exact Lr _|exact True.intro|exact hn|exact ax
  ·have hc:¬(sx.e=0∧(!Xe sx Ya)=true):=fun z=>hb z.1
   rw [Ye hc] at aB
   subst aB
   refine Qb ⟨(n,og),?_⟩
   and_intros<;>first|rfl|exact Lr _|exact True.intro|exact hn|exact ax
 rintro ⟨n,og⟩ ⟨hn,ax⟩
 dsimp only at hn ax⊢
 have lQ:F.2.l<:+L.map TX.t:=by
  rw [←hF];exact((Zw w9 []).bD s4).trans jX
 have f6:=Xy g L F.2 Ya lQ om
 subst hn
 refine YY fun bf=> ?_
 have cj:∀q,og=some q→¬C.bO q:=fun q hq ja=>by
  subst hq
  have:q=g:=by simpa [Qa.keys] using (hC q).1 ja
  subst this
  simp [Qa.keys,gh] at bf
 refine Qj (h':=(g3,.cells 105 3 (ao [.str (sB nm),.str (sB tp),gs og 7 F.1.length]))::(gh og 71 (F.1.length*7) (X1 F.1)++[(g2,.cells 105 3 (ao [.str (sB []),.str (sB []),.ab])),(g,X8 L F.2)])) (.cons _ (List.perm_append_comm (l₁:=[(g2,.cells 105 3 (ao [.str (sB []),.str (sB []),.ab])),(g,X8 L F.2)]))) ?_
 refine Q7 (j0:=2) (n:=F.1.length) (s:=7) (f':=ao [.str (sB nm),.str (sB tp),ca true F.1]) rfl rfl (fun j hj fG=>by
  match j,hj,fG with
  |0,_,_=>rfl
  |1,_,_=>rfl
  |j+2,h1,h2=>exact absurd (show j+2=2 from by omega) h2) ax cj ?_
 refine Zg J1 f6 ?_
 refine QS (h':=[(g,X8 L (Xt Ya F.2))]) rfl sL fun R r=>?_;simp only[go_sem,aq,av];refine r _ rfl ?_;clear r R
 exact⟨rfl,rfl⟩
theorem Qps (g:Nat) (L:List TX) (s:PS) (hs:s.l<:+L.map TX.t) (hL:L.length≤1048576) (hw:∀t∈L,t.t.text.length≤1099511627776):Fg prog 167 g (X8 L s) [.c (.aj g 0)] (.agg (Wr (KJ s).1)) (X8 L (KJ s).2):=by
 have f1:=VN g L s hs om
 have dz:=Jj hs
 unfold KJ
 dsimp only
 generalize Xu s=r at*
 obtain⟨nm,s1⟩:=r
 dsimp only at*
 have f2:=Xy g L s1 Y2 dz om
 have cu:(Xt Y2 s1).l<:+L.map TX.t:=((QJ Y2).bD s1).trans dz
 generalize Xt Y2 s1=s2 at*
 have f3:=wF g L s2 cu om hw
 have fN:=(VH.bD s2).trans cu
 generalize Y3 s2=r at*
 obtain⟨tp,s3⟩:=r
 dsimp only at*
 have f4:=Xy g L s3 WW fN om
 have jX:(Xt WW s3).l<:+L.map TX.t:=((QJ WW).bD s3).trans fN
 generalize Xt WW s3=s4 at*
 generalize hF:KS (fun s=> !Xe s Ya) nq [] s4=F at*
 unfold Fg
 refine fH func167 fun C hC=>?_
 refine zA o0 ?_
 refine xA fun g2 aq=>?_
 refine Zg aq f1 ?_
 refine yA aq fun g3 av=>?_
 refine mv (oj aq av) f2 f3 ?_
 refine nY f4 rfl rfl rfl (zE (oj aq av)) (o5 o0) ?_
 have J1:=oj aq av
 refine yS J1 ?_
 refine yH J1 ?_
 apply fy
 refine Ym (fun _:Nat×Option Nat=>[(0,.c (.aj g 0)),(2,.c (.aj g2 0)),(3,.c (.aj g3 0))]) (fun x=>[(g3,.cells 112 3 (ao [.str (sB nm),.str (sB tp),gs x.2 4 x.1])),(g2,.cells 112 3 (ao [.str (sB []),.str (sB []),.ab])),(g,X8 L F.2)]++gh x.2 114 (x.1*4) (VJ F.1)) (fun x=>F.1.length=x.1∧(x.2=none→x.1=0)) ?_ ?_
 ·apply nr
  refine Qh (fun _:PS×List Zh×Nat×Option Nat=>[(0,.c (.aj g 0)),(2,.c (.aj g2 0)),(3,.c (.aj g3 0))]) (fun x=>[(g3,.cells 112 3 (ao [.str (sB nm),.str (sB tp),gs x.2.2.2 4 x.2.2.1])),(g2,.cells 112 3 (ao [.str (sB []),.str (sB []),.ab])),(g,X8 L x.1)]++gh x.2.2.2 114 (x.2.2.1*4) (VJ x.2.1))
   (fun x=>x.1.l<:+L.map TX.t∧x.2.1.length=x.2.2.1∧(x.2.2.2=none→x.2.2.1=0)∧x.2.2.1+mS x.1≤1048577∧KS (fun s=> !Xe s Ya) nq x.2.1 x.1=F) (fun x=>mS x.1) (s4,[],0,none) (zB J1) zZ ⟨jX,rfl,fun _=>rfl,?_,hF⟩ ?_
  ·have:=(jX).length_le
   rw [Lw] at this
   dsimp only
   unfold mS
   split<;>omega
  rintro ⟨sx,xs,n,og⟩ ⟨cr,hn,ax,hm,aB⟩
  dsimp only at cr hn ax hm aB⊢
  have f5:=Vc g L sx Ya cr om
  have f7:=VN g L sx cr om
  all_goals repeat' first|refine zV J1 ?_|refine yQ J1 f5 ?_|refine zH J1 ?_ ?_<;>intro hb|fail
  ·rename_i h0
   have hc:(fun s=> !Xe s Ya) sx=true:=hb
   have bP:=Vb (c:=fun s=> !Xe s Ya) (b:=nq) (a:=xs) (fun a s h _=>MJ a s h) h0 hc
   have aD:=MJ xs sx h0
   rw [bP] at aB
   have jY:(nq xs sx).2.l<:+L.map TX.t:=((xa xs).bD sx).trans cr
   have e1:(nq xs sx).1=xs++[⟨(Xu sx).1,(Yh (Xu sx).2).1⟩]:=rfl
   have e2:(nq xs sx).2=Xt QV (Yh (Xu sx).2).2:=rfl
   rw [e2] at aD jY
   rw [e1,e2] at aB
   have Ri:=Jj cr
   generalize Xu sx=y at*
   obtain⟨w,sa⟩:=y
   dsimp only at*
   have f8:=Kg g L sa Ri om hw
   have lR:=(Zb.bD sa).trans Ri
   generalize Yh sa=y at*
   obtain⟨q,sb⟩:=y
   dsimp only at*
   have f9:=Xy g L sb QV lR om
   generalize Xt QV sb=sy at*
   refine Zg J1 f7 ?_
   refine yA J1 fun g4 aC=>?_
   refine mv (oj aq (oj av aC)) f8 f9 ?_
   refine QT (pre:=[(g4,.cells 114 4 (ao (O3 ⟨w,q⟩))),(g3,.cells 112 3 (ao [.str (sB nm),.str (sB tp),gs og 4 n])),(g2,.cells 112 3 (ao [.str (sB []),.str (sB []),.ab])),(g,X8 L sy)]) rfl rfl rfl rfl rfl rfl rfl (zE (oj aq (oj av aC))) (zE (oj aq (oj av aC))) (by rfl) om om (zE (oj aq (oj av aC))) om (by exact ax) (zE (oj aq (oj av aC))) (by rfl) (by rfl) qb qc om (by exact BD hn ⟨w,q⟩) fun gb bH=> ?_
   replace bH:=Qa.ay bH
   first|dsimp only [Qa.ne,gh] at bH|dsimp only [Qa.ne] at bH|skip
   have J2:=oj aq (oj av (oj aC bH))
   refine yS J2 ?_
   refine zA J2 ?_
   refine Qb ⟨(sy,xs++[⟨w,q⟩],n+1,some gb),?_⟩
   refine⟨aD,?_⟩
   and_intros
   all_goals first|rfl|exact List.Sublist.cons _ (Lr _)|exact True.intro|exact jY|exact Xx|exact aB|(dsimp only;rw [La,hn];rfl)|(dsimp only;omega)
  ·have hc:¬(sx.e=0∧(fun s=> !Xe s Ya) sx=true):=fun z=>by rw [show(fun s=> !Xe s Ya) sx=false from hb] at z;exact absurd z.2 Af
   rw [Ye hc] at aB
   subst aB
   refine Qb ⟨(n,og),?_⟩
   and_intros<;>first|rfl|exact Lr _|exact True.intro|exact hn|exact ax
  ·have hc:¬(sx.e=0∧(fun s=> !Xe s Ya) sx=true):=fun z=>hb z.1
   rw [Ye hc] at aB
   subst aB
   refine Qb ⟨(n,og),?_⟩
   and_intros<;>first|rfl|exact Lr _|exact True.intro|exact hn|exact ax
 rintro ⟨n,og⟩ ⟨hn,ax⟩
 dsimp only at hn ax⊢
 have lQ:F.2.l<:+L.map TX.t:=by
  rw [←hF];exact((Zw xa []).bD s4).trans (jX)
 subst hn
 refine YY fun bf=> ?_
 have cj:∀q,og=some q→¬C.bO q:=fun q hq ja=>by
  subst hq
  have:q=g:=by simpa [Qa.keys] using (hC q).1 ja
  subst this
  simp [Qa.keys,gh] at bf
 refine Qj (h':=(g3,.cells 112 3 (ao [.str (sB nm),.str (sB tp),gs og 4 F.1.length]))::(gh og 114 (F.1.length*4) (VJ F.1)++[(g2,.cells 112 3 (ao [.str (sB []),.str (sB []),.ab])),(g,X8 L F.2)])) (by exact .cons _ (List.perm_append_comm (l₁:=[(g2,.cells 112 3 (ao [.str (sB []),.str (sB []),.ab])),(g,X8 L F.2)]))) ?_
 refine Q7 (j0:=2) (n:=F.1.length) (s:=4) (f':=ao [.str (sB nm),.str (sB tp),.row true 4 F.1.length (VJ F.1)]) rfl rfl (fun j hj fG=>by
  match j,hj,fG with
  |0,_,_=>rfl
  |1,_,_=>rfl
  |j+2,h1,h2=>exact absurd (show j+2=2 from by omega) h2) ax cj ?_
 have f6:=Xy g L F.2 Ya lQ om
 refine Zg J1 f6 ?_
 refine QS (h':=[(g,X8 L (Xt Ya F.2))]) rfl sL fun R r=>?_;simp only[go_sem,aq,av];refine r _ rfl ?_;clear r R
 exact⟨rfl,rfl⟩
end Go.Proofs.YtjegkdadeghpjaaGreatDoor
namespace Go.Proofs.YtjegkdadeghpjaaGreatDoor
open Go.AI Go.PN Proofs.Tryz
def Ww (m:Qz) (o:Og):Qa:=List.flatten [gh o.e 101 (m.events.length*11) (Zu m.events),gh o.h 103 (m.af.length*2) (Zv m.af),gh o.g 71 (m.an.length*7) (X1 m.an),gh o.p 105 (m.aa.length*3) (V0 m.aa),gh o.r 108 (m.ae.length*4) (Vs m.ae),gh o.s 112 (m.ai.length*3) (V1 m.ai)]
abbrev eO (m:Qz) (o:Og):XS:=.cells 45 8 (ao (mdg m o))
attribute [local irreducible] aw Fa VA Vk Fh YO
theorem SA (gM g:Nat) (L:List TX) (s:PS) (m:Qz) (o:Og) (hs:s.l<:+L.map TX.t) (hL:L.length≤1048576) (hw:∀t∈L,t.t.text.length≤1099511627776) (ho:y3 m o) (cm:pv m 1048576):Fh prog 99 ([(gM,eO m o),(g,X8 L s)]++Ww m o) [.c (.aj g 0),.c (.aj gM 0)] (fun x h=>x=.aF []∧∃o',y3 (cG m s).1 o'∧h=[(gM,eO (cG m s).1 o'),(g,X8 L (cG m s).2)]++Ww (cG m s).1 o'):=by
 have i0:=Vc g L s Xi hs om
 have i1:=Vc g L s Xq hs om
 have i2:=Vc g L s Qy hs om
 have i3:=Vc g L s Yb hs om
 have i4:=Vc g L s Xr hs om
 have i5:=Vc g L s Xn hs om
 refine fH func99 fun C hC=>?_
 refine YY fun bf=> ?_
 have aK:gM≠g:=fun e=>by subst e;simp [Qa.keys] at bf
 have bc:g≠gM:=fun e=>aK e.symm
 clear bf
 simp only [Lq,Ln] at*
 all_goals try(have Z:=(oj aK bc);(repeat' first|refine zV Z ?_|refine yQ Z i0 ?_|refine yQ Z i1 ?_|refine yQ Z i2 ?_|refine yQ Z i3 ?_|refine yQ Z i4 ?_|refine yQ Z i5 ?_|refine zH Z ?_ ?_<;>intro hb|fail);all_goals clear Z)
 ·obtain⟨h0,t,l',hl,hk,ht⟩:=JZ hb
  have hB:=QvC m h0 hl hk ht
  rw [hB]
  have f6:=Yz g L s true hs om
  rw [Xd h0 hl,iP rfl,ht] at f6
  dsimp only at f6
  have cq:l'<:+L.map TX.t:=(show l'<:+s.l from by rw [hl];exact List.suffix_cons t l').trans hs
  have f7:=Qpr g L ⟨l',0⟩ cq om hw
  clear hB i0 i1 i2 i3 i4 i5
  generalize KG ⟨l',0⟩=y at*
  obtain⟨v,sy⟩:=y
  dsimp only at*
  have q0:(Xi==Xi)=true:=rfl
  have q1:(Xi==Xq)=false:=rfl
  have q2:(Xi==Qy)=false:=rfl
  have q3:(Xi==Yb)=false:=rfl
  have q4:(Xi==Xr)=false:=rfl
  have q5:(Xi==Xn)=false:=rfl
  refine Zg (oj aK (oj bc (oj q0 (oj q1 (oj q2 (oj q3 (oj q4 q5))))))) f6 ?_
  obtain⟨X,hX⟩:∃X:Qa,X=List.flatten []:=⟨_,rfl⟩
  obtain⟨Z,hZ⟩:∃Z:Qa,Z=List.flatten [gh o.h 103 (m.af.length*2) (Zv m.af),gh o.g 71 (m.an.length*7) (X1 m.an),gh o.p 105 (m.aa.length*3) (V0 m.aa),gh o.r 108 (m.ae.length*4) (Vs m.ae),gh o.s 112 (m.ai.length*3) (V1 m.ai)]:=⟨_,rfl⟩
  have dP:Ww m o=X++(gh o.e 101 (m.events.length*11) (Zu m.events)++Z):=by
   subst hX hZ
   unfold Ww
   simp only [List.flatten_cons,List.flatten_nil,Lo,Lp,Ln]
  refine Qj (h':=(gM,eO m o)::(g,X8 L ⟨l',0⟩)::((X++Z)++gh o.e 101 (m.events.length*11) (Zu m.events))) (.cons _ (.cons _ (Zj dP))) ?_
  refine Yl ([(gM,eO m o)]) [(0,0),(1,0),(2,0),(3,0),(4,0),(5,0),(6,1),(7,1),(8,1),(9,0),(10,0),(11,2)] Qg kR eI ?_
  have J1:=oj aK (oj bc (oj q0 (oj q1 (oj q2 (oj q3 (oj q4 q5))))))
  refine yG J1 ?_
  refine W2 rfl f7 rfl rfl rfl (zE J1) (zL J1) (by refine yS J1 ?_;exact Qm (Lf ..) Qf) ?_
  refine Xw J1 ?_
  refine Qv (xs:=[.tmp 38]) (cells:=OD v) rfl rfl rfl rfl (zE J1) (by refine yS J1 ?_;rfl) rfl om om qd rfl Ag (Qm (Lf ..) Qf) (fun ga bR=> ?_) (hm:=.inr ⟨rfl,rfl⟩)
  refine yS J1 ?_
  refine YJ (pre:=(gM,eO m o)::(g,X8 L sy)::(X++Z)) (og:=o.e) (n:=m.events.length) (s:=36) (d1:=39) (gt:=ga) (v:=.agg (OD v)) rfl rfl rfl rfl (zE J1) (zE J1) (by rfl) om om (zE J1) (zE J1) ho.e (by rfl) (by rfl) (by simp only [Ad,Lq,Ln];rfl) (by have:=cm.e;unfold maxLen;omega) (by have:=cm.e;omega) (Bz rfl v) (XR (Qm (Lf ..) Qf)) (fun gb bH=> ?_) (hm:=.inr ⟨rfl,rfl⟩)
  replace bR:=Qa.ay bR
  simp only [Qa.ne] at bR
  have J2:=oj aK (oj bc (oj q0 (oj q1 (oj q2 (oj q3 (oj q4 (oj q5 bR)))))))
  refine Xw J2 ?_
  refine Xc (FP':=[]) rfl rfl rfl rfl rfl (zE J2) (zE J2) (zE J2) (zE J2) (fun _ e=>by cases e) rfl rfl (show 3≤8 from by omega) rfl Qf ?_
  refine Xw J2 ?_
  have dZ:(m.events++[v]).length=m.events.length+1:=by rw [La];rfl
  rw [←dZ]
  have gA:Ww {m with events:=m.events++[v]} {o with e:=some gb}=X++(gh (some gb) 101 ((m.events++[v]).length*11) (Zu (m.events++[v]))++Z):=by
   subst hX hZ
   unfold Ww
   simp only [List.flatten_cons,List.flatten_nil,Lo,Lp,Ln]
  refine ZQ [] _ (zB J2) (Ls _ _) ?_
  refine Qj (h':=(gM,eO {m with events:=m.events++[v]} {o with e:=some gb})::(g,X8 L sy)::Ww {m with events:=m.events++[v]} {o with e:=some gb}) (.cons _ (.cons _ (Zj gA).symm)) ?_
  refine zA J2 ?_
  refine yV J2 ?_
  exact⟨rfl,{o with e:=some gb},⟨Xx,ho.h,ho.g,ho.p,ho.r,ho.s⟩,rfl⟩
 ·rename_i n0
  obtain⟨h0,t,l',hl,hk,ht⟩:=JZ hb
  have hB:=QvD m h0 hl hk ht
  rw [hB]
  have f6:=Yz g L s true hs om
  rw [Xd h0 hl,iP rfl,ht] at f6
  dsimp only at f6
  have cq:l'<:+L.map TX.t:=(show l'<:+s.l from by rw [hl];exact List.suffix_cons t l').trans hs
  have f7:=Qpo g L ⟨l',0⟩ cq om
  clear hB i0 i1 i2 i3 i4 i5
  generalize KH ⟨l',0⟩=y at*
  obtain⟨v,sy⟩:=y
  dsimp only at*
  have q0:(Xq==Xi)=false:=rfl
  have q1:(Xq==Xq)=true:=rfl
  have q2:(Xq==Qy)=false:=rfl
  have q3:(Xq==Yb)=false:=rfl
  have q4:(Xq==Xr)=false:=rfl
  have q5:(Xq==Xn)=false:=rfl
  refine Zg (oj aK (oj bc (oj q0 (oj q1 (oj q2 (oj q3 (oj q4 q5))))))) f6 ?_
  obtain⟨X,hX⟩:∃X:Qa,X=List.flatten [gh o.e 101 (m.events.length*11) (Zu m.events)]:=⟨_,rfl⟩
  obtain⟨Z,hZ⟩:∃Z:Qa,Z=List.flatten [gh o.g 71 (m.an.length*7) (X1 m.an),gh o.p 105 (m.aa.length*3) (V0 m.aa),gh o.r 108 (m.ae.length*4) (Vs m.ae),gh o.s 112 (m.ai.length*3) (V1 m.ai)]:=⟨_,rfl⟩
  have dP:Ww m o=X++(gh o.h 103 (m.af.length*2) (Zv m.af)++Z):=by
   subst hX hZ
   unfold Ww
   simp only [List.flatten_cons,List.flatten_nil,Lo,Lp,Ln]
  refine Qj (h':=(gM,eO m o)::(g,X8 L ⟨l',0⟩)::((X++Z)++gh o.h 103 (m.af.length*2) (Zv m.af))) (.cons _ (.cons _ (Zj dP))) ?_
  refine Yl ([(gM,eO m o)]) [(0,0),(1,0),(2,0),(3,0),(4,0),(5,0),(6,1),(7,1),(8,1),(9,0),(10,0),(11,2)] Qg kR eI ?_
  have J3:=oj aK (oj bc (oj q0 (oj q1 (oj q2 (oj q3 (oj q4 q5))))))
  refine yG J3 ?_
  refine W2 rfl f7 rfl rfl rfl (zE J3) (zL J3) (by refine yS J3 ?_;exact Qm (Lf ..) Qf) ?_
  refine Xw J3 ?_
  refine Qv (xs:=[.tmp 51]) (cells:=kr v) rfl rfl rfl rfl (zE J3) (by refine yS J3 ?_;rfl) rfl om om qd rfl Ag (Qm (Lf ..) Qf) (fun ga bR=> ?_) (hm:=.inr ⟨rfl,rfl⟩)
  refine yS J3 ?_
  refine YJ (pre:=(gM,eO m o)::(g,X8 L sy)::(X++Z)) (og:=o.h) (n:=m.af.length) (s:=49) (d1:=52) (gt:=ga) (v:=.agg (kr v)) rfl rfl rfl rfl (zE J3) (zE J3) (by rfl) om om (zE J3) (zE J3) ho.h (by rfl) (by rfl) (by simp only [Ad,Lq,Ln];rfl) (by have:=cm.h;unfold maxLen;omega) (by have:=cm.h;omega) (HO rfl v) (XR (Qm (Lf ..) Qf)) (fun gb bH=> ?_) (hm:=.inr ⟨rfl,rfl⟩)
  replace bR:=Qa.ay bR
  simp only [Qa.ne] at bR
  have J4:=oj aK (oj bc (oj q0 (oj q1 (oj q2 (oj q3 (oj q4 (oj q5 bR)))))))
  refine Xw J4 ?_
  refine Xc (FP':=[]) rfl rfl rfl rfl rfl (zE J4) (zE J4) (zE J4) (zE J4) (fun _ e=>by cases e) rfl rfl (show 4≤8 from by omega) rfl Qf ?_
  refine Xw J4 ?_
  have dZ:(m.af++[v]).length=m.af.length+1:=by rw [La];rfl
  rw [←dZ]
  have gA:Ww {m with af:=m.af++[v]} {o with h:=some gb}=X++(gh (some gb) 103 ((m.af++[v]).length*2) (Zv (m.af++[v]))++Z):=by
   subst hX hZ
   unfold Ww
   simp only [List.flatten_cons,List.flatten_nil,Lo,Lp,Ln]
  refine ZQ [] _ (zB J4) (Ls _ _) ?_
  refine Qj (h':=(gM,eO {m with af:=m.af++[v]} {o with h:=some gb})::(g,X8 L sy)::Ww {m with af:=m.af++[v]} {o with h:=some gb}) (.cons _ (.cons _ (Zj gA).symm)) ?_
  refine zA J4 ?_
  refine yV J4 ?_
  exact⟨rfl,{o with h:=some gb},⟨ho.e,Xx,ho.g,ho.p,ho.r,ho.s⟩,rfl⟩
 ·rename_i n0 n1
  obtain⟨h0,t,l',hl,hk,ht⟩:=JZ hb
  have hB:=QvE m h0 hl hk ht
  rw [hB]
  have f6:=Yz g L s true hs om
  rw [Xd h0 hl,iP rfl,ht] at f6
  dsimp only at f6
  have cq:l'<:+L.map TX.t:=(show l'<:+s.l from by rw [hl];exact List.suffix_cons t l').trans hs
  have f7:=L5 g L ⟨l',0⟩ cq om hw
  clear hB i0 i1 i2 i3 i4 i5
  generalize Ku ⟨l',0⟩=y at*
  obtain⟨v,sy⟩:=y
  dsimp only at*
  have q0:(Qy==Xi)=false:=rfl
  have q1:(Qy==Xq)=false:=rfl
  have q2:(Qy==Qy)=true:=rfl
  have q3:(Qy==Yb)=false:=rfl
  have q4:(Qy==Xr)=false:=rfl
  have q5:(Qy==Xn)=false:=rfl
  refine Zg (oj aK (oj bc (oj q0 (oj q1 (oj q2 (oj q3 (oj q4 q5))))))) f6 ?_
  obtain⟨X,hX⟩:∃X:Qa,X=List.flatten [gh o.e 101 (m.events.length*11) (Zu m.events),gh o.h 103 (m.af.length*2) (Zv m.af)]:=⟨_,rfl⟩
  obtain⟨Z,hZ⟩:∃Z:Qa,Z=List.flatten [gh o.p 105 (m.aa.length*3) (V0 m.aa),gh o.r 108 (m.ae.length*4) (Vs m.ae),gh o.s 112 (m.ai.length*3) (V1 m.ai)]:=⟨_,rfl⟩
  have dP:Ww m o=X++(gh o.g 71 (m.an.length*7) (X1 m.an)++Z):=by
   subst hX hZ
   unfold Ww
   simp only [List.flatten_cons,List.flatten_nil,Lo,Lp,Ln]
  refine Qj (h':=(gM,eO m o)::(g,X8 L ⟨l',0⟩)::((X++Z)++gh o.g 71 (m.an.length*7) (X1 m.an))) (.cons _ (.cons _ (Zj dP))) ?_
  refine Yl ([(gM,eO m o)]) [(0,0),(1,0),(2,0),(3,0),(4,0),(5,0),(6,1),(7,1),(8,1),(9,0),(10,0),(11,2)] Qg kR eI ?_
  have J5:=oj aK (oj bc (oj q0 (oj q1 (oj q2 (oj q3 (oj q4 q5))))))
  refine yG J5 ?_
  refine W2 rfl f7 rfl rfl rfl (zE J5) (zL J5) (by refine yS J5 ?_;exact Qm (Lf ..) Qf) ?_
  refine Xw J5 ?_
  refine Qv (xs:=[.tmp 64]) (cells:=Zi v) rfl rfl rfl rfl (zE J5) (by refine yS J5 ?_;rfl) rfl om om qd rfl Ag (Qm (Lf ..) Qf) (fun ga bR=> ?_) (hm:=.inr ⟨rfl,rfl⟩)
  refine yS J5 ?_
  refine YJ (pre:=(gM,eO m o)::(g,X8 L sy)::(X++Z)) (og:=o.g) (n:=m.an.length) (s:=62) (d1:=65) (gt:=ga) (v:=.agg (Zi v)) rfl rfl rfl rfl (zE J5) (zE J5) (by rfl) om om (zE J5) (zE J5) ho.g (by rfl) (by rfl) (by simp only [Ad,Lq,Ln];rfl) (by have:=cm.g;unfold maxLen;omega) (by have:=cm.g;omega) (Kv rfl v) (XR (Qm (Lf ..) Qf)) (fun gb bH=> ?_) (hm:=.inr ⟨rfl,rfl⟩)
  replace bR:=Qa.ay bR
  simp only [Qa.ne] at bR
  have J6:=oj aK (oj bc (oj q0 (oj q1 (oj q2 (oj q3 (oj q4 (oj q5 bR)))))))
  refine Xw J6 ?_
  refine Xc (FP':=[]) rfl rfl rfl rfl rfl (zE J6) (zE J6) (zE J6) (zE J6) (fun _ e=>by cases e) rfl rfl (show 5≤8 from by omega) rfl Qf ?_
  refine Xw J6 ?_
  have dZ:(m.an++[v]).length=m.an.length+1:=by rw [La];rfl
  rw [←dZ]
  have gA:Ww {m with an:=m.an++[v]} {o with g:=some gb}=X++(gh (some gb) 71 ((m.an++[v]).length*7) (X1 (m.an++[v]))++Z):=by
   subst hX hZ
   unfold Ww
   simp only [List.flatten_cons,List.flatten_nil,Lo,Lp,Ln]
  refine ZQ [] _ (zB J6) (Ls _ _) ?_
  refine Qj (h':=(gM,eO {m with an:=m.an++[v]} {o with g:=some gb})::(g,X8 L sy)::Ww {m with an:=m.an++[v]} {o with g:=some gb}) (.cons _ (.cons _ (Zj gA).symm)) ?_
  refine zA J6 ?_
  refine yV J6 ?_
  exact⟨rfl,{o with g:=some gb},⟨ho.e,ho.h,Xx,ho.p,ho.r,ho.s⟩,rfl⟩
 ·rename_i n0 n1 n2
  obtain⟨h0,t,l',hl,hk,ht⟩:=JZ hb
  have hB:=QvF m h0 hl hk ht
  rw [hB]
  have f6:=Yz g L s true hs om
  rw [Xd h0 hl,iP rfl,ht] at f6
  dsimp only at f6
  have cq:l'<:+L.map TX.t:=(show l'<:+s.l from by rw [hl];exact List.suffix_cons t l').trans hs
  have f7:=Qr4 g L ⟨l',0⟩ cq om hw
  clear hB i0 i1 i2 i3 i4 i5
  generalize Wq ⟨l',0⟩=y at*
  obtain⟨v,sy⟩:=y
  dsimp only at*
  have q0:(Yb==Xi)=false:=rfl
  have q1:(Yb==Xq)=false:=rfl
  have q2:(Yb==Qy)=false:=rfl
  have q3:(Yb==Yb)=true:=rfl
  have q4:(Yb==Xr)=false:=rfl
  have q5:(Yb==Xn)=false:=rfl
  refine Zg (oj aK (oj bc (oj q0 (oj q1 (oj q2 (oj q3 (oj q4 q5))))))) f6 ?_
  obtain⟨X,hX⟩:∃X:Qa,X=List.flatten [gh o.e 101 (m.events.length*11) (Zu m.events),gh o.h 103 (m.af.length*2) (Zv m.af),gh o.g 71 (m.an.length*7) (X1 m.an)]:=⟨_,rfl⟩
  obtain⟨Z,hZ⟩:∃Z:Qa,Z=List.flatten [gh o.r 108 (m.ae.length*4) (Vs m.ae),gh o.s 112 (m.ai.length*3) (V1 m.ai)]:=⟨_,rfl⟩
  have dP:Ww m o=X++(gh o.p 105 (m.aa.length*3) (V0 m.aa)++Z):=by
   subst hX hZ
   unfold Ww
   simp only [List.flatten_cons,List.flatten_nil,Lo,Lp,Ln]
  refine Qj (h':=(gM,eO m o)::(g,X8 L ⟨l',0⟩)::((X++Z)++gh o.p 105 (m.aa.length*3) (V0 m.aa))) (.cons _ (.cons _ (Zj dP))) ?_
  refine Yl ([(gM,eO m o)]) [(0,0),(1,0),(2,0),(3,0),(4,0),(5,0),(6,1),(7,1),(8,1),(9,0),(10,0),(11,2)] Qg kR eI ?_
  have J7:=oj aK (oj bc (oj q0 (oj q1 (oj q2 (oj q3 (oj q4 q5))))))
  refine yG J7 ?_
  refine W2 rfl f7 rfl rfl rfl (zE J7) (zL J7) (by refine yS J7 ?_;exact Qm (Lf ..) Qf) ?_
  refine Xw J7 ?_
  refine Qv (xs:=[.tmp 77]) (cells:=iO v) rfl rfl rfl rfl (zE J7) (by refine yS J7 ?_;rfl) rfl om om qd rfl Ag (Qm (Lf ..) Qf) (fun ga bR=> ?_) (hm:=.inr ⟨rfl,rfl⟩)
  refine yS J7 ?_
  refine YJ (pre:=(gM,eO m o)::(g,X8 L sy)::(X++Z)) (og:=o.p) (n:=m.aa.length) (s:=75) (d1:=78) (gt:=ga) (v:=.agg (iO v)) rfl rfl rfl rfl (zE J7) (zE J7) (by rfl) om om (zE J7) (zE J7) ho.p (by rfl) (by rfl) (by simp only [Ad,Lq,Ln];rfl) (by have:=cm.p;unfold maxLen;omega) (by have:=cm.p;omega) (BA rfl v) (XR (Qm (Lf ..) Qf)) (fun gb bH=> ?_) (hm:=.inr ⟨rfl,rfl⟩)
  replace bR:=Qa.ay bR
  simp only [Qa.ne] at bR
  have J8:=oj aK (oj bc (oj q0 (oj q1 (oj q2 (oj q3 (oj q4 (oj q5 bR)))))))
  refine Xw J8 ?_
  refine Xc (FP':=[]) rfl rfl rfl rfl rfl (zE J8) (zE J8) (zE J8) (zE J8) (fun _ e=>by cases e) rfl rfl (show 6≤8 from by omega) rfl Qf ?_
  refine Xw J8 ?_
  have dZ:(m.aa++[v]).length=m.aa.length+1:=by rw [La];rfl
  rw [←dZ]
  have gA:Ww {m with aa:=m.aa++[v]} {o with p:=some gb}=X++(gh (some gb) 105 ((m.aa++[v]).length*3) (V0 (m.aa++[v]))++Z):=by
   subst hX hZ
   unfold Ww
   simp only [List.flatten_cons,List.flatten_nil,Lo,Lp,Ln]
  refine ZQ [] _ (zB J8) (Ls _ _) ?_
  refine Qj (h':=(gM,eO {m with aa:=m.aa++[v]} {o with p:=some gb})::(g,X8 L sy)::Ww {m with aa:=m.aa++[v]} {o with p:=some gb}) (.cons _ (.cons _ (Zj gA).symm)) ?_
  refine zA J8 ?_
  refine yV J8 ?_
  exact⟨rfl,{o with p:=some gb},⟨ho.e,ho.h,ho.g,Xx,ho.r,ho.s⟩,rfl⟩
 ·rename_i n0 n1 n2 n3
  obtain⟨h0,t,l',hl,hk,ht⟩:=JZ hb
  have hB:=QvG m h0 hl hk ht
  rw [hB]
  have f6:=Yz g L s true hs om
  rw [Xd h0 hl,iP rfl,ht] at f6
  dsimp only at f6
  have cq:l'<:+L.map TX.t:=(show l'<:+s.l from by rw [hl];exact List.suffix_cons t l').trans hs
  have f7:=Qpq g L ⟨l',0⟩ cq om hw
  clear hB i0 i1 i2 i3 i4 i5
  generalize KI ⟨l',0⟩=y at*
  obtain⟨v,sy⟩:=y
  dsimp only at*
  have q0:(Xr==Xi)=false:=rfl
  have q1:(Xr==Xq)=false:=rfl
  have q2:(Xr==Qy)=false:=rfl
  have q3:(Xr==Yb)=false:=rfl
  have q4:(Xr==Xr)=true:=rfl
  have q5:(Xr==Xn)=false:=rfl
  refine Zg (oj aK (oj bc (oj q0 (oj q1 (oj q2 (oj q3 (oj q4 q5))))))) f6 ?_
  obtain⟨X,hX⟩:∃X:Qa,X=List.flatten [gh o.e 101 (m.events.length*11) (Zu m.events),gh o.h 103 (m.af.length*2) (Zv m.af),gh o.g 71 (m.an.length*7) (X1 m.an),gh o.p 105 (m.aa.length*3) (V0 m.aa)]:=⟨_,rfl⟩
  obtain⟨Z,hZ⟩:∃Z:Qa,Z=List.flatten [gh o.s 112 (m.ai.length*3) (V1 m.ai)]:=⟨_,rfl⟩
  have dP:Ww m o=X++(gh o.r 108 (m.ae.length*4) (Vs m.ae)++Z):=by
   subst hX hZ
   unfold Ww
   simp only [List.flatten_cons,List.flatten_nil,Lo,Lp,Ln]
  refine Qj (h':=(gM,eO m o)::(g,X8 L ⟨l',0⟩)::((X++Z)++gh o.r 108 (m.ae.length*4) (Vs m.ae))) (.cons _ (.cons _ (Zj dP))) ?_
  refine Yl ([(gM,eO m o)]) [(0,0),(1,0),(2,0),(3,0),(4,0),(5,0),(6,1),(7,1),(8,1),(9,0),(10,0),(11,2)] Qg kR eI ?_
  have J9:=oj aK (oj bc (oj q0 (oj q1 (oj q2 (oj q3 (oj q4 q5))))))
  refine yG J9 ?_
  refine W2 rfl f7 rfl rfl rfl (zE J9) (zL J9) (by refine yS J9 ?_;exact Qm (Lf ..) Qf) ?_
  refine Xw J9 ?_
  refine Qv (xs:=[.tmp 90]) (cells:=UF v) rfl rfl rfl rfl (zE J9) (by refine yS J9 ?_;rfl) rfl om om qd rfl Ag (Qm (Lf ..) Qf) (fun ga bR=> ?_) (hm:=.inr ⟨rfl,rfl⟩)
  refine yS J9 ?_
  refine YJ (pre:=(gM,eO m o)::(g,X8 L sy)::(X++Z)) (og:=o.r) (n:=m.ae.length) (s:=88) (d1:=91) (gt:=ga) (v:=.agg (UF v)) rfl rfl rfl rfl (zE J9) (zE J9) (by rfl) om om (zE J9) (zE J9) ho.r (by rfl) (by rfl) (by simp only [Ad,Lq,Ln];rfl) (by have:=cm.r;unfold maxLen;omega) (by have:=cm.r;omega) (BB rfl v) (XR (Qm (Lf ..) Qf)) (fun gb bH=> ?_) (hm:=.inr ⟨rfl,rfl⟩)
  replace bR:=Qa.ay bR
  simp only [Qa.ne] at bR
  have dB:=oj aK (oj bc (oj q0 (oj q1 (oj q2 (oj q3 (oj q4 (oj q5 bR)))))))
  refine Xw dB ?_
  refine Xc (FP':=[]) rfl rfl rfl rfl rfl (zE dB) (zE dB) (zE dB) (zE dB) (fun _ e=>by cases e) rfl rfl (show 7≤8 from by omega) rfl Qf ?_
  refine Xw dB ?_
  have dZ:(m.ae++[v]).length=m.ae.length+1:=by rw [La];rfl
  rw [←dZ]
  have gA:Ww {m with ae:=m.ae++[v]} {o with r:=some gb}=X++(gh (some gb) 108 ((m.ae++[v]).length*4) (Vs (m.ae++[v]))++Z):=by
   subst hX hZ
   unfold Ww
   simp only [List.flatten_cons,List.flatten_nil,Lo,Lp,Ln]
  refine ZQ [] _ (zB dB) (Ls _ _) ?_
  refine Qj (h':=(gM,eO {m with ae:=m.ae++[v]} {o with r:=some gb})::(g,X8 L sy)::Ww {m with ae:=m.ae++[v]} {o with r:=some gb}) (.cons _ (.cons _ (Zj gA).symm)) ?_
  refine zA dB ?_
  refine yV dB ?_
  exact⟨rfl,{o with r:=some gb},⟨ho.e,ho.h,ho.g,ho.p,Xx,ho.s⟩,rfl⟩
 ·rename_i n0 n1 n2 n3
  have n4:=hb
  cases hb:Xe s Xn with
  |true=>
   obtain⟨h0,t,l',hl,hk,ht⟩:=JZ hb
   have hB:=QvH m h0 hl hk ht
   rw [hB]
   have f6:=Yz g L s true hs om
   rw [Xd h0 hl,iP rfl,ht] at f6
   dsimp only at f6
   have cq:l'<:+L.map TX.t:=(show l'<:+s.l from by rw [hl];exact List.suffix_cons t l').trans hs
   have f7:=Qps g L ⟨l',0⟩ cq om hw
   clear hB i0 i1 i2 i3 i4 i5
   generalize KJ ⟨l',0⟩=y at*
   obtain⟨v,sy⟩:=y
   dsimp only at*
   have q0:(Xn==Xi)=false:=rfl
   have q1:(Xn==Xq)=false:=rfl
   have q2:(Xn==Qy)=false:=rfl
   have q3:(Xn==Yb)=false:=rfl
   have q4:(Xn==Xr)=false:=rfl
   have q5:(Xn==Xn)=true:=rfl
   refine Zg (oj aK (oj bc (oj q0 (oj q1 (oj q2 (oj q3 (oj q4 q5))))))) f6 ?_
   obtain⟨X,hX⟩:∃X:Qa,X=List.flatten [gh o.e 101 (m.events.length*11) (Zu m.events),gh o.h 103 (m.af.length*2) (Zv m.af),gh o.g 71 (m.an.length*7) (X1 m.an),gh o.p 105 (m.aa.length*3) (V0 m.aa),gh o.r 108 (m.ae.length*4) (Vs m.ae)]:=⟨_,rfl⟩
   obtain⟨Z,hZ⟩:∃Z:Qa,Z=List.flatten []:=⟨_,rfl⟩
   have dP:Ww m o=X++(gh o.s 112 (m.ai.length*3) (V1 m.ai)++Z):=by
    subst hX hZ
    unfold Ww
    simp only [List.flatten_cons,List.flatten_nil,Lo,Lp,Ln]
   refine Qj (h':=(gM,eO m o)::(g,X8 L ⟨l',0⟩)::((X++Z)++gh o.s 112 (m.ai.length*3) (V1 m.ai))) (.cons _ (.cons _ (Zj dP))) ?_
   refine Yl ([(gM,eO m o)]) [(0,0),(1,0),(2,0),(3,0),(4,0),(5,0),(6,1),(7,1),(8,1),(9,0),(10,0),(11,2)] Qg kR eI ?_
   have cD:=oj aK (oj bc (oj q0 (oj q1 (oj q2 (oj q3 (oj q4 q5))))))
   refine yG cD ?_
   refine W2 rfl f7 rfl rfl rfl (zE cD) (zL cD) (by refine yS cD ?_;exact Qm (Lf ..) Qf) ?_
   refine Xw cD ?_
   refine Qv (xs:=[.tmp 103]) (cells:=Wr v) rfl rfl rfl rfl (zE cD) (by refine yS cD ?_;rfl) rfl om om qd rfl Ag (Qm (Lf ..) Qf) (fun ga bR=> ?_) (hm:=.inr ⟨rfl,rfl⟩)
   refine yS cD ?_
   refine YJ (pre:=(gM,eO m o)::(g,X8 L sy)::(X++Z)) (og:=o.s) (n:=m.ai.length) (s:=101) (d1:=104) (gt:=ga) (v:=.agg (Wr v)) rfl rfl rfl rfl (zE cD) (zE cD) (by rfl) om om (zE cD) (zE cD) ho.s (by rfl) (by rfl) (by simp only [Ad,Lq,Ln];rfl) (by have:=cm.s;unfold maxLen;omega) (by have:=cm.s;omega) (BC rfl v) (XR (Qm (Lf ..) Qf)) (fun gb bH=> ?_) (hm:=.inr ⟨rfl,rfl⟩)
   replace bR:=Qa.ay bR
   simp only [Qa.ne] at bR
   have jj:=oj aK (oj bc (oj q0 (oj q1 (oj q2 (oj q3 (oj q4 (oj q5 bR)))))))
   refine Xw jj ?_
   refine Xc (FP':=[]) rfl rfl rfl rfl rfl (zE jj) (zE jj) (zE jj) (zE jj) (fun _ e=>by cases e) rfl rfl (show 8≤8 from by omega) rfl Qf ?_
   refine Xw jj ?_
   have dZ:(m.ai++[v]).length=m.ai.length+1:=by rw [La];rfl
   rw [←dZ]
   have gA:Ww {m with ai:=m.ai++[v]} {o with s:=some gb}=X++(gh (some gb) 112 ((m.ai++[v]).length*3) (V1 (m.ai++[v]))++Z):=by
    subst hX hZ
    unfold Ww
    simp only [List.flatten_cons,List.flatten_nil,Lo,Lp,Ln]
   refine ZQ [] _ (zB jj) (Ls _ _) ?_
   refine Qj (h':=(gM,eO {m with ai:=m.ai++[v]} {o with s:=some gb})::(g,X8 L sy)::Ww {m with ai:=m.ai++[v]} {o with s:=some gb}) (.cons _ (.cons _ (Zj gA).symm)) ?_
   refine zA jj ?_
   refine yV jj ?_
   exact⟨rfl,{o with s:=some gb},⟨ho.e,ho.h,ho.g,ho.p,ho.r,Xx⟩,rfl⟩
  |false=>
   have hB:=Quk m n0 n1 n2 n3 n4 hb
   rw [hB]
   have f6:=Yz g L s false hs om
   rw [QrZ] at f6
   have q0:(([]:BS)==Xi)=false:=rfl
   have q1:(([]:BS)==Xq)=false:=rfl
   have q2:(([]:BS)==Qy)=false:=rfl
   have q3:(([]:BS)==Yb)=false:=rfl
   have q4:(([]:BS)==Xr)=false:=rfl
   have q5:(([]:BS)==Xn)=false:=rfl
   refine Zg (oj aK (oj bc (oj q0 (oj q1 (oj q2 (oj q3 (oj q4 q5))))))) f6 ?_
   refine yV (oj aK (oj bc (oj q0 (oj q1 (oj q2 (oj q3 (oj q4 q5))))))) ?_
   exact⟨rfl,o,ho,rfl⟩
end Go.Proofs.YtjegkdadeghpjaaGreatDoor
namespace Go.Proofs.YtjegkdadeghpjaaGreatDoor
open Go.AI Go.PN
theorem cp {α:Type} {h:Qa} {s:Nat} {c:α→List CV} {d:α} {xs:List α} (hs:0<s) (H:∀(x:α) k,k<s→JU h (ao (c x) k) (ao (c x) k)) (j:Nat):JU h (lf s c d xs j) (lf s c d xs j):=by
 obtain⟨i,k,hk,rfl⟩:∃i k,k<s∧j=i*s+k:=⟨j/s,j%s,Nat.mod_lt _ hs,by rw [Nc];exact(Nat.div_add_mod j s).symm⟩
 rw [Q9 hk]
 exact H _ _ hk
theorem BE {h:Qa} {l:List BS}:JU h (YH true l) (YH true l):=.row fun j _=>cp Af (fun x k hk=>match k,hk with|0,_=>.str _) j
theorem Qr5 {h:Qa} {l:List X7}:JU h (gS true l) (gS true l):=.row fun j _=>cp Af (fun x k hk=>match k,hk with|0,_=>.str _|1,_=>.bool _|2,_=>QZ|3,_=>QZ|4,_=>.bool _|5,_=>QZ|6,_=>QZ|7,_=>.bool _|8,_=>QZ|9,_=>QZ|10,_=>.int _ _) j
theorem Qr6 {h:Qa} {l:List Vq}:JU h (jb true l) (jb true l):=.row fun j _=>cp Af (fun x k hk=>match k,hk with|0,_=>.str _|1,_=>.bool _) j
theorem Qr7 {h:Qa} (x:Xk) (k:Nat) (hk:k<7):JU h (ao (Zi x) k) (ao (Zi x) k):=match k,hk with|0,_=>.str _|1,_=>.int _ _|2,_=>.int _ _|3,_=>BE|4,_=>.bool _|5,_=>QZ|6,_=>QZ
theorem JM {h:Qa} {l:List Xk}:JU h (ca true l) (ca true l):=.row fun j _=>cp Af Qr7 j
theorem Qr8 {h:Qa} {l:List YT}:JU h (ir true l) (ir true l):=.row fun j _=>cp Af (fun x k hk=>match k,hk with|0,_=>.str _|1,_=>.str _|2,_=>JM) j
theorem Qr9 {h:Qa} {l:List YU}:JU h (fB true l) (fB true l):=.row fun j _=>cp Af (fun x k hk=>match k,hk with|0,_=>.str _|1,_=>.int _ _|2,_=>BE|3,_=>QoU) j
theorem Qsa {h:Qa} {l:List Zh}:JU h (ll true l) (ll true l):=.row fun j _=>cp Af (fun x k hk=>match k,hk with|0,_=>.str _|1,_=>.bool _|2,_=>QZ|3,_=>QZ) j
theorem Qsb {h:Qa} {l:List Ke}:JU h (fS true l) (fS true l):=.row fun j _=>cp Af (fun x k hk=>match k,hk with|0,_=>.str _|1,_=>.str _|2,_=>Qsa) j
theorem Ct {h:Qa} {x:Qz}:pk h (Xo true x) (Xo true x):=⟨.str _,.str _,Qr5,Qr6,JM,Qr8,Qr9,Qsb,trivial⟩
theorem wG {h:Qa}:pk h [.str (sB []),.str (sB []),.ab,.ab,.ab,.ab,.ab,.ab] (Xo true j2):=⟨.str _,.str _,.ab,.ab,.ab,.ab,.ab,.ab,trivial⟩
end Go.Proofs.YtjegkdadeghpjaaGreatDoor
