/- Parts of one proof, laid by a program. -/
import Derived.Test.YteehccacfedolaaGreatP00
import Derived.Test.YteehccacfedolaaGreatP13
import Derived.Test.YteehccacfedolaaGreatP14
set_option linter.unusedSimpArgs false
set_option linter.unusedVariables false
set_option maxRecDepth 100000
set_option maxHeartbeats 12800000
namespace Go.PN
open Go.AI
def inpC (m:MdD):Int:=orC (inN1 m) (if isInp m 0 m.top then 0 else 5)
end Go.PN
namespace Go.Proofs.YteehccacfedolaaGreat
open Go.AI Go.PN
attribute [local irreducible] aw Fa Fh DrK
theorem inputs22_fa (m:MdD) (ho:MdO m) (hp8:m.pages.length≤8) (hI:∀k,k≤m.pages.length→∀i,((gtsK m k).getD i gt0).inputs.length≤16):Fa Tryz.prog 65 [.agg (mdc true m)] (.c (.int .i64 (inpC m))):=by
 have hm:=ho.ok
 have hgl:∀k,(gtsK m k).length≤1048576:=fun k=>(ho.gts k).1
 unfold inpC
 generalize hN:inN1 m=N
 refine fa_of_body Tryz.func65 rfl rfl (by simp [Tryz.ntmps65]) fun C hC=> ?_
 simp only [initS,Nat.reduceAdd]
 repeat' first|refine yA1 o0 ?_|refine zW o0 ?_|refine yP o0 ?_|refine yN o0 ?_|refine zC o0 (fun hb=>?_) fun hb=>?_|refine zG o0 (fun hb=>?_) fun hb=>?_|refine zD o0 (fun hb=>?_) fun hb=>?_
 refine xB fun g1 hn_g1=>?_
 repeat' first|refine yA1 hn_g1 ?_|refine zW hn_g1 ?_|refine yP hn_g1 ?_|refine yN hn_g1 ?_|refine zC hn_g1 (fun hb=>?_) fun hb=>?_|refine zG hn_g1 (fun hb=>?_) fun hb=>?_|refine zD hn_g1 (fun hb=>?_) fun hb=>?_
 refine aw_lp (fun x:Nat×List BS×Option Nat=>[(1,.c (.optr g1 0)),(3,.c (gs x.2.2 1 x.2.1.length)),(4,.c (.int .i64 ((x.1:Int)-1)))]) (fun x=>[(g1,.cells 30 8 (ofL (mdc true m)))]++gh x.2.2 9 x.2.1.length (strsF x.2.1)) (fun x=>x.1≤m.pages.length+1∧(x.2.2=none→x.2.1.length=0)∧x.2.1.length≤16777216*x.1∧(frsN (inP m) (m.pages.length+1-x.1) x.1 x.2.1).1=N) (fun x=>m.pages.length+1-x.1) (0,[],none) (zB hn_g1) zZ ⟨Nat.zero_le _,fun _=>rfl,Nat.zero_le _,hN⟩ ?_
 rintro ⟨k,sp0,og0⟩ ⟨hk,hog0,hsp0,hlN⟩
 dsimp only at hk hog0 hsp0 hlN⊢
 simp only [List.cons_append,List.nil_append]
 by_cases hkP:k≤m.pages.length
 ·have f0:=gates22_fa m k hkP om
  have hI':=hI k hkP
  have hin:=fun i j=>ho.inl k i j
  have hgk:=hgl k
  have hfN:∀c s,inP m k sp0=(c,s)→(c≠0→N=c)∧(c=0→(frsN (inP m) (m.pages.length+1-(k+1)) (k+1) s).1=N):=fun c s h=>by
   rw [show m.pages.length+1-k=(m.pages.length+1-(k+1))+1 from by omega] at hlN
   refine⟨fun h0=> ?_,fun h0=> ?_⟩
   ·rw [frsN_ne (f:=inP m) (by rw [h];exact h0),h] at hlN
    exact hlN.symm
   ·rw [frsN_z (f:=inP m) (by rw [h];exact h0),h] at hlN
    exact hlN
  have fT1:=gate22_fa (m.pages.getD (k-1) pg0).gates (m.pages.getD (k-1) pg0).top (by have:=(ho.wf2.pg (k-1)).2;omega)
  have fT2:=event22_fa m (m.pages.getD (k-1) pg0).top hm.ev
  repeat' first|refine yA1 hn_g1 ?_|(refine yC2 hn_g1 (f0) ?_)|(refine yD2 hn_g1 (f0) ?_)|refine zW hn_g1 ?_|refine yP hn_g1 ?_|refine yN hn_g1 ?_|refine zC hn_g1 (fun hb=>?_) fun hb=>?_|refine zG hn_g1 (fun hb=>?_) fun hb=>?_|refine zD hn_g1 (fun hb=>?_) fun hb=>?_
  all_goals try (exfalso;omega)
  clear hlN f0
  generalize hF:frsS (inG m k) (gtsK m k) 0 sp0=F
  have hPn:F.1≠0→inP m k sp0=F:=fun h=>by unfold inP;rw [hF,if_neg h]
  have hP0:F.1=0→inP m k sp0=(tpC m k,F.2):=fun h=>by unfold inP;rw [hF,if_pos h]
  generalize hL:gtsK m k=L at*
  refine aw_lp (fun x:Nat×List BS×Option Nat=>[(1,.c (.optr g1 0)),(3,.c (gs x.2.2 1 x.2.1.length)),(4,.c (.int .i64 ((k:Int)-1))),(21,.c (gts true L)),(22,.c (.int .i64 L.length)),(23,.c (.int .i64 x.1))]) (fun x=>[(g1,.cells 30 8 (ofL (mdc true m)))]++gh x.2.2 9 x.2.1.length (strsF x.2.1)) (fun x=>x.1≤L.length∧(x.2.2=none→x.2.1.length=0)∧x.2.1.length≤sp0.length+16*x.1∧frsS (inG m k) (L.drop x.1) x.1 x.2.1=F) (fun x=>L.length-x.1) (0,sp0,og0) (zB hn_g1) zZ ⟨Nat.zero_le _,hog0,by dsimp only;omega,hF⟩ ?_
  rintro ⟨i,sp,og⟩ ⟨hi,hog,hsz,hlp⟩
  dsimp only at hi hog hsz hlp⊢
  simp only [List.cons_append,List.nil_append]
  repeat' first|refine yA1 hn_g1 ?_|refine zW hn_g1 ?_|refine yP hn_g1 ?_|refine yN hn_g1 ?_|refine zC hn_g1 (fun hb=>?_) fun hb=>?_|refine zG hn_g1 (fun hb=>?_) fun hb=>?_|refine zD hn_g1 (fun hb=>?_) fun hb=>?_
  ·as_aux_lemma=>
   have hi':=hb
   have w1:=hI' i
   have w2:=hin i
   have hlp2:=fun r=>frsS_ret (d:=gt0) (r:=r) hlp hi'
   have hgo:=fun r=>frsS_go (d:=gt0) (r:=r) hlp hi'
   clear hlp fT1 fT2
   generalize hx:L.getD i gt0=x at*
   refine yA hn_g1 fun g6 hn_g6=>?_
   all_goals try(have Z:=(oj hn_g1 hn_g6);(repeat' first|refine yA1 Z ?_|refine zW Z ?_|refine yP Z ?_|refine yN Z ?_|refine zC Z (fun hb=>?_) fun hb=>?_|refine zG Z (fun hb=>?_) fun hb=>?_|refine zD Z (fun hb=>?_) fun hb=>?_);all_goals clear Z)
   generalize hF2:frsS (inI m k x) x.inputs 0 sp=F2
   have e2:inG m k i x sp=F2:=hF2
   rw [e2] at hlp2 hgo
   refine aw_lp (fun y:Nat×List BS×Option Nat=>[(1,.c (.optr g1 0)),(3,.c (gs y.2.2 1 y.2.1.length)),(4,.c (.int .i64 ((k:Int)-1))),(6,.c (.optr g6 0)),(21,.c (gts true L)),(22,.c (.int .i64 L.length)),(23,.c (.int .i64 i)),(28,.c (strs true x.inputs)),(29,.c (.int .i64 x.inputs.length)),(30,.c (.int .i64 y.1))]) (fun y=>[(g6,.cells 45 7 (ofL (gtc x))),(g1,.cells 30 8 (ofL (mdc true m)))]++gh y.2.2 9 y.2.1.length (strsF y.2.1)) (fun y=>y.1≤x.inputs.length∧(y.2.2=none→y.2.1.length=0)∧y.2.1.length≤sp.length+y.1∧frsS (inI m k x) (x.inputs.drop y.1) y.1 y.2.1=F2) (fun y=>x.inputs.length-y.1) (0,sp,og) (zB (oj hn_g1 hn_g6)) zZ ⟨Nat.zero_le _,hog,by dsimp only;omega,hF2⟩ ?_
   rintro ⟨j,sq,oq⟩ ⟨hj,hoq,hsq,hlq⟩
   dsimp only at hj hoq hsq hlq⊢
   simp only [List.cons_append,List.nil_append]
   all_goals try(have Z:=(oj hn_g1 hn_g6);(repeat' first|refine yA1 Z ?_|refine zW Z ?_|refine yP Z ?_|refine yN Z ?_|refine zC Z (fun hb=>?_) fun hb=>?_|refine zG Z (fun hb=>?_) fun hb=>?_|refine zD Z (fun hb=>?_) fun hb=>?_);all_goals clear Z)
   ·have hj':=hb
    have w3:=w2 j
    have hq2:=fun r=>frsS_ret (d:=([]:BS)) (r:=r) hlq hj'
    have hqg:=fun r=>frsS_go (d:=([]:BS)) (r:=r) hlq hj'
    clear hlq
    generalize hy:x.inputs.getD j []=y at*
    have hR:∀c s,inI m k x j y sq=(c,s)→c≠0→c=orC N (if isInp m 0 m.top=true then 0 else 5):=fun c s h1 h2=>by
     have a1:=hq2 _ h1 h2
     rw [a1] at hlp2
     have a2:=hlp2 _ rfl h2
     have a3:=(hfN c s (by rw [hPn (by rw [a2];exact h2),a2])).1 h2
     rw [a3,orC_ne h2]
    have f1:=names22_fa m k y hkP hm.ev hm.hs hm.pg (by rw [hL];omega) w3
    have f3:=event22_fa m y hm.ev
    have hI0:inI m k x j y sq=if isInp m k y=false then(5,sq) else if mustE x j=true∧evI m y<0 then(7,sq) else if x.kind=7 then(if sq.contains y then(6,sq) else(0,sq++[y])) else(0,sq):=rfl
    have hgo':∀s,inI m k x j y sq=(0,s)→frsS (inI m k x) (x.inputs.drop (j+1)) (j+1) s=F2:=fun s h=>hqg _ h rfl
    clear hq2 hqg hlp2 hPn hP0 hfN
    by_cases c1:isInp m k y=false
    ·rw [c1] at f1
     all_goals try(have Z:=(oj hn_g1 hn_g6);(repeat' first|refine yA1 Z ?_|(refine yC2 Z (f1) ?_)|(refine yD2 Z (f1) ?_)|refine zW Z ?_|refine yP Z ?_|refine yN Z ?_|refine zC Z (fun hb=>?_) fun hb=>?_|refine zG Z (fun hb=>?_) fun hb=>?_|refine zD Z (fun hb=>?_) fun hb=>?_);all_goals clear Z)
     refine yT hC (oj hn_g1 hn_g6) ?_
     exact .one (.c (ler_int (hR 5 sq (by rw [hI0,if_pos c1]) (by decide))))
    replace c1:isInp m k y=true:=by simpa using c1
    rw [c1] at f1
    rw [if_neg (by rw [c1];decide)] at hI0
    have hstop:mustE x j=false∨¬evI m y<0→x.kind≠7→inI m k x j y sq=(0,sq):=fun h1 h2=>by
     rw [hI0,if_neg,if_neg h2]
     rintro ⟨z1,z2⟩
     rcases h1 with h1|h1
     ·rw [h1] at z1;cases z1
     ·exact h1 z2
    by_cases c7:x.kind=7
    ·have q1:(x.kind==7)=true:=beq_iff_eq.2 c7
     have q2:(x.kind !=7)=false:=by rw [c7];rfl
     have hM:mustE x j=true:=by unfold mustE;rw [c7];rfl
     all_goals try(have Z:=(oj hn_g1 (oj hn_g6 (oj q1 q2)));(repeat' first|refine yA1 Z ?_|(refine yC2 Z (f1) ?_)|(refine yD2 Z (f1) ?_)|(refine yC2 Z (f3) ?_)|(refine yD2 Z (f3) ?_)|refine zW Z ?_|refine yP Z ?_|refine yN Z ?_|refine zC Z (fun hb=>?_) fun hb=>?_|refine zG Z (fun hb=>?_) fun hb=>?_|refine zD Z (fun hb=>?_) fun hb=>?_);all_goals clear Z)
     ·refine yT hC (oj hn_g1 (oj hn_g6 (oj q1 q2))) ?_
      exact .one (.c (ler_int (hR 7 sq (by rw [hI0,if_pos ⟨hM,hb⟩]) (by decide))))
     have hI7:inI m k x j y sq=if sq.contains y then(6,sq) else(0,sq++[y]):=by rw [hI0,if_neg (fun z=>hb z.2),if_pos c7]
     refine aw_pok (POk.lenS (zE (oj hn_g1 (oj hn_g6 (oj q1 q2)))) (zE (oj hn_g1 (oj hn_g6 (oj q1 q2)))) (lenCV_gs (s:=1) hoq)) rfl rfl ?_
     have J1:=oj hn_g1 (oj hn_g6 (oj q1 q2))
     refine yS J1 ?_
     all_goals try(have Z:=J1;(repeat' first|refine yA1 Z ?_|refine zW Z ?_|refine yP Z ?_|refine yN Z ?_|refine zC Z (fun hb=>?_) fun hb=>?_|refine zG Z (fun hb=>?_) fun hb=>?_|refine zD Z (fun hb=>?_) fun hb=>?_);all_goals clear Z)
     refine aw_lp (fun t:Nat=>[(1,.c (.optr g1 0)),(3,.c (gs oq 1 sq.length)),(4,.c (.int .i64 ((k:Int)-1))),(6,.c (.optr g6 0)),(8,.c (.str (sB y))),(21,.c (gts true L)),(22,.c (.int .i64 L.length)),(23,.c (.int .i64 i)),(28,.c (strs true x.inputs)),(29,.c (.int .i64 x.inputs.length)),(30,.c (.int .i64 j)),(62,.c (gs oq 1 sq.length)),(63,.c (.int .i64 sq.length)),(64,.c (.int .i64 t))]) (fun _=>(g6,.cells 45 7 (ofL (gtc x)))::(g1,.cells 30 8 (ofL (mdc true m)))::gh oq 9 sq.length (strsF sq)) (fun t=>t≤sq.length∧∀u,u<t→(sq.getD u []==y)=false) (fun t=>sq.length-t) 0 (zB J1) zZ ⟨Nat.zero_le _,fun u hu=>absurd hu (Nat.not_lt_zero u)⟩ ?_
     rintro t ⟨ht,hnt⟩
     by_cases htl:t<sq.length
     ·have dt:decide (t<sq.length)=true:=decide_eq_true htl
      obtain⟨g,rfl⟩:∃g,oq=some g:=by
       cases oq with
       |none=>exact absurd (hoq rfl) om
       |some g=>exact⟨g,rfl⟩
      dsimp only [gs,gh]
      refine aw_nd fun hnd=> ?_
      simp only [Heap.keys,List.map_cons,List.map_nil] at hnd
      replace hnd:=ndP_of hnd
      dsimp only [ndP,neA] at hnd
      all_goals try(have Z:=(oj hn_g1 (oj hn_g6 (oj q1 (oj q2 (oj dt hnd)))));(repeat' first|refine yA1 Z ?_|refine zW Z ?_|refine yP Z ?_|refine yN Z ?_|refine zC Z (fun hb=>?_) fun hb=>?_|refine zG Z (fun hb=>?_) fun hb=>?_|refine zD Z (fun hb=>?_) fun hb=>?_);all_goals clear Z)
      ·refine yT hC (oj hn_g1 (oj hn_g6 (oj q1 (oj q2 (oj dt hnd))))) ?_
       refine .one (.c (ler_int (hR _ sq ?_ (by decide))))
       rw [hI7,if_pos (is_cont htl hb)]
      ·refine aw_stop ⟨t+1,?_⟩
       and_intros
       all_goals first|rfl|exact List.Sublist.refl _|exact True.intro|exact no_step (p:=fun u=>sq.getD u []==y) hnt (by simpa using hb)|omega
     ·have dt:decide (t<sq.length)=false:=decide_eq_false htl
      have hz:inI m k x j y sq=(0,sq++[y]):=by rw [hI7,no_cont fun u hu=>hnt u om];rfl
      have hq:=hgo' _ hz
      have hln:(sq++[y]).length=sq.length+1:=by rw [List.length_append];rfl
      all_goals try(have Z:=(oj hn_g1 (oj hn_g6 (oj q1 (oj q2 dt))));(repeat' first|refine yA1 Z ?_|refine zW Z ?_|refine yP Z ?_|refine yN Z ?_|refine zC Z (fun hb=>?_) fun hb=>?_|refine zG Z (fun hb=>?_) fun hb=>?_|refine zD Z (fun hb=>?_) fun hb=>?_);all_goals clear Z)
      refine aw_push (pre:=[(g6,.cells 45 7 (ofL (gtc x))),(g1,.cells 30 8 (ofL (mdc true m)))]) rfl rfl rfl rfl rfl rfl rfl (zE (oj hn_g1 (oj hn_g6 (oj q1 (oj q2 dt))))) (zE (oj hn_g1 (oj hn_g6 (oj q1 (oj q2 dt))))) (by rfl) om om (zE (oj hn_g1 (oj hn_g6 (oj q1 (oj q2 dt))))) om (by exact hoq) (zE (oj hn_g1 (oj hn_g6 (oj q1 (oj q2 dt))))) (by rfl) (by rfl) (by first|rfl|simp only [Nat.mul_one,List.nil_append,List.cons_append]<;>rfl) (by unfold maxLen;omega) om (by exact strs_push rfl y) fun gb hn_gb=> ?_
      replace hn_gb:=Heap.ne_of hn_gb
      first|dsimp only [Heap.ne,gh] at hn_gb|dsimp only [Heap.ne] at hn_gb|skip
      have J2:=oj hn_g1 (oj hn_g6 (oj q1 (oj q2 (oj dt hn_gb))))
      refine yS J2 ?_
      all_goals try(have Z:=J2;(repeat' first|refine yA1 Z ?_|refine zW Z ?_|refine yP Z ?_|refine yN Z ?_|refine zC Z (fun hb=>?_) fun hb=>?_|refine zG Z (fun hb=>?_) fun hb=>?_|refine zD Z (fun hb=>?_) fun hb=>?_);all_goals clear Z)
      refine aw_stop ⟨(j+1,sq++[y],some gb),?_⟩
      dsimp only
      simp only [hln]
      and_intros
      all_goals first|rfl|exact List.Sublist.refl _|exact List.sublist_cons_self _ _|exact True.intro|exact some_ne|exact hq|omega
    have q1:(x.kind==7)=false:=beq_eq_false_iff_ne.2 c7
    have q2:(x.kind !=7)=true:=bne_iff_ne.2 c7
    by_cases c8:x.kind=8∧j>0
    ·have q3:(x.kind==8)=true:=beq_iff_eq.2 c8.1
     have q4:decide (j>0)=true:=decide_eq_true c8.2
     have hM:mustE x j=true:=by unfold mustE;rw [decide_eq_true c8.1,decide_eq_true c8.2];simp
     all_goals try(have Z:=(oj hn_g1 (oj hn_g6 (oj q1 (oj q2 (oj q3 q4)))));(repeat' first|refine yA1 Z ?_|(refine yC2 Z (f1) ?_)|(refine yD2 Z (f1) ?_)|(refine yC2 Z (f3) ?_)|(refine yD2 Z (f3) ?_)|refine zW Z ?_|refine yP Z ?_|refine yN Z ?_|refine zC Z (fun hb=>?_) fun hb=>?_|refine zG Z (fun hb=>?_) fun hb=>?_|refine zD Z (fun hb=>?_) fun hb=>?_);all_goals clear Z)
     ·refine yT hC (oj hn_g1 (oj hn_g6 (oj q1 (oj q2 (oj q3 q4))))) ?_
      exact .one (.c (ler_int (hR 7 sq (by rw [hI0,if_pos ⟨hM,hb⟩]) (by decide))))
     ·have hq:=hgo' _ (hstop (.inr hb) c7)
      exact aw_stop ⟨(j+1,sq,oq),(by dsimp only;omega),(zB (oj hn_g1 (oj hn_g6 (oj q1 (oj q2 (oj q3 q4)))))),zZ,(by dsimp only;omega),hoq,(by dsimp only;omega),hq⟩
    ·have hM:mustE x j=false:=by
      unfold mustE
      rw [decide_eq_false c7,Bool.false_or,←Bool.decide_and]
      exact decide_eq_false c8
     have hq:=hgo' _ (hstop (.inl hM) c7)
     by_cases c9:x.kind=8
     ·have q3:(x.kind==8)=true:=beq_iff_eq.2 c9
      have q4:decide (j>0)=false:=decide_eq_false fun z=>c8 ⟨c9,z⟩
      all_goals try(have Z:=(oj hn_g1 (oj hn_g6 (oj q1 (oj q2 (oj q3 q4)))));(repeat' first|refine yA1 Z ?_|(refine yC2 Z (f1) ?_)|(refine yD2 Z (f1) ?_)|(refine yC2 Z (f3) ?_)|(refine yD2 Z (f3) ?_)|refine zW Z ?_|refine yP Z ?_|refine yN Z ?_|refine zC Z (fun hb=>?_) fun hb=>?_|refine zG Z (fun hb=>?_) fun hb=>?_|refine zD Z (fun hb=>?_) fun hb=>?_);all_goals clear Z)
      exact aw_stop ⟨(j+1,sq,oq),(by dsimp only;omega),(zB (oj hn_g1 (oj hn_g6 (oj q1 (oj q2 (oj q3 q4)))))),zZ,(by dsimp only;omega),hoq,(by dsimp only;omega),hq⟩
     ·have q3:(x.kind==8)=false:=beq_eq_false_iff_ne.2 c9
      all_goals try(have Z:=(oj hn_g1 (oj hn_g6 (oj q1 (oj q2 q3))));(repeat' first|refine yA1 Z ?_|(refine yC2 Z (f1) ?_)|(refine yD2 Z (f1) ?_)|(refine yC2 Z (f3) ?_)|(refine yD2 Z (f3) ?_)|refine zW Z ?_|refine yP Z ?_|refine yN Z ?_|refine zC Z (fun hb=>?_) fun hb=>?_|refine zG Z (fun hb=>?_) fun hb=>?_|refine zD Z (fun hb=>?_) fun hb=>?_);all_goals clear Z)
      exact aw_stop ⟨(j+1,sq,oq),(by dsimp only;omega),(zB (oj hn_g1 (oj hn_g6 (oj q1 (oj q2 q3))))),zZ,(by dsimp only;omega),hoq,(by dsimp only;omega),hq⟩
   ·have hF0:=frsS_fin hlq hb
    subst hF0
    refine aw_stop ⟨(i+1,sq,oq),?_⟩
    and_intros
    all_goals first|rfl|exact List.Sublist.refl _|exact List.sublist_cons_self _ _|exact True.intro|exact hoq|exact hgo _ rfl rfl|(dsimp only;omega)
  ·as_aux_lemma=>
   have hi0:=hb
   have hF0:=frsS_fin hlp hi0
   subst hF0
   have hT:inP m k sp0=(tpC m k,sp):=hP0 rfl
   obtain⟨hf1,hf2⟩:=hfN _ _ hT
   have hTk:tpC m k=if k=0 then 0 else if gtI (m.pages.getD (k-1) pg0).gates (m.pages.getD (k-1) pg0).top<0∧evI m (m.pages.getD (k-1) pg0).top<0 then 5 else 0:=by
    clear hf1 hf2
    rcases k with _|q
    ·rfl
    ·rw [if_neg om];rfl
   by_cases hk0:k=0
   ·have d0:decide ((k:Int)-1≥0)=false:=decide_eq_false om
    have hlN:=hf2 (by rw [hTk,if_pos hk0])
    refine aw_dr 29 ty_mixed (by kernel_rfl) ?_
    all_goals try(have Z:=(oj hn_g1 d0);(repeat' first|refine yA1 Z ?_|refine zW Z ?_|refine yP Z ?_|refine yN Z ?_|refine zC Z (fun hb=>?_) fun hb=>?_|refine zG Z (fun hb=>?_) fun hb=>?_|refine zD Z (fun hb=>?_) fun hb=>?_);all_goals clear Z)
    exact aw_stop ⟨(k+1,sp,og),(by dsimp only;omega),(zB (oj hn_g1 d0)),zZ,(by dsimp only;omega),hog,(by dsimp only;omega),hlN⟩
   ·have d1:decide ((k:Int)-1≥0)=true:=decide_eq_true om
    have hkn:((k:Int)-1).toNat=k-1:=by omega
    rw [if_neg hk0] at hTk
    refine aw_dr 29 ty_mixed (by kernel_rfl) ?_
    all_goals try(have Z:=(oj hn_g1 (oj d1 hkn));(repeat' first|refine yA1 Z ?_|(refine yC2 Z (fT1) ?_)|(refine yD2 Z (fT1) ?_)|(refine yC2 Z (fT2) ?_)|(refine yD2 Z (fT2) ?_)|refine zW Z ?_|refine yP Z ?_|refine yN Z ?_|refine zC Z (fun hb=>?_) fun hb=>?_|refine zG Z (fun hb=>?_) fun hb=>?_|refine zD Z (fun hb=>?_) fun hb=>?_);all_goals clear Z)
    ·refine yT hC (oj hn_g1 (oj d1 hkn)) ?_
     have h5:tpC m k=5:=by rw [hTk];exact if_pos ⟨by assumption,by assumption⟩
     rw [hf1 (by rw [h5];decide),h5]
     exact .one (.c (.int _ _))
    ·have hlN:=hf2 (by rw [hTk];exact if_neg fun z=>hb z.2)
     exact aw_stop ⟨(k+1,sp,og),(by dsimp only;omega),(zB (oj hn_g1 (oj d1 hkn))),zZ,(by dsimp only;omega),hog,(by dsimp only;omega),hlN⟩
    ·have hlN:=hf2 (by rw [hTk];exact if_neg fun z=>hb z.1)
     exact aw_stop ⟨(k+1,sp,og),(by dsimp only;omega),(zB (oj hn_g1 (oj d1 hkn))),zZ,(by dsimp only;omega),hog,(by dsimp only;omega),hlN⟩
 ·as_aux_lemma=>
  have hkE:k=m.pages.length+1:=by omega
  subst hkE
  rw [Nat.sub_self] at hlN
  have hN0:N=0:=hlN.symm
  subst hN0
  have f3:=names22_fa m 0 m.top (Nat.zero_le _) hm.ev hm.hs hm.pg (Nat.le_trans (hgl 0) (by decide)) (Nat.le_trans ho.tp (by decide))
  rw [show((0:Nat):Int)-1= -1 from rfl] at f3
  rw [orC_z rfl]
  repeat' first|refine yA1 hn_g1 ?_|(refine yC2 hn_g1 (f3) ?_)|(refine yD2 hn_g1 (f3) ?_)|refine zW hn_g1 ?_|refine yP hn_g1 ?_|refine yN hn_g1 ?_|refine zC hn_g1 (fun hb=>?_) fun hb=>?_|refine zG hn_g1 (fun hb=>?_) fun hb=>?_|refine zD hn_g1 (fun hb=>?_) fun hb=>?_
  all_goals try (exfalso;omega)
  ·refine yT hC hn_g1 ?_
   rw [show isInp m 0 m.top=false from by simpa using hb]
   exact .one (.c (.int _ _))
  ·refine yT hC hn_g1 ?_
   rw [show isInp m 0 m.top=true from by simpa using hb]
   exact .one (.c (.int _ _))
end Go.Proofs.YteehccacfedolaaGreat
namespace Go.PN
open Go.AI
theorem orL_ret {l:List Int} {z T:Int} {j:Nat} (h:(l.drop j).foldr orC z=T) (hj:j<l.length) (h0:l.getD j 0≠0):T=l.getD j 0:=by
 rw [←h,List.drop_eq_getElem_cons hj,List.foldr_cons]
 rw [List.getD_eq_getElem?_getD,List.getElem?_eq_getElem hj] at h0⊢
 exact orC_ne h0
theorem orL_go {l:List Int} {z T:Int} {j:Nat} (h:(l.drop j).foldr orC z=T) (hj:j<l.length) (h0:l.getD j 0=0):(l.drop (j+1)).foldr orC z=T:=by
 rw [←h,List.drop_eq_getElem_cons hj,List.foldr_cons]
 rw [List.getD_eq_getElem?_getD,List.getElem?_eq_getElem hj] at h0
 exact(orC_z h0).symm
end Go.PN
namespace Go.Proofs.YteehccacfedolaaGreat
open Go.AI Go.PN
attribute [local irreducible] aw Fa Fh DrK
theorem check22_fa (m:MdD) (ho:MdO m):Fa Tryz.prog 25 [.agg (mdc true m)] (.c (.int .i64 (mcC m))):=by
 have hm:=ho.ok
 have hgl:∀k,(gtsK m k).length≤1048576:=fun k=>(ho.gts k).1
 have hpg6:m.pages.length≤1048576:=ho.pg.1
 have f1:=first22_fa m ho
 have hE:mcC m=orC (fstC m) (orC (gtN1 m) (orC (inpC m) (orC (grsC m) (orC (phsC m) (if cycB m then 14 else 0))))):=by
  rw [mcC_eq]
  unfold fstC inpC
  simp only [orC_assoc]
 rw [hE]
 refine fa_of_body Tryz.func25 rfl rfl (by simp [Tryz.ntmps25]) fun C hC=> ?_
 simp only [initS,Nat.reduceAdd]
 repeat' first|refine yA1 o0 ?_|refine zW o0 ?_|refine yP o0 ?_|refine yN o0 ?_|refine zC o0 (fun hb=>?_) fun hb=>?_|refine zG o0 (fun hb=>?_) fun hb=>?_|refine zD o0 (fun hb=>?_) fun hb=>?_
 refine xB fun g1 hn_g1=>?_
 repeat' first|refine yA1 hn_g1 ?_|(refine yC2 hn_g1 (f1) ?_)|(refine yD2 hn_g1 (f1) ?_)|refine zW hn_g1 ?_|refine yP hn_g1 ?_|refine yN hn_g1 ?_|refine zC hn_g1 (fun hb=>?_) fun hb=>?_|refine zG hn_g1 (fun hb=>?_) fun hb=>?_|refine zD hn_g1 (fun hb=>?_) fun hb=>?_
 ·have h1:fstC m≠0:=by simpa using hb
  rw [orC_ne h1]
  refine yT hC hn_g1 ?_
  exact .one (.c (.int _ _))
 have h1:fstC m=0:=by simpa using hb
 rw [orC_z h1]
 clear f1
 generalize hG:gtN1 m=G
 refine aw_lp (fun k:Nat=>[(1,.c (.optr g1 0)),(4,.c (.int .i64 ((k:Int)-1)))]) (fun _=>[(g1,.cells 30 8 (ofL (mdc true m)))]) (fun k=>k≤m.pages.length+1∧(frsN (fun k (_:Unit)=>(gtsC m k,())) (m.pages.length+1-k) k ()).1=G) (fun k=>m.pages.length+1-k) 0 (zB hn_g1) zZ ⟨Nat.zero_le _,hG⟩ ?_
 rintro k ⟨hk,hlp⟩
 by_cases hkP:k≤m.pages.length
 ·have f0:=gates22_fa m k hkP hm.pg
  have hg6:=hgl k
  rw [show m.pages.length+1-k=(m.pages.length+1-(k+1))+1 from by omega] at hlp
  repeat' first|refine yA1 hn_g1 ?_|(refine yC2 hn_g1 (f0) ?_)|(refine yD2 hn_g1 (f0) ?_)|refine zW hn_g1 ?_|refine yP hn_g1 ?_|refine yN hn_g1 ?_|refine zC hn_g1 (fun hb=>?_) fun hb=>?_|refine zG hn_g1 (fun hb=>?_) fun hb=>?_|refine zD hn_g1 (fun hb=>?_) fun hb=>?_
  all_goals try (exfalso;omega)
  have hlc:gtsC m k=frst (gtC m k) (gtsK m k) 0:=rfl
  generalize hF:frst (gtC m k) (gtsK m k) 0=F at hlc
  refine aw_lp (fun i:Nat=>[(1,.c (.optr g1 0)),(4,.c (.int .i64 ((k:Int)-1))),(24,.c (.int .i64 (gtsK m k).length)),(25,.c (.int .i64 i))]) (fun _=>[(g1,.cells 30 8 (ofL (mdc true m)))]) (fun i=>i≤(gtsK m k).length∧frst (gtC m k) ((gtsK m k).drop i) i=F) (fun i=>(gtsK m k).length-i) 0 (zB hn_g1) zZ ⟨Nat.zero_le _,hF⟩ ?_
  rintro i ⟨hi,hlq⟩
  by_cases hil:i<(gtsK m k).length
  ·have di:decide (i<(gtsK m k).length)=true:=decide_eq_true hil
   have f2:=shape22_fa m k i hkP hil ho
   have hq:=fun c=>frst_ret (d:=gt0) (c:=c) hlq hil
   have hgo:=frst_go (d:=gt0) hlq hil
   generalize gtC m k i ((gtsK m k).getD i gt0)=c at*
   all_goals try(have Z:=(oj hn_g1 di);(repeat' first|refine yA1 Z ?_|(refine yC2 Z (f2) ?_)|(refine yD2 Z (f2) ?_)|refine zW Z ?_|refine yP Z ?_|refine yN Z ?_|refine zC Z (fun hb=>?_) fun hb=>?_|refine zG Z (fun hb=>?_) fun hb=>?_|refine zD Z (fun hb=>?_) fun hb=>?_);all_goals clear Z)
   ·have hc:c≠0:=by simpa using hb
    have hF2:gtsC m k≠0:=by rw [hlc,hq c rfl hc];exact hc
    rw [frsN_ne (f:=fun k (_:Unit)=>(gtsC m k,())) hF2] at hlp
    have hG2:G=c:=by rw [←hlp];show gtsC m k=c;rw [hlc,hq c rfl hc]
    rw [hG2,orC_ne hc]
    refine yT hC (oj hn_g1 di) ?_
    exact .one (.c (.int _ _))
   ·refine aw_stop ⟨i+1,?_⟩
    and_intros
    all_goals first|rfl|exact List.Sublist.refl _|exact True.intro|exact hgo (by simpa using hb)|omega
  ·have di:decide (i<(gtsK m k).length)=false:=decide_eq_false hil
   have hF0:=frst_fin hlq hil
   rw [frsN_z (f:=fun k (_:Unit)=>(gtsC m k,())) (hlc.trans hF0)] at hlp
   all_goals try(have Z:=(oj hn_g1 di);(repeat' first|refine yA1 Z ?_|refine zW Z ?_|refine yP Z ?_|refine yN Z ?_|refine zC Z (fun hb=>?_) fun hb=>?_|refine zG Z (fun hb=>?_) fun hb=>?_|refine zD Z (fun hb=>?_) fun hb=>?_);all_goals clear Z)
   refine aw_stop ⟨k+1,?_⟩
   and_intros
   all_goals first|rfl|exact List.Sublist.refl _|exact True.intro|exact hlp|exact c_int om|omega
 have hk1:k=m.pages.length+1:=by omega
 subst hk1
 rw [Nat.sub_self] at hlp
 have hG0:G=0:=hlp.symm
 subst hG0
 rw [orC_z rfl]
 have h3:pgsC m=0:=by
  unfold fstC at h1
  obtain⟨_,h1⟩:=orC_0.1 h1
  exact(orC_0.1 h1).2
 have hp8:m.pages.length≤8:=by
  unfold pgsC at h3
  split at h3
  ·cases h3
  ·omega
 have hIi:∀k,k≤m.pages.length→∀i,((gtsK m k).getD i gt0).inputs.length≤16:=fun k hk i=>getD_all (P:=fun x:GtD=>x.inputs.length≤16) (inp_16 hG hk) (Nat.zero_le _) i
 have f3:=inputs22_fa m ho hp8 hIi
 have f4:=groups22_fa m ho
 have f5:=phases22_fa m ho
 have hC0:inpC m=0→grsC m=0→phsC m=0→mcode0 m=0:=fun a b c=>by
  have e:=mcC_eq m
  unfold mcC at e
  have:orC (mcode0 m) 1=orC (if nameOk m.name then 0 else 5) (orC (evhC m) (orC (pgsC m) (orC (gtN1 m) (orC (inN1 m) (orC (if isInp m 0 m.top then 0 else 5) (orC (grsC m) (orC (phsC m) 1))))))):=by
   unfold mcode0
   simp only [orC_assoc]
  unfold fstC at h1
  obtain⟨a1,h1⟩:=orC_0.1 h1
  obtain⟨a2,a3⟩:=orC_0.1 h1
  unfold inpC at a
  obtain⟨a4,a5⟩:=orC_0.1 a
  rw [orC_z a1,orC_z a2,orC_z a3,orC_z hG,orC_z a4,orC_z a5,orC_z b,orC_z c] at this
  by_cases z:mcode0 m=0
  ·exact z
  ·unfold mcode0
   rw [orC_z a1,orC_z a2,orC_z a3,orC_z hG,orC_z a4,orC_z a5,orC_z b,c]
 repeat' first|refine yA1 hn_g1 ?_|refine zW hn_g1 ?_|refine yP hn_g1 ?_|refine yN hn_g1 ?_|refine zC hn_g1 (fun hb=>?_) fun hb=>?_|refine zG hn_g1 (fun hb=>?_) fun hb=>?_|refine zD hn_g1 (fun hb=>?_) fun hb=>?_
 all_goals try (exfalso;omega)
 have hT:([inpC m,grsC m,phsC m].drop 0).foldr orC (if cycB m then 14 else 0)=orC (inpC m) (orC (grsC m) (orC (phsC m) (if cycB m then 14 else 0))):=rfl
 generalize hTT:orC (inpC m) (orC (grsC m) (orC (phsC m) (if cycB m then 14 else 0)))=T at*
 refine aw_cw ([(g1,.cells 30 8 (ofL (mdc true m)))]) [(0,0),(1,0),(2,0),(3,0),(4,0),(5,0),(8,0),(6,1),(7,0)] ty_mixed (by kernel_rfl) eI ?_
 refine yG hn_g1 ?_
 refine cw_callq rfl f3 rfl rfl rfl (fun _ _=>(zL hn_g1)) ?_
 refine ySG hn_g1 ?_
 refine cw_callq rfl f4 rfl rfl rfl (fun _ _=>(zL hn_g1)) ?_
 refine ySG hn_g1 ?_
 refine cw_callq rfl f5 rfl rfl rfl (fun _ _=>(zL hn_g1)) ?_
 refine ySG hn_g1 ?_
 refine cw_buildSlice (xs:=[.tmp 37,.tmp 39,.tmp 41]) (cells:=[.int .i64 (inpC m),.int .i64 (grsC m),.int .i64 (phsC m)]) rfl rfl rfl rfl (zE hn_g1) (by refine yS hn_g1 ?_;rfl) rfl om om (by intro x hx;simp only [List.mem_cons,List.not_mem_nil,or_false] at hx;rcases hx with rfl|rfl|rfl<;>exact⟨rfl,rfl,rfl⟩) rfl (by simp [Op.operands]) eI (fun ga hn_ga=> ?_) (hm:=.inr ⟨rfl,rfl⟩)
 replace hn_ga:=Heap.ne_of hn_ga
 simp only [Heap.ne] at hn_ga
 have J1:=oj hn_g1 hn_ga
 refine ySG J1 ?_
 refine aw_conv1 (f':=isF [inpC m,grsC m,phsC m]) (fun j hj=>by
  match j,hj with
  |0,_=>rfl
  |1,_=>rfl
  |2,_=>rfl) ?_
 generalize hLL:[inpC m,grsC m,phsC m]=LL at*
 have hL3:LL.length=3:=by rw [←hLL];rfl
 refine aw_lp (fun j:Nat=>[(1,.c (.optr g1 0)),(42,.c (.osl ga 1 0 3)),(43,.c (.int .i64 3)),(44,.c (.int .i64 j))]) (fun _=>[(ga,.cells 3 3 (isF LL)),(g1,.cells 30 8 (ofL (mdc true m)))]) (fun j=>j≤3∧(LL.drop j).foldr orC (if cycB m then 14 else 0)=T∧∀i,i<j→LL.getD i 0=0) (fun j=>3-j) 0 (zB J1) zZ ⟨Nat.zero_le _,hT,fun i hi=>absurd hi (Nat.not_lt_zero i)⟩ ?_
 rintro j ⟨hj,hl,hz⟩
 by_cases hj3:j<3
 ·have dj:decide (j<3)=true:=decide_eq_true hj3
  all_goals try(have Z:=(oj hn_g1 (oj hn_ga dj));(repeat' first|refine yA1 Z ?_|refine zW Z ?_|refine yP Z ?_|refine yN Z ?_|refine zC Z (fun hb=>?_) fun hb=>?_|refine zG Z (fun hb=>?_) fun hb=>?_|refine zD Z (fun hb=>?_) fun hb=>?_);all_goals clear Z)
  ·refine yT hC (oj hn_g1 (oj hn_ga dj)) ?_
   exact .one (.c (ler_int (orL_ret hl om hb).symm))
  ·have h0:LL.getD j 0=0:=hb
   refine aw_stop ⟨j+1,?_⟩
   and_intros
   all_goals first|rfl|exact List.Sublist.refl _|exact True.intro|exact orL_go hl om h0|omega|skip
   intro i hi
   rcases Nat.lt_succ_iff_lt_or_eq.1 hi with e|rfl
   ·exact hz i e
   ·exact h0
 ·have dj:decide (j<3)=false:=decide_eq_false hj3
  obtain rfl:j=3:=by omega
  have hTz:(if cycB m then 14 else 0:Int)=T:=by
   rw [←hl,List.drop_of_length_le om];rfl
  have z0:inpC m=0:=by have:=hz 0 om;rw [←hLL] at this;exact this
  have z1:grsC m=0:=by have:=hz 1 om;rw [←hLL] at this;exact this
  have z2:phsC m=0:=by have:=hz 2 om;rw [←hLL] at this;exact this
  have f6:=cycle22_fa m ho (mcode0_ok (hC0 z0 z1 z2))
  all_goals try(have Z:=(oj hn_g1 (oj hn_ga dj));(repeat' first|refine yA1 Z ?_|(refine yC2 Z (f6) ?_)|(refine yD2 Z (f6) ?_)|refine zW Z ?_|refine yP Z ?_|refine yN Z ?_|refine zC Z (fun hb=>?_) fun hb=>?_|refine zG Z (fun hb=>?_) fun hb=>?_|refine zD Z (fun hb=>?_) fun hb=>?_);all_goals clear Z)
  ·rw [if_pos (by simpa using hb)] at hTz
   refine yT hC (oj hn_g1 (oj hn_ga dj)) ?_
   exact .one (.c (ler_int hTz))
  ·rw [if_neg (by simpa using hb)] at hTz
   refine yT hC (oj hn_g1 (oj hn_ga dj)) ?_
   exact .one (.c (ler_int hTz))
end Go.Proofs.YteehccacfedolaaGreat
namespace Go.Proofs.YteehccacfedolaaGreat
open Go.AI Go.PN
attribute [local irreducible] aw Fa Fh DrK
theorem rm_fa (l:BS) (hl:l.length≤1099511627776):Fa Tryz.prog 6 [.c (.str (sB l))] (.tup [.agg (mdc true (modelP mcC l).1),.c (.int .i64 (modelP mcC l).2)]):=by
 rw [←modelQ_eq]
 refine refModel_fa l hl (Nat.le_trans (splitS_len l) (by decide)) (fun t ht=>Nat.le_trans (splitS_txt l t ht) (by decide)) mcC fun h=> ?_
 obtain⟨h1,h2⟩:=agr_read ⟨(splitS l).2,0⟩ (splitS_ok l) rfl
 have h0:(readS ⟨(splitS l).2,0⟩).2.e=0:=by
  by_cases z:(readS ⟨(splitS l).2,0⟩).2.e=0
  ·exact z
  ·exact absurd h (by rw [←h1];exact z)
 obtain⟨_,h3⟩:=h2 h0
 rw [←h3]
 exact check22_fa _ (read_o l)
theorem lawPModels_fa (l:BS) (hl:l.length≤1048576):Fa Tryz.prog 3 [.c (.str (sB l))] (.c (.bool true)):=by
 have f0:=awake23_fa
 have f1:=pm_fa l om
 have f2:=rm_fa l om
 have ho:=modelP_o mcC l
 generalize modelP mcC l=M at*
 obtain⟨m,c⟩:=M
 dsimp only at*
 have f3:=same_fa m m ho ho
 have f4:=num_fa c
 refine fa_of_body Tryz.func3 rfl rfl (by simp [Tryz.ntmps3]) fun C hC=> ?_
 simp only [initS,Nat.reduceAdd]
 repeat' first|refine yA1 o0 ?_|(refine yC2 o0 (f0) ?_)|(refine yD2 o0 (f0) ?_)|(refine yC2 o0 (f1) ?_)|(refine yD2 o0 (f1) ?_)|refine zW o0 ?_|refine yP o0 ?_|refine yN o0 ?_|refine zC o0 (fun hb=>?_) fun hb=>?_|refine zG o0 (fun hb=>?_) fun hb=>?_|refine zD o0 (fun hb=>?_) fun hb=>?_
 ·refine xT hC ?_
  exact .one (.c (.bool _))
 all_goals
  refine xA fun g3 hn_g3=>?_
  repeat' first|refine yA1 hn_g3 ?_|(refine yC2 hn_g3 (f2) ?_)|(refine yD2 hn_g3 (f2) ?_)|refine zW hn_g3 ?_|refine yP hn_g3 ?_|refine yN hn_g3 ?_|refine zC hn_g3 (fun hb=>?_) fun hb=>?_|refine zG hn_g3 (fun hb=>?_) fun hb=>?_|refine zD hn_g3 (fun hb=>?_) fun hb=>?_
  refine yA hn_g3 fun g5 hn_g5=>?_
  all_goals try(have Z:=(oj hn_g3 hn_g5);(repeat' first|refine yA1 Z ?_|(refine yC2 Z (f3) ?_)|(refine yD2 Z (f3) ?_)|(refine yC2 Z (f4) ?_)|(refine yD2 Z (f4) ?_)|refine zW Z ?_|refine yP Z ?_|refine yN Z ?_|refine zC Z (fun hb=>?_) fun hb=>?_|refine zG Z (fun hb=>?_) fun hb=>?_|refine zD Z (fun hb=>?_) fun hb=>?_);all_goals clear Z)
  ·refine yT hC (oj hn_g3 hn_g5) ?_
   exact .one (.c (.bool _))
  ·exact absurd rfl hb
end Go.Proofs.YteehccacfedolaaGreat
