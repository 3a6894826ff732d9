/- Parts of one proof, laid by a program. -/
import Derived.Test.YtnmeahogifekdaaGreatDoorM00
import Derived.Test.YtnmeahogifekdaaGreatDoorM13
set_option linter.unusedSimpArgs false
set_option linter.unusedVariables false
set_option maxRecDepth 100000
set_option maxHeartbeats 12800000
namespace Go.Proofs.YtnmeahogifekdaaGreatDoor
open Go.AI Go.PN
attribute [local irreducible] aw Fa Fh DrK
theorem list_ext {xs ys:List Nat} (hl:xs.length=ys.length) (h:∀j,j<xs.length→xs.getD j 0=ys.getD j 0):xs=ys:=by
 apply List.ext_getElem hl
 intro i h1 h2
 have:=h i h1
 rw [List.getD_eq_getElem?_getD,List.getD_eq_getElem?_getD,List.getElem?_eq_getElem h1,List.getElem?_eq_getElem h2] at this
 exact this
theorem words_fa (xs ys:List Nat) (hl:xs.length≤68719476736):Fa Tryz.prog 106 [.c (ws false xs),.c (ws false ys)] (.c (.bool (decide (xs=ys)))):=by
 refine fa_of_body Tryz.func106 rfl rfl (by simp [Tryz.ntmps106]) fun C hC=> ?_
 simp only [initS,Nat.reduceAdd]
 refine xG ?_
 refine xF (fun hb=>?_) fun hb=>?_
 ·refine xGT hC ?_
  refine .one (.c (ler_bool ?_))
  have:xs≠ys:=fun e=>by rw [e] at hb;simp at hb
  simp [this]
 ·have hlen:xs.length=ys.length:=by
   have h0:=hb
   simp at h0
   omega
  refine xG ?_
  refine aw_lp (fun i:Nat=>[(0,.c (ws false xs)),(1,.c (ws false ys)),(12,.c (.int .i64 xs.length)),(13,.c (.int .i64 i))]) (fun _=>[]) (fun i=>i≤xs.length∧∀j,j<i→xs.getD j 0=ys.getD j 0) (fun i=>xs.length-i) 0 eB zZ ⟨Nat.zero_le _,fun j hj=>by omega⟩ ?_
  rintro i ⟨hi,hs⟩
  refine xG ?_
  refine xF (fun hb=>?_) fun hb=>?_
  ·have hin:i<xs.length:=dT hb
   refine xG ?_
   refine aw_dr 9 ty_mixed (by kernel_rfl) ?_
   refine xG ?_
   refine xF (fun hc=>?_) fun hc=>?_
   ·refine xGT hC ?_
    refine .one (.c (ler_bool ?_))
    have:xs≠ys:=fun e=>by rw [e] at hc;simp at hc
    simp [this]
   ·have he:xs.getD i 0=ys.getD i 0:=by
     by_cases e:xs.getD i 0=ys.getD i 0
     ·exact e
     ·exfalso
      have e2:((xs.getD i 0:Nat):Int)≠((ys.getD i 0:Nat):Int):=fun z=>e (Int.ofNat.inj z)
      first
       |(rw [bne,beq_eq_false_iff_ne.2 e2] at hc;cases hc)
       |(rw [bne,beq_eq_false_iff_ne.2 e] at hc;cases hc)
    refine xG ?_
    refine aw_stop ⟨i+1,by omega,eB,zZ,by omega,fun j hj=> ?_⟩
    by_cases hji:j=i
    ·rw [hji];exact he
    ·exact hs j om
  ·have hin:i=xs.length:=dF hb
   subst hin
   refine xGT hC ?_
   refine .one (.c (ler_bool ?_))
   have:xs=ys:=list_ext hlen hs
   simp [this]
theorem ratEq_fa (a b:RD) (hw:a.wf 68719476736):Fa Tryz.prog 47 [.agg (rdc a),.agg (rdc b)] (.c (.bool (decide (a=b)))):=by
 have he:decide (a=b)=(decide (a.neg=b.neg)&&(decide (a.num=b.num)&&decide (a.den=b.den))):=by
  rw [Bool.eq_iff_iff]
  simp only [decide_eq_true_eq,Bool.and_eq_true]
  cases a;cases b;simp
 rw [he]
 refine fa_of_body Tryz.func47 rfl rfl (by simp [Tryz.ntmps47]) fun C hC=> ?_
 simp only [initS,Nat.reduceAdd]
 refine xG ?_
 refine xB fun g2 hn_g2=>?_
 refine yB hn_g2 fun g3 hn_g3=>?_
 have J1:=oj hn_g2 hn_g3
 refine yG J1 ?_
 refine aw_split 10 (zE J1) (fun h1=> ?_) (fun h1=> ?_)<;>refine yS J1 ?_
 ·have h1':a.neg=b.neg:=eq_of_beq h1
  refine yG J1 ?_
  refine yC J1 (words_fa _ _ hw.2.2.1) ?_
  refine yG J1 ?_
  refine aw_split 17 (zE J1) (fun h2=> ?_) (fun h2=> ?_)<;>refine yS J1 ?_
  ·refine yG J1 ?_
   refine yC J1 (words_fa _ _ hw.2.2.2) ?_
   refine yGT hC J1 ?_
   exact .one (.c (ler_bool (by rw [h2,h1'];simp)))
  ·refine yGT hC J1 ?_
   exact .one (.c (ler_bool (by rw [h2];simp)))
 ·have h1':a.neg≠b.neg:=fun e=>by rw [e] at h1;simp at h1
  refine yGT hC J1 ?_
  exact .one (.c (ler_bool (by simp [h1'])))
end Go.Proofs.YtnmeahogifekdaaGreatDoor
namespace Go.PN
open Go.AI
theorem decB_ok:∀(k n:Nat),n≤k→natB (decB n)=n∧0<(decB n).length∧(decB n).all dgB=true∧(n≠0→(decB n).headD 0≠48)
 |k,n,hk=>by
  by_cases h:n<10
  ·rw [decB_lt h]
   refine⟨?_,by simp,?_,fun h0=> ?_⟩
   ·show 0*10+((UInt8.ofNat (48+n)).toNat-48)=n
    rw [d48 h];omega
   ·rw [List.all_cons,d48_dig h];rfl
   ·show UInt8.ofNat (48+n)≠48
    intro e
    have:=congrArg UInt8.toNat e
    rw [d48 h] at this
    have:48+n=48:=this
    omega
  ·match k,hk with
   |0,hk=>omega
   |k+1,hk=>
    obtain⟨i1,i2,i3,i4⟩:=decB_ok k (n/10) om
    have hm:=Nat.mod_lt n (show 0<10 by decide)
    rw [decB_ge om]
    refine⟨?_,by rw [List.length_append];omega,?_,fun _=> ?_⟩
    ·rw [natB_snoc,i1,d48 hm];omega
    ·rw [List.all_append,i3,List.all_cons,d48_dig hm];rfl
    ·have:=i4 om
     cases hd:decB (n/10) with
     |nil=>rw [hd] at i2;simp at i2
     |cons a l=>rw [hd] at this;exact this
theorem decB_nat (n:Nat):natB (decB n)=n:=(decB_ok n n (Nat.le_refl _)).1
theorem decB_pos (n:Nat):0<(decB n).length:=(decB_ok n n (Nat.le_refl _)).2.1
theorem decB_dig (n:Nat):(decB n).all dgB=true:=(decB_ok n n (Nat.le_refl _)).2.2.1
end Go.PN
namespace Go.PN
open Go.AI
theorem span_eq {p:Nat→Bool} {l:BS}:∀(n i:Nat),(∀j,i≤j→j<i+n→p (bAt l j)=true)→i+n≤l.length→(i+n<l.length→p (bAt l (i+n))=false)→spanE p l i=i+n
 |0,i,_,h1,h2=>by
  by_cases h:i<l.length
  ·exact spanE_no h (by simpa using h2 om)
  ·exact spanE_out om
 |n+1,i,h,h1,h2=>by
  rw [spanE_yes om (h i (Nat.le_refl _) om),span_eq n (i+1) (fun j a b=>h j om om) om (fun z=>by rw [show i+1+n=i+(n+1) from by omega];exact h2 om)]
  omega
theorem let_cls {n:Nat} (h:isLet n=true):isBlk n=false∧n≠35∧isIns n=true:=by
 unfold isLet at h
 simp only [Bool.or_eq_true,Bool.and_eq_true,decide_eq_true_eq] at h
 refine⟨?_,by omega,?_⟩
 ·unfold isBlk
  simp only [Bool.or_eq_false_iff,beq_eq_false_iff_ne]
  omega
 ·unfold isIns isLet
  simp only [Bool.or_eq_true,Bool.and_eq_true,decide_eq_true_eq]
  omega
theorem dig_cls {n:Nat} (h:isDig n=true):isBlk n=false∧n≠35∧isLet n=false∧isIns n=true:=by
 unfold isDig at h
 simp only [Bool.and_eq_true,decide_eq_true_eq] at h
 refine⟨?_,by omega,?_,?_⟩
 ·unfold isBlk
  simp only [Bool.or_eq_false_iff,beq_eq_false_iff_ne]
  omega
 ·unfold isLet
  simp only [Bool.or_eq_false_iff,Bool.and_eq_false_iff,decide_eq_false_iff_not]
  omega
 ·unfold isIns isDig
  simp only [Bool.or_eq_true,Bool.and_eq_true,decide_eq_true_eq]
  omega
theorem sgn_cls {n:Nat} (h:isSgn n=true):isBlk n=false∧n≠35∧isLet n=false∧isDig n=false∧n≠10:=by
 unfold isSgn at h
 simp only [Bool.or_eq_true,beq_iff_eq] at h
 rcases h with h|h|h|h|h<;>subst h<;>decide
def endOk (l:BS) (i:Nat):Prop:=i<l.length→isIns (bAt l i)=false∧bAt l i≠47
theorem relex {t:TK} (ok:LexOk t) {l:BS} {i:Nat} (hl:i+t.text.length≤l.length) (hm:∀j,j<t.text.length→bAt l (i+j)=bAt t.text j) (he:endOk l (i+t.text.length)):stepT l i=.tok t.kind (i+t.text.length):=by
 cases ok with
 |word k h0 h1 h2 h3=>
  have e0:bAt l i=bAt t.text 0:=hm 0 h0
  obtain⟨c1,c2,_⟩:=let_cls h2
  have hs:spanE isIns l i=i+t.text.length:=span_eq _ _ (fun j a b=>by have:=hm (j-i) om;rw [show i+(j-i)=j from by omega] at this;rw [this];exact h3 _ om) hl fun z=>(he z).1
  unfold stepT
  rw [e0,c1,if_neg (by simp),if_neg c2,if_pos h2,hs,if_neg om,k]
 |num k h0 hd0 h1=>
  have e0:bAt l i=bAt t.text 0:=hm 0 h0
  obtain⟨c1,c2,c3,_⟩:=dig_cls hd0
  have hB:∀j,i≤j→j<i+t.text.length→bAt l j=bAt t.text (j-i):=fun j a b=>by have:=hm (j-i) om;rwa [show i+(j-i)=j from by omega] at this
  have hn:numE l i=i+t.text.length:=by
   have hE:i+t.text.length<l.length→isDig (bAt l (i+t.text.length))=false:=fun z=>by
    have:=(he z).1
    cases hd:isDig (bAt l (i+t.text.length)) with
    |false=>rfl
    |true=>rw [(dig_cls hd).2.2.2] at this;cases this
   cases h1 with
   |all h=>
    have hs:spanE isDig l i=i+t.text.length:=span_eq _ _ (fun j a b=>by rw [hB j a b];exact h _ om) hl hE
    unfold numE
    rw [hs,if_neg]
    rintro ⟨q1,q2,_⟩
    obtain⟨z1,z2⟩:=he om
    rcases q2 with q2|q2
    ·rw [q2] at z1;revert z1;decide
    ·exact z2 q2
   |two e he' hm' h2 h3=>
    have hx:isDig (bAt l (i+e))=false:=by rw [hB _ om om,show i+e-i=e from by omega];rcases hm' with q|q<;>rw [q]<;>decide
    have hs:spanE isDig l i=i+e:=span_eq _ _ (fun j a b=>by rw [hB j a om];exact h2 _ om) om fun _=>hx
    have hs2:spanE isDig l (i+e+1)=i+e+1+(t.text.length-(e+1)):=span_eq _ _ (fun j a b=>by rw [hB j om om];exact h3 _ om om) om fun z=>by rw [show i+e+1+(t.text.length-(e+1))=i+t.text.length from by omega] at z⊢;exact hE z
    unfold numE
    rw [hs,if_pos,hs2]
    ·omega
    ·refine⟨by omega,?_,?_⟩
     ·rw [hB _ om om,show i+e-i=e from by omega];exact hm'
     ·rw [hB _ om om];exact h3 _ om om
  unfold stepT
  rw [e0,c1,if_neg (by simp),if_neg c2,c3,if_neg (by simp),if_pos hd0,hn,if_neg (fun z=>by
   have:=he z.1
   rcases z.2 with q|q
   ·rw [this.1] at q;cases q
   ·exact this.2 q),k]
 |sgn k h0 h1=>
  have e0:bAt l i=bAt t.text 0:=hm 0 om
  obtain⟨c1,c2,c3,c4,_⟩:=sgn_cls h1
  unfold stepT
  rw [e0,c1,if_neg (by simp),if_neg c2,c3,if_neg (by simp),c4,if_neg (by simp),if_pos h1,h0,k]
end Go.PN
namespace Go.PN
open Go.AI
theorem bAt_app {a l:BS} (i:Nat) (h:a.length=i) (j:Nat):bAt (a++l) (i+j)=bAt l j:=by
 subst h
 unfold bAt
 rw [List.getD_eq_getElem?_getD,List.getD_eq_getElem?_getD,List.getElem?_append_right om,Nat.add_sub_cancel_left]
theorem bAt_app0 {a l:BS}:bAt (a++l) a.length=bAt l 0:=by
 have:=bAt_app (a:=a) (l:=l) a.length rfl 0
 simpa using this
theorem bAt_left {a l:BS} {j:Nat} (h:j<a.length):bAt (a++l) j=bAt a j:=by
 unfold bAt
 rw [List.getD_eq_getElem?_getD,List.getD_eq_getElem?_getD,List.getElem?_append_left h]
theorem LexOk.pos {t:TK} (h:LexOk t):0<t.text.length:=by
 cases h with
 |word _ h0=>exact h0
 |num _ h0=>exact h0
 |sgn _ h0=>omega
theorem splitT_lx {m:BS} {ts:List TK} (h:Lx m ts):∀(pre:BS) (n:Nat) (out:List TK),m.length≤n→splitT (pre++m) n pre.length out=(0,out++ts):=by
 induction h with
 |nil=>
  intro pre n out _
  cases n with
  |zero=>unfold splitT;rw [List.append_nil]
  |succ n=>unfold splitT;rw [if_neg (by simp),List.append_nil]
 |blank b l ts hb _ ih=>
  intro pre n out hn
  rw [List.length_cons] at hn
  obtain⟨n,rfl⟩:∃k,n=k+1:=⟨n-1,by omega⟩
  have hs:stepT (pre++b::l) pre.length=.skip (pre.length+1):=by
   unfold stepT
   rw [bAt_app0,show bAt (b::l) 0=b.toNat from rfl,if_pos hb]
  unfold splitT
  rw [if_pos (by simp),hs]
  have:=ih (pre++[b]) n out om
  rw [List.append_assoc,List.length_append] at this
  exact this
 |note c l ts hc _ ih=>
  intro pre n out hn
  rw [List.length_cons,List.length_append,List.length_cons] at hn
  obtain⟨n,rfl⟩:∃k,n=k+2:=⟨n-2,by omega⟩
  have hsp:spanE (fun b=>b !=10) (pre++35::(c++10::l)) pre.length=pre.length+(c.length+1):=by
   refine span_eq _ _ (fun j a b=> ?_) (by simp) fun _=> ?_
   ·have e:=bAt_app (a:=pre) (l:=35::(c++10::l)) pre.length rfl (j-pre.length)
    rw [show pre.length+(j-pre.length)=j from by omega] at e
    rw [e]
    by_cases h0:j=pre.length
    ·rw [show j-pre.length=0 from by omega];rfl
    ·obtain⟨k,hk⟩:∃k,j-pre.length=k+1:=⟨j-pre.length-1,by omega⟩
     rw [hk]
     have e2:bAt (35::(c++10::l)) (k+1)=bAt (c++10::l) k:=rfl
     have hk2:k<c.length:=by omega
     rw [e2,bAt_left hk2,bAt_get hk2]
     simpa using hc _ (List.getElem_mem hk2)
   ·rw [bAt_app (a:=pre) pre.length rfl (c.length+1)]
    have e2:bAt (35::(c++10::l)) (c.length+1)=bAt (c++10::l) c.length:=rfl
    rw [e2,bAt_app0]
    rfl
  have hs:stepT (pre++35::(c++10::l)) pre.length=.skip (pre.length+(c.length+1)):=by
   unfold stepT
   rw [bAt_app0,show bAt (35::(c++10::l)) 0=35 from rfl,if_neg (by decide),if_pos rfl,hsp]
  have e3:pre++35::(c++10::l)=(pre++35::c)++10::l:=by simp
  have e4:(pre++35::c).length=pre.length+(c.length+1):=by simp
  have hs2:stepT (pre++35::(c++10::l)) (pre.length+(c.length+1))=.skip (pre.length+(c.length+1)+1):=by
   unfold stepT
   rw [e3,←e4,bAt_app0,if_pos (show isBlk (bAt (10::l) 0)=true from rfl)]
  have hlen:(pre++35::(c++10::l)).length=pre.length+(c.length+1)+1+l.length:=by simp;omega
  unfold splitT
  rw [if_pos om,hs]
  show splitT _ (n+1) _ out=_
  unfold splitT
  rw [if_pos om,hs2]
  have:=ih (pre++35::c++[10]) n out om
  rw [List.length_append,e4,List.append_assoc,List.singleton_append,←e3] at this
  exact this
 |tok t l ts hok he _ ih=>
  intro pre n out hn
  have hp:=hok.pos
  rw [List.length_append] at hn
  obtain⟨n,rfl⟩:∃k,n=k+1:=⟨n-1,by omega⟩
  have hs:stepT (pre++(t.text++l)) pre.length=.tok t.kind (pre.length+t.text.length):=by
   refine relex hok (by simp) (fun j hj=> ?_) fun hlt=> ?_
   ·rw [bAt_app (a:=pre) pre.length rfl j,bAt_left hj]
   ·rw [bAt_app (a:=pre) pre.length rfl,bAt_app0]
    rcases he with e|e
    ·subst e;simp at hlt
    ·exact e
  have hc:cutS (pre++(t.text++l)) pre.length (pre.length+t.text.length)=t.text:=by
   unfold cutS
   rw [List.drop_left,Nat.add_sub_cancel_left,List.take_left]
  unfold splitT
  rw [if_pos (by simp;omega),hs]
  dsimp only
  rw [hc]
  have:=ih (pre++t.text) n (out++[t]) om
  rw [List.append_assoc,List.length_append,List.append_assoc] at this
  exact this
 |sgn b l ts hb _ ih=>
  intro pre n out hn
  rw [List.length_cons] at hn
  obtain⟨n,rfl⟩:∃k,n=k+1:=⟨n-1,by omega⟩
  obtain⟨c1,c2,c3,c4,_⟩:=sgn_cls hb
  have hs:stepT (pre++b::l) pre.length=.tok 2 (pre.length+1):=by
   unfold stepT
   rw [bAt_app0,show bAt (b::l) 0=b.toNat from rfl,c1,if_neg (by simp),if_neg c2,c3,if_neg (by simp),c4,if_neg (by simp),if_pos hb]
  have hc:cutS (pre++b::l) pre.length (pre.length+1)=[b]:=by
   unfold cutS
   rw [List.drop_left,Nat.add_sub_cancel_left];rfl
  unfold splitT
  rw [if_pos (by simp),hs]
  dsimp only
  rw [hc]
  have:=ih (pre++[b]) n (out++[⟨2,[b]⟩]) om
  rw [List.append_assoc,List.length_append,List.append_assoc] at this
  exact this
theorem splitS_lx {m:BS} {ts:List TK} (h:Lx m ts) (hl:m.length≤65536):splitS m=(0,ts):=by
 unfold splitS
 rw [if_neg om]
 have:=splitT_lx h [] m.length [] (Nat.le_refl _)
 simpa using this
end Go.PN
namespace Go.PN
open Go.AI
variable {α β : Type}
theorem bnd_at {f:PS→α×PS} {k:α→PS→β×PS} {s s':PS} {v:α} (h:f s=(v,s')):PN.bnd f k s=k v s':=by unfold PN.bnd;rw [h]
theorem wordT_at (w:BS) (r:List TK):wordS ⟨⟨0,w⟩::r,0⟩=(w,⟨r,0⟩):=rfl
theorem exp_at (k:Nat) (w:BS) (r:List TK) (hk:k≠1):expS w ⟨⟨k,w⟩::r,0⟩=⟨r,0⟩:=by
 unfold expS takeS isS
 simp [hk]
theorem num_at {t:BS} (hv:valC t=0) (r:List TK):numS ⟨⟨1,t⟩::r,0⟩=(valR t,⟨r,0⟩):=by
 unfold numS
 rw [take_cons (s:=⟨⟨1,t⟩::r,0⟩) rfl rfl]
 show(if(0:Int)=0 then(valR t,if valC t=0 then(⟨r,0⟩:PS) else⟨r,valC t⟩) else(rd0,⟨r,0⟩))=_
 rw [if_pos rfl,if_pos hv]
theorem whole_at {t:BS} {n:Int} (hv:valC t=0) (hq:valR t=rd (n:Rat)) (h0:0≤n) (h1:n≤1073741824) (r:List TK):wholeS ⟨⟨1,t⟩::r,0⟩=(n,⟨r,0⟩):=by
 unfold wholeS
 rw [num_at hv,hq]
 have hq:intQ (rd (n:Rat)).q=some n:=by
  have e1:((n:Int):Rat).num=n:=Rat.num_intCast n
  have e2:((n:Int):Rat).den=1:=Rat.den_intCast n
  rw [rd_q]
  unfold intQ
  rw [e1,e2]
  exact if_pos ⟨rfl,by omega,by omega⟩
 dsimp only
 rw [if_pos rfl,hq]
 dsimp only
 rw [if_pos ⟨h0,h1⟩]
theorem lp_at {c:PS→Bool} {b:α→PS→α×PS} {a a':α} {s s':PS} (hd:∀a,Con (b a)) (h0:s.e=0) (hc:c s=true) (hb:b a s=(a',s')):lpS c b a s=lpS c b a' s':=by
 rw [lpS_step (fun a s e _=>hd a s e) h0 hc,hb]
theorem lp_list {c:PS→Bool} {b:α→PS→α×PS} (hd:∀a,Con (b a)) (T:β→List TK) (g:α→β→α) (P:β→Prop) (h:∀a x r,P x→c ⟨T x++r,0⟩=true∧b a ⟨T x++r,0⟩=(g a x,⟨r,0⟩)):∀(L:List β) (a:α) (r:List TK),(∀x∈L,P x)→lpS c b a ⟨L.flatMap T++r,0⟩=lpS c b (L.foldl g a) ⟨r,0⟩
 |[],_,_,_=>rfl
 |x::L,a,r,hL=>by
  obtain⟨h1,h2⟩:=h a x (L.flatMap T++r) (hL x List.mem_cons_self)
  rw [List.flatMap_cons,List.append_assoc,lp_at hd rfl h1 h2]
  exact lp_list hd T g P h L _ r fun y hy=>hL y (List.mem_cons_of_mem _ hy)
theorem fold_snoc (L:List β) (f:β→α):∀a:List α,L.foldl (fun a x=>a++[f x]) a=a++L.map f:=by
 induction L with
 |nil=>intro a;simp
 |cons x L ih=>intro a;rw [List.foldl_cons,ih];simp
abbrev semiT:TK:=⟨2,kSemi⟩
def inT (i:BS):List TK:=if bAt i 0=64 then [⟨2,kAt⟩,⟨0,i.drop 1⟩] else [⟨0,i⟩]
def partT (w:BS) (r:RD):List TK:=if signQ r.q=0 then [] else [⟨0,w⟩,⟨1,rtxt r⟩]
def evT (x:EvD):List TK:=⟨0,kEvent⟩::⟨0,x.name⟩::(partT kP x.p++(partT kFail x.fail++(partT kRepair x.rep++(partT kCost (rd (x.cost:Rat))++[semiT]))))
def hsT' (x:HsD):List TK:=[⟨0,kHouse⟩,⟨0,x.name⟩,⟨0,if x.on then kOn else kOff⟩,semiT]
def gtT (g:GtD):List TK:=⟨0,kGate⟩::⟨0,g.name⟩::⟨0,kindW g.kind⟩::((if g.kind=2 then [⟨1,itoaB g.k⟩] else if g.kind=7 then [⟨1,rtxt g.dorm⟩] else [])++(g.inputs.flatMap inT++[semiT]))
def headT (k name top:BS):List TK:=⟨0,k⟩::⟨0,name⟩::⟨0,kTop⟩::(inT top++[⟨2,kOpen⟩])
def pgT (x:PgD):List TK:=headT kPage x.name x.top++(x.gates.flatMap gtT++[⟨2,kClose⟩])
def grT' (x:GrD):List TK:=⟨0,kGroup⟩::⟨0,x.name⟩::⟨0,if x.kind=1 then kGreek else kBeta⟩::(x.factors.flatMap (fun r=>[⟨1,rtxt r⟩])++⟨2,kColon⟩::(x.members.flatMap (fun n=>[⟨0,n⟩])++[semiT]))
def vlT (v:VlD):List TK:=[⟨0,v.event⟩,⟨1,rtxt v.p⟩,semiT]
def phT (x:PhD):List TK:=headT kPhase x.name x.top++(x.values.flatMap vlT++[⟨2,kClose⟩])
def textT (m:MdD):List TK:=⟨0,kModel⟩::⟨0,m.name⟩::semiT::(m.events.flatMap evT++(m.houses.flatMap hsT'++(m.gates.flatMap gtT++(m.pages.flatMap pgT++(m.groups.flatMap grT'++(m.phases.flatMap phT++⟨0,kTop⟩::(inT m.top++[semiT])))))))
theorem dg_at {s:BS} (h:s.all dgB=true) {i:Nat} (hi:i<s.length):isDig (bAt s i)=true:=by
 rw [bAt_get hi]
 exact List.all_eq_true.1 h _ (List.getElem_mem hi)
theorem num_dgs {s:BS} (h0:0<s.length) (hd:∀i,i<s.length→isDig (bAt s i)=true) (hl:s.length≤100):valC s=0∧valR s=rd (natB s:Rat):=by
 have hs:spanE isDig s 0=s.length:=by
  have:=span_eq (p:=isDig) (l:=s) s.length 0 (fun j _ b=>hd j om) om (fun z=>by omega)
  omega
 have hn:isNum s=true:=by
  unfold isNum numE
  rw [hs,hd 0 h0,if_neg (fun z=>by omega)]
  simp [h0]
 obtain⟨x1,x2⟩:=ix_all hd
 have hc:valC s=0:=by
  unfold valC
  rw [if_neg om,hn,if_neg (by simp),if_neg om]
 refine⟨hc,?_⟩
 unfold valR valQ
 rw [if_pos hc,if_neg om,x2,List.take_length,List.drop_of_length_le om,List.append_nil]
 congr 1
 simp
 grind
theorem num_dec {n:Nat} (hl:(decB n).length≤100):LexOk ⟨1,decB n⟩∧valC (decB n)=0∧valR (decB n)=rd (n:Rat):=by
 have h0:=decB_pos n
 have hd:∀i,i<(decB n).length→isDig (bAt (decB n) i)=true:=fun i hi=>dg_at (decB_dig n) hi
 obtain⟨n1,n2⟩:=num_dgs h0 hd hl
 rw [decB_nat] at n2
 exact⟨.num rfl h0 (hd 0 h0) (.all hd),n1,n2⟩
theorem num_frac {A B:BS} (hA:A.all dgB=true) (hB:B.all dgB=true) (a0:0<A.length) (b0:0<B.length) (hz:natB B≠0) (hl:(A++47::B).length≤100):LexOk ⟨1,A++47::B⟩∧valC (A++47::B)=0∧valR (A++47::B)=rd ((natB A:Rat)/(natB B:Rat)):=by
 have hlen:(A++47::B).length=A.length+1+B.length:=by simp;omega
 have x1:∀j,j<A.length→bAt (A++47::B) j=bAt A j:=fun j hj=>bAt_left hj
 have x2:bAt (A++47::B) A.length=47:=by rw [bAt_app0];rfl
 have x3:∀j,bAt (A++47::B) (A.length+1+j)=bAt B j:=fun j=>by
  have:=bAt_app (a:=A) (l:=47::B) A.length rfl (j+1)
  rw [show A.length+(j+1)=A.length+1+j from by omega] at this
  rw [this];rfl
 have dA:∀j,j<A.length→isDig (bAt (A++47::B) j)=true:=fun j hj=>by rw [x1 j hj];exact dg_at hA hj
 have dB:∀j,A.length<j→j<(A++47::B).length→isDig (bAt (A++47::B) j)=true:=fun j h1 h2=>by
  have:=x3 (j-(A.length+1))
  rw [show A.length+1+(j-(A.length+1))=j from by omega] at this
  rw [this];exact dg_at hB om
 have hix:idxB 47 (A++47::B)=A.length:=by
  unfold idxB
  rw [List.takeWhile_append_of_pos]
  ·rw [List.takeWhile_cons_of_neg (by simp),List.append_nil]
  ·intro a ha
   have:=List.all_eq_true.1 hA a ha
   have h3:isDig a.toNat=true:=this
   simp only [bne_iff_ne,ne_eq]
   intro e
   subst e
   revert h3;decide
 have hdr:(A++47::B).drop (A.length+1)=B:=by
  rw [←List.drop_drop,List.drop_left];rfl
 have hs1:spanE isDig (A++47::B) 0=A.length:=by
  have:=span_eq (p:=isDig) (l:=A++47::B) A.length 0 (fun j _ b=>dA j om) om (fun _=>by rw [Nat.zero_add,x2];rfl)
  omega
 have hs2:spanE isDig (A++47::B) (A.length+1)=(A++47::B).length:=by
  have:=span_eq (p:=isDig) (l:=A++47::B) B.length (A.length+1) (fun j a b=>dB j om om) om (fun z=>by omega)
  omega
 have hn:isNum (A++47::B)=true:=by
  unfold isNum numE
  rw [hs1,dA 0 a0,if_pos ⟨by omega,.inr x2,dB (A.length+1) om om⟩,hs2]
  simp
  omega
 have hc:valC (A++47::B)=0:=by
  unfold valC
  rw [if_neg om,hn,if_neg (by simp),hix,hdr,if_neg (fun z=>hz z.2)]
 refine⟨.num rfl (by dsimp only;omega) (dA 0 a0) (.two A.length (by dsimp only;omega) (.inr x2) dA dB),hc,?_⟩
 unfold valR valQ
 rw [if_pos hc,hix,if_pos om,hdr,List.take_left]
theorem num_txt {r:RD} (h:NumOk r):LexOk ⟨1,rtxt r⟩∧valC (rtxt r)=0∧valR (rtxt r)=r:=by
 obtain⟨hw,hv,hq,hl⟩:=h
 have hd:=RD.pd_ne hw
 have hps:r.ps=false:=by
  by_cases hs:r.some=true
  ·obtain⟨s1,s2,s3,s4,s5⟩:=RD.some_spec hw hs
   have hpn:r.pn≠0:=by unfold RD.pn;rw [if_pos hs];exact s3
   cases hp:r.ps with
   |false=>rfl
   |true=>
    exfalso
    have:r.q.num<0:=by
     unfold RD.q sq
     rw [hp,(mkRat_nd hd).1]
     have hg:0<(sgn true r.pn).natAbs.gcd r.pd:=Nat.gcd_pos_of_pos_right _ om
     have hdv:(((sgn true r.pn).natAbs.gcd r.pd:Nat):Int)∣sgn true r.pn:=by
      exact Int.ofNat_dvd_left.2 (Nat.gcd_dvd_left _ _)
     have h2:sgn true r.pn<0:=by unfold sgn;rw [if_pos rfl];omega
     exact Int.ediv_neg_of_neg_of_pos h2 om
    have:=Rat.num_nonneg.2 hq
    omega
  ·unfold RD.ps;rw [if_neg hs]
 have hqe:r.q=(r.pn:Rat)/(r.pd:Rat):=by
  unfold RD.q sq
  rw [hps,Rat.mkRat_eq_div];rfl
 have he:rtxt r=decB r.pn++(if r.pd=1 then [] else 47::decB r.pd):=by
  unfold rtxt
  rw [hps,if_neg (by simp),txtN_dec,txtN_dec];rfl
 have hr:=rd_self hw hv
 by_cases h1:r.pd=1
 ·rw [he,if_pos h1,List.append_nil] at hl⊢
  obtain⟨a,b,c⟩:=num_dec hl
  refine⟨a,b,?_⟩
  rw [c]
  conv=>rhs;rw [←hr,hqe,h1]
  congr 1
  grind
 ·rw [he,if_neg h1] at hl⊢
  obtain⟨a,b,c⟩:=num_frac (decB_dig r.pn) (decB_dig r.pd) (decB_pos _) (decB_pos _) (by rw [decB_nat];exact hd) hl
  refine⟨a,b,?_⟩
  rw [c,decB_nat,decB_nat,←hqe,hr]
end Go.PN
namespace Go.PN
open Go.AI
theorem name_ne {n:BS} (h:nameOk n=true):n≠kSemi∧n≠kClose∧n≠kColon∧bAt n 0≠64:=by
 have hl:isLet (bAt n 0)=true:=by
  unfold nameOk at h
  simp only [Bool.and_eq_true] at h
  exact h.1.2
 refine⟨?_,?_,?_,?_⟩<;>intro e
 ·subst e;revert hl;decide
 ·subst e;revert hl;decide
 ·subst e;revert hl;decide
 ·rw [e] at hl;revert hl;decide
theorem name_is {n w:BS} (h:n≠w) (k:Nat) (r:List TK):isS ⟨⟨k,n⟩::r,0⟩ w=false:=by
 show(true&&(k !=1&&n==w))=false
 rw [beq_eq_false_iff_ne.2 h]
 simp
theorem input_at {i:BS} (h:InpOk i) (r:List TK):inputS ⟨inT i++r,0⟩=(i,⟨r,0⟩)∧isS ⟨inT i++r,0⟩ kSemi=false:=by
 by_cases h0:bAt i 0=64
 ·have hi:0<i.length∧nameOk (i.drop 1)=true:=by
   rcases h with h|h
   ·exact⟨h.2.2,h.2.1⟩
   ·exact absurd h0 (name_ne h).2.2.2
  have e:i=64::i.drop 1:=by
   cases i with
   |nil=>simp at hi
   |cons a l=>
    have:a=64:=UInt8.toNat_inj.1 h0
    subst this;rfl
  unfold inT
  rw [if_pos h0]
  refine⟨?_,rfl⟩
  have:inputS ⟨⟨2,kAt⟩::⟨0,i.drop 1⟩::r,0⟩=(64::i.drop 1,⟨r,0⟩):=rfl
  rw [List.cons_append,List.singleton_append,this,←e]
 ·have hn:nameOk i=true:=by
   rcases h with h|h
   ·exact absurd h.1 h0
   ·exact h
  unfold inT
  rw [if_neg h0]
  refine⟨?_,name_is (name_ne hn).1 0 r⟩
  have ha:isS ⟨⟨0,i⟩::r,0⟩ kAt=false:=name_is (fun e=>by subst e;exact h0 rfl) 0 r
  show inputS ⟨⟨0,i⟩::r,0⟩=_
  unfold inputS
  rw [ha,if_neg (by simp),wordT_at]
theorem ins_at {L:List BS} (h:∀i∈L,InpOk i) (r:List TK):insS ⟨L.flatMap inT++semiT::r,0⟩=(L,⟨r,0⟩):=by
 have h1:=lp_list (c:=fun s=> !isS s kSemi) (b:=inB) con_inB inT (fun a x=>a++[x]) InpOk (fun a x r hx=>⟨by rw [(input_at hx r).2];rfl,by unfold inB;rw [(input_at hx r).1]⟩) L [] (semiT::r) h
 unfold insS
 rw [h1,lpS_end (fun z=>absurd (show false=true from z.2) (by decide))]
 have h2:=fold_snoc L (fun x:BS=>x) []
 dsimp only
 rw [h2,exp_at _ _ _ (by decide)]
 simp
def seenP (w:BS) (r:RD) (l:List BS):List BS:=if signQ r.q=0 then l else w::l
theorem seen_no {w w':BS} {r:RD} {l:List BS} (h:l.contains w'=false) (hw:(w'==w)=false):(seenP w r l).contains w'=false:=by
 unfold seenP
 split
 ·exact h
 ·rw [List.contains_cons,hw,h];rfl
abbrev cSemi:PS→Bool:=fun s=> !isS s kSemi
theorem ev_p {sn:List BS} {r:RD} (hs:sn.contains kP=false) (h:NumOk r) (nm:BS) (f p:RD) (c:Int) (t:List TK):lpS cSemi evB (sn,⟨nm,rd0,f,p,c⟩) ⟨partT kP r++t,0⟩=lpS cSemi evB (seenP kP r sn,⟨nm,r,f,p,c⟩) ⟨t,0⟩:=by
 unfold partT seenP
 by_cases h0:signQ r.q=0
 ·rw [if_pos h0,if_pos h0,sign_zero h h0];rfl
 ·rw [if_neg h0,if_neg h0]
  obtain⟨_,n2,n3⟩:=num_txt h
  refine lp_at con_evB rfl rfl ?_
  show(if sn.contains kP=true then _ else((kP::sn,(⟨nm,(numS ⟨⟨1,rtxt r⟩::t,0⟩).1,f,p,c⟩:EvD)),(numS ⟨⟨1,rtxt r⟩::t,0⟩).2))=_
  rw [if_neg (by rw [hs];simp),num_at n2,n3]
theorem ev_f {sn:List BS} {r:RD} (hs:sn.contains kFail=false) (h:NumOk r) (nm:BS) (f p:RD) (c:Int) (t:List TK):lpS cSemi evB (sn,⟨nm,f,rd0,p,c⟩) ⟨partT kFail r++t,0⟩=lpS cSemi evB (seenP kFail r sn,⟨nm,f,r,p,c⟩) ⟨t,0⟩:=by
 unfold partT seenP
 by_cases h0:signQ r.q=0
 ·rw [if_pos h0,if_pos h0,sign_zero h h0];rfl
 ·rw [if_neg h0,if_neg h0]
  obtain⟨_,n2,n3⟩:=num_txt h
  refine lp_at con_evB rfl rfl ?_
  show(if sn.contains kFail=true then _ else((kFail::sn,(⟨nm,f,(numS ⟨⟨1,rtxt r⟩::t,0⟩).1,p,c⟩:EvD)),(numS ⟨⟨1,rtxt r⟩::t,0⟩).2))=_
  rw [if_neg (by rw [hs];simp),num_at n2,n3]
theorem ev_r {sn:List BS} {r:RD} (hs:sn.contains kRepair=false) (h:NumOk r) (nm:BS) (f p:RD) (c:Int) (t:List TK):lpS cSemi evB (sn,⟨nm,f,p,rd0,c⟩) ⟨partT kRepair r++t,0⟩=lpS cSemi evB (seenP kRepair r sn,⟨nm,f,p,r,c⟩) ⟨t,0⟩:=by
 unfold partT seenP
 by_cases h0:signQ r.q=0
 ·rw [if_pos h0,if_pos h0,sign_zero h h0];rfl
 ·rw [if_neg h0,if_neg h0]
  obtain⟨_,n2,n3⟩:=num_txt h
  refine lp_at con_evB rfl rfl ?_
  show(if sn.contains kRepair=true then _ else((kRepair::sn,(⟨nm,f,p,(numS ⟨⟨1,rtxt r⟩::t,0⟩).1,c⟩:EvD)),(numS ⟨⟨1,rtxt r⟩::t,0⟩).2))=_
  rw [if_neg (by rw [hs];simp),num_at n2,n3]
theorem ev_c {sn:List BS} {c:Int} (hs:sn.contains kCost=false) (h0:0≤c) (h1:c≤1073741824) (nm:BS) (f p r:RD) (t:List TK):lpS cSemi evB (sn,⟨nm,f,p,r,0⟩) ⟨partT kCost (rd (c:Rat))++t,0⟩=lpS cSemi evB (seenP kCost (rd (c:Rat)) sn,⟨nm,f,p,r,c⟩) ⟨t,0⟩:=by
 unfold partT seenP
 by_cases hc:c=0
 ·rw [if_pos ((sign_int c).2 hc),if_pos ((sign_int c).2 hc),hc];rfl
 ·have hn:¬signQ (rd (c:Rat)).q=0:=fun e=>hc ((sign_int c).1 e)
  rw [if_neg hn,if_neg hn,rtxt_int om]
  have hl:=decB_len 9 c.natAbs (by show c.natAbs<10000000000;omega)
  obtain⟨_,n2,n3⟩:=num_dec (n:=c.natAbs) om
  have e:((c.natAbs:Nat):Rat)=(c:Rat):=by
   have:((c.natAbs:Nat):Int)=c:=by omega
   rw [←this];rfl
  rw [e] at n3
  refine lp_at con_evB rfl rfl ?_
  show(if sn.contains kCost=true then _ else((kCost::sn,(⟨nm,f,p,r,(wholeS ⟨⟨1,decB c.natAbs⟩::t,0⟩).1⟩:EvD)),(wholeS ⟨⟨1,decB c.natAbs⟩::t,0⟩).2))=_
  rw [if_neg (by rw [hs];simp),whole_at n2 n3 h0 h1]
theorem event_at {x:EvD} (h:EvOk x) (t:List TK):eventS ⟨⟨0,x.name⟩::(partT kP x.p++(partT kFail x.fail++(partT kRepair x.rep++(partT kCost (rd (x.cost:Rat))++semiT::t)))),0⟩=(x,⟨t,0⟩):=by
 obtain⟨_,h1,h2,h3,h4,h5⟩:=h
 rw [eventS_eq,bnd_at (wordT_at _ _)]
 have s1:(seenP kP x.p []).contains kFail=false:=seen_no rfl (by decide)
 have s2:(seenP kFail x.fail (seenP kP x.p [])).contains kRepair=false:=seen_no (seen_no rfl (by decide)) (by decide)
 have s3:(seenP kRepair x.rep (seenP kFail x.fail (seenP kP x.p []))).contains kCost=false:=seen_no (seen_no (seen_no rfl (by decide)) (by decide)) (by decide)
 have e:=(ev_p (sn:=[]) rfl h1 x.name rd0 rd0 0 _).trans ((ev_f s1 h2 x.name x.p rd0 0 _).trans ((ev_r s2 h3 x.name x.p x.fail 0 _).trans (ev_c s3 h4 h5 x.name x.p x.fail x.rep (semiT::t))))
 have e2:=e.trans (lpS_end (fun z=>absurd (show false=true from z.2) (by decide)))
 rw [bnd_at e2]
 unfold evK
 rw [bnd_at (s':=⟨t,0⟩) (v:=()) (by rw [exp_at _ _ _ (by decide)])]
theorem house_at {x:HsD} (t:List TK):houseS ⟨⟨0,x.name⟩::⟨0,if x.on then kOn else kOff⟩::semiT::t,0⟩=(x,⟨t,0⟩):=by
 obtain⟨n,on⟩:=x
 cases on<;>rfl
theorem kind_at {k:Int} (h0:0≤k) (h8:k≤8) (r:List TK):gkS ⟨⟨0,kindW k⟩::r,0⟩=(some k,⟨r,0⟩):=by
 have:k=0∨k=1∨k=2∨k=3∨k=4∨k=5∨k=6∨k=7∨k=8:=by omega
 rcases this with h|h|h|h|h|h|h|h|h<;>subst h<;>rfl
theorem gate_at {g:GtD} (h:GtOk g) (t:List TK):gateS ⟨⟨0,g.name⟩::⟨0,kindW g.kind⟩::((if g.kind=2 then [⟨1,itoaB g.k⟩] else if g.kind=7 then [⟨1,rtxt g.dorm⟩] else [])++(g.inputs.flatMap inT++semiT::t)),0⟩=(g,⟨t,0⟩):=by
 obtain⟨_,h1,h2,h3,h4,h5,h6,h7,h8⟩:=h
 rw [gateS_eq,bnd_at (wordT_at _ _),bnd_at (kind_at h1 h2 _)]
 unfold gtK
 by_cases k2:g.kind=2
 ·have hl:=decB_len 9 g.k.natAbs (by show g.k.natAbs<10000000000;omega)
  obtain⟨_,n2,n3⟩:=num_dec (n:=g.k.natAbs) om
  have e:((g.k.natAbs:Nat):Rat)=(g.k:Rat):=by
   have:((g.k.natAbs:Nat):Int)=g.k:=by omega
   rw [←this];rfl
  rw [e] at n3
  have hi:itoaB g.k=decB g.k.natAbs:=by unfold itoaB;rw [if_neg om]
  have k7:¬(some g.kind=some (7:Int)):=by rw [k2];decide
  rw [if_pos k2,hi]
  rw [bnd_at (s':=⟨g.inputs.flatMap inT++semiT::t,0⟩) (v:=g.k) (by rw [if_pos (by rw [k2]),List.singleton_append,whole_at n2 n3 h3 om])]
  rw [bnd_at (s':=⟨g.inputs.flatMap inT++semiT::t,0⟩) (v:=rd0) (by rw [if_neg k7])]
  rw [bnd_at (ins_at h8 t)]
  rw [←h7 om];rfl
 ·have z2:¬(some g.kind=some (2:Int)):=fun e=>k2 (Option.some.inj e)
  have hk:=h5 k2
  by_cases k7:g.kind=7
  ·obtain⟨_,n2,n3⟩:=num_txt h6
   rw [if_neg k2,if_pos k7]
   rw [bnd_at (s':=⟨⟨1,rtxt g.dorm⟩::(g.inputs.flatMap inT++semiT::t),0⟩) (v:=0) (by rw [if_neg z2];rfl)]
   rw [bnd_at (s':=⟨g.inputs.flatMap inT++semiT::t,0⟩) (v:=g.dorm) (by rw [if_pos (by rw [k7]),num_at n2,n3])]
   rw [bnd_at (ins_at h8 t)]
   rw [←hk];rfl
  ·have z7:¬(some g.kind=some (7:Int)):=fun e=>k7 (Option.some.inj e)
   rw [if_neg k2,if_neg k7]
   rw [bnd_at (s':=⟨g.inputs.flatMap inT++semiT::t,0⟩) (v:=0) (by rw [if_neg z2];rfl)]
   rw [bnd_at (s':=⟨g.inputs.flatMap inT++semiT::t,0⟩) (v:=rd0) (by rw [if_neg z7])]
   rw [bnd_at (ins_at h8 t)]
   rw [←hk,←h7 k7];rfl
theorem top_at {α:Type} {top:BS} (h:InpOk top) (k:BS→PS→α×PS) (t:List TK):topK k ⟨⟨0,kTop⟩::(inT top++⟨2,kOpen⟩::t),0⟩=k top ⟨t,0⟩:=by
 unfold topK
 rw [bnd_at (v:=()) (s':=⟨inT top++⟨2,kOpen⟩::t,0⟩) (by rw [exp_at _ _ _ (by decide)]),bnd_at (input_at h _).1,bnd_at (v:=()) (s':=⟨t,0⟩) (by rw [exp_at _ _ _ (by decide)])]
theorem page_at {x:PgD} (h:PgOk x) (t:List TK):pageS ⟨⟨0,x.name⟩::⟨0,kTop⟩::(inT x.top++⟨2,kOpen⟩::(x.gates.flatMap gtT++⟨2,kClose⟩::t)),0⟩=(x,⟨t,0⟩):=by
 obtain⟨_,h1,h2⟩:=h
 have hl:=lp_list (c:=fun s=> !isS s kClose) (b:=pgB) con_pgB gtT (fun a x=>a++[x]) GtOk (fun a g r hg=>⟨rfl,by
  have hs:=gate_at hg r
  unfold pgB gtT
  have he:expS kGate ⟨⟨0,kGate⟩::⟨0,g.name⟩::⟨0,kindW g.kind⟩::((if g.kind=2 then [⟨1,itoaB g.k⟩] else if g.kind=7 then [⟨1,rtxt g.dorm⟩] else [])++(g.inputs.flatMap inT++semiT::r)),0⟩=⟨⟨0,g.name⟩::⟨0,kindW g.kind⟩::((if g.kind=2 then [⟨1,itoaB g.k⟩] else if g.kind=7 then [⟨1,rtxt g.dorm⟩] else [])++(g.inputs.flatMap inT++semiT::r)),0⟩:=exp_at _ _ _ (by decide)
  have ha:(⟨0,kGate⟩::⟨0,g.name⟩::⟨0,kindW g.kind⟩::((if g.kind=2 then [⟨1,itoaB g.k⟩] else if g.kind=7 then [⟨1,rtxt g.dorm⟩] else [])++(g.inputs.flatMap inT++[semiT])):List TK)++r=⟨0,kGate⟩::⟨0,g.name⟩::⟨0,kindW g.kind⟩::((if g.kind=2 then [⟨1,itoaB g.k⟩] else if g.kind=7 then [⟨1,rtxt g.dorm⟩] else [])++(g.inputs.flatMap inT++semiT::r)):=by
   simp only [List.cons_append,List.append_assoc,List.nil_append]
  rw [ha,he,hs]⟩) x.gates [] (⟨2,kClose⟩::t) h2
 replace hl:=hl.trans (lpS_end (fun z=>absurd (show false=true from z.2) (by decide)))
 rw [fold_snoc x.gates (fun x:GtD=>x) [],List.nil_append,List.map_id'] at hl
 rw [pageS_eq,bnd_at (wordT_at _ _),top_at h1,bnd_at hl]
 unfold pgK
 rw [bnd_at (s':=⟨t,0⟩) (v:=()) (by rw [exp_at _ _ _ (by decide)])]
theorem phase_at {x:PhD} (h:PhOk x) (t:List TK):phaseS ⟨⟨0,x.name⟩::⟨0,kTop⟩::(inT x.top++⟨2,kOpen⟩::(x.values.flatMap vlT++⟨2,kClose⟩::t)),0⟩=(x,⟨t,0⟩):=by
 obtain⟨_,h1,h2⟩:=h
 have hl:=lp_list (c:=fun s=> !isS s kClose) (b:=vlB) con_vlB vlT (fun a x=>a++[x]) VlOk (fun a v r hv=>⟨by
  show(!isS ⟨⟨0,v.event⟩::_,0⟩ kClose)=true
  rw [name_is (name_ne hv.1).2.1];rfl,by
  obtain⟨_,n2,n3⟩:=num_txt hv.2
  rw [vlB_eq]
  show PN.bnd wordS _ ⟨⟨0,v.event⟩::⟨1,rtxt v.p⟩::semiT::r,0⟩=_
  rw [bnd_at (wordT_at _ _),bnd_at (num_at n2 _),n3,bnd_at (s':=⟨r,0⟩) (v:=()) (by rw [exp_at _ _ _ (by decide)])]⟩) x.values [] (⟨2,kClose⟩::t) h2
 replace hl:=hl.trans (lpS_end (fun z=>absurd (show false=true from z.2) (by decide)))
 rw [fold_snoc x.values (fun x:VlD=>x) [],List.nil_append,List.map_id'] at hl
 rw [phaseS_eq,bnd_at (wordT_at _ _),top_at h1,bnd_at hl]
 unfold phK
 rw [bnd_at (s':=⟨t,0⟩) (v:=()) (by rw [exp_at _ _ _ (by decide)])]
theorem group_at {x:GrD} (h:GrOk x) (t:List TK):groupS ⟨⟨0,x.name⟩::⟨0,if x.kind=1 then kGreek else kBeta⟩::(x.factors.flatMap (fun r=>[⟨1,rtxt r⟩])++⟨2,kColon⟩::(x.members.flatMap (fun n=>[⟨0,n⟩])++semiT::t)),0⟩=(x,⟨t,0⟩):=by
 obtain⟨_,h1,h2,h3⟩:=h
 have hf:=lp_list (c:=fun s=>kindS s 1) (b:=facB) con_facB (fun r=>[⟨1,rtxt r⟩]) (fun a x=>a++[x]) NumOk (fun a v r hv=>⟨rfl,by
  obtain⟨_,n2,n3⟩:=num_txt hv
  unfold facB
  rw [List.singleton_append,num_at n2,n3]⟩) x.factors [] (⟨2,kColon⟩::(x.members.flatMap (fun n=>[⟨0,n⟩])++semiT::t)) h3
 replace hf:=hf.trans (lpS_end (fun z=>absurd (show false=true from z.2) (by decide)))
 rw [fold_snoc x.factors (fun x:RD=>x) [],List.nil_append,List.map_id'] at hf
 have hm:=lp_list (c:=fun s=>kindS s 0) (b:=memB) con_memB (fun n=>[⟨0,n⟩]) (fun a x=>a++[x]) (fun n=>nameOk n=true) (fun a v r hv=>⟨rfl,rfl⟩) x.members [] (semiT::t) h2
 replace hm:=hm.trans (lpS_end (fun z=>absurd (show false=true from z.2) (by decide)))
 rw [fold_snoc x.members (fun x:BS=>x) [],List.nil_append,List.map_id'] at hm
 have hg:grT ⟨⟨0,if x.kind=1 then kGreek else kBeta⟩::(x.factors.flatMap (fun r=>[⟨1,rtxt r⟩])++⟨2,kColon⟩::(x.members.flatMap (fun n=>[⟨0,n⟩])++semiT::t)),0⟩=(x.kind,⟨x.factors.flatMap (fun r=>[⟨1,rtxt r⟩])++⟨2,kColon⟩::(x.members.flatMap (fun n=>[⟨0,n⟩])++semiT::t),0⟩):=by
  rcases h1 with e|e<;>rw [e]<;>rfl
 rw [groupS_eq,bnd_at (wordT_at _ _),bnd_at hg]
 unfold grF grM
 rw [bnd_at hf,bnd_at (s':=⟨x.members.flatMap (fun n=>[⟨0,n⟩])++semiT::t,0⟩) (v:=()) (by rw [exp_at _ _ _ (by decide)]),bnd_at hm,bnd_at (s':=⟨t,0⟩) (v:=()) (by rw [exp_at _ _ _ (by decide)])]
abbrev cTop:PS→Bool:=fun s=> !isS s kTop
theorem read_text {m:MdD} (h:MdB m):readS ⟨textT m,0⟩=(m,⟨[],0⟩):=by
 have st:∀{m':MdD} {w:BS} {s s':PS} {x:MdD},stM s=true→takeS (stM s) s=(w,s')→stW m' w s'=(x,⟨[],0⟩)∨True→True:=fun _ _ _=>trivial
 have l1:=fun(a:MdD) r=>lp_list (c:=cTop) (b:=stB) con_stB evT (fun a x=>{a with events:=a.events++[x]}) EvOk (fun a x r hx=>⟨rfl,by
  have e:=event_at hx r
  have ha:evT x++r=⟨0,kEvent⟩::⟨0,x.name⟩::(partT kP x.p++(partT kFail x.fail++(partT kRepair x.rep++(partT kCost (rd (x.cost:Rat))++semiT::r)))):=by
   unfold evT;simp only [List.cons_append,List.append_assoc,List.nil_append]
  rw [ha]
  generalize (⟨0,x.name⟩::(partT kP x.p++(partT kFail x.fail++(partT kRepair x.rep++(partT kCost (rd (x.cost:Rat))++semiT::r))):List TK))=l at*
  show({a with events:=a.events++[(eventS ⟨l,0⟩).1]},(eventS ⟨l,0⟩).2)=_
  rw [e]⟩) m.events a r h.ev
 have l2:=fun(a:MdD) r=>lp_list (c:=cTop) (b:=stB) con_stB hsT' (fun a x=>{a with houses:=a.houses++[x]}) (fun x=>nameOk x.name=true) (fun a x r hx=>⟨rfl,by
  have e:=house_at (x:=x) r
  have ha:hsT' x++r=⟨0,kHouse⟩::⟨0,x.name⟩::⟨0,if x.on then kOn else kOff⟩::semiT::r:=rfl
  rw [ha]
  generalize (⟨0,x.name⟩::⟨0,if x.on then kOn else kOff⟩::semiT::r:List TK)=l at*
  show({a with houses:=a.houses++[(houseS ⟨l,0⟩).1]},(houseS ⟨l,0⟩).2)=_
  rw [e]⟩) m.houses a r h.hs
 have l3:=fun(a:MdD) r=>lp_list (c:=cTop) (b:=stB) con_stB gtT (fun a x=>{a with gates:=a.gates++[x]}) GtOk (fun a g r hx=>⟨rfl,by
  have e:=gate_at hx r
  have ha:gtT g++r=⟨0,kGate⟩::⟨0,g.name⟩::⟨0,kindW g.kind⟩::((if g.kind=2 then [⟨1,itoaB g.k⟩] else if g.kind=7 then [⟨1,rtxt g.dorm⟩] else [])++(g.inputs.flatMap inT++semiT::r)):=by
   unfold gtT;simp only [List.cons_append,List.append_assoc,List.nil_append]
  rw [ha]
  generalize (⟨0,g.name⟩::⟨0,kindW g.kind⟩::((if g.kind=2 then [⟨1,itoaB g.k⟩] else if g.kind=7 then [⟨1,rtxt g.dorm⟩] else [])++(g.inputs.flatMap inT++semiT::r)):List TK)=l at*
  show({a with gates:=a.gates++[(gateS ⟨l,0⟩).1]},(gateS ⟨l,0⟩).2)=_
  rw [e]⟩) m.gates a r h.gt
 have l4:=fun(a:MdD) r=>lp_list (c:=cTop) (b:=stB) con_stB pgT (fun a x=>{a with pages:=a.pages++[x]}) PgOk (fun a x r hx=>⟨rfl,by
  have e:=page_at hx r
  have ha:pgT x++r=⟨0,kPage⟩::⟨0,x.name⟩::⟨0,kTop⟩::(inT x.top++⟨2,kOpen⟩::(x.gates.flatMap gtT++⟨2,kClose⟩::r)):=by
   unfold pgT headT;simp only [List.cons_append,List.append_assoc,List.nil_append]
  rw [ha]
  generalize (⟨0,x.name⟩::⟨0,kTop⟩::(inT x.top++⟨2,kOpen⟩::(x.gates.flatMap gtT++⟨2,kClose⟩::r)):List TK)=l at*
  show({a with pages:=a.pages++[(pageS ⟨l,0⟩).1]},(pageS ⟨l,0⟩).2)=_
  rw [e]⟩) m.pages a r h.pg
 have l5:=fun(a:MdD) r=>lp_list (c:=cTop) (b:=stB) con_stB grT' (fun a x=>{a with groups:=a.groups++[x]}) GrOk (fun a x r hx=>⟨rfl,by
  have e:=group_at hx r
  have ha:grT' x++r=⟨0,kGroup⟩::⟨0,x.name⟩::⟨0,if x.kind=1 then kGreek else kBeta⟩::(x.factors.flatMap (fun r=>[⟨1,rtxt r⟩])++⟨2,kColon⟩::(x.members.flatMap (fun n=>[⟨0,n⟩])++semiT::r)):=by
   unfold grT';simp only [List.cons_append,List.append_assoc,List.nil_append]
  rw [ha]
  generalize (⟨0,x.name⟩::⟨0,if x.kind=1 then kGreek else kBeta⟩::(x.factors.flatMap (fun r=>[⟨1,rtxt r⟩])++⟨2,kColon⟩::(x.members.flatMap (fun n=>[⟨0,n⟩])++semiT::r)):List TK)=l at*
  show({a with groups:=a.groups++[(groupS ⟨l,0⟩).1]},(groupS ⟨l,0⟩).2)=_
  rw [e]⟩) m.groups a r h.gr
 have l6:=fun(a:MdD) r=>lp_list (c:=cTop) (b:=stB) con_stB phT (fun a x=>{a with phases:=a.phases++[x]}) PhOk (fun a x r hx=>⟨rfl,by
  have e:=phase_at hx r
  have ha:phT x++r=⟨0,kPhase⟩::⟨0,x.name⟩::⟨0,kTop⟩::(inT x.top++⟨2,kOpen⟩::(x.values.flatMap vlT++⟨2,kClose⟩::r)):=by
   unfold phT headT;simp only [List.cons_append,List.append_assoc,List.nil_append]
  rw [ha]
  generalize (⟨0,x.name⟩::⟨0,kTop⟩::(inT x.top++⟨2,kOpen⟩::(x.values.flatMap vlT++⟨2,kClose⟩::r)):List TK)=l at*
  show({a with phases:=a.phases++[(phaseS ⟨l,0⟩).1]},(phaseS ⟨l,0⟩).2)=_
  rw [e]⟩) m.phases a r h.ph
 have f1:∀(L:List EvD) (a:MdD),L.foldl (fun a x=>{a with events:=a.events++[x]}) a={a with events:=a.events++L}:=fun L=>by
  induction L with
  |nil=>intro a;simp
  |cons x L ih=>intro a;rw [List.foldl_cons,ih];simp
 have f2:∀(L:List HsD) (a:MdD),L.foldl (fun a x=>{a with houses:=a.houses++[x]}) a={a with houses:=a.houses++L}:=fun L=>by
  induction L with
  |nil=>intro a;simp
  |cons x L ih=>intro a;rw [List.foldl_cons,ih];simp
 have f3:∀(L:List GtD) (a:MdD),L.foldl (fun a x=>{a with gates:=a.gates++[x]}) a={a with gates:=a.gates++L}:=fun L=>by
  induction L with
  |nil=>intro a;simp
  |cons x L ih=>intro a;rw [List.foldl_cons,ih];simp
 have f4:∀(L:List PgD) (a:MdD),L.foldl (fun a x=>{a with pages:=a.pages++[x]}) a={a with pages:=a.pages++L}:=fun L=>by
  induction L with
  |nil=>intro a;simp
  |cons x L ih=>intro a;rw [List.foldl_cons,ih];simp
 have f5:∀(L:List GrD) (a:MdD),L.foldl (fun a x=>{a with groups:=a.groups++[x]}) a={a with groups:=a.groups++L}:=fun L=>by
  induction L with
  |nil=>intro a;simp
  |cons x L ih=>intro a;rw [List.foldl_cons,ih];simp
 have f6:∀(L:List PhD) (a:MdD),L.foldl (fun a x=>{a with phases:=a.phases++[x]}) a={a with phases:=a.phases++L}:=fun L=>by
  induction L with
  |nil=>intro a;simp
  |cons x L ih=>intro a;rw [List.foldl_cons,ih];simp
 clear st
 rw [readS_eq]
 unfold textT
 rw [bnd_at (v:=()) (s':=⟨⟨0,m.name⟩::semiT::_,0⟩) (by rw [exp_at _ _ _ (by decide)]),bnd_at (wordT_at _ _),bnd_at (v:=()) (s':=⟨_,0⟩) (by rw [exp_at _ _ _ (by decide)])]
 have e1:=(l1 {md0 with name:=m.name} _).trans ((l2 _ _).trans ((l3 _ _).trans ((l4 _ _).trans ((l5 _ _).trans (l6 _ (⟨0,kTop⟩::(inT m.top++[semiT])))))))
 have e2:=e1.trans (lpS_end (fun z=>absurd (show false=true from z.2) (by decide)))
 rw [bnd_at e2,f1,f2,f3,f4,f5,f6]
 unfold rdK
 rw [bnd_at (v:=()) (s':=⟨inT m.top++[semiT],0⟩) (by rw [exp_at _ _ _ (by decide)]),bnd_at (input_at h.tp _).1,bnd_at (v:=()) (s':=⟨[],0⟩) (by rw [exp_at _ _ _ (by decide)])]
 rfl
end Go.PN
namespace Go.PN
open Go.AI
variable {β : Type}
theorem end_sp (l:BS):endB (32::l):=.inr ⟨rfl,fun h=>absurd (show(32:Nat)=47 from h) (by decide)⟩
theorem end_semi (l:BS):endB (59::l):=.inr ⟨rfl,fun h=>absurd (show(59:Nat)=47 from h) (by decide)⟩
theorem wd_tok {t:TK} (h:LexOk t):Wd t.text [t]:=fun l us he hl=>.tok t l us h he hl
theorem lex_name {n:BS} (h:nameOk n=true):LexOk ⟨0,n⟩:=by
 unfold nameOk at h
 simp only [Bool.and_eq_true,decide_eq_true_eq] at h
 obtain⟨⟨⟨h1,h2⟩,h3⟩,h4⟩:=h
 exact .word rfl h1 h2 h3 fun j hj=>spanE_in (p:=isIns) (l:=n) n.length 0 om j (Nat.zero_le _) (by have:j<n.length:=hj;omega)
theorem wd_name {n:BS} (h:nameOk n=true):Wd n [⟨0,n⟩]:=wd_tok (lex_name h)
theorem wd_num {r:RD} (h:NumOk r):Wd (rtxt r) [⟨1,rtxt r⟩]:=wd_tok (num_txt h).1
theorem wd_dec {n:Nat} (h:(decB n).length≤100):Wd (decB n) [⟨1,decB n⟩]:=wd_tok (num_dec h).1
theorem wd_in {i:BS} (h:InpOk i):Wd i (inT i):=by
 intro l us he hl
 unfold inT
 by_cases h0:bAt i 0=64
 ·have hi:0<i.length∧nameOk (i.drop 1)=true:=by
   rcases h with h|h
   ·exact⟨h.2.2,h.2.1⟩
   ·exact absurd h0 (name_ne h).2.2.2
  cases i with
  |nil=>simp at hi
  |cons a r=>
   have:a=64:=UInt8.toNat_inj.1 h0
   subst this
   rw [if_pos h0]
   exact .sgn 64 _ _ rfl (wd_name hi.2 l us he hl)
 ·rw [if_neg h0]
  rcases h with h|h
  ·exact absurd h.1 h0
  ·exact wd_name h l us he hl
theorem WL.lx {ws:List BS} {ts:List TK} (h:WL ws ts):∀{l us},endB l→Lx l us→Lx ((ws.flatMap fun y=>32::y)++l) (ts++us)∧endB ((ws.flatMap fun y=>32::y)++l):=by
 induction h with
 |nil=>exact fun he hl=>⟨hl,he⟩
 |cons hw _ ih=>
  intro l us he hl
  obtain⟨i1,i2⟩:=ih he hl
  rw [List.flatMap_cons,List.cons_append,List.append_assoc,List.cons_append]
  refine⟨.blank 32 _ _ rfl ?_,end_sp _⟩
  rw [List.append_assoc]
  exact hw _ _ i2 i1
theorem line_lx {w:BS} {t:List TK} {ws:List BS} {ts:List TK} (hw:Wd w t) (h:WL ws ts) {l:BS} {us:List TK} (hl:Lx l us):Lx (lineW (w::ws)++l) (t++(ts++semiT::us)):=by
 obtain⟨i1,i2⟩:=h.lx (l:=59::l) (us:=semiT::us) (end_semi l) (.sgn 59 l us rfl hl)
 have e:lineW (w::ws)++l=w++((ws.flatMap fun y=>32::y)++59::l):=by
  unfold lineW joinW
  simp
 rw [e]
 exact hw _ _ i2 i1
theorem nl_lx {l:BS} {us:List TK} (hl:Lx l us):Lx (10::l) us:=.blank 10 l us rfl hl
theorem lx_flat {X:β→BS} {T:β→List TK} {P:β→Prop} (h:∀x l us,P x→Lx l us→Lx (X x++l) (T x++us)):∀(L:List β),(∀x∈L,P x)→∀{l us},Lx l us→Lx (L.flatMap X++l) (L.flatMap T++us)
 |[],_,_,_,hl=>hl
 |x::L,hL,l,us,hl=>by
  rw [List.flatMap_cons,List.flatMap_cons,List.append_assoc,List.append_assoc]
  exact h x _ _ (hL x List.mem_cons_self) (lx_flat h L (fun y hy=>hL y (List.mem_cons_of_mem _ hy)) hl)
theorem wl_flat {W:β→BS} {T:β→List TK}:∀(L:List β),(∀x∈L,Wd (W x) (T x))→WL (L.map W) (L.flatMap T)
 |[],_=>.nil
 |x::L,h=>.cons (h x List.mem_cons_self) (wl_flat L fun y hy=>h y (List.mem_cons_of_mem _ hy))
theorem wl_part {w:BS} {r:RD} (hw:nameOk w=true) (h:signQ r.q≠0→Wd (rtxt r) [⟨1,rtxt r⟩]):WL (partW w r) (partT w r):=by
 unfold partW partT
 split
 ·exact .nil
 ·rename_i e
  exact .cons (t:=[⟨0,w⟩]) (wd_name hw) (.cons (t:=[⟨1,rtxt r⟩]) (h e) .nil)
theorem ev_lx (x:EvD) (l:BS) (us:List TK) (h:EvOk x) (hl:Lx l us):Lx (evX x++l) (evT x++us):=by
 obtain⟨h0,h1,h2,h3,h4,h5⟩:=h
 have hc:WL (partW kCost (rd (x.cost:Rat))) (partT kCost (rd (x.cost:Rat))):=wl_part (by decide) fun hs=>by
  have hz:x.cost≠0:=fun e=>hs ((sign_int x.cost).2 e)
  have hl:=decB_len 9 x.cost.natAbs (by show x.cost.natAbs<10000000000;omega)
  rw [rtxt_int om]
  exact wd_dec om
 have hw:=((wl_part (w:=kP) (by decide) fun _=>wd_num h1).app (wl_part (w:=kFail) (by decide) fun _=>wd_num h2)).app (wl_part (w:=kRepair) (by decide) fun _=>wd_num h3)|>.app hc
 have:=line_lx (w:=kEvent) (t:=[⟨0,kEvent⟩]) (wd_name (by decide)) (.cons (wd_name h0) hw) (nl_lx hl)
 have e1:evX x++l=lineW (kEvent::x.name::(partW kP x.p++partW kFail x.fail++partW kRepair x.rep++partW kCost (rd (x.cost:Rat))))++10::l:=by
  unfold evX evW;simp
 have e2:evT x++us=[⟨0,kEvent⟩]++([⟨0,x.name⟩]++(partT kP x.p++partT kFail x.fail++partT kRepair x.rep++partT kCost (rd (x.cost:Rat)))++semiT::us):=by
  unfold evT;simp
 rw [e1,e2]
 exact this
theorem hs_lx (x:HsD) (l:BS) (us:List TK) (h:nameOk x.name=true) (hl:Lx l us):Lx (hsX x++l) (hsT' x++us):=by
 have ho:nameOk (if x.on then kOn else kOff)=true:=by split<;>decide
 have:=line_lx (w:=kHouse) (t:=[⟨0,kHouse⟩]) (wd_name (by decide)) (.cons (wd_name h) (.cons (wd_name ho) .nil)) (nl_lx hl)
 have e1:hsX x++l=lineW [kHouse,x.name,if x.on then kOn else kOff]++10::l:=by unfold hsX;simp
 rw [e1]
 exact this
theorem kind_ok {k:Int} (h0:0≤k) (h8:k≤8):nameOk (kindW k)=true:=by
 have:k=0∨k=1∨k=2∨k=3∨k=4∨k=5∨k=6∨k=7∨k=8:=by omega
 rcases this with h|h|h|h|h|h|h|h|h<;>subst h<;>decide
theorem gate_lx (g:GtD) (l:BS) (us:List TK) (h:GtOk g) (hl:Lx l us):Lx (gateX g++l) (gtT g++us):=by
 obtain⟨h0,h1,h2,h3,h4,h5,h6,h7,h8⟩:=h
 have hx:WL (if g.kind=2 then [itoaB g.k] else if g.kind=7 then [rtxt g.dorm] else []) (if g.kind=2 then [⟨1,itoaB g.k⟩] else if g.kind=7 then [⟨1,rtxt g.dorm⟩] else []):=by
  have hi:itoaB g.k=decB g.k.natAbs:=by unfold itoaB;rw [if_neg om]
  have hl:=decB_len 9 g.k.natAbs (by show g.k.natAbs<10000000000;omega)
  split
  ·rw [hi];exact .cons (t:=[⟨1,decB g.k.natAbs⟩]) (wd_dec om) .nil
  ·split
   ·exact .cons (t:=[⟨1,rtxt g.dorm⟩]) (wd_num h6) .nil
   ·exact .nil
 have hi:=wl_flat (W:=fun i:BS=>i) g.inputs fun i hi=>wd_in (h8 i hi)
 rw [List.map_id'] at hi
 have:=line_lx (w:=kGate) (t:=[⟨0,kGate⟩]) (wd_name (by decide)) (.cons (wd_name h0) (.cons (wd_name (kind_ok h1 h2)) (hx.app hi))) hl
 have e2:gtT g++us=[⟨0,kGate⟩]++([⟨0,g.name⟩]++([⟨0,kindW g.kind⟩]++((if g.kind=2 then [⟨1,itoaB g.k⟩] else if g.kind=7 then [⟨1,rtxt g.dorm⟩] else [])++g.inputs.flatMap inT))++semiT::us):=by
  unfold gtT;simp only [List.cons_append,List.append_assoc,List.nil_append]
 rw [e2]
 exact this
theorem gt_lx (g:GtD) (l:BS) (us:List TK) (h:GtOk g) (hl:Lx l us):Lx (gtX [] g++l) (gtT g++us):=by
 have:=gate_lx g (10::l) us h (nl_lx hl)
 have e:gtX [] g++l=gateX g++10::l:=by unfold gtX;simp
 rw [e];exact this
theorem gt2_lx (g:GtD) (l:BS) (us:List TK) (h:GtOk g) (hl:Lx l us):Lx (gtX [32,32] g++l) (gtT g++us):=by
 have:=gate_lx g (10::l) us h (nl_lx hl)
 have e:gtX [32,32] g++l=32::32::(gateX g++10::l):=by unfold gtX;simp
 rw [e];exact .blank 32 _ _ rfl (.blank 32 _ _ rfl this)
theorem head_lx {k n top:BS} (hk:nameOk k=true) (hn:nameOk n=true) (ht:InpOk top) {l:BS} {us:List TK} (hl:Lx l us):Lx (headX k n top++l) (headT k n top++us):=by
 have a1:Lx (32::123::10::l) (⟨2,kOpen⟩::us):=.blank 32 _ _ rfl (.sgn 123 _ _ rfl (nl_lx hl))
 have a2:=wd_in ht _ _ (end_sp _) a1
 have a3:=wd_name (n:=kTop) (by decide) _ _ (end_sp _) (.blank 32 _ _ rfl a2)
 have a4:=wd_name hn _ _ (end_sp _) (.blank 32 _ _ rfl a3)
 have a5:=wd_name hk _ _ (end_sp _) (.blank 32 _ _ rfl a4)
 have e1:headX k n top++l=k++32::(n++32::(kTop++32::(top++32::123::10::l))):=by unfold headX;simp
 have e2:headT k n top++us=[⟨0,k⟩]++([⟨0,n⟩]++([⟨0,kTop⟩]++(inT top++⟨2,kOpen⟩::us))):=by unfold headT;simp
 rw [e1,e2]
 exact a5
theorem close_lx {l:BS} {us:List TK} (hl:Lx l us):Lx ([125,10]++l) (⟨2,kClose⟩::us):=.sgn 125 _ _ rfl (nl_lx hl)
theorem pg_lx (x:PgD) (l:BS) (us:List TK) (h:PgOk x) (hl:Lx l us):Lx (pgX x++l) (pgT x++us):=by
 have:=head_lx (k:=kPage) (by decide) h.1 h.2.1 (lx_flat gt2_lx x.gates h.2.2 (close_lx hl))
 have e1:pgX x++l=headX kPage x.name x.top++(x.gates.flatMap (gtX [32,32])++([125,10]++l)):=by unfold pgX;simp only [List.append_assoc]
 have e2:pgT x++us=headT kPage x.name x.top++(x.gates.flatMap gtT++⟨2,kClose⟩::us):=by unfold pgT;simp
 rw [e1,e2]
 exact this
theorem vl_lx (v:VlD) (l:BS) (us:List TK) (h:VlOk v) (hl:Lx l us):Lx (vlX v++l) (vlT v++us):=by
 have:=line_lx (w:=v.event) (t:=[⟨0,v.event⟩]) (wd_name h.1) (.cons (wd_num h.2) .nil) (nl_lx hl)
 have e:vlX v++l=32::32::(lineW [v.event,rtxt v.p]++10::l):=by unfold vlX;simp
 rw [e]
 exact .blank 32 _ _ rfl (.blank 32 _ _ rfl this)
theorem ph_lx (x:PhD) (l:BS) (us:List TK) (h:PhOk x) (hl:Lx l us):Lx (phX x++l) (phT x++us):=by
 have:=head_lx (k:=kPhase) (by decide) h.1 h.2.1 (lx_flat vl_lx x.values h.2.2 (close_lx hl))
 have e1:phX x++l=headX kPhase x.name x.top++(x.values.flatMap vlX++([125,10]++l)):=by unfold phX;simp only [List.append_assoc]
 have e2:phT x++us=headT kPhase x.name x.top++(x.values.flatMap vlT++⟨2,kClose⟩::us):=by unfold phT;simp
 rw [e1,e2]
 exact this
theorem gr_lx (x:GrD) (l:BS) (us:List TK) (h:GrOk x) (hl:Lx l us):Lx (grX x++l) (grT' x++us):=by
 obtain⟨h0,h1,h2,h3⟩:=h
 have hk:nameOk (if x.kind=1 then kGreek else kBeta)=true:=by split<;>decide
 have hf:=wl_flat (W:=rtxt) (T:=fun r=>[⟨1,rtxt r⟩]) x.factors fun r hr=>wd_num (h3 r hr)
 have hm:=wl_flat (W:=fun n:BS=>n) (T:=fun n=>[⟨0,n⟩]) x.members fun n hn=>wd_name (h2 n hn)
 rw [List.map_id'] at hm
 have hc:Wd kColon [⟨2,kColon⟩]:=fun l us _ hl=>.sgn 58 l us rfl hl
 have:=line_lx (w:=kGroup) (t:=[⟨0,kGroup⟩]) (wd_name (by decide)) (.cons (wd_name h0) (.cons (wd_name hk) (hf.app (.cons hc hm)))) (nl_lx hl)
 have e1:grX x++l=lineW (grW x)++10::l:=by unfold grX;simp
 have e2:grT' x++us=[⟨0,kGroup⟩]++([⟨0,x.name⟩]++([⟨0,if x.kind=1 then kGreek else kBeta⟩]++(x.factors.flatMap (fun r=>[⟨1,rtxt r⟩])++([⟨2,kColon⟩]++x.members.flatMap (fun n=>[⟨0,n⟩]))))++semiT::us):=by
  unfold grT';simp only [List.cons_append,List.append_assoc,List.nil_append]
 rw [e1,e2]
 exact this
theorem text_lx {m:MdD} (h:MdB m):Lx (textX m) (textT m):=by
 have a1:=line_lx (w:=kTop) (t:=[⟨0,kTop⟩]) (wd_name (by decide)) (.cons (wd_in h.tp) .nil) (nl_lx .nil)
 have a2:=lx_flat ph_lx m.phases h.ph a1
 have a3:=lx_flat gr_lx m.groups h.gr a2
 have a4:=lx_flat pg_lx m.pages h.pg a3
 have a5:=lx_flat gt_lx m.gates h.gt a4
 have a6:=lx_flat hs_lx m.houses h.hs a5
 have a7:=lx_flat ev_lx m.events h.ev a6
 have a8:=line_lx (w:=kModel) (t:=[⟨0,kModel⟩]) (wd_name (by decide)) (.cons (wd_name h.nm) .nil) (nl_lx a7)
 have e2:textT m=[⟨0,kModel⟩]++([⟨0,m.name⟩]++[]++semiT::(m.events.flatMap evT++(m.houses.flatMap hsT'++(m.gates.flatMap gtT++(m.pages.flatMap pgT++(m.groups.flatMap grT'++(m.phases.flatMap phT++([⟨0,kTop⟩]++(inT m.top++[]++[semiT]))))))))):=by
  unfold textT;simp
 rw [e2]
 exact a8
end Go.PN
namespace Go.PN
open Go.AI
theorem num_0:NumOk rd0:=⟨RD.wf.mono rd0_ok (by decide),by decide,by decide+kernel,by rw [rtxt_0];decide⟩
theorem num_prob {r:RD} (hw:RdOk r) (h:r.prob=true) (hl:longR r=false):NumOk r:=by
 unfold RD.prob at h
 simp only [Bool.and_eq_true,decide_eq_true_eq] at h
 unfold longR at hl
 have:=of_decide_eq_false hl
 exact⟨RD.wf.mono hw (by decide),h.1.1,h.1.2,by omega⟩
theorem num_rate {r:RD} (hw:RdOk r) (h:rateB r=true) (hl:longR r=false):NumOk r:=by
 unfold rateB at h
 simp only [Bool.and_eq_true,decide_eq_true_eq] at h
 unfold longR at hl
 have:=of_decide_eq_false hl
 refine⟨RD.wf.mono hw (by decide),h.1,?_,by omega⟩
 have h2:=h.2
 unfold signQ at h2
 split at h2
 ·rename_i e;rw [e];decide+kernel
 ·split at h2
  ·exact absurd h2 (by decide)
  ·rename_i e;exact Rat.not_lt.1 e
theorem shp_ok {x:GtD} (h:shpC x=0) (hw:RdOk x.dorm) (hl:longR x.dorm=false):0≤x.kind∧x.kind≤8∧0≤x.k∧x.k≤16∧(x.kind≠2→x.k=0)∧NumOk x.dorm∧(x.kind≠7→x.dorm=rd0):=by
 unfold shpC at h
 rw [ite0 (by decide),ite0 (by decide),ite0 (by decide),ite0 (by decide),ite0 (by decide),ite0 (by decide)] at h
 obtain⟨h1,h2,h3,h4,h5,h6,_⟩:=h
 have hi:x.inputs.length≤16:=by
  unfold inpB at h2
  simp only [Bool.not_eq_false] at h2
  split at h2
  ·have:=beq_iff_eq.1 h2;omega
  ·split at h2
   ·have:=beq_iff_eq.1 h2;omega
   ·split at h2
    ·simp only [Bool.and_eq_true,decide_eq_true_eq] at h2;omega
    ·simp only [Bool.and_eq_true,decide_eq_true_eq] at h2;omega
 have k0:x.kind≠2→x.k=0:=fun e=>Classical.byContradiction fun z=>h4 ⟨e,z⟩
 have d0:x.kind≠7→x.dorm=rd0:=fun e=>zero_rd (by
  by_cases z:zeroB x.dorm=true
  ·exact z
  ·exact absurd ⟨e,by simpa using z⟩ h6)
 refine⟨by omega,by omega,?_,?_,k0,?_,d0⟩
 ·by_cases e:x.kind=2
  ·have:¬(x.k<1∨x.k>x.inputs.length):=fun z=>h3 ⟨e,z⟩
   omega
  ·rw [k0 e];decide
 ·by_cases e:x.kind=2
  ·have:¬(x.k<1∨x.k>x.inputs.length):=fun z=>h3 ⟨e,z⟩
   omega
  ·rw [k0 e];decide
 ·by_cases e:x.kind=7
  ·exact num_prob hw (by
    by_cases z:x.dorm.prob=true
    ·exact z
    ·exact absurd ⟨e,by simpa using z⟩ h5) hl
  ·rw [d0 e];exact num_0
theorem any_f {α:Type} {p:α→Bool} {l:List α} (h:l.any p=false):∀x∈l,p x=false:=fun x hx=>by
 rw [Bool.eq_false_iff]
 intro e
 rw [List.any_eq_true.2 ⟨x,hx,e⟩] at h
 cases h
theorem good_gt {m:MdD} (h:Good m) {L:List GtD} (hL:GsA m L) (ho:∀g∈L,GtO g) (hl:longG L=false):∀g∈L,GtOk g:=fun g hg=>by
 obtain⟨a1,_,_,a4,a5,_⟩:=hL.2 g hg
 obtain⟨b1,b2,b3,b4,b5,b6,b7⟩:=shp_ok a4 (ho g hg).2.1 (any_f hl g hg)
 exact⟨a1,b1,b2,b3,b4,b5,b6,b7,fun i hi=>good_in h hL (a5 i hi)⟩
theorem good_b {m:MdD} (h:Good m) (ho:MdO m) (hl:longX m=false):MdB m:=by
 unfold longX at hl
 simp only [Bool.or_eq_false_iff] at hl
 obtain⟨⟨⟨⟨l1,l2⟩,l3⟩,l4⟩,l5⟩:=hl
 have he:∀n,n∈evN m→nameOk n=true:=fun n hn=>by
  obtain⟨x,hx,rfl⟩:=List.mem_map.1 hn
  exact(h.ev x hx).1
 refine⟨h.nm,good_in h h.gt h.tp,fun x hx=> ?_,fun x hx=>(h.hs x hx).1,good_gt h h.gt ho.gt.2 l2,fun x hx=> ?_,fun x hx=> ?_,fun x hx=> ?_⟩
 ·obtain⟨a1,a2,a3,a4,a5,a6⟩:=h.ev x hx
  obtain⟨_,o1,o2,o3⟩:=ho.ev.2 x hx
  have:=any_f l1 x hx
  unfold longE at this
  simp only [Bool.or_eq_false_iff] at this
  exact⟨a1,num_prob o1 a2 this.1.1,num_rate o2 a3 this.1.2,num_rate o3 a4 this.2,a5,a6⟩
 ·obtain⟨a1,a2,a3⟩:=h.pg x hx
  refine⟨a1,.inr ?_,good_gt h a2 (ho.pg.2 x hx).2.2.2 (any_f l3 x hx)⟩
  rcases a3 with a3|a3
  ·obtain⟨g,hg,e⟩:=List.mem_map.1 a3
   rw [←e];exact(a2.2 g hg).1
  ·exact he _ a3
 ·obtain⟨a1,a2,_,a4,a5⟩:=h.gr x hx
  exact⟨a1,a2,fun n hn=>he n (a4 n hn),fun r hr=>num_prob ((ho.gr.2 x hx).2.2.2.2 r hr) (List.all_eq_true.1 a5 r hr) (any_f (any_f l4 x hx) r hr)⟩
 ·obtain⟨a1,a2,a3,_⟩:=h.ph x hx
  exact⟨a1,good_in h h.gt a2,fun v hv=>⟨he _ (a3 v hv).1,num_prob ((ho.ph.2 x hx).2.2.2 v hv).2 (a3 v hv).2 (any_f (any_f l5 x hx) v hv)⟩⟩
theorem text_back {m:MdD} (ho:MdO m) (h:mcC m=0) (hl:longX m=false) (hs:(textX m).length≤65536):modelP mcC (textX m)=(m,0):=by
 have hb:=good_b (mcC_good h) ho hl
 have h1:=splitS_lx (text_lx hb) hs
 have h2:=read_text hb
 unfold modelP
 rw [h1]
 dsimp only
 rw [if_neg (by simp),h2]
 dsimp only
 rw [if_neg (by simp),h,if_neg (by simp)]
end Go.PN
namespace Go.PN
open Go.AI
theorem getD_ext {α:Type} (d:α) {xs ys:List α} (hl:xs.length=ys.length) (h:∀j,j<xs.length→xs.getD j d=ys.getD j d):xs=ys:=by
 refine List.ext_getElem hl fun j h1 h2=> ?_
 have:=h j h1
 rw [List.getD_eq_getElem?_getD,List.getD_eq_getElem?_getD,List.getElem?_eq_getElem h1,List.getElem?_eq_getElem h2] at this
 exact this
theorem pre_succ {α:Type} {d:α} {xs ys:List α} {i:Nat} (hs:∀j,j<i→xs.getD j d=ys.getD j d) (h:xs.getD i d=ys.getD i d):∀j,j<i+1→xs.getD j d=ys.getD j d:=fun j hj=>by
 by_cases e:j=i
 ·subst e;exact h
 ·exact hs j om
end Go.PN
namespace Go.Proofs.YtnmeahogifekdaaGreatDoor
open Go.AI Go.PN
attribute [local irreducible] aw Fa Fh DrK
theorem is_fa (c d:Int) (hd:d≠0):Fa Tryz.prog 11 [.c (errA c),.c (.int .i64 d)] (.c (.bool (decide (c=d)))):=by
 by_cases h:c=0
 ·have e:errA c=.nilI:=by unfold errA errC;rw [if_pos h]
  rw [e,decide_eq_false om]
  refine fa_of_body Tryz.func11 rfl rfl (by simp [Tryz.ntmps11]) fun C hC=> ?_
  simp only [initS,Nat.reduceAdd]
  refine xGT hC ?_
  exact .one (.c (.bool _))
 ·have e:errA c=.ifc 38 (.int .i64 c):=by unfold errA errC;rw [if_neg h]
  rw [e]
  refine fa_of_body Tryz.func11 rfl rfl (by simp [Tryz.ntmps11]) fun C hC=> ?_
  simp only [initS,Nat.reduceAdd]
  refine xGT hC ?_
  exact .one (.c (ler_bool (by by_cases e:c=d<;>simp [e])))
theorem texts_fa (xs ys:List BS) (hl:xs.length≤1099511627776) (hl2:ys.length≤1099511627776):Fa Tryz.prog 45 [.c (strs false xs),.c (strs false ys)] (.c (.bool (decide (xs=ys)))):=by
 refine fa_of_body Tryz.func45 rfl rfl (by simp [Tryz.ntmps45]) fun C hC=> ?_
 simp only [initS,Nat.reduceAdd]
 repeat' first|refine zV o0 ?_|refine zH o0 (fun hb=>?_) fun hb=>?_|fail
 ·refine xT hC ?_
  exact .one (.c (ler_bool (decide_eq_false fun e=>hb (by rw [e])).symm))
 have hlen:xs.length=ys.length:=by simpa using hb
 refine aw_lp (fun i:Nat=>[(0,.c (strs false xs)),(1,.c (strs false ys)),(12,.c (.int .i64 xs.length)),(13,.c (.int .i64 i))]) (fun _=>[]) (fun i=>i≤xs.length∧∀j,j<i→xs.getD j []=ys.getD j []) (fun i=>xs.length-i) 0 eB zZ ⟨Nat.zero_le _,fun j hj=>absurd hj om⟩ ?_
 rintro i ⟨hi,hs⟩
 repeat' first|refine zV o0 ?_|refine zH o0 (fun hb=>?_) fun hb=>?_|fail
 ·have hi':=hb
  have hi2:i<ys.length:=by omega
  refine aw_dr 9 ty_mixed (by kernel_rfl) ?_
  repeat' first|refine zV o0 ?_|refine zH o0 (fun hb=>?_) fun hb=>?_|fail
  ·refine xT hC ?_
   exact .one (.c (ler_bool (decide_eq_false fun e=>hb (by rw [e])).symm))
  ·refine aw_stop ⟨i+1,?_⟩
   have hs2:=pre_succ hs (by simpa using hb)
   and_intros
   all_goals first|rfl|exact List.Sublist.refl _|exact True.intro|exact hs2|omega
 ·refine xT hC ?_
  exact .one (.c (ler_bool (decide_eq_true (getD_ext [] hlen fun j hj=>hs j om)).symm))
theorem rats_fa (xs ys:List RD) (hw:∀i,(xs.getD i rd0).wf 68719476736) (hl:xs.length≤1099511627776) (hl2:ys.length≤1099511627776):Fa Tryz.prog 46 [.c (rats true xs),.c (rats true ys)] (.c (.bool (decide (xs=ys)))):=by
 refine fa_of_body Tryz.func46 rfl rfl (by simp [Tryz.ntmps46]) fun C hC=> ?_
 simp only [initS,Nat.reduceAdd]
 repeat' first|refine zV o0 ?_|refine zH o0 (fun hb=>?_) fun hb=>?_|fail
 ·refine xT hC ?_
  exact .one (.c (ler_bool (decide_eq_false fun e=>hb (by rw [e])).symm))
 have hlen:xs.length=ys.length:=by simpa using hb
 refine aw_lp (fun i:Nat=>[(0,.c (rats true xs)),(1,.c (rats true ys)),(12,.c (.int .i64 xs.length)),(13,.c (.int .i64 i))]) (fun _=>[]) (fun i=>i≤xs.length∧∀j,j<i→xs.getD j rd0=ys.getD j rd0) (fun i=>xs.length-i) 0 eB zZ ⟨Nat.zero_le _,fun j hj=>absurd hj om⟩ ?_
 rintro i ⟨hi,hs⟩
 have f1:=ratEq_fa (xs.getD i rd0) (ys.getD i rd0) (hw i)
 repeat' first|refine zV o0 ?_|refine zH o0 (fun hb=>?_) fun hb=>?_|fail
 ·have hi':=hb
  have hi2:i<ys.length:=by omega
  refine aw_dr 10 ty_mixed (by kernel_rfl) ?_
  repeat' first|refine zV o0 ?_|(refine yC2 o0 (f1) ?_)|(refine yD2 o0 (f1) ?_)|refine zH o0 (fun hb=>?_) fun hb=>?_|fail
  ·refine xT hC ?_
   exact .one (.c (ler_bool (decide_eq_false fun e=>by rw [e] at hb;simp at hb).symm))
  ·refine aw_stop ⟨i+1,?_⟩
   have hs2:=pre_succ hs (by simpa using hb)
   and_intros
   all_goals first|rfl|exact List.Sublist.refl _|exact True.intro|exact hs2|omega
 ·refine xT hC ?_
  exact .one (.c (ler_bool (decide_eq_true (getD_ext rd0 hlen fun j hj=>hs j om)).symm))
theorem sameGates_fa (xs ys:List GtD) (hw:∀i,(xs.getD i gt0).dorm.wf 68719476736∧(xs.getD i gt0).inputs.length≤1099511627776∧(ys.getD i gt0).inputs.length≤1099511627776) (hl:xs.length≤1099511627776) (hl2:ys.length≤1099511627776):Fa Tryz.prog 44 [.c (gts true xs),.c (gts true ys)] (.c (.bool (decide (xs=ys)))):=by
 refine fa_of_body Tryz.func44 rfl rfl (by simp [Tryz.ntmps44]) fun C hC=> ?_
 simp only [initS,Nat.reduceAdd]
 repeat' first|refine zV o0 ?_|refine zH o0 (fun hb=>?_) fun hb=>?_|fail
 ·refine xT hC ?_
  exact .one (.c (ler_bool (decide_eq_false fun e=>hb (by rw [e])).symm))
 have hlen:xs.length=ys.length:=by simpa using hb
 refine aw_lp (fun i:Nat=>[(13,.c (gts true xs)),(1,.c (gts true ys)),(14,.c (.int .i64 xs.length)),(15,.c (.int .i64 i))]) (fun _=>[]) (fun i=>i≤xs.length∧∀j,j<i→xs.getD j gt0=ys.getD j gt0) (fun i=>xs.length-i) 0 eB zZ ⟨Nat.zero_le _,fun j hj=>absurd hj om⟩ ?_
 rintro i ⟨hi,hs⟩
 obtain⟨w1,w2,w3⟩:=hw i
 repeat' first|refine zV o0 ?_|refine zH o0 (fun hb=>?_) fun hb=>?_|fail
 ·have hi':=hb
  have hi2:i<ys.length:=by omega
  have hne:xs.getD i gt0≠ys.getD i gt0→decide (xs=ys)=false:=fun h=>decide_eq_false fun e=>h (by rw [e])
  have hs2:=fun h=>pre_succ (d:=gt0) hs h
  refine xA fun g6 hn_g6=>?_
  repeat' first|refine zV hn_g6 ?_|refine zH hn_g6 (fun hb=>?_) fun hb=>?_|fail
  refine yA hn_g6 fun g7 hn_g7=>?_
  generalize xs.getD i gt0=x at*
  generalize ys.getD i gt0=y at*
  have f1:=texts_fa x.inputs y.inputs w2 w3
  have f2:=ratEq_fa x.dorm y.dorm w1
  obtain⟨xn,xk,xv,xi,xd⟩:=x
  obtain⟨yn,yk,yv,yi,yd⟩:=y
  dsimp only at*
  all_goals try(have Z:=(oj hn_g6 hn_g7);(repeat' first|refine zV Z ?_|(refine yC2 Z (f1) ?_)|(refine yD2 Z (f1) ?_)|(refine yC2 Z (f2) ?_)|(refine yD2 Z (f2) ?_)|refine zH Z (fun hb=>?_) fun hb=>?_|fail);all_goals clear Z)
  all_goals clear f1 f2
  all_goals first
   |(refine yT hC (oj hn_g6 hn_g7) ?_
     exact .one (.c (ler_bool (hne (by simp_all)).symm)))
   |(refine aw_stop ⟨i+1,?_⟩
     have hs3:=hs2 (by simp_all)
     and_intros
     all_goals first|rfl|exact List.nil_sublist _|exact True.intro|exact hs3|omega)
 ·refine xT hC ?_
  exact .one (.c (ler_bool (decide_eq_true (getD_ext gt0 hlen fun j hj=>hs j om)).symm))
end Go.Proofs.YtnmeahogifekdaaGreatDoor
namespace Go.AI
open Go.PN
section
variable {P : Program} {h : Heap} {ρ : Operand → AV}
def isStg (P:Program) (t:TypeId):Bool:=match P.underlying t with
 |some .string=>true
 |_=>false
theorem isStg_spec {t:TypeId} (h:isStg P t=true):P.underlying t=some .string:=by
 unfold isStg at h
 split at h
 ·assumption
 ·cases h
def isBl (P:Program) (t:TypeId):Bool:=match P.underlying t with
 |some .bool=>true
 |_=>false
theorem isBl_spec {t:TypeId} (h:isBl P t=true):P.underlying t=some .bool:=by
 unfold isBl at h
 split at h
 ·assumption
 ·cases h
def tSB (P:Program) (t:TypeId):Bool:= !P.stoodInHeld t&& !P.eqGuardType P.depth t&&isStr P t&&(match (P.fieldsOf t).toList with
 |[f,g]=>f.name != "_" &&g.name != "_" &&f.offset==0&&g.offset==1&&isStg P f.type&&isBl P g.type
 |_=>false)
theorem tSB_run {t:TypeId} (ht:tSB P t=true) (a c:BS) (b d:Bool) (w:World):(Op.equalIn 10000 t (.agg #[.string (sB a),.bool b]) (.agg #[.string (sB c),.bool d])).run P w=.ok (decide (a=c∧b=d)) w∧P.eqGuardType P.depth t=false:=by
 unfold tSB at ht
 simp only [Bool.and_eq_true,Bool.not_eq_true'] at ht
 obtain⟨⟨⟨h1,h2⟩,h4⟩,h3⟩:=ht
 refine⟨?_,h2⟩
 have hu:=isStr_spec h4
 rw [show(10000:Nat)=9999+1 from rfl,run_equalIn_agg w 9999 t _ _ hu h1]
 split at h3
 ·rename_i f g hfg
  rw [hfg]
  simp only [Bool.and_eq_true,bne_iff_ne,ne_eq,beq_iff_eq] at h3
  obtain⟨⟨⟨⟨⟨n1,n2⟩,o1⟩,o2⟩,u1⟩,u2⟩:=h3
  have u1:=isStg_spec u1
  have u2:=isBl_spec u2
  have g1:(isAgg f.type).run P w=.ok false w:=by simp [isAgg,run_underlying u1]
  have g2:(isAgg g.type).run P w=.ok false w:=by simp [isAgg,run_underlying u2]
  have p1:∀s x,(part f.type #[.string s,.bool x] f.offset).run P w=.ok (.string s) w:=fun s x=>by
   unfold part
   simp only [Sem.run_bind,g1,Result.andThen_ok,Bool.false_eq_true,if_false,o1]
   rfl
  have p2:∀s x,(part g.type #[.string s,.bool x] g.offset).run P w=.ok (.bool x) w:=fun s x=>by
   unfold part
   simp only [Sem.run_bind,g2,Result.andThen_ok,Bool.false_eq_true,if_false,o2]
   rfl
  have e1:(Op.equalIn 9999 f.type (.string (sB a)) (.string (sB c))).run P w=.ok ((sB a).toList==(sB c).toList) w:=run_equalIn_string w 9998 f.type _ _ u1
  have e2:(Op.equalIn 9999 g.type (.bool b) (.bool d)).run P w=.ok (b==d) w:=run_equalIn_bool' w 9998 g.type _ _ u2
  have hs:((sB a).toList==(sB c).toList)=decide (a=c):=by
   have:=sb_strEq a c
   unfold strEq at this
   rw [show sB a=⟨a.toArray⟩ from rfl,show sB c=⟨c.toArray⟩ from rfl,this,Bool.eq_iff_iff];simp
  simp only [Op.eqFields,n1,n2,not_false_eq_true,if_true,Sem.run_bind,p1,p2,e1,e2,Result.andThen_ok,hs,ne_eq]
  by_cases hac:a=c
  ·subst hac
   by_cases hbd:b=d
   ·subst hbd;simp [p2,e2]
   ·have:(b==d)=false:=by simpa using hbd
    simp [p2,e2,hbd,this]
  ·simp [hac]
 ·cases h3
theorem POk.neqSB {t t':TypeId} {x y:Operand} {a c:BS} {b d:Bool} (hx:ρ x=.agg [.str (sB a),.bool b]) (hy:ρ y=.agg [.str (sB c),.bool d]) (ht:tSB P t=true):POk P h ρ (.binOp .neq t x y t') (.c (.bool (!decide (a=c∧b=d)))):=fun S w e _ ho _=>by
 have h1:=ho x (by simp [Op.operands])
 have h2:=ho y (by simp [Op.operands])
 rw [hx] at h1
 rw [hy] at h2
 obtain⟨us,hu,hru⟩:=h1
 obtain⟨vs,hv,hrv⟩:=h2
 obtain⟨r1,r2⟩:=tSB_run ht a c b d w
 have k1:us=[.string (sB a),.bool b]:=by
  match us,hru with
  |[p,q],⟨q1,q2,_⟩=>rw [show p=_ from q1,show q=_ from q2]
 have k2:vs=[.string (sB c),.bool d]:=by
  match vs,hrv with
  |[p,q],⟨q1,q2,_⟩=>rw [show p=_ from q1,show q=_ from q2]
 subst k1 k2
 refine⟨.bool (!decide (a=c∧b=d)),fun o hop=>exec_bin hop ?_ ?_,rfl⟩
 ·rw [hu,hv];exact run_eqGuard_agg w _ _ _ _ _ _ r2
 ·rw [hu,hv,run_neq_struct,r1];rfl
end
end Go.AI
namespace Go.PN
open Go.AI
theorem dec_f {p:Prop} [Decidable p] (h:¬p):false=decide p:=(decide_eq_false h).symm
theorem dec_t {p:Prop} [Decidable p] (h:p):true=decide p:=(decide_eq_true h).symm
end Go.PN
namespace Go.Proofs.YtnmeahogifekdaaGreatDoor
open Go.AI Go.PN
attribute [local irreducible] aw Fa Fh DrK
theorem sameParts_fa (a b:MdD) (ha:MdO a) (hbb:MdO b):Fa Tryz.prog 43 [.agg (mdc true a),.agg (mdc true b)] (.c (.bool (decide (a.events=b.events∧a.houses=b.houses∧a.pages=b.pages)))):=by
 have a1:=ha.ok
 have a2:=hbb.ok
 have b1:=a1.ev
 have b2:=a1.hs
 have b3:=a1.pg
 have b4:=a2.ev
 have b5:=a2.hs
 have b6:=a2.pg
 refine fa_of_body Tryz.func43 rfl rfl (by simp [Tryz.ntmps43]) fun C hC=> ?_
 simp only [initS,Nat.reduceAdd]
 repeat' first|refine zV o0 ?_|refine zH o0 (fun hb=>?_) fun hb=>?_|fail
 refine xB fun g2 hn_g2=>?_
 repeat' first|refine zV hn_g2 ?_|refine zH hn_g2 (fun hb=>?_) fun hb=>?_|fail
 refine yB hn_g2 fun g3 hn_g3=>?_
 all_goals try(have Z:=(oj hn_g2 hn_g3);(repeat' first|refine zV Z ?_|refine zH Z (fun hb=>?_) fun hb=>?_|fail);all_goals clear Z)
 ·refine yT hC (oj hn_g2 hn_g3) ?_
  exact .one (.c (ler_bool (dec_f fun e=>hb (by rw [e.1]))))
 ·refine yT hC (oj hn_g2 hn_g3) ?_
  exact .one (.c (ler_bool (dec_f fun e=>hb (by rw [e.2.1]))))
 ·refine yT hC (oj hn_g2 hn_g3) ?_
  exact .one (.c (ler_bool (dec_f fun e=>hb (by rw [e.2.2]))))
 rename_i l1 l2
 have l3:a.pages.length=b.pages.length:=by simpa using hb
 clear hb
 have wv:=fun i=>getD_all ha.ev.2 ev0_o i
 have wg:=ha.pgi
 have wh:=hbb.pgi
 refine aw_lp (fun i:Nat=>[(2,.c (.optr g2 0)),(3,.c (.optr g3 0)),(38,.c (evs true a.events)),(39,.c (.int .i64 a.events.length)),(40,.c (.int .i64 i))]) (fun _=>[(g3,.cells 29 8 (ofL (mdc true b))),(g2,.cells 29 8 (ofL (mdc true a)))]) (fun i=>i≤a.events.length∧∀j,j<i→a.events.getD j ev0=b.events.getD j ev0) (fun i=>a.events.length-i) 0 (zB (oj hn_g2 hn_g3)) zZ ⟨Nat.zero_le _,fun j hj=>absurd hj om⟩ ?_
 rintro i ⟨hi,hs⟩
 all_goals try(have Z:=(oj hn_g2 hn_g3);(repeat' first|refine zV Z ?_|refine zH Z (fun hb=>?_) fun hb=>?_|fail);all_goals clear Z)
 ·have hi':=hb
  have hi2:i<b.events.length:=by omega
  have hne:a.events.getD i ev0≠b.events.getD i ev0→decide (a.events=b.events∧a.houses=b.houses∧a.pages=b.pages)=false:=fun h=>decide_eq_false fun e=>h (by rw [e.1])
  have hs2:=fun h=>pre_succ (d:=ev0) hs h
  obtain⟨_,w1,w2,w3⟩:=wv i
  refine yA (oj hn_g2 hn_g3) fun g6 hn_g6=>?_
  all_goals try(have Z:=(oj hn_g2 (oj hn_g3 hn_g6));(repeat' first|refine zV Z ?_|refine zH Z (fun hb=>?_) fun hb=>?_|fail);all_goals clear Z)
  refine yA (oj hn_g2 (oj hn_g3 hn_g6)) fun g7 hn_g7=>?_
  generalize a.events.getD i ev0=x at*
  generalize b.events.getD i ev0=y at*
  have f1:=ratEq_fa x.p y.p (wf_mono w1 (by decide))
  have f2:=ratEq_fa x.fail y.fail (wf_mono w2 (by decide))
  have f3:=ratEq_fa x.rep y.rep (wf_mono w3 (by decide))
  obtain⟨xn,xp,xf,xr,xc⟩:=x
  obtain⟨yn,yp,yf,yr,yc⟩:=y
  dsimp only at*
  all_goals try(have Z:=(oj hn_g2 (oj hn_g3 (oj hn_g6 hn_g7)));(repeat' first|refine zV Z ?_|(refine yC2 Z (f1) ?_)|(refine yD2 Z (f1) ?_)|(refine yC2 Z (f2) ?_)|(refine yD2 Z (f2) ?_)|(refine yC2 Z (f3) ?_)|(refine yD2 Z (f3) ?_)|refine zH Z (fun hb=>?_) fun hb=>?_|fail);all_goals clear Z)
  all_goals clear f1 f2 f3
  all_goals first
   |(refine yT hC (oj hn_g2 (oj hn_g3 (oj hn_g6 hn_g7))) ?_
     exact .one (.c (ler_bool (hne (by simp_all)).symm)))
   |(refine aw_stop ⟨i+1,?_⟩
     have hs3:=hs2 (by simp_all)
     and_intros
     all_goals first|rfl|exact .cons _ (.cons _ (.refl _))|exact True.intro|exact hs3|omega)
 have e1:a.events=b.events:=getD_ext ev0 l1 fun j hj=>hs j om
 clear hs hi hb
 refine aw_lp (fun i:Nat=>[(2,.c (.optr g2 0)),(3,.c (.optr g3 0)),(89,.c (.int .i64 a.houses.length)),(90,.c (.int .i64 i))]) (fun _=>[(g3,.cells 29 8 (ofL (mdc true b))),(g2,.cells 29 8 (ofL (mdc true a)))]) (fun i=>i≤a.houses.length∧∀j,j<i→a.houses.getD j hs0=b.houses.getD j hs0) (fun i=>a.houses.length-i) 0 (zB (oj hn_g2 hn_g3)) zZ ⟨Nat.zero_le _,fun j hj=>absurd hj om⟩ ?_
 rintro i ⟨hi,hs⟩
 all_goals try(have Z:=(oj hn_g2 hn_g3);(repeat' first|refine zV Z ?_|refine zH Z (fun hb=>?_) fun hb=>?_|fail);all_goals clear Z)
 ·have hi':=hb
  have hi2:i<b.houses.length:=by omega
  have hne:a.houses.getD i hs0≠b.houses.getD i hs0→decide (a.events=b.events∧a.houses=b.houses∧a.pages=b.pages)=false:=fun h=>decide_eq_false fun e=>h (by rw [e.2.1])
  have hs2:=fun h=>pre_succ (d:=hs0) hs h
  refine aw_dr 11 ty_mixed (by kernel_rfl) ?_
  all_goals try(have Z:=(oj hn_g2 hn_g3);(repeat' first|refine zV Z ?_|refine zH Z (fun hb=>?_) fun hb=>?_|fail);all_goals clear Z)
  generalize a.houses.getD i hs0=x at*
  generalize b.houses.getD i hs0=y at*
  obtain⟨xn,xo⟩:=x
  obtain⟨yn,yo⟩:=y
  dsimp only at*
  refine drk_pok (POk.neqSB (a:=xn) (b:=xo) (c:=yn) (d:=yo) (zE (oj hn_g2 hn_g3)) (zE (oj hn_g2 hn_g3)) (by kernel_rfl)) rfl rfl ?_
  have J1:=oj hn_g2 hn_g3
  refine yS J1 ?_
  all_goals try(have Z:=J1;(repeat' first|refine zV Z ?_|refine zH Z (fun hb=>?_) fun hb=>?_|fail);all_goals clear Z)
  all_goals first
   |(refine yT hC J1 ?_
     exact .one (.c (ler_bool (hne (fun e=>by have:=HsD.mk.inj e;simp [this] at hb)).symm)))
   |(refine aw_stop ⟨i+1,?_⟩
     have hs3:=hs2 (by simp_all)
     and_intros
     all_goals first|rfl|exact .refl _|exact True.intro|exact hs3|omega)
 have e2:a.houses=b.houses:=getD_ext hs0 l2 fun j hj=>hs j om
 clear hs hi hb
 refine aw_lp (fun i:Nat=>[(2,.c (.optr g2 0)),(3,.c (.optr g3 0)),(106,.c (pgs true a.pages)),(107,.c (.int .i64 a.pages.length)),(108,.c (.int .i64 i))]) (fun _=>[(g3,.cells 29 8 (ofL (mdc true b))),(g2,.cells 29 8 (ofL (mdc true a)))]) (fun i=>i≤a.pages.length∧∀j,j<i→a.pages.getD j pg0=b.pages.getD j pg0) (fun i=>a.pages.length-i) 0 (zB (oj hn_g2 hn_g3)) zZ ⟨Nat.zero_le _,fun j hj=>absurd hj om⟩ ?_
 rintro i ⟨hi,hs⟩
 all_goals try(have Z:=(oj hn_g2 hn_g3);(repeat' first|refine zV Z ?_|refine zH Z (fun hb=>?_) fun hb=>?_|fail);all_goals clear Z)
 ·have hi':=hb
  have hi2:i<b.pages.length:=by omega
  have hne:a.pages.getD i pg0≠b.pages.getD i pg0→decide (a.events=b.events∧a.houses=b.houses∧a.pages=b.pages)=false:=fun h=>decide_eq_false fun e=>h (by rw [e.2.2])
  have hs2:=fun h=>pre_succ (d:=pg0) hs h
  have w1:=wg i
  have w2:=wh i
  refine yA (oj hn_g2 hn_g3) fun g6 hn_g6=>?_
  all_goals try(have Z:=(oj hn_g2 (oj hn_g3 hn_g6));(repeat' first|refine zV Z ?_|refine zH Z (fun hb=>?_) fun hb=>?_|fail);all_goals clear Z)
  refine yA (oj hn_g2 (oj hn_g3 hn_g6)) fun g7 hn_g7=>?_
  generalize a.pages.getD i pg0=x at*
  generalize b.pages.getD i pg0=y at*
  have f1:=sameGates_fa x.gates y.gates (fun j=>⟨wf_mono (getD_all w1.2.2.2 gt0_o j).2.1 (by decide),Nat.le_trans (getD_all w1.2.2.2 gt0_o j).2.2.1 (by decide),Nat.le_trans (getD_all w2.2.2.2 gt0_o j).2.2.1 (by decide)⟩) (Nat.le_trans w1.2.2.1 (by decide)) (Nat.le_trans w2.2.2.1 (by decide))
  obtain⟨xn,xt,xg⟩:=x
  obtain⟨yn,yt,yg⟩:=y
  dsimp only at*
  clear w1 w2
  all_goals try(have Z:=(oj hn_g2 (oj hn_g3 (oj hn_g6 hn_g7)));(repeat' first|refine zV Z ?_|(refine yC2 Z (f1) ?_)|(refine yD2 Z (f1) ?_)|refine zH Z (fun hb=>?_) fun hb=>?_|fail);all_goals clear Z)
  all_goals clear f1
  all_goals first
   |(refine yT hC (oj hn_g2 (oj hn_g3 (oj hn_g6 hn_g7))) ?_
     exact .one (.c (ler_bool (hne (by simp_all)).symm)))
   |(refine aw_stop ⟨i+1,?_⟩
     have hs3:=hs2 (by simp_all)
     and_intros
     all_goals first|rfl|exact .cons _ (.cons _ (.refl _))|exact True.intro|exact hs3|omega)
 ·refine yT hC (oj hn_g2 hn_g3) ?_
  exact .one (.c (ler_bool (dec_t ⟨e1,e2,getD_ext pg0 l3 fun j hj=>hs j om⟩)))
end Go.Proofs.YtnmeahogifekdaaGreatDoor
namespace Go.Proofs.YtnmeahogifekdaaGreatDoor
open Go.AI Go.PN
attribute [local irreducible] aw Fa Fh DrK
theorem same_fa (a b:MdD) (ha:MdO a) (hbb:MdO b):Fa Tryz.prog 13 [.agg (mdc true a),.agg (mdc true b)] (.c (.bool (decide (a=b)))):=by
 have f1:=sameParts_fa a b ha hbb
 have f2:=sameGates_fa a.gates b.gates (fun j=>⟨wf_mono (getD_all ha.gt.2 gt0_o j).2.1 (by decide),Nat.le_trans (getD_all ha.gt.2 gt0_o j).2.2.1 (by decide),Nat.le_trans (getD_all hbb.gt.2 gt0_o j).2.2.1 (by decide)⟩) (Nat.le_trans ha.gt.1 (by decide)) (Nat.le_trans hbb.gt.1 (by decide))
 have a1:a.groups.length≤1099511627776:=Nat.le_trans ha.gr.1 (by decide)
 have a2:a.phases.length≤1099511627776:=Nat.le_trans ha.ph.1 (by decide)
 have a3:b.groups.length≤1099511627776:=Nat.le_trans hbb.gr.1 (by decide)
 have a4:b.phases.length≤1099511627776:=Nat.le_trans hbb.ph.1 (by decide)
 have v1:=fun i=>getD_all ha.gr.2 gr0_o i
 have v2:=fun i=>getD_all hbb.gr.2 gr0_o i
 have v3:=fun i=>getD_all ha.ph.2 ph0_o i
 have v4:=fun i=>getD_all hbb.ph.2 ph0_o i
 have hE:a.name=b.name→a.top=b.top→(a.events=b.events∧a.houses=b.houses∧a.pages=b.pages)→a.gates=b.gates→a.groups=b.groups→a.phases=b.phases→a=b:=by
  rintro q1 q2 ⟨q3,q4,q5⟩ q6 q7 q8
  cases a;cases b
  simp_all
 have n1:a.name≠b.name→decide (a=b)=false:=fun h=>decide_eq_false fun e=>h (by rw [e])
 have n2:a.top≠b.top→decide (a=b)=false:=fun h=>decide_eq_false fun e=>h (by rw [e])
 have n3:¬(a.events=b.events∧a.houses=b.houses∧a.pages=b.pages)→decide (a=b)=false:=fun h=>decide_eq_false fun e=>h (by rw [e];exact⟨rfl,rfl,rfl⟩)
 have n4:a.gates≠b.gates→decide (a=b)=false:=fun h=>decide_eq_false fun e=>h (by rw [e])
 have n5:a.groups.length≠b.groups.length→decide (a=b)=false:=fun h=>decide_eq_false fun e=>h (by rw [e])
 have n6:a.phases.length≠b.phases.length→decide (a=b)=false:=fun h=>decide_eq_false fun e=>h (by rw [e])
 have n7:∀i,a.groups.getD i gr0≠b.groups.getD i gr0→decide (a=b)=false:=fun i h=>decide_eq_false fun e=>h (by rw [e])
 have n8:∀i,a.phases.getD i ph0≠b.phases.getD i ph0→decide (a=b)=false:=fun i h=>decide_eq_false fun e=>h (by rw [e])
 generalize hX:decide (a=b)=X at*
 refine fa_of_body Tryz.func13 rfl rfl (by simp [Tryz.ntmps13]) fun C hC=> ?_
 simp only [initS,Nat.reduceAdd]
 repeat' first|refine zV o0 ?_|refine zH o0 (fun hb=>?_) fun hb=>?_|fail
 refine xB fun g2 hn_g2=>?_
 repeat' first|refine zV hn_g2 ?_|refine zH hn_g2 (fun hb=>?_) fun hb=>?_|fail
 refine yB hn_g2 fun g3 hn_g3=>?_
 all_goals try(have Z:=(oj hn_g2 hn_g3);(repeat' first|refine zV Z ?_|(refine yC2 Z (f1) ?_)|(refine yD2 Z (f1) ?_)|(refine yC2 Z (f2) ?_)|(refine yD2 Z (f2) ?_)|refine zH Z (fun hb=>?_) fun hb=>?_|fail);all_goals clear Z)
 ·refine yT hC (oj hn_g2 hn_g3) ?_
  exact .one (.c (ler_bool (n1 hb).symm))
 ·refine yT hC (oj hn_g2 hn_g3) ?_
  exact .one (.c (ler_bool (n2 hb).symm))
 ·refine yT hC (oj hn_g2 hn_g3) ?_
  exact .one (.c (ler_bool (n3 fun z=>by simp [z.1,z.2.1,z.2.2] at hb).symm))
 ·refine yT hC (oj hn_g2 hn_g3) ?_
  exact .one (.c (ler_bool (n4 (by simpa using hb)).symm))
 ·refine yT hC (oj hn_g2 hn_g3) ?_
  exact .one (.c (ler_bool (n5 hb).symm))
 ·refine yT hC (oj hn_g2 hn_g3) ?_
  exact .one (.c (ler_bool (n6 hb).symm))
 rename_i q1 q2 q3 q4 q5
 have q6:a.phases.length=b.phases.length:=by simpa using hb
 have q3:a.events=b.events∧a.houses=b.houses∧a.pages=b.pages:=by simpa using q3
 have q4:a.gates=b.gates:=by simpa using q4
 clear hb f1 f2 n1 n2 n3 n4 n5 n6
 refine aw_lp (fun i:Nat=>[(2,.c (.optr g2 0)),(3,.c (.optr g3 0)),(59,.c (grs true a.groups)),(60,.c (.int .i64 a.groups.length)),(61,.c (.int .i64 i))]) (fun _=>[(g3,.cells 29 8 (ofL (mdc true b))),(g2,.cells 29 8 (ofL (mdc true a)))]) (fun i=>i≤a.groups.length∧∀j,j<i→a.groups.getD j gr0=b.groups.getD j gr0) (fun i=>a.groups.length-i) 0 (zB (oj hn_g2 hn_g3)) zZ ⟨Nat.zero_le _,fun j hj=>absurd hj om⟩ ?_
 rintro i ⟨hi,hs⟩
 all_goals try(have Z:=(oj hn_g2 hn_g3);(repeat' first|refine zV Z ?_|refine zH Z (fun hb=>?_) fun hb=>?_|fail);all_goals clear Z)
 ·have hi':=hb
  have hi2:i<b.groups.length:=by omega
  have hs2:=fun h=>pre_succ (d:=gr0) hs h
  have hne:=n7 i
  have w1:=v1 i
  have w2:=v2 i
  refine yA (oj hn_g2 hn_g3) fun g6 hn_g6=>?_
  all_goals try(have Z:=(oj hn_g2 (oj hn_g3 hn_g6));(repeat' first|refine zV Z ?_|refine zH Z (fun hb=>?_) fun hb=>?_|fail);all_goals clear Z)
  refine yA (oj hn_g2 (oj hn_g3 hn_g6)) fun g7 hn_g7=>?_
  generalize a.groups.getD i gr0=x at*
  generalize b.groups.getD i gr0=y at*
  have f1:=texts_fa x.members y.members (Nat.le_trans w1.2.1 (by decide)) (Nat.le_trans w2.2.1 (by decide))
  have f2:=rats_fa x.factors y.factors (fun j=>wf_mono (getD_all w1.2.2.2.2 rd0_ok j) (by decide)) (Nat.le_trans w1.2.2.2.1 (by decide)) (Nat.le_trans w2.2.2.2.1 (by decide))
  obtain⟨xn,xk,xm,xf⟩:=x
  obtain⟨yn,yk,ym,yf⟩:=y
  dsimp only at*
  clear w1 w2
  all_goals try(have Z:=(oj hn_g2 (oj hn_g3 (oj hn_g6 hn_g7)));(repeat' first|refine zV Z ?_|(refine yC2 Z (f1) ?_)|(refine yD2 Z (f1) ?_)|(refine yC2 Z (f2) ?_)|(refine yD2 Z (f2) ?_)|refine zH Z (fun hb=>?_) fun hb=>?_|fail);all_goals clear Z)
  all_goals clear f1 f2
  all_goals first
   |(refine yT hC (oj hn_g2 (oj hn_g3 (oj hn_g6 hn_g7))) ?_
     exact .one (.c (ler_bool (hne (by simp_all)).symm)))
   |(refine aw_stop ⟨i+1,?_⟩
     have hs3:=hs2 (by simp_all)
     and_intros
     all_goals first|rfl|exact .cons _ (.cons _ (.refl _))|exact True.intro|exact hs3|omega)
 have q7:a.groups=b.groups:=getD_ext gr0 q5 fun j hj=>hs j om
 clear hs hi hb
 refine aw_lp (fun i:Nat=>[(2,.c (.optr g2 0)),(3,.c (.optr g3 0)),(101,.c (phs true a.phases)),(102,.c (.int .i64 a.phases.length)),(103,.c (.int .i64 i))]) (fun _=>[(g3,.cells 29 8 (ofL (mdc true b))),(g2,.cells 29 8 (ofL (mdc true a)))]) (fun i=>i≤a.phases.length∧∀j,j<i→a.phases.getD j ph0=b.phases.getD j ph0) (fun i=>a.phases.length-i) 0 (zB (oj hn_g2 hn_g3)) zZ ⟨Nat.zero_le _,fun j hj=>absurd hj om⟩ ?_
 rintro i ⟨hi,hs⟩
 all_goals try(have Z:=(oj hn_g2 hn_g3);(repeat' first|refine zV Z ?_|refine zH Z (fun hb=>?_) fun hb=>?_|fail);all_goals clear Z)
 ·have hi':=hb
  have hi2:i<b.phases.length:=by omega
  have hs2:=fun h=>pre_succ (d:=ph0) hs h
  have hne:=n8 i
  have w1:=v3 i
  have w2:=v4 i
  refine yA (oj hn_g2 hn_g3) fun g6 hn_g6=>?_
  all_goals try(have Z:=(oj hn_g2 (oj hn_g3 hn_g6));(repeat' first|refine zV Z ?_|refine zH Z (fun hb=>?_) fun hb=>?_|fail);all_goals clear Z)
  refine yA (oj hn_g2 (oj hn_g3 hn_g6)) fun g7 hn_g7=>?_
  generalize a.phases.getD i ph0=x at*
  generalize b.phases.getD i ph0=y at*
  obtain⟨xn,xt,xv⟩:=x
  obtain⟨yn,yt,yv⟩:=y
  dsimp only at*
  have u1:xv.length≤1099511627776:=Nat.le_trans w1.2.2.1 (by decide)
  have u2:yv.length≤1099511627776:=Nat.le_trans w2.2.2.1 (by decide)
  all_goals try(have Z:=(oj hn_g2 (oj hn_g3 (oj hn_g6 hn_g7)));(repeat' first|refine zV Z ?_|refine zH Z (fun hb=>?_) fun hb=>?_|fail);all_goals clear Z)
  ·refine yT hC (oj hn_g2 (oj hn_g3 (oj hn_g6 hn_g7))) ?_
   exact .one (.c (ler_bool (hne (by simp_all)).symm))
  ·refine yT hC (oj hn_g2 (oj hn_g3 (oj hn_g6 hn_g7))) ?_
   exact .one (.c (ler_bool (hne (by simp_all)).symm))
  ·refine yT hC (oj hn_g2 (oj hn_g3 (oj hn_g6 hn_g7))) ?_
   exact .one (.c (ler_bool (hne (fun e=>hb (by rw [(PhD.mk.inj e).2.2]))).symm))
  rename_i r1 r2
  have r3:xv.length=yv.length:=by simpa using hb
  clear hb
  refine aw_lp (fun k:Nat=>[(2,.c (.optr g2 0)),(3,.c (.optr g3 0)),(10,.c (.optr g7 0)),(101,.c (phs true a.phases)),(102,.c (.int .i64 a.phases.length)),(103,.c (.int .i64 i)),(135,.c (vls true xv)),(136,.c (.int .i64 xv.length)),(137,.c (.int .i64 k))]) (fun _=>[(g7,.cells 66 3 (ofL (phc ⟨yn,yt,yv⟩))),(g3,.cells 29 8 (ofL (mdc true b))),(g2,.cells 29 8 (ofL (mdc true a)))]) (fun k=>k≤xv.length∧∀j,j<k→xv.getD j vl0=yv.getD j vl0) (fun k=>xv.length-k) 0 (zB (oj hn_g2 (oj hn_g3 (oj hn_g6 hn_g7)))) (by first|exact .refl _|exact .cons _ (.refl _)|exact .cons_cons _ (.cons _ (.refl _))) ⟨Nat.zero_le _,fun j hj=>absurd hj om⟩ ?_
  rintro k ⟨hk,ht⟩
  all_goals try(have Z:=(oj hn_g2 (oj hn_g3 (oj hn_g6 hn_g7)));(repeat' first|refine zV Z ?_|refine zH Z (fun hb=>?_) fun hb=>?_|fail);all_goals clear Z)
  ·have hk':=hb
   have hk2:k<yv.length:=by omega
   have ht2:=fun h=>pre_succ (d:=vl0) ht h
   have hne2:xv.getD k vl0≠yv.getD k vl0→X=false:=fun h=>hne (fun e=>h (by rw [(PhD.mk.inj e).2.2]))
   have w3:=(getD_all w1.2.2.2 vl0_o k).2
   refine yA (oj hn_g2 (oj hn_g3 (oj hn_g6 hn_g7))) fun g8 hn_g8=>?_
   all_goals try(have Z:=(oj hn_g2 (oj hn_g3 (oj hn_g6 (oj hn_g7 hn_g8))));(repeat' first|refine zV Z ?_|refine zH Z (fun hb=>?_) fun hb=>?_|fail);all_goals clear Z)
   refine yA (oj hn_g2 (oj hn_g3 (oj hn_g6 (oj hn_g7 hn_g8)))) fun g9 hn_g9=>?_
   generalize xv.getD k vl0=p at*
   generalize yv.getD k vl0=q at*
   have f1:=ratEq_fa p.p q.p (wf_mono w3 (by decide))
   obtain⟨pe,pp⟩:=p
   obtain⟨qe,qp⟩:=q
   dsimp only at*
   all_goals try(have Z:=(oj hn_g2 (oj hn_g3 (oj hn_g6 (oj hn_g7 (oj hn_g8 hn_g9)))));(repeat' first|refine zV Z ?_|(refine yC2 Z (f1) ?_)|(refine yD2 Z (f1) ?_)|refine zH Z (fun hb=>?_) fun hb=>?_|fail);all_goals clear Z)
   all_goals clear f1
   all_goals first
    |(refine yT hC (oj hn_g2 (oj hn_g3 (oj hn_g6 (oj hn_g7 (oj hn_g8 hn_g9))))) ?_
      exact .one (.c (ler_bool (hne2 (by simp_all)).symm)))
    |(refine aw_stop ⟨k+1,?_⟩
      have ht3:=ht2 (by simp_all)
      and_intros
      all_goals first|rfl|exact .cons _ (.cons _ (.refl _))|exact True.intro|exact ht3|omega)
  ·have r4:xv=yv:=getD_ext vl0 r3 fun j hj=>ht j om
   all_goals try(have Z:=(oj hn_g2 (oj hn_g3 (oj hn_g6 hn_g7)));(repeat' first|refine zV Z ?_|refine zH Z (fun hb=>?_) fun hb=>?_|fail);all_goals clear Z)
   refine aw_stop ⟨i+1,?_⟩
   have hs3:=hs2 (by simp_all)
   and_intros
   all_goals first|rfl|exact .cons _ (.refl _)|exact True.intro|exact hs3|omega
 ·have q8:a.phases=b.phases:=getD_ext ph0 q6 fun j hj=>hs j om
  refine yT hC (oj hn_g2 hn_g3) ?_
  rw [←hX]
  exact .one (.c (ler_bool (dec_t (hE q1 q2 q3 q4 q7 q8))))
end Go.Proofs.YtnmeahogifekdaaGreatDoor
