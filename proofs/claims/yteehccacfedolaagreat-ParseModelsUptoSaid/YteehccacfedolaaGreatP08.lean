/- Parts of one proof, laid by a program. -/
import Derived.Test.YteehccacfedolaaGreatP00
import Derived.Test.YteehccacfedolaaGreatP07
set_option linter.unusedSimpArgs false
set_option linter.unusedVariables false
set_option maxRecDepth 100000
set_option maxHeartbeats 12800000
namespace Go.PN
open Go.AI
variable {α β γ δ : Type}
theorem stk_e {f:PS→α×PS} (hf:Rdr f) {s:PS} (h:s.e≠0):(f s).2.e=s.e:=by rw [hf.stk s h]
theorem rdr_inB (x:List BS):Rdr (inB x):=Rdr.bnd rdr_input fun t=>rdr_pure (x++[t])
theorem con_inB (x:List BS):Con (inB x):=Con.bnd con_input fun t=>rdr_pure (x++[t])
def insS (s:PS):List BS×PS:=let q:=lpS (fun s=> !isS s kSemi) inB [] s
 (q.1,expS kSemi q.2)
theorem rdr_ins:Rdr insS:=Rdr.bnd (rdr_lp rdr_inB []) fun q=>Rdr.bnd (rdr_exp kSemi) fun _=>rdr_pure q
theorem inBR_eq {x:List BS} {s:PS} (ok:TksOk s.l):inB x s=inBR x s:=by unfold inB inBR;rw [input_eq ok]
theorem Agr.loop' {R:α→β→Prop} {T:γ→δ→Prop} {c c':PS→Bool} {b:α→PS→α×PS} {b':β→PS→β×PS} {k:α→PS→γ×PS} {k':β→PS→δ×PS}
  (rb:∀a,Rdr (b a)) (cb:∀a,Con (b a)) (rb':∀a,Rdr (b' a)) (cb':∀a,Con (b' a)) (rk:∀a,Rdr (k a)) (rk':∀a,Rdr (k' a)) (hc:∀s,TksOk s.l→s.e=0→c s=c' s)
  (hb:∀a a',R a a'→∀s,TksOk s.l→s.e=0→c s=true→(b a s).2.e=(b' a' s).2.e∧((b a s).2.e=0→(b a s).2=(b' a' s).2∧R (b a s).1 (b' a' s).1))
  (hk:∀a a',R a a'→Agr T (k a) (k' a')):∀a a',R a a'→Agr T (PN.bnd (lpS c b a) k) (PN.bnd (lpS c' b' a') k'):=
 Agr.loop rb rk rk' (fun a s h _=>cb a s h) (fun a s h _=>cb' a s h) (fun a a' s hr ok e0 h1 _=>hb a a' hr s ok e0 h1)
  (fun a a' s ok e0 h1 h2=>by rw [hc s ok e0,h2] at h1;cases h1) (fun a a' s ok e0 h1 h2=>by rw [hc s ok e0,h2] at h1;cases h1) (fun a a' s hr ok e0 _ _=>hk a a' hr s ok e0)
theorem rdr_wordR:Rdr wordR:=rdr_takeR 0 []
theorem con_wordR:Con wordR:=con_take _
theorem rdr_inputR:Rdr inputR:=rdr_ite (c:=fun s=>nextR s 2 kAt=true) (Rdr.bnd (rdr_tk 2 kAt) fun _=>Rdr.bnd rdr_wordR fun t=>rdr_pure (64::t)) rdr_wordR
theorem con_inputR:Con inputR:=Con.ite (c:=fun s=>nextR s 2 kAt=true) (Con.bnd (con_tk 2 kAt) fun _=>Rdr.bnd rdr_wordR fun t=>rdr_pure (64::t)) con_wordR
theorem agr_word:Agr Eq wordS wordR:=by rw [wordR_eq];exact Agr.of_eq fun _ _=>rfl
theorem agr_input:Agr Eq inputS inputR:=Agr.of_eq fun _ ok=>input_eq ok
theorem agr_sg {w:BS} (hw:isSg w=true):Agr Eq (fun s=>((),expS w s)) (fun s=>((),(takeR s 2 w).2)):=Agr.of_eq fun s ok=>by rw [exp_sg ok hw]
theorem agr_wd {w:BS} (hw:isWd w=true):Agr Eq (fun s=>((),expS w s)) (fun s=>((),(takeR s 0 w).2)):=Agr.of_eq fun s ok=>by rw [exp_wd ok hw]
theorem agr_num:Agr Eq numS numS:=Agr.of_eq fun _ _=>rfl
theorem rdr_inBR (x:List BS):Rdr (inBR x):=Rdr.bnd rdr_inputR fun t=>rdr_pure (x++[t])
theorem con_inBR' (x:List BS):Con (inBR x):=Con.bnd con_inputR fun t=>rdr_pure (x++[t])
theorem agr_ins:Agr Eq insS inputsR:=
 Agr.loop' (R:=Eq) (k:=fun q s=>(q,expS kSemi s)) (k':=fun q s=>(q,(takeR s 2 kSemi).2)) rdr_inB con_inB rdr_inBR con_inBR' (fun q=>Rdr.bnd (rdr_exp kSemi) fun _=>rdr_pure q) (fun q=>Rdr.bnd (rdr_tk 2 kSemi) fun _=>rdr_pure q)
  (fun s ok _=>by rw [isS_sg ok (by rfl)]) (fun a a' h s ok _ _=>by subst h;rw [inBR_eq ok];exact⟨rfl,fun _=>⟨rfl,rfl⟩⟩)
  (fun a a' h=>Agr.bnd (agr_sg (by rfl)) (rdr_exp _) (fun _ _ _=>Agr.pure h) (fun _=>rdr_pure _) (fun _=>rdr_pure _)) [] [] rfl
theorem rdr_inputsR:Rdr inputsR:=Rdr.bnd (rdr_lp rdr_inBR []) fun q=>Rdr.bnd (rdr_tk 2 kSemi) fun _=>rdr_pure q
def kdS (s:PS):Option Int:=if kindS s 0 then gkind (hdT s) else none
def gkS (s:PS):Option Int×PS:=(kdS s,(takeS (kdS s).isSome s).2)
theorem gkind_nil:gkind []=none:=by decide
theorem take_nil {m:Bool} {s:PS} (e0:s.e=0) (h:s.l=[]):takeS m s=([],⟨[],20⟩):=by unfold takeS;rw [if_pos e0,h]
theorem take_cons {m:Bool} {s:PS} {t:TK} {l:List TK} (e0:s.e=0) (h:s.l=t::l):takeS m s=if m then(t.text,⟨l,0⟩) else([],⟨t::l,2⟩):=by unfold takeS;rw [if_pos e0,h]
theorem kind_nil {k:Nat} {s:PS} (h:s.l=[]):kindS s k=false:=by unfold kindS;rw [h];simp
theorem kind_cons {k:Nat} {s:PS} {t:TK} {l:List TK} (e0:s.e=0) (h:s.l=t::l):kindS s k=(t.kind==k):=by unfold kindS;rw [h,e0];simp
theorem next_nil {k:Nat} {w:BS} {s:PS} (h:s.l=[]):nextR s k w=false:=by unfold nextR;rw [h];simp
theorem next_cons {k:Nat} {w:BS} {s:PS} {t:TK} {l:List TK} (e0:s.e=0) (h:s.l=t::l):nextR s k w=(t.kind==k&&(w==[]||t.text==w)):=by unfold nextR;rw [h,e0];simp
theorem rdr_gk:Rdr gkS:=by
 have h:=rdr_take fun s=>(kdS s).isSome
 exact⟨fun s=>h.suf s,fun s h0=>h.stk s h0⟩
theorem gk_cases {s:PS} (e0:s.e=0):(∃k,gkind (wordS s).1=some k∧(wordS s).2.e=0∧gkS s=(some k,(wordS s).2))∨((gkS s).2.e≠0∧gkind (wordS s).1=none∧(failS 2 (wordS s).2).e=(gkS s).2.e):=by
 unfold gkS wordS kdS
 cases hl:s.l with
 |nil=>
  rw [take_nil e0 hl,take_nil e0 hl,kind_nil hl]
  right
  exact⟨by simp,gkind_nil,by simp [failS]⟩
 |cons t l=>
  rw [take_cons e0 hl,take_cons e0 hl,kind_cons e0 hl]
  have hh:hdT s=t.text:=by unfold hdT;rw [hl]
  rw [hh]
  by_cases hk:t.kind=0
  ·rw [hk]
   simp only [beq_self_eq_true,if_true]
   cases hg:gkind t.text with
   |some k=>left;exact⟨k,by simp [hg],by simp,by simp⟩
   |none=>right;exact⟨by simp,by simp [hg],by simp [failS]⟩
  ·have:(t.kind==0)=false:=by simp [hk]
   rw [this]
   right
   exact⟨by simp,by simp [gkind_nil],by simp [failS]⟩
def gtK (nm:BS) (k:Option Int):PS→GtD×PS:=PN.bnd (fun s=>if k=some 2 then wholeS s else(0,s)) fun v=>PN.bnd (fun s=>if k=some 7 then numS s else(rd0,s)) fun d=>PN.bnd insS fun q s=>(⟨nm,k.getD 0,v,q,d⟩,s)
def gtKR (nm:BS) (k:Int):PS→GtD×PS:=PN.bnd (fun s=>if k=2 then wholeR s else(0,s)) fun v=>PN.bnd (fun s=>if k=7 then numR s else(rd0,s)) fun d=>PN.bnd inputsR fun q s=>(⟨nm,k,v,q,d⟩,s)
theorem rdr_gtK (nm:BS) (k:Option Int):Rdr (gtK nm k):=Rdr.bnd (rdr_ite rdr_whole (rdr_pure 0)) fun _=>Rdr.bnd (rdr_ite rdr_num (rdr_pure rd0)) fun _=>Rdr.bnd rdr_ins fun _=>rdr_pure _
theorem rdr_gtKR (nm:BS) (k:Int):Rdr (gtKR nm k):=by
 unfold gtKR
 rw [wholeR_eq,numR_eq]
 exact Rdr.bnd (rdr_ite rdr_whole (rdr_pure 0)) fun _=>Rdr.bnd (rdr_ite rdr_num (rdr_pure rd0)) fun _=>Rdr.bnd rdr_inputsR fun _=>rdr_pure _
theorem agr_gtK (nm:BS) (k:Int):Agr Eq (gtK nm (some k)) (gtKR nm k):=by
 unfold gtK gtKR
 rw [wholeR_eq,numR_eq]
 simp only [Option.some.injEq,Option.getD_some]
 refine Agr.bnd (R:=Eq) (Agr.of_eq fun _ _=>rfl) (rdr_ite rdr_whole (rdr_pure 0)) (fun v v' hv=> ?_) (fun _=>Rdr.bnd (rdr_ite rdr_num (rdr_pure rd0)) fun _=>Rdr.bnd rdr_ins fun _=>rdr_pure _) (fun _=>Rdr.bnd (rdr_ite rdr_num (rdr_pure rd0)) fun _=>Rdr.bnd rdr_inputsR fun _=>rdr_pure _)
 subst hv
 refine Agr.bnd (R:=Eq) (Agr.of_eq fun _ _=>rfl) (rdr_ite rdr_num (rdr_pure rd0)) (fun d d' hd=> ?_) (fun _=>Rdr.bnd rdr_ins fun _=>rdr_pure _) (fun _=>Rdr.bnd rdr_inputsR fun _=>rdr_pure _)
 subst hd
 refine Agr.bnd agr_ins rdr_ins (fun q q' hq=> ?_) (fun _=>rdr_pure _) (fun _=>rdr_pure _)
 subst hq
 exact Agr.pure rfl
theorem gateS_eq:gateS=PN.bnd wordS fun nm=>PN.bnd gkS fun k=>gtK nm k:=rfl
def gtR2 (nm:BS) (s:PS):GtD×PS:=match gkind (wordR s).1 with
 |none=>(gt0,failS 2 (wordR s).2)
 |some k=>gtKR nm k (wordR s).2
theorem gateR_eq:gateR=PN.bnd wordR gtR2:=rfl
theorem rdr_gate:Rdr gateS:=by rw [gateS_eq];exact Rdr.bnd rdr_word fun nm=>Rdr.bnd rdr_gk fun k=>rdr_gtK nm k
theorem rdr_gtR2 (nm:BS):Rdr (gtR2 nm):=by
 refine⟨fun s=> ?_,fun s h=> ?_⟩
 ·unfold gtR2
  split
  ·exact((rdr_fail (fun _=>2) gt0).suf (wordR s).2).trans (rdr_wordR.suf s)
  ·exact((rdr_gtKR nm _).suf _).trans (rdr_wordR.suf s)
 ·have h1:=rdr_wordR.stk s h
  unfold gtR2
  rw [h1]
  split
  ·exact(rdr_fail (fun _=>2) gt0).stk s h
  ·exact(rdr_gtKR nm _).stk s h
theorem rdr_gateR:Rdr gateR:=by rw [gateR_eq];exact Rdr.bnd rdr_wordR rdr_gtR2
theorem agr_gate:Agr Eq gateS gateR:=by
 rw [gateS_eq,gateR_eq]
 refine Agr.bnd agr_word rdr_word (fun nm nm' h=> ?_) (fun nm=>Rdr.bnd rdr_gk fun k=>rdr_gtK nm k) rdr_gtR2
 subst h
 intro s ok e0
 show((gtK nm (gkS s).1 (gkS s).2).2.e=_)∧((gtK nm (gkS s).1 (gkS s).2).2.e=0→(gtK nm (gkS s).1 (gkS s).2).2=_∧(gtK nm (gkS s).1 (gkS s).2).1=_)
 unfold gtR2
 rw [wordR_eq]
 rcases gk_cases e0 with ⟨k,h1,h2,h3⟩|⟨h1,h2,h3⟩
 ·rw [h3,h1]
  exact agr_gtK nm k (wordS s).2 (ok.suf (rdr_word.suf s)) h2
 ·rw [h2]
  dsimp only
  have h4:=stk_e (rdr_gtK nm (gkS s).1) h1
  exact⟨h4.trans h3.symm,fun x=>absurd (h4.symm.trans x) h1⟩
end Go.PN
namespace Go.PN
open Go.AI
variable {α β γ δ : Type}
theorem is_nil {w:BS} {s:PS} (h:s.l=[]):isS s w=false:=by unfold isS;rw [h];simp
theorem is_cons {w:BS} {s:PS} {t:TK} {l:List TK} (e0:s.e=0) (h:s.l=t::l):isS s w=(t.kind !=1&&t.text==w):=by unfold isS;rw [h,e0];simp
theorem hd_cons {s:PS} {t:TK} {l:List TK} (h:s.l=t::l):hdT s=t.text:=by unfold hdT;rw [h]
theorem word_cons {s:PS} {t:TK} {l:List TK} (e0:s.e=0) (h:s.l=t::l) (hk:t.kind=0):wordS s=(t.text,⟨l,0⟩):=by
 unfold wordS
 rw [take_cons e0 h,kind_cons e0 h,hk];rfl
structure EvR (x:List BS×EvD) (y:List Bool×EvD):Prop where
 ev:x.2=y.2
 len:y.1.length=4
 p:x.1.contains kP=y.1.getD 0 false
 f:x.1.contains kFail=y.1.getD 1 false
 r:x.1.contains kRepair=y.1.getD 2 false
 c:x.1.contains kCost=y.1.getD 3 false
theorem set4 {l:List Bool} (h:l.length=4) (k j:Nat) (hk:k<4):(l.set k true).getD j false=if k=j then true else l.getD j false:=by
 rw [List.getD_eq_getElem?_getD,List.getElem?_set]
 by_cases e:k=j
 ·subst e;rw [if_pos rfl,if_pos om,if_pos rfl];rfl
 ·rw [if_neg e,if_neg e,List.getD_eq_getElem?_getD]
theorem EvR.cons {x:List BS×EvD} {y:List Bool×EvD} (h:EvR x y) (k:Nat) (w:BS) (hw:(k=0∧w=kP)∨(k=1∧w=kFail)∨(k=2∧w=kRepair)∨(k=3∧w=kCost)) {u v:EvD} (e:u=v):EvR (w::x.1,u) (y.1.set k true,v):=by
 have hp:=h.p
 have hf:=h.f
 have hr:=h.r
 have hc:=h.c
 refine⟨e,by rw [List.length_set];exact h.len,?_,?_,?_,?_⟩
 all_goals
  dsimp only
  rw [List.contains_cons,set4 h.len k _ om]
  rcases hw with ⟨rfl,rfl⟩|⟨rfl,rfl⟩|⟨rfl,rfl⟩|⟨rfl,rfl⟩
  all_goals first|(rw [hp];rfl)|(rw [hf];rfl)|(rw [hr];rfl)|(rw [hc];rfl)|rfl
theorem at_none {s:PS} (h0:nextR s 0 kP=false) (h1:nextR s 0 kFail=false) (h2:nextR s 0 kRepair=false) (h3:nextR s 0 kCost=false):atR s=none:=by unfold atR;simp [h0,h1,h2,h3]
theorem evB_eq {x:List BS×EvD} {y:List Bool×EvD} (hR:EvR x y) {s:PS} (ok:TksOk s.l) (e0:s.e=0):(evB x s).2.e=(evBR y s).2.e∧((evB x s).2.e=0→(evB x s).2=(evBR y s).2∧EvR (evB x s).1 (evBR y s).1):=by
 cases hl:s.l with
 |nil=>
  unfold evB evBR
  rw [isS_wd ok (w:=kP) rfl,isS_wd ok (w:=kFail) rfl,isS_wd ok (w:=kRepair) rfl,isS_wd ok (w:=kCost) rfl]
  rw [at_none (next_nil hl) (next_nil hl) (next_nil hl) (next_nil hl)]
  simp only [next_nil hl,Bool.or_self,Bool.false_and,Bool.false_eq_true,if_false,take_nil e0 hl]
  exact⟨by simp [failS,e0,hl],fun h=>absurd h (by simp)⟩
 |cons t l=>
  by_cases hk:t.kind=0
  ·by_cases hany:t.text=kP∨t.text=kFail∨t.text=kRepair∨t.text=kCost
   ·have hn:∀w:BS,(w==[])=false→nextR s 0 w=(t.text==w):=fun w hw=>by rw [next_cons e0 hl,hk,hw];simp
    have ha:atR s=if t.text==kCost then some 3 else if t.text==kRepair then some 2 else if t.text==kFail then some 1 else if t.text==kP then some 0 else none:=by
     unfold atR
     rw [hn kP rfl,hn kFail rfl,hn kRepair rfl,hn kCost rfl]
    rcases hany with h|h|h|h
    ·have h1:evB x s=if x.1.contains kP=true then(x,failS 6 s) else((kP::x.1,{x.2 with p:=(numS ⟨l,0⟩).1}),(numS ⟨l,0⟩).2):=by
      unfold evB
      rw [isS_wd ok (w:=kP) rfl,isS_wd ok (w:=kFail) rfl,isS_wd ok (w:=kRepair) rfl,isS_wd ok (w:=kCost) rfl,hn kP rfl,hn kFail rfl,hn kRepair rfl,hn kCost rfl,hd_cons hl,h]
      dsimp only
      rw [take_cons e0 hl,h]
      rfl
     have h2:evBR y s=if y.1.getD 0 false=true then(y,failS 6 s) else((y.1.set 0 true,{y.2 with p:=(numS ⟨l,0⟩).1}),(numS ⟨l,0⟩).2):=by
      unfold evBR
      rw [ha,h,wordR_eq,numR_eq,wholeR_eq,word_cons e0 hl hk]
      rfl
     rw [h1,h2,hR.p]
     by_cases hx:y.1.getD 0 false=true
     ·rw [if_pos hx,if_pos hx]
      exact⟨rfl,fun z=>absurd z (by simp [failS,e0])⟩
     ·rw [if_neg hx,if_neg hx]
      exact⟨rfl,fun _=>⟨rfl,hR.cons 0 kP (.inl ⟨rfl,rfl⟩) (by rw [hR.ev])⟩⟩
    ·have h1:evB x s=if x.1.contains kFail=true then(x,failS 6 s) else((kFail::x.1,{x.2 with fail:=(numS ⟨l,0⟩).1}),(numS ⟨l,0⟩).2):=by
      unfold evB
      rw [isS_wd ok (w:=kP) rfl,isS_wd ok (w:=kFail) rfl,isS_wd ok (w:=kRepair) rfl,isS_wd ok (w:=kCost) rfl,hn kP rfl,hn kFail rfl,hn kRepair rfl,hn kCost rfl,hd_cons hl,h]
      dsimp only
      rw [take_cons e0 hl,h]
      rfl
     have h2:evBR y s=if y.1.getD 1 false=true then(y,failS 6 s) else((y.1.set 1 true,{y.2 with fail:=(numS ⟨l,0⟩).1}),(numS ⟨l,0⟩).2):=by
      unfold evBR
      rw [ha,h,wordR_eq,numR_eq,wholeR_eq,word_cons e0 hl hk]
      rfl
     rw [h1,h2,hR.f]
     by_cases hx:y.1.getD 1 false=true
     ·rw [if_pos hx,if_pos hx]
      exact⟨rfl,fun z=>absurd z (by simp [failS,e0])⟩
     ·rw [if_neg hx,if_neg hx]
      exact⟨rfl,fun _=>⟨rfl,hR.cons 1 kFail (.inr (.inl ⟨rfl,rfl⟩)) (by rw [hR.ev])⟩⟩
    ·have h1:evB x s=if x.1.contains kRepair=true then(x,failS 6 s) else((kRepair::x.1,{x.2 with rep:=(numS ⟨l,0⟩).1}),(numS ⟨l,0⟩).2):=by
      unfold evB
      rw [isS_wd ok (w:=kP) rfl,isS_wd ok (w:=kFail) rfl,isS_wd ok (w:=kRepair) rfl,isS_wd ok (w:=kCost) rfl,hn kP rfl,hn kFail rfl,hn kRepair rfl,hn kCost rfl,hd_cons hl,h]
      dsimp only
      rw [take_cons e0 hl,h]
      rfl
     have h2:evBR y s=if y.1.getD 2 false=true then(y,failS 6 s) else((y.1.set 2 true,{y.2 with rep:=(numS ⟨l,0⟩).1}),(numS ⟨l,0⟩).2):=by
      unfold evBR
      rw [ha,h,wordR_eq,numR_eq,wholeR_eq,word_cons e0 hl hk]
      rfl
     rw [h1,h2,hR.r]
     by_cases hx:y.1.getD 2 false=true
     ·rw [if_pos hx,if_pos hx]
      exact⟨rfl,fun z=>absurd z (by simp [failS,e0])⟩
     ·rw [if_neg hx,if_neg hx]
      exact⟨rfl,fun _=>⟨rfl,hR.cons 2 kRepair (.inr (.inr (.inl ⟨rfl,rfl⟩))) (by rw [hR.ev])⟩⟩
    ·have h1:evB x s=if x.1.contains kCost=true then(x,failS 6 s) else((kCost::x.1,{x.2 with cost:=(wholeS ⟨l,0⟩).1}),(wholeS ⟨l,0⟩).2):=by
      unfold evB
      rw [isS_wd ok (w:=kP) rfl,isS_wd ok (w:=kFail) rfl,isS_wd ok (w:=kRepair) rfl,isS_wd ok (w:=kCost) rfl,hn kP rfl,hn kFail rfl,hn kRepair rfl,hn kCost rfl,hd_cons hl,h]
      dsimp only
      rw [take_cons e0 hl,h]
      rfl
     have h2:evBR y s=if y.1.getD 3 false=true then(y,failS 6 s) else((y.1.set 3 true,{y.2 with cost:=(wholeS ⟨l,0⟩).1}),(wholeS ⟨l,0⟩).2):=by
      unfold evBR
      rw [ha,h,wordR_eq,numR_eq,wholeR_eq,word_cons e0 hl hk]
      rfl
     rw [h1,h2,hR.c]
     by_cases hx:y.1.getD 3 false=true
     ·rw [if_pos hx,if_pos hx]
      exact⟨rfl,fun z=>absurd z (by simp [failS,e0])⟩
     ·rw [if_neg hx,if_neg hx]
      exact⟨rfl,fun _=>⟨rfl,hR.cons 3 kCost (.inr (.inr (.inr ⟨rfl,rfl⟩))) (by rw [hR.ev])⟩⟩
   ·have hn:∀w:BS,(w==[])=false→(t.text==w)=false→nextR s 0 w=false:=fun w hw h=>by rw [next_cons e0 hl,hw,h];simp
    have n0:=hn kP rfl (by simpa using fun h=>hany (.inl h))
    have n1:=hn kFail rfl (by simpa using fun h=>hany (.inr (.inl h)))
    have n2:=hn kRepair rfl (by simpa using fun h=>hany (.inr (.inr (.inl h))))
    have n3:=hn kCost rfl (by simpa using fun h=>hany (.inr (.inr (.inr h))))
    unfold evB evBR
    rw [isS_wd ok (w:=kP) rfl,isS_wd ok (w:=kFail) rfl,isS_wd ok (w:=kRepair) rfl,isS_wd ok (w:=kCost) rfl,at_none n0 n1 n2 n3,n0,n1,n2,n3]
    simp only [Bool.or_self,Bool.false_and,Bool.false_eq_true,if_false,take_cons e0 hl]
    exact⟨by simp [failS,e0,hl],fun h=>absurd h (by simp)⟩
  ·have hn:∀w:BS,nextR s 0 w=false:=fun w=>by rw [next_cons e0 hl];simp [hk]
   unfold evB evBR
   rw [isS_wd ok (w:=kP) rfl,isS_wd ok (w:=kFail) rfl,isS_wd ok (w:=kRepair) rfl,isS_wd ok (w:=kCost) rfl,at_none (hn _) (hn _) (hn _) (hn _),hn,hn,hn,hn]
   simp only [Bool.or_self,Bool.false_and,Bool.false_eq_true,if_false,take_cons e0 hl]
   exact⟨by simp [failS,e0,hl],fun h=>absurd h (by simp)⟩
theorem rdr_evB (x:List BS×EvD):Rdr (evB x):=by
 refine⟨fun s=> ?_,fun s h=> ?_⟩
 ·have ht:=(rdr_take fun s=>isS s kP||isS s kFail||isS s kRepair||isS s kCost).suf s
  unfold evB
  dsimp only at ht⊢
  split
  ·exact(rdr_fail (fun _=>6) x).suf s
  ·repeat' split
   all_goals first|exact(rdr_num.suf _).trans ht|exact(rdr_whole.suf _).trans ht|exact ht
 ·have ht:=(rdr_take fun s=>isS s kP||isS s kFail||isS s kRepair||isS s kCost).stk s h
  have hv:∀m,takeS m s=([],s):=fun m=>by unfold takeS;rw [if_neg h]
  have hz:∀w,isS s w=false:=fun w=>by unfold isS;simp [h]
  unfold evB
  dsimp only
  rw [hz,hz,hz,hz,hv]
  rfl
theorem con_evB (x:List BS×EvD):Con (evB x):=by
 intro s e0
 have ht:=con_take (fun s=>isS s kP||isS s kFail||isS s kRepair||isS s kCost) s e0
 dsimp only at ht
 unfold evB
 dsimp only
 split
 ·show mS (failS 6 s)<mS s
  unfold failS mS
  rw [if_pos e0,if_pos e0];simp
 ·repeat' split
  all_goals first|exact Nat.lt_of_le_of_lt (rdr_mS rdr_num _) ht|exact Nat.lt_of_le_of_lt (rdr_mS rdr_whole _) ht|exact ht
theorem at_stk {s:PS} (h:s.e≠0):atR s=none:=by
 have hz:∀w,nextR s 0 w=false:=fun w=>by unfold nextR;simp [h]
 exact at_none (hz _) (hz _) (hz _) (hz _)
theorem rdr_evBR (y:List Bool×EvD):Rdr (evBR y):=by
 refine⟨fun s=> ?_,fun s h=> ?_⟩
 ·have ht:=rdr_wordR.suf s
  unfold evBR
  rw [numR_eq,wholeR_eq]
  split
  ·exact(rdr_fail (fun s=>if s.l=[] then 20 else 2) y).suf s
  ·dsimp only
   split
   ·exact(rdr_fail (fun _=>6) y).suf s
   ·repeat' split
    all_goals first|exact(rdr_num.suf _).trans ht|exact(rdr_whole.suf _).trans ht
 ·unfold evBR
  rw [at_stk h]
  exact(rdr_fail (fun s=>if s.l=[] then 20 else 2) y).stk s h
theorem con_evBR (y:List Bool×EvD):Con (evBR y):=by
 intro s e0
 have ht:=con_wordR s e0
 have hf:∀c:Int,c≠0→mS (failS c s)<mS s:=fun c hc=>by unfold failS mS;rw [if_pos e0,if_pos e0];simp [hc]
 unfold evBR
 rw [numR_eq,wholeR_eq]
 split
 ·exact hf _ (by split<;>decide)
 ·dsimp only
  split
  ·exact hf 6 (by decide)
  ·repeat' split
   all_goals first|exact Nat.lt_of_le_of_lt (rdr_mS rdr_num _) ht|exact Nat.lt_of_le_of_lt (rdr_mS rdr_whole _) ht
theorem evR0 (v:EvD):EvR ([],v) ([false,false,false,false],v):=⟨rfl,rfl,rfl,rfl,rfl,rfl⟩
def evK (q:List BS×EvD):PS→EvD×PS:=PN.bnd (fun s=>((),expS kSemi s)) fun _ s=>(q.2,s)
def evKR (q:List Bool×EvD):PS→EvD×PS:=PN.bnd (fun s=>((),(takeR s 2 kSemi).2)) fun _ s=>(q.2,s)
theorem eventS_eq:eventS=PN.bnd wordS fun nm=>PN.bnd (lpS (fun s=> !isS s kSemi) evB ([],{ev0 with name:=nm})) evK:=rfl
theorem eventR_eq:eventR=PN.bnd wordR fun nm=>PN.bnd (lpS (fun s=> !nextR s 2 kSemi) evBR ([false,false,false,false],{ev0 with name:=nm})) evKR:=rfl
theorem rdr_evK (q:List BS×EvD):Rdr (evK q):=Rdr.bnd (rdr_exp kSemi) fun _=>rdr_pure _
theorem rdr_evKR (q:List Bool×EvD):Rdr (evKR q):=Rdr.bnd (rdr_tk 2 kSemi) fun _=>rdr_pure _
theorem rdr_event:Rdr eventS:=by rw [eventS_eq];exact Rdr.bnd rdr_word fun nm=>Rdr.bnd (rdr_lp rdr_evB _) rdr_evK
theorem rdr_eventR:Rdr eventR:=by rw [eventR_eq];exact Rdr.bnd rdr_wordR fun nm=>Rdr.bnd (rdr_lp rdr_evBR _) rdr_evKR
theorem semi_eq (s:PS) (ok:TksOk s.l) (_:s.e=0):(!isS s kSemi)= !nextR s 2 kSemi:=by rw [isS_sg ok rfl]
theorem close_eq (s:PS) (ok:TksOk s.l) (_:s.e=0):(!isS s kClose)= !nextR s 2 kClose:=by rw [isS_sg ok rfl]
theorem agr_event:Agr Eq eventS eventR:=by
 rw [eventS_eq,eventR_eq]
 refine Agr.bnd agr_word rdr_word (fun nm nm' h=> ?_) (fun nm=>Rdr.bnd (rdr_lp rdr_evB _) rdr_evK) (fun nm=>Rdr.bnd (rdr_lp rdr_evBR _) rdr_evKR)
 subst h
 exact Agr.loop' (R:=EvR) rdr_evB con_evB rdr_evBR con_evBR rdr_evK rdr_evKR semi_eq (fun a a' hR s ok e0 _=>evB_eq hR ok e0)
  (fun a a' hR=>Agr.bnd (agr_sg rfl) (rdr_exp _) (fun _ _ _=>Agr.pure hR.ev) (fun _=>rdr_pure _) (fun _=>rdr_pure _)) _ _ (evR0 _)
def hsT (s:PS):Bool×PS:=((takeS (isS s kOn||isS s kOff) s).1==kOn,(takeS (isS s kOn||isS s kOff) s).2)
def hsTR (s:PS):Bool×PS:=if nextR s 0 kOn then(true,(takeR s 0 kOn).2) else(false,(takeR s 0 kOff).2)
theorem rdr_hsT:Rdr hsT:=by
 have h:=rdr_take fun s=>isS s kOn||isS s kOff
 exact⟨fun s=>h.suf s,fun s h0=>h.stk s h0⟩
theorem rdr_hsTR:Rdr hsTR:=by
 have h1:=rdr_takeR 0 kOn
 have h2:=rdr_takeR 0 kOff
 refine⟨fun s=> ?_,fun s h=> ?_⟩
 ·unfold hsTR;split
  ·exact h1.suf s
  ·exact h2.suf s
 ·unfold hsTR;split
  ·exact h1.stk s h
  ·exact h2.stk s h
theorem hsT_eq {s:PS} (ok:TksOk s.l) (e0:s.e=0):hsT s=hsTR s:=by
 unfold hsT hsTR takeR
 rw [isS_wd ok (w:=kOn) rfl,isS_wd ok (w:=kOff) rfl]
 cases hl:s.l with
 |nil=>simp only [next_nil hl,take_nil e0 hl];rfl
 |cons t l=>
  simp only [next_cons e0 hl,take_cons e0 hl]
  by_cases hk:t.kind=0
  ·rw [hk]
   by_cases h1:t.text=kOn
   ·rw [h1];rfl
   ·have e1:(t.text==kOn)=false:=by simpa using h1
    rw [e1]
    by_cases h2:t.text=kOff
    ·rw [h2];rfl
    ·have e2:(t.text==kOff)=false:=by simpa using h2
     rw [e2];rfl
  ·have:(t.kind==0)=false:=by simpa using hk
   rw [this];rfl
theorem houseS_eq:houseS=PN.bnd wordS fun nm=>PN.bnd hsT fun b=>PN.bnd (fun s=>((),expS kSemi s)) fun _ s=>(⟨nm,b⟩,s):=rfl
theorem houseR_eq:houseR=PN.bnd wordR fun nm=>PN.bnd hsTR fun b=>PN.bnd (fun s=>((),(takeR s 2 kSemi).2)) fun _ s=>(⟨nm,b⟩,s):=by
 funext s
 unfold houseR PN.bnd hsTR
 dsimp only
 split<;>rfl
theorem rdr_house:Rdr houseS:=by rw [houseS_eq];exact Rdr.bnd rdr_word fun nm=>Rdr.bnd rdr_hsT fun b=>Rdr.bnd (rdr_exp _) fun _=>rdr_pure _
theorem rdr_houseR:Rdr houseR:=by rw [houseR_eq];exact Rdr.bnd rdr_wordR fun nm=>Rdr.bnd rdr_hsTR fun b=>Rdr.bnd (rdr_tk _ _) fun _=>rdr_pure _
theorem agr_house:Agr Eq houseS houseR:=by
 rw [houseS_eq,houseR_eq]
 refine Agr.bnd agr_word rdr_word (fun nm nm' h=> ?_) (fun nm=>Rdr.bnd rdr_hsT fun b=>Rdr.bnd (rdr_exp _) fun _=>rdr_pure _) (fun nm=>Rdr.bnd rdr_hsTR fun b=>Rdr.bnd (rdr_tk _ _) fun _=>rdr_pure _)
 subst h
 refine Agr.bnd (R:=Eq) (fun s ok e0=>by rw [hsT_eq ok e0];exact⟨rfl,fun _=>⟨rfl,rfl⟩⟩) rdr_hsT (fun b b' h=> ?_) (fun b=>Rdr.bnd (rdr_exp _) fun _=>rdr_pure _) (fun b=>Rdr.bnd (rdr_tk _ _) fun _=>rdr_pure _)
 subst h
 exact Agr.bnd (agr_sg rfl) (rdr_exp _) (fun _ _ _=>Agr.pure rfl) (fun _=>rdr_pure _) (fun _=>rdr_pure _)
end Go.PN
namespace Go.PN
open Go.AI
variable {α β γ δ : Type}
theorem rdr_pgB (x:List GtD):Rdr (pgB x):=Rdr.bnd (rdr_exp kGate) fun _=>Rdr.bnd rdr_gate fun g=>rdr_pure (x++[g])
theorem con_pgB (x:List GtD):Con (pgB x):=Con.bnd (con_exp kGate) fun _=>Rdr.bnd rdr_gate fun g=>rdr_pure (x++[g])
theorem rdr_pgBR (x:List GtD):Rdr (pgBR x):=by
 have h:=rdr_takeR 0 kGate
 refine⟨fun s=> ?_,fun s h0=> ?_⟩
 ·have h1:=h.suf s
  unfold pgBR
  dsimp only at h1⊢
  split
  ·exact(rdr_gateR.suf _).trans h1
  ·exact h1
 ·have h1:=h.stk s h0
  unfold pgBR
  dsimp only at h1⊢
  rw [h1,if_neg h0]
theorem con_pgBR (x:List GtD):Con (pgBR x):=by
 intro s e0
 have h1:=con_tk 0 kGate s e0
 unfold pgBR
 dsimp only at h1⊢
 split
 ·exact Nat.lt_of_le_of_lt (rdr_mS rdr_gateR _) h1
 ·exact h1
theorem pgB_eq {x:List GtD} {s:PS} (ok:TksOk s.l) (e0:s.e=0):(pgB x s).2.e=(pgBR x s).2.e∧((pgB x s).2.e=0→(pgB x s).2=(pgBR x s).2∧(pgB x s).1=(pgBR x s).1):=by
 unfold pgB pgBR
 rw [exp_wd ok (w:=kGate) rfl]
 have ok':TksOk (takeR s 0 kGate).2.l:=ok.suf ((rdr_takeR 0 kGate).suf s)
 generalize (takeR s 0 kGate).2=r at*
 dsimp only
 by_cases h:r.e=0
 ·rw [if_pos h]
  obtain⟨h1,h2⟩:=agr_gate r ok' h
  exact⟨h1,fun z=>by obtain⟨h3,h4⟩:=h2 z;exact⟨h3,by dsimp only;rw [h4]⟩⟩
 ·rw [if_neg h]
  have h1:=stk_e rdr_gate h
  exact⟨h1,fun z=>absurd (h1.symm.trans z) h⟩
def pgK (nm t:BS) (q:List GtD):PS→PgD×PS:=PN.bnd (fun s=>((),expS kClose s)) fun _ s=>(⟨nm,t,q⟩,s)
def pgKR (nm t:BS) (q:List GtD):PS→PgD×PS:=PN.bnd (fun s=>((),(takeR s 2 kClose).2)) fun _ s=>(⟨nm,t,q⟩,s)
theorem rdr_pgK (nm t:BS) (q:List GtD):Rdr (pgK nm t q):=Rdr.bnd (rdr_exp _) fun _=>rdr_pure _
theorem rdr_pgKR (nm t:BS) (q:List GtD):Rdr (pgKR nm t q):=Rdr.bnd (rdr_tk _ _) fun _=>rdr_pure _
def topK (k:BS→PS→α×PS):PS→α×PS:=PN.bnd (fun s=>((),expS kTop s)) fun _=>PN.bnd inputS fun t=>PN.bnd (fun s=>((),expS kOpen s)) fun _=>k t
def topKR (k:BS→PS→α×PS):PS→α×PS:=PN.bnd (fun s=>((),(takeR s 0 kTop).2)) fun _=>PN.bnd inputR fun t=>PN.bnd (fun s=>((),(takeR s 2 kOpen).2)) fun _=>k t
theorem rdr_topK {k:BS→PS→α×PS} (h:∀t,Rdr (k t)):Rdr (topK k):=Rdr.bnd (rdr_exp _) fun _=>Rdr.bnd rdr_input fun t=>Rdr.bnd (rdr_exp _) fun _=>h t
theorem rdr_topKR {k:BS→PS→α×PS} (h:∀t,Rdr (k t)):Rdr (topKR k):=Rdr.bnd (rdr_tk _ _) fun _=>Rdr.bnd rdr_inputR fun t=>Rdr.bnd (rdr_tk _ _) fun _=>h t
theorem agr_topK {R:α→α→Prop} {k k':BS→PS→α×PS} (hk:∀t,Agr R (k t) (k' t)) (r:∀t,Rdr (k t)) (r':∀t,Rdr (k' t)):Agr R (topK k) (topKR k'):=by
 refine Agr.bnd (agr_wd rfl) (rdr_exp _) (fun _ _ _=> ?_) (fun _=>Rdr.bnd rdr_input fun t=>Rdr.bnd (rdr_exp _) fun _=>r t) (fun _=>Rdr.bnd rdr_inputR fun t=>Rdr.bnd (rdr_tk _ _) fun _=>r' t)
 refine Agr.bnd agr_input rdr_input (fun t t' h=> ?_) (fun t=>Rdr.bnd (rdr_exp _) fun _=>r t) (fun t=>Rdr.bnd (rdr_tk _ _) fun _=>r' t)
 subst h
 exact Agr.bnd (agr_sg rfl) (rdr_exp _) (fun _ _ _=>hk t) (fun _=>r t) (fun _=>r' t)
theorem pageS_eq:pageS=PN.bnd wordS fun nm=>topK fun t=>PN.bnd (lpS (fun s=> !isS s kClose) pgB []) (pgK nm t):=rfl
theorem pageR_eq:pageR=PN.bnd wordR fun nm=>topKR fun t=>PN.bnd (lpS (fun s=> !nextR s 2 kClose) pgBR []) (pgKR nm t):=rfl
theorem rdr_page:Rdr pageS:=by rw [pageS_eq];exact Rdr.bnd rdr_word fun nm=>rdr_topK fun t=>Rdr.bnd (rdr_lp rdr_pgB _) (rdr_pgK nm t)
theorem rdr_pageR:Rdr pageR:=by rw [pageR_eq];exact Rdr.bnd rdr_wordR fun nm=>rdr_topKR fun t=>Rdr.bnd (rdr_lp rdr_pgBR _) (rdr_pgKR nm t)
theorem agr_page:Agr Eq pageS pageR:=by
 rw [pageS_eq,pageR_eq]
 refine Agr.bnd agr_word rdr_word (fun nm nm' h=> ?_) (fun nm=>rdr_topK fun t=>Rdr.bnd (rdr_lp rdr_pgB _) (rdr_pgK nm t)) (fun nm=>rdr_topKR fun t=>Rdr.bnd (rdr_lp rdr_pgBR _) (rdr_pgKR nm t))
 subst h
 refine agr_topK (fun t=> ?_) (fun t=>Rdr.bnd (rdr_lp rdr_pgB _) (rdr_pgK nm t)) (fun t=>Rdr.bnd (rdr_lp rdr_pgBR _) (rdr_pgKR nm t))
 refine Agr.loop' (R:=Eq) rdr_pgB con_pgB rdr_pgBR con_pgBR (rdr_pgK nm t) (rdr_pgKR nm t) close_eq (fun a a' h s ok e0 _=>by subst h;exact pgB_eq ok e0) (fun a a' h=> ?_) _ _ rfl
 subst h
 exact Agr.bnd (agr_sg rfl) (rdr_exp _) (fun _ _ _=>Agr.pure rfl) (fun _=>rdr_pure _) (fun _=>rdr_pure _)
theorem vlB_eq (x:List VlD):vlB x=PN.bnd wordS fun w=>PN.bnd numS fun q=>PN.bnd (fun s=>((),expS kSemi s)) fun _ s=>(x++[⟨w,q⟩],s):=rfl
theorem rdr_vlB (x:List VlD):Rdr (vlB x):=by rw [vlB_eq];exact Rdr.bnd rdr_word fun w=>Rdr.bnd rdr_num fun q=>Rdr.bnd (rdr_exp kSemi) fun _=>rdr_pure (x++[⟨w,q⟩])
theorem con_vlB (x:List VlD):Con (vlB x):=by rw [vlB_eq];exact Con.bnd con_word fun w=>Rdr.bnd rdr_num fun q=>Rdr.bnd (rdr_exp kSemi) fun _=>rdr_pure (x++[⟨w,q⟩])
theorem vlBR_eq (x:List VlD):vlBR x=PN.bnd wordR fun w=>PN.bnd numS fun q=>PN.bnd (fun s=>((),(takeR s 2 kSemi).2)) fun _ s=>(x++[⟨w,q⟩],s):=by
 funext s
 unfold vlBR PN.bnd
 rw [numR_eq]
theorem rdr_vlBR (x:List VlD):Rdr (vlBR x):=by rw [vlBR_eq];exact Rdr.bnd rdr_wordR fun w=>Rdr.bnd rdr_num fun q=>Rdr.bnd (rdr_tk 2 kSemi) fun _=>rdr_pure (x++[⟨w,q⟩])
theorem con_vlBR (x:List VlD):Con (vlBR x):=by rw [vlBR_eq];exact Con.bnd con_wordR fun w=>Rdr.bnd rdr_num fun q=>Rdr.bnd (rdr_tk 2 kSemi) fun _=>rdr_pure (x++[⟨w,q⟩])
theorem agr_vlB (x:List VlD):Agr Eq (vlB x) (vlBR x):=by
 rw [vlB_eq,vlBR_eq]
 refine Agr.bnd agr_word rdr_word (fun w w' h=> ?_) (fun w=>Rdr.bnd rdr_num fun q=>Rdr.bnd (rdr_exp kSemi) fun _=>rdr_pure (x++[⟨w,q⟩])) (fun w=>Rdr.bnd rdr_num fun q=>Rdr.bnd (rdr_tk 2 kSemi) fun _=>rdr_pure (x++[⟨w,q⟩]))
 subst h
 refine Agr.bnd agr_num rdr_num (fun q q' h=> ?_) (fun q=>Rdr.bnd (rdr_exp kSemi) fun _=>rdr_pure (x++[⟨w,q⟩])) (fun q=>Rdr.bnd (rdr_tk 2 kSemi) fun _=>rdr_pure (x++[⟨w,q⟩]))
 subst h
 exact Agr.bnd (agr_sg rfl) (rdr_exp _) (fun _ _ _=>Agr.pure rfl) (fun _=>rdr_pure _) (fun _=>rdr_pure _)
def phK (nm t:BS) (q:List VlD):PS→PhD×PS:=PN.bnd (fun s=>((),expS kClose s)) fun _ s=>(⟨nm,t,q⟩,s)
def phKR (nm t:BS) (q:List VlD):PS→PhD×PS:=PN.bnd (fun s=>((),(takeR s 2 kClose).2)) fun _ s=>(⟨nm,t,q⟩,s)
theorem rdr_phK (nm t:BS) (q:List VlD):Rdr (phK nm t q):=Rdr.bnd (rdr_exp _) fun _=>rdr_pure _
theorem rdr_phKR (nm t:BS) (q:List VlD):Rdr (phKR nm t q):=Rdr.bnd (rdr_tk _ _) fun _=>rdr_pure _
theorem phaseS_eq:phaseS=PN.bnd wordS fun nm=>topK fun t=>PN.bnd (lpS (fun s=> !isS s kClose) vlB []) (phK nm t):=rfl
theorem phaseR_eq:phaseR=PN.bnd wordR fun nm=>topKR fun t=>PN.bnd (lpS (fun s=> !nextR s 2 kClose) vlBR []) (phKR nm t):=rfl
theorem rdr_phase:Rdr phaseS:=by rw [phaseS_eq];exact Rdr.bnd rdr_word fun nm=>rdr_topK fun t=>Rdr.bnd (rdr_lp rdr_vlB _) (rdr_phK nm t)
theorem rdr_phaseR:Rdr phaseR:=by rw [phaseR_eq];exact Rdr.bnd rdr_wordR fun nm=>rdr_topKR fun t=>Rdr.bnd (rdr_lp rdr_vlBR _) (rdr_phKR nm t)
theorem agr_phase:Agr Eq phaseS phaseR:=by
 rw [phaseS_eq,phaseR_eq]
 refine Agr.bnd agr_word rdr_word (fun nm nm' h=> ?_) (fun nm=>rdr_topK fun t=>Rdr.bnd (rdr_lp rdr_vlB _) (rdr_phK nm t)) (fun nm=>rdr_topKR fun t=>Rdr.bnd (rdr_lp rdr_vlBR _) (rdr_phKR nm t))
 subst h
 refine agr_topK (fun t=> ?_) (fun t=>Rdr.bnd (rdr_lp rdr_vlB _) (rdr_phK nm t)) (fun t=>Rdr.bnd (rdr_lp rdr_vlBR _) (rdr_phKR nm t))
 refine Agr.loop' (R:=Eq) rdr_vlB con_vlB rdr_vlBR con_vlBR (rdr_phK nm t) (rdr_phKR nm t) close_eq (fun a a' h s ok e0 _=>by subst h;exact agr_vlB a s ok e0) (fun a a' h=> ?_) _ _ rfl
 subst h
 exact Agr.bnd (agr_sg rfl) (rdr_exp _) (fun _ _ _=>Agr.pure rfl) (fun _=>rdr_pure _) (fun _=>rdr_pure _)
end Go.PN
namespace Go.PN
open Go.AI
variable {α β γ δ : Type}
def mis (s:PS):Int:=if s.l=[] then 20 else 2
theorem mis_ne (s:PS):mis s≠0:=by unfold mis;split<;>decide
theorem take_err {s:PS} (e0:s.e=0):(takeS false s).2.e=mis s:=by
 unfold mis
 cases hl:s.l with
 |nil=>rw [take_nil e0 hl];rfl
 |cons t l=>rw [take_cons e0 hl];rfl
theorem exp_err {s:PS} {w:BS} (e0:s.e=0) (h:isS s w=false):(expS w s).e=mis s:=by unfold expS;rw [h];exact take_err e0
theorem word_err {s:PS} (e0:s.e=0) (h:kindS s 0=false):(wordS s).2.e=mis s:=by unfold wordS;rw [h];exact take_err e0
theorem num_err {s:PS} (e0:s.e=0) (h:kindS s 1=false):(numS s).2.e=mis s:=by
 have h1:=take_err e0
 unfold numS
 rw [h]
 dsimp only
 rw [if_neg (by rw [h1];exact mis_ne s)]
 exact h1
theorem kind_next {s:PS} {k j:Nat} {w:BS} (hk:kindS s k=true) (hn:nextR s j w=true):k=j:=by
 unfold kindS at hk
 unfold nextR at hn
 cases hl:s.l with
 |nil=>rw [hl] at hk;simp at hk
 |cons t l=>rw [hl] at hk hn;simp at hk hn;omega
theorem agr_many {f g:α→PS→α×PS} {T:γ→δ→Prop} {kd:Nat} {w:BS} {k:α→PS→γ×PS} {k':α→PS→δ×PS} (hw:isSg w=true) (hkd:kd≠2) (hfg:∀a,f a=g a) (rf:∀a,Rdr (f a)) (cf:∀a,Con (f a))
  (he:∀a s,s.e=0→kindS s kd=false→(f a s).2.e=mis s) (rk:∀a,Rdr (k a)) (rk':∀a,Rdr (k' a)) (hk:∀a,Agr T (k a) (k' a)) (a:α):
  Agr T (PN.bnd (lpS (fun s=>kindS s kd) f a) fun a=>PN.bnd (fun s=>((),expS w s)) fun _=>k a) (PN.bnd (lpS (fun s=> !nextR s 2 w) g a) fun a=>PN.bnd (fun s=>((),(takeR s 2 w).2)) fun _=>k' a):=by
 rw [show g=f from funext fun a=>(hfg a).symm]
 refine Agr.loop (R:=Eq) rf (fun a=>Rdr.bnd (rdr_exp _) fun _=>rk a) (fun a=>Rdr.bnd (rdr_tk _ _) fun _=>rk' a) (fun a s h _=>cf a s h) (fun a s h _=>cf a s h)
  (fun a a' s h ok e0 _ _=>by subst h;exact⟨rfl,fun _=>⟨rfl,rfl⟩⟩) (fun a a' s ok e0 h1 h2=> ?_) (fun a a' s ok e0 h1 h2=> ?_) (fun a a' s h ok e0 h1 h2=> ?_) a a rfl
 ·exact hkd (kind_next h1 (by simpa using h2))
 ·have hn:isS s w=false:=by rw [isS_sg ok hw];simpa using h2
  have h3:=exp_err e0 hn
  have h4:(PN.bnd (fun s=>((),expS w s)) (fun _=>k a) s).2.e=mis s:=by
   show(k a (expS w s)).2.e=_
   rw [stk_e (rk a) (by rw [h3];exact mis_ne s)];exact h3
  rw [h4]
  exact⟨mis_ne s,he a' s e0 h1⟩
 ·subst h
  exact Agr.bnd (agr_sg hw) (rdr_exp _) (fun _ _ _=>hk a) (fun _=>rk a) (fun _=>rk' a) s ok e0
def grT (s:PS):Int×PS:=(if(takeS (isS s kBeta||isS s kGreek) s).1==kGreek then 1 else 0,(takeS (isS s kBeta||isS s kGreek) s).2)
def grTR (s:PS):Int×PS:=if nextR s 0 kGreek then(1,(takeR s 0 kGreek).2) else(0,(takeR s 0 kBeta).2)
theorem rdr_grT:Rdr grT:=by
 have h:=rdr_take fun s=>isS s kBeta||isS s kGreek
 exact⟨fun s=>h.suf s,fun s h0=>h.stk s h0⟩
theorem rdr_grTR:Rdr grTR:=by
 have h1:=rdr_takeR 0 kGreek
 have h2:=rdr_takeR 0 kBeta
 refine⟨fun s=> ?_,fun s h=> ?_⟩
 ·unfold grTR;split
  ·exact h1.suf s
  ·exact h2.suf s
 ·unfold grTR;split
  ·exact h1.stk s h
  ·exact h2.stk s h
theorem grT_eq {s:PS} (ok:TksOk s.l) (e0:s.e=0):grT s=grTR s:=by
 unfold grT grTR takeR
 rw [isS_wd ok (w:=kBeta) rfl,isS_wd ok (w:=kGreek) rfl]
 cases hl:s.l with
 |nil=>simp only [next_nil hl,take_nil e0 hl];rfl
 |cons t l=>
  simp only [next_cons e0 hl,take_cons e0 hl]
  by_cases hk:t.kind=0
  ·rw [hk]
   by_cases h1:t.text=kGreek
   ·rw [h1];rfl
   ·have e1:(t.text==kGreek)=false:=by simpa using h1
    rw [e1]
    by_cases h2:t.text=kBeta
    ·rw [h2];rfl
    ·have e2:(t.text==kBeta)=false:=by simpa using h2
     rw [e2];rfl
  ·have:(t.kind==0)=false:=by simpa using hk
   rw [this];rfl
theorem rdr_facB (x:List RD):Rdr (facB x):=Rdr.bnd rdr_num fun q=>rdr_pure (x++[q])
theorem con_facB (x:List RD):Con (facB x):=Con.bnd con_num fun q=>rdr_pure (x++[q])
theorem rdr_memB (x:List BS):Rdr (memB x):=Rdr.bnd rdr_word fun q=>rdr_pure (x++[q])
theorem con_memB (x:List BS):Con (memB x):=Con.bnd con_word fun q=>rdr_pure (x++[q])
theorem facBR_eq (x:List RD):facB x=facBR x:=by unfold facB facBR;rw [numR_eq]
theorem memBR_eq (x:List BS):memB x=memBR x:=by unfold memB memBR;rw [wordR_eq]
def grM (nm:BS) (g:Int) (f:List RD):PS→GrD×PS:=PN.bnd (lpS (fun s=>kindS s 0) memB []) fun m=>PN.bnd (fun s=>((),expS kSemi s)) fun _ s=>(⟨nm,g,m,f⟩,s)
def grMR (nm:BS) (g:Int) (f:List RD):PS→GrD×PS:=PN.bnd (lpS (fun s=> !nextR s 2 kSemi) memBR []) fun m=>PN.bnd (fun s=>((),(takeR s 2 kSemi).2)) fun _ s=>(⟨nm,g,m,f⟩,s)
theorem rdr_memBR (x:List BS):Rdr (memBR x):=by rw [←memBR_eq];exact rdr_memB x
theorem rdr_facBR (x:List RD):Rdr (facBR x):=by rw [←facBR_eq];exact rdr_facB x
theorem rdr_grM (nm:BS) (g:Int) (f:List RD):Rdr (grM nm g f):=Rdr.bnd (rdr_lp rdr_memB _) fun _=>Rdr.bnd (rdr_exp _) fun _=>rdr_pure _
theorem rdr_grMR (nm:BS) (g:Int) (f:List RD):Rdr (grMR nm g f):=Rdr.bnd (rdr_lp rdr_memBR _) fun _=>Rdr.bnd (rdr_tk _ _) fun _=>rdr_pure _
theorem agr_grM (nm:BS) (g:Int) (f:List RD):Agr Eq (grM nm g f) (grMR nm g f):=
 agr_many (kd:=0) rfl (by decide) memBR_eq rdr_memB con_memB (fun a s e0 h=>word_err e0 h) (fun _=>rdr_pure _) (fun _=>rdr_pure _) (fun _=>Agr.pure rfl) []
def grF (nm:BS) (g:Int):PS→GrD×PS:=PN.bnd (lpS (fun s=>kindS s 1) facB []) fun f=>PN.bnd (fun s=>((),expS kColon s)) fun _=>grM nm g f
def grFR (nm:BS) (g:Int):PS→GrD×PS:=PN.bnd (lpS (fun s=> !nextR s 2 kColon) facBR []) fun f=>PN.bnd (fun s=>((),(takeR s 2 kColon).2)) fun _=>grMR nm g f
theorem rdr_grF (nm:BS) (g:Int):Rdr (grF nm g):=Rdr.bnd (rdr_lp rdr_facB _) fun f=>Rdr.bnd (rdr_exp _) fun _=>rdr_grM nm g f
theorem rdr_grFR (nm:BS) (g:Int):Rdr (grFR nm g):=Rdr.bnd (rdr_lp rdr_facBR _) fun f=>Rdr.bnd (rdr_tk _ _) fun _=>rdr_grMR nm g f
theorem agr_grF (nm:BS) (g:Int):Agr Eq (grF nm g) (grFR nm g):=
 agr_many (kd:=1) rfl (by decide) facBR_eq rdr_facB con_facB (fun a s e0 h=>num_err e0 h) (rdr_grM nm g) (rdr_grMR nm g) (agr_grM nm g) []
theorem groupS_eq:groupS=PN.bnd wordS fun nm=>PN.bnd grT fun g=>grF nm g:=rfl
theorem groupR_eq:groupR=PN.bnd wordR fun nm=>PN.bnd grTR fun g=>grFR nm g:=rfl
theorem rdr_group:Rdr groupS:=by rw [groupS_eq];exact Rdr.bnd rdr_word fun nm=>Rdr.bnd rdr_grT fun g=>rdr_grF nm g
theorem rdr_groupR:Rdr groupR:=by rw [groupR_eq];exact Rdr.bnd rdr_wordR fun nm=>Rdr.bnd rdr_grTR fun g=>rdr_grFR nm g
theorem agr_group:Agr Eq groupS groupR:=by
 rw [groupS_eq,groupR_eq]
 refine Agr.bnd agr_word rdr_word (fun nm nm' h=> ?_) (fun nm=>Rdr.bnd rdr_grT fun g=>rdr_grF nm g) (fun nm=>Rdr.bnd rdr_grTR fun g=>rdr_grFR nm g)
 subst h
 refine Agr.bnd (R:=Eq) (fun s ok e0=>by rw [grT_eq ok e0];exact⟨rfl,fun _=>⟨rfl,rfl⟩⟩) rdr_grT (fun b b' h=> ?_) (fun g=>rdr_grF nm g) (fun g=>rdr_grFR nm g)
 subst h
 exact agr_grF nm b
def stW (m:MdD) (w:BS):PS→MdD×PS:=
 if w==kEvent then PN.bnd eventS fun x s=>({m with events:=m.events++[x]},s)
 else if w==kHouse then PN.bnd houseS fun x s=>({m with houses:=m.houses++[x]},s)
 else if w==kGate then PN.bnd gateS fun x s=>({m with gates:=m.gates++[x]},s)
 else if w==kPage then PN.bnd pageS fun x s=>({m with pages:=m.pages++[x]},s)
 else if w==kGroup then PN.bnd groupS fun x s=>({m with groups:=m.groups++[x]},s)
 else if w==kPhase then PN.bnd phaseS fun x s=>({m with phases:=m.phases++[x]},s)
 else fun s=>(m,s)
def stWR (m:MdD) (w:BS):PS→MdD×PS:=
 if w==kEvent then PN.bnd eventR fun x s=>({m with events:=m.events++[x]},s)
 else if w==kHouse then PN.bnd houseR fun x s=>({m with houses:=m.houses++[x]},s)
 else if w==kGate then PN.bnd gateR fun x s=>({m with gates:=m.gates++[x]},s)
 else if w==kPage then PN.bnd pageR fun x s=>({m with pages:=m.pages++[x]},s)
 else if w==kGroup then PN.bnd groupR fun x s=>({m with groups:=m.groups++[x]},s)
 else if w==kPhase then PN.bnd phaseR fun x s=>({m with phases:=m.phases++[x]},s)
 else fun s=>(m,failS 2 s)
def isSt (w:BS):Bool:=w==kEvent||w==kHouse||w==kGate||w==kPage||w==kGroup||w==kPhase
theorem statR_eq (m:MdD) (w:BS) (s:PS):statR m w s=stWR m w s:=by
 unfold statR stWR
 repeat' split
 all_goals rfl
def stM (s:PS):Bool:=isS s kEvent||isS s kHouse||isS s kGate||isS s kPage||isS s kGroup||isS s kPhase
theorem stB_eq (m:MdD) (s:PS):stB m s=PN.bnd (fun s=>takeS (stM s) s) (stW m) s:=by
 show stB m s=stW m (takeS (stM s) s).1 (takeS (stM s) s).2
 unfold stB stW stM
 dsimp only
 generalize takeS _ s=r
 repeat' split
 all_goals rfl
theorem rdr_stW (m:MdD) (w:BS):Rdr (stW m w):=by
 unfold stW
 repeat' split
 ·exact Rdr.bnd rdr_event fun _=>rdr_pure _
 ·exact Rdr.bnd rdr_house fun _=>rdr_pure _
 ·exact Rdr.bnd rdr_gate fun _=>rdr_pure _
 ·exact Rdr.bnd rdr_page fun _=>rdr_pure _
 ·exact Rdr.bnd rdr_group fun _=>rdr_pure _
 ·exact Rdr.bnd rdr_phase fun _=>rdr_pure _
 ·exact rdr_pure _
theorem rdr_stWR (m:MdD) (w:BS):Rdr (stWR m w):=by
 unfold stWR
 repeat' split
 ·exact Rdr.bnd rdr_eventR fun _=>rdr_pure _
 ·exact Rdr.bnd rdr_houseR fun _=>rdr_pure _
 ·exact Rdr.bnd rdr_gateR fun _=>rdr_pure _
 ·exact Rdr.bnd rdr_pageR fun _=>rdr_pure _
 ·exact Rdr.bnd rdr_groupR fun _=>rdr_pure _
 ·exact Rdr.bnd rdr_phaseR fun _=>rdr_pure _
 ·exact rdr_fail (fun _=>2) m
theorem agr_stW (m:MdD) {w:BS} (hw:isSt w=true):Agr Eq (stW m w) (stWR m w):=by
 have key:∀{α:Type} {f g:PS→α×PS} (u:α→MdD),Agr Eq f g→Rdr f→Agr Eq (PN.bnd f fun x s=>(u x,s)) (PN.bnd g fun x s=>(u x,s)):=fun u h hf=>
  Agr.bnd h hf (fun a b e=>by subst e;exact Agr.pure rfl) (fun _=>rdr_pure _) (fun _=>rdr_pure _)
 unfold stW stWR
 unfold isSt at hw
 split
 ·exact key _ agr_event rdr_event
 ·split
  ·exact key _ agr_house rdr_house
  ·split
   ·exact key _ agr_gate rdr_gate
   ·split
    ·exact key _ agr_page rdr_page
    ·split
     ·exact key _ agr_group rdr_group
     ·split
      ·exact key _ agr_phase rdr_phase
      ·simp_all
theorem rdr_stB (m:MdD):Rdr (stB m):=by
 rw [show stB m=PN.bnd (fun s=>takeS (stM s) s) (stW m) from funext (stB_eq m)]
 exact Rdr.bnd (rdr_take stM) (rdr_stW m)
theorem con_stB (m:MdD):Con (stB m):=by
 rw [show stB m=PN.bnd (fun s=>takeS (stM s) s) (stW m) from funext (stB_eq m)]
 exact Con.bnd (con_take stM) (rdr_stW m)
theorem rdr_stBR (m:MdD):Rdr (stBR m):=by
 refine⟨fun s=> ?_,fun s h=> ?_⟩
 ·have h1:=rdr_wordR.suf s
  unfold stBR
  dsimp only
  split
  ·rw [statR_eq];exact((rdr_stWR _ _).suf _).trans h1
  ·exact h1
 ·have h1:=rdr_wordR.stk s h
  unfold stBR
  dsimp only
  rw [h1,if_neg h]
theorem con_stBR (m:MdD):Con (stBR m):=by
 intro s e0
 have h1:=con_wordR s e0
 unfold stBR
 dsimp only
 split
 ·rw [statR_eq];exact Nat.lt_of_le_of_lt (rdr_mS (rdr_stWR _ _) _) h1
 ·exact h1
theorem stWR_no (m:MdD) {w:BS} (hw:isSt w=false) (s:PS):stWR m w s=(m,failS 2 s):=by
 unfold isSt at hw
 simp only [Bool.or_eq_false_iff] at hw
 obtain⟨⟨⟨⟨⟨h1,h2⟩,h3⟩,h4⟩,h5⟩,h6⟩:=hw
 unfold stWR
 rw [h1,h2,h3,h4,h5,h6];rfl
theorem stM_eq {s:PS} (ok:TksOk s.l) {t:TK} {l:List TK} (e0:s.e=0) (hl:s.l=t::l):stM s=(t.kind==0&&isSt t.text):=by
 unfold stM isSt
 rw [isS_wd ok (w:=kEvent) rfl,isS_wd ok (w:=kHouse) rfl,isS_wd ok (w:=kGate) rfl,isS_wd ok (w:=kPage) rfl,isS_wd ok (w:=kGroup) rfl,isS_wd ok (w:=kPhase) rfl]
 simp only [next_cons e0 hl]
 by_cases hk:t.kind=0
 ·rw [hk];rfl
 ·have:(t.kind==0)=false:=by simpa using hk
  rw [this];rfl
theorem stB_agr (m:MdD):Agr Eq (stB m) (stBR m):=by
 intro s ok e0
 rw [stB_eq]
 show((stW m (takeS (stM s) s).1 (takeS (stM s) s).2).2.e=(stBR m s).2.e)∧((stW m (takeS (stM s) s).1 (takeS (stM s) s).2).2.e=0→(stW m (takeS (stM s) s).1 (takeS (stM s) s).2).2=(stBR m s).2∧(stW m (takeS (stM s) s).1 (takeS (stM s) s).2).1=(stBR m s).1)
 have bad:stM s=false→(stBR m s).2.e=mis s→((stW m (takeS (stM s) s).1 (takeS (stM s) s).2).2.e=(stBR m s).2.e)∧((stW m (takeS (stM s) s).1 (takeS (stM s) s).2).2.e=0→(stW m (takeS (stM s) s).1 (takeS (stM s) s).2).2=(stBR m s).2∧(stW m (takeS (stM s) s).1 (takeS (stM s) s).2).1=(stBR m s).1):=fun hm hr=>by
  have h1:=take_err e0
  have h2:=stk_e (rdr_stW m (takeS (stM s) s).1) (s:=(takeS (stM s) s).2) (by rw [hm,h1];exact mis_ne s)
  rw [hm] at h2⊢
  exact⟨(h2.trans h1).trans hr.symm,fun z=>absurd ((h2.trans h1).symm.trans z) (mis_ne s)⟩
 cases hl:s.l with
 |nil=>
  refine bad (by unfold stM;simp [is_nil hl]) ?_
  unfold stBR
  rw [wordR_eq]
  have h1:=word_err e0 (kind_nil hl)
  dsimp only
  rw [if_neg (by rw [h1];exact mis_ne s)]
  exact h1
 |cons t l=>
  have hM:=stM_eq ok e0 hl
  by_cases hk:t.kind=0
  ·have hw:=word_cons e0 hl hk
   cases hs:isSt t.text with
   |true=>
    rw [hM,hk,hs,take_cons e0 hl]
    unfold stBR
    rw [wordR_eq,hw]
    dsimp only
    rw [if_pos rfl,statR_eq]
    exact agr_stW m hs ⟨l,0⟩ (ok.suf (by rw [hl];exact List.suffix_cons t l)) rfl
   |false=>
    refine bad (by rw [hM,hk,hs];rfl) ?_
    unfold stBR
    rw [wordR_eq,hw]
    dsimp only
    rw [if_pos rfl,statR_eq,stWR_no m hs]
    unfold mis failS
    rw [hl];rfl
  ·have hk0:(t.kind==0)=false:=by simpa using hk
   refine bad (by rw [hM,hk0];rfl) ?_
   unfold stBR
   rw [wordR_eq]
   have h1:=word_err e0 (by rw [kind_cons e0 hl];exact hk0)
   dsimp only
   rw [if_neg (by rw [h1];exact mis_ne s)]
   exact h1
theorem rdr_end (m:α):Rdr fun s=>(m,endS s):=by
 refine⟨fun s=> ?_,fun s h=> ?_⟩
 ·show(endS s).l<:+s.l
  unfold endS
  split<;>exact List.suffix_refl _
 ·show endS s=s
  unfold endS
  rw [if_neg (fun x=>h x.1)]
def rdK (m:MdD):PS→MdD×PS:=PN.bnd (fun s=>((),expS kTop s)) fun _=>PN.bnd inputS fun t=>PN.bnd (fun s=>((),expS kSemi s)) fun _ s=>({m with top:=t},endS s)
def rdKR (m:MdD):PS→MdD×PS:=PN.bnd (fun s=>((),(takeR s 0 kTop).2)) fun _=>PN.bnd inputR fun t=>PN.bnd (fun s=>((),(takeR s 2 kSemi).2)) fun _ s=>({m with top:=t},endS s)
theorem rdr_rdK (m:MdD):Rdr (rdK m):=Rdr.bnd (rdr_exp _) fun _=>Rdr.bnd rdr_input fun t=>Rdr.bnd (rdr_exp _) fun _=>rdr_end _
theorem rdr_rdKR (m:MdD):Rdr (rdKR m):=Rdr.bnd (rdr_tk _ _) fun _=>Rdr.bnd rdr_inputR fun t=>Rdr.bnd (rdr_tk _ _) fun _=>rdr_end _
theorem agr_rdK (m:MdD):Agr Eq (rdK m) (rdKR m):=by
 refine Agr.bnd (agr_wd rfl) (rdr_exp _) (fun _ _ _=> ?_) (fun _=>Rdr.bnd rdr_input fun t=>Rdr.bnd (rdr_exp _) fun _=>rdr_end _) (fun _=>Rdr.bnd rdr_inputR fun t=>Rdr.bnd (rdr_tk _ _) fun _=>rdr_end _)
 refine Agr.bnd agr_input rdr_input (fun t t' h=> ?_) (fun t=>Rdr.bnd (rdr_exp _) fun _=>rdr_end _) (fun t=>Rdr.bnd (rdr_tk _ _) fun _=>rdr_end _)
 subst h
 exact Agr.bnd (agr_sg rfl) (rdr_exp _) (fun _ _ _=>Agr.of_eq fun _ _=>rfl) (fun _=>rdr_end _) (fun _=>rdr_end _)
theorem readS_eq:readS=PN.bnd (fun s=>((),expS kModel s)) fun _=>PN.bnd wordS fun nm=>PN.bnd (fun s=>((),expS kSemi s)) fun _=>PN.bnd (lpS (fun s=> !isS s kTop) stB {md0 with name:=nm}) rdK:=rfl
theorem readR_eq:readR=PN.bnd (fun s=>((),(takeR s 0 kModel).2)) fun _=>PN.bnd wordR fun nm=>PN.bnd (fun s=>((),(takeR s 2 kSemi).2)) fun _=>PN.bnd (lpS (fun s=> !nextR s 0 kTop) stBR {md0 with name:=nm}) rdKR:=rfl
theorem agr_read:Agr Eq readS readR:=by
 rw [readS_eq,readR_eq]
 refine Agr.bnd (agr_wd rfl) (rdr_exp _) (fun _ _ _=> ?_) (fun _=>Rdr.bnd rdr_word fun nm=>Rdr.bnd (rdr_exp _) fun _=>Rdr.bnd (rdr_lp rdr_stB _) rdr_rdK) (fun _=>Rdr.bnd rdr_wordR fun nm=>Rdr.bnd (rdr_tk _ _) fun _=>Rdr.bnd (rdr_lp rdr_stBR _) rdr_rdKR)
 refine Agr.bnd agr_word rdr_word (fun nm nm' h=> ?_) (fun nm=>Rdr.bnd (rdr_exp _) fun _=>Rdr.bnd (rdr_lp rdr_stB _) rdr_rdK) (fun nm=>Rdr.bnd (rdr_tk _ _) fun _=>Rdr.bnd (rdr_lp rdr_stBR _) rdr_rdKR)
 subst h
 refine Agr.bnd (agr_sg rfl) (rdr_exp _) (fun _ _ _=> ?_) (fun _=>Rdr.bnd (rdr_lp rdr_stB _) rdr_rdK) (fun _=>Rdr.bnd (rdr_lp rdr_stBR _) rdr_rdKR)
 refine Agr.loop' (R:=Eq) rdr_stB con_stB rdr_stBR con_stBR rdr_rdK rdr_rdKR (fun s ok _=>by rw [isS_wd ok rfl]) (fun a a' h s ok e0 _=>by subst h;exact stB_agr a s ok e0) (fun a a' h=> ?_) _ _ rfl
 subst h
 exact agr_rdK a
end Go.PN
namespace Go.PN
open Go.AI
structure RAt (L:List TX) (s:PS) (a:Nat):Prop where
 le:a≤L.length
 nil:¬a<L.length→s.l=[]
 cons:a<L.length→∃l,s.l=(L.getD a tx0).t::l∧L.length-l.length=a+1
theorem rat {L:List TX} {s:PS} (hs:s.l<:+L.map TX.t):RAt L s (L.length-s.l.length):=by
 have hl:=hs.length_le
 rw [List.length_map] at hl
 refine⟨by omega,fun h=>List.length_eq_zero_iff.1 om,fun h=> ?_⟩
 cases hc:s.l with
 |nil=>rw [hc] at h;simp at h
 |cons t l=>
  rw [hc] at hl hs
  rw [List.length_cons] at hl
  refine⟨l,?_,by rw [List.length_cons];omega⟩
  obtain⟨p,hp⟩:=hs
  have hpl:p.length=L.length-(t::l).length:=by
   have:=congrArg List.length hp
   rw [List.length_append,List.length_map] at this
   omega
  have hlt:p.length<L.length:=by rw [List.length_cons] at hpl;omega
  have hg:(L.map TX.t)[p.length]?=some t:=by rw [←hp,List.getElem?_append_right (Nat.le_refl _)];simp
  rw [List.getElem?_map,List.getElem?_eq_getElem hlt] at hg
  rw [←hpl,List.getD_eq_getElem?_getD,List.getElem?_eq_getElem hlt]
  simp only [Option.map_some,Option.some.injEq] at hg
  rw [Option.getD_some,hg]
end Go.PN
namespace Go.Proofs.YteehccacfedolaaGreat
open Go.AI Go.PN
abbrev rdA (L:List TX) (a:Nat) (e:Int):AObj:=.cells 56 3 (ofL [txs true L,.int .i64 a,errA e])
abbrev rdO (L:List TX) (s:PS):AObj:=rdA L (L.length-s.l.length) s.e
attribute [local irreducible] aw Fa Fh DrK
theorem is_fg (g:Nat) (L:List TX) (s:PS) (w:BS) (hs:s.l<:+L.map TX.t) (hL:L.length≤1099511627776):Fg Tryz.prog 14 g (rdO L s) [.c (.optr g 0),.c (.str (sB w))] (.c (.bool (isS s w))) (rdO L s):=by
 have h:=rat hs
 generalize ha:L.length-s.l.length=a at h
 have hle:=h.le
 unfold Fg
 rw [show rdO L s=rdA L a s.e from by unfold rdO;rw [ha]]
 refine fh_of_body Tryz.func14 rfl rfl (by simp [Tryz.ntmps14]) fun C hC=> ?_
 simp only [initS,Nat.reduceAdd]
 repeat' first|refine yA1 o0 ?_|refine zW o0 ?_|refine yP o0 ?_|refine yN o0 ?_|refine zC o0 (fun hb=>?_) fun hb=>?_|refine zG o0 (fun hb=>?_) fun hb=>?_|refine zD o0 (fun hb=>?_) fun hb=>?_
 refine aw_dr 47 ty_mixed (by kernel_rfl) ?_
 repeat' first|refine yA1 o0 ?_|refine zW o0 ?_|refine yP o0 ?_|refine yN o0 ?_|refine zC o0 (fun hb=>?_) fun hb=>?_|refine zG o0 (fun hb=>?_) fun hb=>?_|refine zD o0 (fun hb=>?_) fun hb=>?_
 all_goals
  refine xU ?_
  refine⟨?_,rfl⟩
 ·rename_i h0 h1
  obtain⟨l',hl,_⟩:=h.cons h1
  rw [is_cons h0 hl,bne_iff_ne.2 hb,Bool.true_and]
 ·rename_i h0 h1
  obtain⟨l',hl,_⟩:=h.cons h1
  rw [is_cons h0 hl,hb];rfl
 ·rw [is_nil (h.nil hb)]
 ·rw [show isS s w=false from by unfold isS;simp [hb]]
theorem kind_fg (g:Nat) (L:List TX) (s:PS) (k:Nat) (hs:s.l<:+L.map TX.t) (hL:L.length≤1099511627776):Fg Tryz.prog 33 g (rdO L s) [.c (.optr g 0),.c (.int .i64 k)] (.c (.bool (kindS s k))) (rdO L s):=by
 have h:=rat hs
 generalize ha:L.length-s.l.length=a at h
 have hle:=h.le
 unfold Fg
 rw [show rdO L s=rdA L a s.e from by unfold rdO;rw [ha]]
 refine fh_of_body Tryz.func33 rfl rfl (by simp [Tryz.ntmps33]) fun C hC=> ?_
 simp only [initS,Nat.reduceAdd]
 repeat' first|refine yA1 o0 ?_|refine zW o0 ?_|refine yP o0 ?_|refine yN o0 ?_|refine zC o0 (fun hb=>?_) fun hb=>?_|refine zG o0 (fun hb=>?_) fun hb=>?_|refine zD o0 (fun hb=>?_) fun hb=>?_
 refine aw_dr 33 ty_mixed (by kernel_rfl) ?_
 repeat' first|refine yA1 o0 ?_|refine zW o0 ?_|refine yP o0 ?_|refine yN o0 ?_|refine zC o0 (fun hb=>?_) fun hb=>?_|refine zG o0 (fun hb=>?_) fun hb=>?_|refine zD o0 (fun hb=>?_) fun hb=>?_
 all_goals
  refine xU ?_
  refine⟨?_,rfl⟩
 ·rename_i h0
  obtain⟨l',hl,_⟩:=h.cons hb
  rw [kind_cons h0 hl]
 ·rw [kind_nil (h.nil hb)]
 ·rw [show kindS s k=false from by unfold kindS;simp [hb]]
theorem errA_ne {c:Int} (h:c≠0):errA c=.ifc 73 (.int .i64 c):=by unfold errA errC;rw [if_neg h]
theorem fail_fg (g:Nat) (L:List TX) (s:PS) (c:Int) (hc:c≠0):Fg Tryz.prog 39 g (rdO L s) [.c (.optr g 0),.c (.ifc 73 (.int .i64 c))] (.tup []) (rdO L (failS c s)):=by
 generalize ha:L.length-s.l.length=a
 unfold Fg
 rw [show rdO L s=rdA L a s.e from by unfold rdO;rw [ha]]
 refine fh_of_body Tryz.func39 rfl rfl (by simp [Tryz.ntmps39]) fun C hC=> ?_
 simp only [initS,Nat.reduceAdd]
 repeat' first|refine yA1 o0 ?_|refine zW o0 ?_|refine yP o0 ?_|refine yN o0 ?_|refine zC o0 (fun hb=>?_) fun hb=>?_|refine zG o0 (fun hb=>?_) fun hb=>?_|refine zD o0 (fun hb=>?_) fun hb=>?_
 ·refine xV ?_
  refine⟨rfl,?_⟩
  unfold failS
  rw [if_pos hb]
  show _=[(g,AObj.cells 56 3 (ofL [txs true L,.int .i64 (L.length-s.l.length:Nat),errA c]))]
  rw [ha,errA_ne hc]
 ·refine xV ?_
  refine⟨rfl,?_⟩
  unfold failS
  rw [if_neg hb,←ha]
theorem ha_of {L:List TX} {s:PS} {a:Nat} (ha:L.length-s.l.length=a):rdO L s=rdA L a s.e:=by unfold rdO;rw [ha]
theorem take_fg (g:Nat) (L:List TX) (s:PS) (m:Bool) (hs:s.l<:+L.map TX.t) (hL:L.length≤1099511627776):Fg Tryz.prog 32 g (rdO L s) [.c (.optr g 0),.c (.bool m)] (.c (.str (sB (takeS m s).1))) (rdO L (takeS m s).2):=by
 have h:=rat hs
 have f1:=fail_fg g L s 20 (by decide)
 have f2:=fail_fg g L s 2 (by decide)
 generalize ha:L.length-s.l.length=a at h
 have hle:=h.le
 unfold Fg
 rw [ha_of ha]
 rw [ha_of ha] at f1 f2
 refine fh_of_body Tryz.func32 rfl rfl (by simp [Tryz.ntmps32]) fun C hC=> ?_
 simp only [initS,Nat.reduceAdd]
 repeat' first|refine yA1 o0 ?_|(refine zg o0 (f1) ?_)|(refine zg o0 (f2) ?_)|refine zW o0 ?_|refine yP o0 ?_|refine yN o0 ?_|refine zC o0 (fun hb=>?_) fun hb=>?_|refine zG o0 (fun hb=>?_) fun hb=>?_|refine zD o0 (fun hb=>?_) fun hb=>?_
 ·have h0:s.e≠0:=by simpa using hb
  have ht:takeS m s=([],s):=by unfold takeS;rw [if_neg h0]
  refine xU ?_
  rw [ht,←ha_of ha]
  exact⟨rfl,rfl⟩
 have h0:s.e=0:=by simpa using hb
 refine aw_dr 11 ty_mixed (by kernel_rfl) ?_
 repeat' first|refine yA1 o0 ?_|(refine zg o0 (f1) ?_)|(refine zg o0 (f2) ?_)|refine zW o0 ?_|refine yP o0 ?_|refine yN o0 ?_|refine zC o0 (fun hb=>?_) fun hb=>?_|refine zG o0 (fun hb=>?_) fun hb=>?_|refine zD o0 (fun hb=>?_) fun hb=>?_
 ·have hl:s.l=[]:=h.nil om
  have ht:takeS m s=([],⟨[],20⟩):=take_nil h0 hl
  refine xU ?_
  rw [ht]
  refine⟨rfl,?_⟩
  unfold failS
  rw [if_pos h0,hl]
 ·rename_i h1
  have hm:m=false:=by simpa using hb
  obtain⟨l',hl,hl'⟩:=h.cons om
  have ht:=take_cons (m:=m) h0 hl
  rw [hm] at ht
  refine xU ?_
  rw [hm,ht]
  refine⟨rfl,?_⟩
  unfold failS
  rw [if_pos h0,hl];rfl
 ·rename_i h1
  have hm:m=true:=by simpa using hb
  obtain⟨l',hl,hl'⟩:=h.cons om
  have ht:=take_cons (m:=m) h0 hl
  rw [hm] at ht
  have e1:((a:Int)+1-1).toNat=a:=by omega
  refine aw_dr 13 ty_mixed (by kernel_rfl) ?_
  repeat' first|refine yA1 e1 ?_|refine zW e1 ?_|refine yP e1 ?_|refine yN e1 ?_|refine zC e1 (fun hb=>?_) fun hb=>?_|refine zG e1 (fun hb=>?_) fun hb=>?_|refine zD e1 (fun hb=>?_) fun hb=>?_
  refine yU e1 ?_
  rw [hm,ht]
  refine⟨rfl,?_⟩
  show _=[(g,AObj.cells 56 3 (ofL [txs true L,.int .i64 (L.length-l'.length:Nat),errA 0]))]
  rw [hl',h0];rfl
end Go.Proofs.YteehccacfedolaaGreat
namespace Go.Proofs.YteehccacfedolaaGreat
open Go.AI Go.PN
attribute [local irreducible] aw Fa Fh DrK
theorem expect_fg (g:Nat) (L:List TX) (s:PS) (w:BS) (hs:s.l<:+L.map TX.t) (hL:L.length≤1099511627776):Fg Tryz.prog 12 g (rdO L s) [.c (.optr g 0),.c (.str (sB w))] (.tup []) (rdO L (expS w s)):=by
 have f1:=is_fg g L s w hs hL
 have f2:=take_fg g L s (isS s w) hs hL
 unfold Fg
 refine fh_of_body Tryz.func12 rfl rfl (by simp [Tryz.ntmps12]) fun C hC=> ?_
 simp only [initS,Nat.reduceAdd]
 repeat' first|refine yA1 o0 ?_|(refine zg o0 (f1) ?_)|(refine zg o0 (f2) ?_)|refine zW o0 ?_|refine yP o0 ?_|refine yN o0 ?_|refine zC o0 (fun hb=>?_) fun hb=>?_|refine zG o0 (fun hb=>?_) fun hb=>?_|refine zD o0 (fun hb=>?_) fun hb=>?_
 refine xV ?_
 exact⟨rfl,rfl⟩
theorem word_fg (g:Nat) (L:List TX) (s:PS) (hs:s.l<:+L.map TX.t) (hL:L.length≤1099511627776):Fg Tryz.prog 13 g (rdO L s) [.c (.optr g 0)] (.c (.str (sB (wordS s).1))) (rdO L (wordS s).2):=by
 have f1:=kind_fg g L s 0 hs hL
 have f2:=take_fg g L s (kindS s 0) hs hL
 unfold Fg
 refine fh_of_body Tryz.func13 rfl rfl (by simp [Tryz.ntmps13]) fun C hC=> ?_
 simp only [initS,Nat.reduceAdd]
 repeat' first|refine yA1 o0 ?_|(refine zg o0 (f1) ?_)|(refine zg o0 (f2) ?_)|refine zW o0 ?_|refine yP o0 ?_|refine yN o0 ?_|refine zC o0 (fun hb=>?_) fun hb=>?_|refine zG o0 (fun hb=>?_) fun hb=>?_|refine zD o0 (fun hb=>?_) fun hb=>?_
 refine xU ?_
 exact⟨rfl,rfl⟩
theorem input_fg (g:Nat) (L:List TX) (s:PS) (hs:s.l<:+L.map TX.t) (hL:L.length≤1099511627776) (hw:∀t∈L,t.t.text.length≤1099511627776):Fg Tryz.prog 16 g (rdO L s) [.c (.optr g 0)] (.c (.str (sB (inputS s).1))) (rdO L (inputS s).2):=by
 have f1:=is_fg g L s kAt hs hL
 have f2:=expect_fg g L s kAt hs hL
 have f3:=word_fg g L s hs hL
 have f4:=word_fg g L (expS kAt s) (((rdr_exp kAt).suf s).trans hs) hL
 have hlen:(wordS (expS kAt s)).1.length≤1099511627776:=by
  unfold wordS takeS
  split
  ·split
   ·simp
   ·rename_i t l hl
    split
    ·have hm:t∈L.map TX.t:=(((rdr_exp kAt).suf s).trans hs).subset (by show t∈(expS kAt s).l;rw [hl];exact List.mem_cons_self)
     obtain⟨x,hx,rfl⟩:=List.mem_map.1 hm
     exact hw x hx
    ·simp
  ·simp
 unfold Fg
 unfold inputS
 refine fh_of_body Tryz.func16 rfl rfl (by simp [Tryz.ntmps16]) fun C hC=> ?_
 simp only [initS,Nat.reduceAdd]
 repeat' first|refine yA1 o0 ?_|(refine zg o0 (f1) ?_)|(refine zg o0 (f2) ?_)|(refine zg o0 (f3) ?_)|(refine zg o0 (f4) ?_)|refine zW o0 ?_|refine yP o0 ?_|refine yN o0 ?_|refine zC o0 (fun hb=>?_) fun hb=>?_|refine zG o0 (fun hb=>?_) fun hb=>?_|refine zD o0 (fun hb=>?_) fun hb=>?_
 ·refine xU ?_
  rw [if_pos hb]
  exact⟨rfl,rfl⟩
 ·refine xU ?_
  rw [if_neg (by rw [hb];decide)]
  exact⟨rfl,rfl⟩
theorem gkind_fa (w:BS):Fa Tryz.prog 70 [.c (.str (sB w))] (.tup [.c (.int .i64 ((gkind w).getD 0)),.c (.bool (gkind w).isSome)]):=by
 unfold gkind
 refine fa_of_body Tryz.func70 rfl rfl (by simp [Tryz.ntmps70]) fun C hC=> ?_
 simp only [initS,Nat.reduceAdd]
 repeat' first|refine yA1 o0 ?_|refine zW o0 ?_|refine yP o0 ?_|refine yN o0 ?_|refine zC o0 (fun hb=>?_) fun hb=>?_|refine zG o0 (fun hb=>?_) fun hb=>?_|refine zD o0 (fun hb=>?_) fun hb=>?_
 all_goals
  refine xT hC ?_
  refine .tup ⟨.c (ler_int ?_),.c (ler_bool ?_),trivial⟩
  all_goals simp_all
theorem number_fg (g:Nat) (L:List TX) (s:PS) (hs:s.l<:+L.map TX.t) (hL:L.length≤1099511627776) (hw:∀t∈L,t.t.text.length≤1099511627776):Fg Tryz.prog 72 g (rdO L s) [.c (.optr g 0)] (.agg (rdc (numS s).1)) (rdO L (numS s).2):=by
 have f1:=kind_fg g L s 1 hs hL
 have f2:=take_fg g L s (kindS s 1) hs hL
 have hlen:(takeS (kindS s 1) s).1.length≤1099511627776:=by
  unfold takeS
  split
  ·split
   ·simp
   ·rename_i t l hl
    split
    ·have hm:t∈L.map TX.t:=hs.subset (by rw [hl];exact List.mem_cons_self)
     obtain⟨x,hx,rfl⟩:=List.mem_map.1 hm
     exact hw x hx
    ·simp
  ·simp
 have f3:=tvalue_fa (takeS (kindS s 1) s).1 hlen
 unfold Fg
 unfold numS
 dsimp only
 generalize hr:takeS (kindS s 1) s=r at*
 obtain⟨t,s1⟩:=r
 dsimp only at*
 refine fh_of_body Tryz.func72 rfl rfl (by simp [Tryz.ntmps72]) fun C hC=> ?_
 simp only [initS,Nat.reduceAdd]
 repeat' first|refine yA1 o0 ?_|refine zW o0 ?_|refine yP o0 ?_|refine yN o0 ?_|refine zC o0 (fun hb=>?_) fun hb=>?_|refine zG o0 (fun hb=>?_) fun hb=>?_|refine zD o0 (fun hb=>?_) fun hb=>?_
 refine xA fun g2 hn_g2=>?_
 repeat' first|refine yA1 hn_g2 ?_|(refine zg hn_g2 (f1) ?_)|(refine zg hn_g2 (f2) ?_)|(refine yC2 hn_g2 (f3) ?_)|(refine yD2 hn_g2 (f3) ?_)|refine zW hn_g2 ?_|refine yP hn_g2 ?_|refine yN hn_g2 ?_|refine zC hn_g2 (fun hb=>?_) fun hb=>?_|refine zG hn_g2 (fun hb=>?_) fun hb=>?_|refine zD hn_g2 (fun hb=>?_) fun hb=>?_
 ·have h0:s1.e≠0:=by simpa using hb
  refine aw_convR (f':=ofL (rdc rd0)) zero_cells ?_
  refine aw_rethw (h':=[(g,rdO L s1)]) rfl (by first|exact List.Sublist.refl _|exact .cons _ (.refl _)|exact .cons _ (.cons _ (.refl _))|exact .cons _ (.cons _ (.cons _ (.refl _)))) fun R r=>?_;simp only[go_sem,hn_g2];refine r _ rfl ?_;clear r R
  rw [if_neg h0]
  exact⟨rfl,rfl⟩
 have h0:s1.e=0:=by simpa using hb
 refine yA hn_g2 fun g4 hn_g4=>?_
 all_goals try(have Z:=(oj hn_g2 hn_g4);(repeat' first|refine yA1 Z ?_|refine zW Z ?_|refine yP Z ?_|refine yN Z ?_|refine zC Z (fun hb=>?_) fun hb=>?_|refine zG Z (fun hb=>?_) fun hb=>?_|refine zD Z (fun hb=>?_) fun hb=>?_);all_goals clear Z)
 ·have hv:valC t≠0:=by simpa using hb
  have f4:=fail_fg g L s1 (valC t) hv
  rw [←errA_ne hv] at f4
  all_goals try(have Z:=(oj hn_g2 hn_g4);(repeat' first|refine yA1 Z ?_|(refine zg Z (f4) ?_)|refine zW Z ?_|refine yP Z ?_|refine yN Z ?_|refine zC Z (fun hb=>?_) fun hb=>?_|refine zG Z (fun hb=>?_) fun hb=>?_|refine zD Z (fun hb=>?_) fun hb=>?_);all_goals clear Z)
  refine aw_rethw (h':=[(g,rdO L (failS (valC t) s1))]) rfl (by first|exact List.Sublist.refl _|exact .cons _ (.refl _)|exact .cons _ (.cons _ (.refl _))|exact .cons _ (.cons _ (.cons _ (.refl _)))) fun R r=>?_;simp only[go_sem,hn_g2,hn_g4];refine r _ rfl ?_;clear r R
  rw [if_pos h0,if_neg hv]
  unfold failS
  rw [if_pos h0]
  exact⟨rfl,rfl⟩
 ·have hv:valC t=0:=by simpa using hb
  refine aw_rethw (h':=[(g,rdO L s1)]) rfl (by first|exact List.Sublist.refl _|exact .cons _ (.refl _)|exact .cons _ (.cons _ (.refl _))|exact .cons _ (.cons _ (.cons _ (.refl _)))) fun R r=>?_;simp only[go_sem,hn_g2,hn_g4];refine r _ rfl ?_;clear r R
  rw [if_pos h0,if_pos hv]
  exact⟨rfl,rfl⟩
end Go.Proofs.YteehccacfedolaaGreat
namespace Go.PN
open Go.AI
theorem wdA (n:Nat):(words n).getD 0 0=n%4294967296:=by
 by_cases h:n=0
 ·subst h;rw [words_zero];rfl
 ·rw [words_cons om];rfl
theorem wdB (n:Nat):(words n).getD 1 0=n/4294967296%4294967296:=by
 by_cases h:n=0
 ·subst h;rw [words_zero];rfl
 ·rw [words_cons om]
  show(words (n/4294967296)).getD 0 0=_
  exact wdA _
theorem RD.q_nd {r:RD} {L:Nat} (hw:r.wf L):r.q.den=r.pd∧r.q.num=sgn r.ps r.pn:=by
 have hd:=RD.pd_ne hw
 have hg:(sgn r.ps r.pn).natAbs.gcd r.pd=1:=by
  rw [sgn_abs]
  unfold RD.pn RD.pd
  cases hs:r.some with
  |true=>simp only [if_true];exact(RD.some_spec hw hs).2.2.2.2
  |false=>simp
 obtain⟨h1,h2⟩:=mkRat_nd (n:=sgn r.ps r.pn) hd
 rw [hg] at h1 h2
 exact⟨by unfold RD.q sq;rw [h2];simp,by unfold RD.q sq;rw [h1];simp⟩
end Go.PN
namespace Go.Proofs.YteehccacfedolaaGreat
open Go.AI Go.PN
attribute [local irreducible] aw Fa Fh DrK
theorem bits63 (n:Nat):decide (bitlen n>63)= !decide (n<9223372036854775808):=by
 by_cases h:n<9223372036854775808
 ·have:=bitlen_lt (x:=n) (k:=63) om
  rw [decide_eq_true h,decide_eq_false om];rfl
 ·have h1:=bitlen_div (x:=n) (k:=63) om
  have h2:bitlen (n/2^63)≠0:=fun e=>by
   have:=bitlen_zero.1 e
   omega
  rw [decide_eq_false h,decide_eq_true om];rfl
theorem join63 {n:Nat} (h:n<9223372036854775808):wrapZ .i64 (orZ .u64 ((n%4294967296:Nat):Int) (shlZ .u64 ((n/4294967296%4294967296:Nat):Int) 32))=(n:Int):=by
 rw [shl_u64_32 _ om,or_u64_join' _ _ om om]
 rw [wrapZ_eq,wrap_inRange (by simp only [inRange];omega)]
 omega
theorem nint_fa (n:Nat) (hn:(words n).length≤68719476736):Fa Tryz.prog 146 [.c (ws false (words n))] (.tup [.c (.int .i64 (if n<9223372036854775808 then n else 0)),.c (.bool (decide (n<9223372036854775808)))]):=by
 have h1:=bitsW n hn
 have h2:=word_fa (words n) 0 (words_lt _)
 have h3:=word_fa (words n) 1 (words_lt _)
 rw [wdA] at h2
 rw [wdB] at h3
 have hb:=bits63 n
 by_cases h:n<9223372036854775808
 ·have hj:=join63 h
  rw [if_pos h,decide_eq_true h]
  rw [decide_eq_true h] at hb
  refine fa_of_body Tryz.func146 rfl rfl (by simp [Tryz.ntmps146]) fun C hC=> ?_
  simp only [initS,Nat.reduceAdd]
  all_goals try(have Z:=(oj hb hj);(repeat' first|refine yA1 Z ?_|(refine yC2 Z (h1) ?_)|(refine yD2 Z (h1) ?_)|(refine yC2 Z (h2) ?_)|(refine yD2 Z (h2) ?_)|(refine yC2 Z (h3) ?_)|(refine yD2 Z (h3) ?_)|refine zW Z ?_|refine yP Z ?_|refine yN Z ?_|refine zC Z (fun hb=>?_) fun hb=>?_|refine zG Z (fun hb=>?_) fun hb=>?_|refine zD Z (fun hb=>?_) fun hb=>?_);all_goals clear Z)
  refine yT hC (oj hb hj) ?_
  exact .tup ⟨.c (.int _ _),.c (.bool _),trivial⟩
 ·rw [if_neg h,decide_eq_false h]
  rw [decide_eq_false h] at hb
  refine fa_of_body Tryz.func146 rfl rfl (by simp [Tryz.ntmps146]) fun C hC=> ?_
  simp only [initS,Nat.reduceAdd]
  repeat' first|refine yA1 hb ?_|(refine yC2 hb (h1) ?_)|(refine yD2 hb (h1) ?_)|(refine yC2 hb (h2) ?_)|(refine yD2 hb (h2) ?_)|(refine yC2 hb (h3) ?_)|(refine yD2 hb (h3) ?_)|refine zW hb ?_|refine yP hb ?_|refine yN hb ?_|refine zC hb (fun hb=>?_) fun hb=>?_|refine zG hb (fun hb=>?_) fun hb=>?_|refine zD hb (fun hb=>?_) fun hb=>?_
  refine yT hC hb ?_
  exact .tup ⟨.c (.int _ _),.c (.bool _),trivial⟩
theorem qint_fa (n:Nat) (hn:(words n).length≤68719476736):Fa Tryz.prog 161 [.c (ws false (words n))] (.tup [.c (.int .i64 (if n<9223372036854775808 then n else 0)),.c (.bool (decide (n<9223372036854775808)))]):=by
 have h1:=qbits_fa (words n) (words_lt _) hn
 rw [val_words] at h1
 have h2:=qword_fa (words n) 0 (words_lt _)
 have h3:=qword_fa (words n) 1 (words_lt _)
 rw [wdA] at h2
 rw [wdB] at h3
 have hb:=bits63 n
 by_cases h:n<9223372036854775808
 ·have hj:=join63 h
  rw [if_pos h,decide_eq_true h]
  rw [decide_eq_true h] at hb
  refine fa_of_body Tryz.func161 rfl rfl (by simp [Tryz.ntmps161]) fun C hC=> ?_
  simp only [initS,Nat.reduceAdd]
  all_goals try(have Z:=(oj hb hj);(repeat' first|refine yA1 Z ?_|(refine yC2 Z (h1) ?_)|(refine yD2 Z (h1) ?_)|(refine yC2 Z (h2) ?_)|(refine yD2 Z (h2) ?_)|(refine yC2 Z (h3) ?_)|(refine yD2 Z (h3) ?_)|refine zW Z ?_|refine yP Z ?_|refine yN Z ?_|refine zC Z (fun hb=>?_) fun hb=>?_|refine zG Z (fun hb=>?_) fun hb=>?_|refine zD Z (fun hb=>?_) fun hb=>?_);all_goals clear Z)
  refine yT hC (oj hb hj) ?_
  exact .tup ⟨.c (.int _ _),.c (.bool _),trivial⟩
 ·rw [if_neg h,decide_eq_false h]
  rw [decide_eq_false h] at hb
  refine fa_of_body Tryz.func161 rfl rfl (by simp [Tryz.ntmps161]) fun C hC=> ?_
  simp only [initS,Nat.reduceAdd]
  repeat' first|refine yA1 hb ?_|(refine yC2 hb (h1) ?_)|(refine yD2 hb (h1) ?_)|(refine yC2 hb (h2) ?_)|(refine yD2 hb (h2) ?_)|(refine yC2 hb (h3) ?_)|(refine yD2 hb (h3) ?_)|refine zW hb ?_|refine yP hb ?_|refine yN hb ?_|refine zC hb (fun hb=>?_) fun hb=>?_|refine zG hb (fun hb=>?_) fun hb=>?_|refine zD hb (fun hb=>?_) fun hb=>?_
  refine yT hC hb ?_
  exact .tup ⟨.c (.int _ _),.c (.bool _),trivial⟩
theorem cmpN_eq0 (a b:Nat):cmpN a b=0↔a=b:=by unfold cmpN;split<;>(try split)<;>omega
theorem intQ_of {r:RD} {L:Nat} (hw:r.wf L):intQ r.q=if r.pd=1∧ -9223372036854775808≤sgn r.ps r.pn∧sgn r.ps r.pn≤9223372036854775807 then some (sgn r.ps r.pn) else none:=by
 obtain⟨h1,h2⟩:=RD.q_nd hw
 unfold intQ
 rw [h1,h2]
theorem rint_fa (r:RD) (hw:r.wf 1073741824):Fa Tryz.prog 115 [.agg (rdc r)] (.tup [.c (.int .i64 ((intQ r.q).getD 0)),.c (.bool (intQ r.q).isSome)]):=by
 obtain⟨l1,l2⟩:=RD.p_len hw om
 rw [intQ_of hw]
 have h1:=rparts_fa r hw
 have h2:=one_fa
 have h3:=cmpW r.pd 1 om (by rw [words_one];simp)
 rw [words_one] at h3
 have h4:=rsize_fa (-9223372036854775808) om om
 have h5:=cmpW r.pn 9223372036854775808 om (Nat.le_trans (words_small om) om)
 have h6:=nint_fa r.pn om
 have hn:∀n:Nat,n<9223372036854775808→wrapZ .i64 (0-(n:Int))= -(n:Int):=fun n hn=>int_neg om om
 unfold partsAV at h1
 generalize r.pd=d at*
 generalize r.pn=n at*
 generalize r.ps=p at*
 refine fa_of_body Tryz.func115 rfl rfl (by simp [Tryz.ntmps115]) fun C hC=> ?_
 simp only [initS,Nat.reduceAdd]
 repeat' first|refine yA1 o0 ?_|refine zW o0 ?_|refine yP o0 ?_|refine yN o0 ?_|refine zC o0 (fun hb=>?_) fun hb=>?_|refine zG o0 (fun hb=>?_) fun hb=>?_|refine zD o0 (fun hb=>?_) fun hb=>?_
 refine xB fun g1 hn_g1=>?_
 repeat' first|refine yA1 hn_g1 ?_|(refine yC2 hn_g1 (h1) ?_)|(refine yD2 hn_g1 (h1) ?_)|(refine yC2 hn_g1 (h2) ?_)|(refine yD2 hn_g1 (h2) ?_)|(refine yC2 hn_g1 (h3) ?_)|(refine yD2 hn_g1 (h3) ?_)|(refine yC2 hn_g1 (h4) ?_)|(refine yD2 hn_g1 (h4) ?_)|(refine yC2 hn_g1 (h5) ?_)|(refine yD2 hn_g1 (h5) ?_)|(refine yC2 hn_g1 (h6) ?_)|(refine yD2 hn_g1 (h6) ?_)|refine zW hn_g1 ?_|refine yP hn_g1 ?_|refine yN hn_g1 ?_|refine zC hn_g1 (fun hb=>?_) fun hb=>?_|refine zG hn_g1 (fun hb=>?_) fun hb=>?_|refine zD hn_g1 (fun hb=>?_) fun hb=>?_
 all_goals
  refine yT hC hn_g1 ?_
  clear h1 h2 h3 h4 h5 h6
  refine .tup ⟨.c (ler_int ?_),.c (ler_bool ?_),trivial⟩
  all_goals
   simp only [ne_eq,cmpN_eq0] at*
   first
    |(exfalso;simp_all;done)
    |(try subst_vars
      try simp only [Bool.not_eq_true',Bool.not_eq_false',decide_eq_false_iff_not,decide_eq_true_eq] at*
      unfold sgn
      try rw [hn _ (by split<;>omega)]
      (repeat' split)<;>simp_all<;>omega)
end Go.Proofs.YteehccacfedolaaGreat
namespace Go.PN
open Go.AI
theorem natB_fit {s:BS} (hd:∀i,i<s.length→isDig (bAt s i)=true):fits (natB s:Rat) (s.length+1):=by have:=natB_fits hd (Nat.le_refl s.length);rwa [List.take_length] at this
theorem val_fits {s:BS} (h:valC s=0):fits (valQ s) 500:=by
 unfold valC at h
 split at h
 ·cases h
 ·rename_i h100
  split at h
  ·cases h
  ·rename_i hn
   have hn:isNum s=true:=by simpa using hn
   obtain⟨hf,h0⟩:=num_form hn
   unfold valQ
   by_cases hsl:idxB 47 s<s.length
   ·rw [if_pos hsl]
    have hz:natB (s.drop (idxB 47 s+1))≠0:=fun e=>by rw [if_pos ⟨hsl,e⟩] at h;cases h
    cases hf with
    |all hh=>have:=(ix_all hh).1;omega
    |two e he hm h1 h2=>
     rcases hm with hm|hm
     ·have:=(ix_point he hm h1 h2).1;omega
     ·rw [ix_slash he hm h1] at hz⊢
      have f1:=natB_fit (dig_take h1)
      have f2:=natB_fit (dig_drop h2)
      exact fits_mono (fits_div f1 f2 (by simpa using hz)) (by rw [List.length_take,List.length_drop];omega)
   ·rw [if_neg hsl]
    have key:(∀i,i<(s.take (idxB 46 s)++s.drop (idxB 46 s+1)).length→isDig (bAt (s.take (idxB 46 s)++s.drop (idxB 46 s+1)) i)=true):=by
     have app:∀(a b:BS),(∀i,i<a.length→isDig (bAt a i)=true)→(∀i,i<b.length→isDig (bAt b i)=true)→∀i,i<(a++b).length→isDig (bAt (a++b) i)=true:=fun a b hda hdb i hi=>by
      by_cases h:i<a.length
      ·have:=hda i h
       unfold bAt at this⊢
       rw [List.getD_eq_getElem?_getD] at this⊢
       rwa [List.getElem?_append_left h]
      ·have:=hdb (i-a.length) (by rw [List.length_append] at hi;omega)
       unfold bAt at this⊢
       rw [List.getD_eq_getElem?_getD] at this⊢
       rwa [List.getElem?_append_right om]
     cases hf with
     |all hh=>
      rw [(ix_all hh).2,List.take_length,List.drop_of_length_le om]
      exact app _ _ hh fun i hi=>absurd hi (by simp)
     |two e he hm h1 h2=>
      rcases hm with hm|hm
      ·rw [(ix_point he hm h1 h2).2];exact app _ _ (dig_take h1) (dig_drop h2)
      ·have:=ix_slash he hm h1;omega
    have f1:=natB_fit key
    have f2:fits ((10^(s.drop (idxB 46 s+1)).length:Nat):Rat) ((s.drop (idxB 46 s+1)).length+1):=nat_fits (pow10_lt _) om
    exact fits_mono (fits_div f1 f2 (pow10_ne _)) (by rw [List.length_append,List.length_take,List.length_drop];omega)
theorem valR_wf (s:BS):(valR s).wf 500:=by
 unfold valR
 split
 ·rename_i h;exact rd_wf (val_fits h)
 ·exact⟨fun x hx=>(by cases hx),fun x hx=>(by cases hx),Nat.zero_le _,Nat.zero_le _⟩
theorem numS_wf (s:PS):(numS s).1.wf 500:=by
 unfold numS
 dsimp only
 split
 ·exact valR_wf _
 ·exact⟨fun x hx=>(by cases hx),fun x hx=>(by cases hx),Nat.zero_le _,Nat.zero_le _⟩
end Go.PN
namespace Go.Proofs.YteehccacfedolaaGreat
open Go.AI Go.PN
attribute [local irreducible] aw Fa Fh DrK
theorem whole_fg (g:Nat) (L:List TX) (s:PS) (hs:s.l<:+L.map TX.t) (hL:L.length≤1099511627776) (hw:∀t∈L,t.t.text.length≤1099511627776):Fg Tryz.prog 71 g (rdO L s) [.c (.optr g 0)] (.c (.int .i64 (wholeS s).1)) (rdO L (wholeS s).2):=by
 have f1:=number_fg g L s hs hL hw
 have f2:=rint_fa (numS s).1 (wf_mono (numS_wf s) om)
 unfold Fg
 unfold wholeS
 dsimp only
 generalize hr:numS s=r at*
 obtain⟨q,s1⟩:=r
 dsimp only at*
 have f3:=fail_fg g L s1 3 (by decide)
 generalize hi:intQ q.q=o at*
 cases o with
 |none=>
  simp only [Option.isSome_none,Option.getD_none] at f2
  refine fh_of_body Tryz.func71 rfl rfl (by simp [Tryz.ntmps71]) fun C hC=> ?_
  simp only [initS,Nat.reduceAdd]
  repeat' first|refine yA1 o0 ?_|(refine zg o0 (f1) ?_)|refine zW o0 ?_|refine yP o0 ?_|refine yN o0 ?_|refine zC o0 (fun hb=>?_) fun hb=>?_|refine zG o0 (fun hb=>?_) fun hb=>?_|refine zD o0 (fun hb=>?_) fun hb=>?_
  refine xA fun g3 hn_g3=>?_
  repeat' first|refine yA1 hn_g3 ?_|(refine yC2 hn_g3 (f2) ?_)|(refine yD2 hn_g3 (f2) ?_)|(refine zg hn_g3 (f3) ?_)|refine zW hn_g3 ?_|refine yP hn_g3 ?_|refine yN hn_g3 ?_|refine zC hn_g3 (fun hb=>?_) fun hb=>?_|refine zG hn_g3 (fun hb=>?_) fun hb=>?_|refine zD hn_g3 (fun hb=>?_) fun hb=>?_
  ·have h0:s1.e≠0:=by simpa using hb
   refine aw_rethw (h':=[(g,rdO L s1)]) rfl (by first|exact List.Sublist.refl _|exact .cons _ (.refl _)|exact .cons _ (.cons _ (.refl _))|exact .cons _ (.cons _ (.cons _ (.refl _)))) fun R r=>?_;simp only[go_sem,hn_g3];refine r _ rfl ?_;clear r R
   rw [if_neg h0]
   exact⟨rfl,rfl⟩
  ·have h0:s1.e=0:=by simpa using hb
   refine aw_rethw (h':=[(g,rdO L (failS 3 s1))]) rfl (by first|exact List.Sublist.refl _|exact .cons _ (.refl _)|exact .cons _ (.cons _ (.refl _))|exact .cons _ (.cons _ (.cons _ (.refl _)))) fun R r=>?_;simp only[go_sem,hn_g3];refine r _ rfl ?_;clear r R
   rw [if_pos h0]
   unfold failS
   rw [if_pos h0]
   exact⟨rfl,rfl⟩
 |some n=>
  simp only [Option.isSome_some,Option.getD_some] at f2
  refine fh_of_body Tryz.func71 rfl rfl (by simp [Tryz.ntmps71]) fun C hC=> ?_
  simp only [initS,Nat.reduceAdd]
  repeat' first|refine yA1 o0 ?_|(refine zg o0 (f1) ?_)|refine zW o0 ?_|refine yP o0 ?_|refine yN o0 ?_|refine zC o0 (fun hb=>?_) fun hb=>?_|refine zG o0 (fun hb=>?_) fun hb=>?_|refine zD o0 (fun hb=>?_) fun hb=>?_
  refine xA fun g3 hn_g3=>?_
  repeat' first|refine yA1 hn_g3 ?_|(refine yC2 hn_g3 (f2) ?_)|(refine yD2 hn_g3 (f2) ?_)|(refine zg hn_g3 (f3) ?_)|refine zW hn_g3 ?_|refine yP hn_g3 ?_|refine yN hn_g3 ?_|refine zC hn_g3 (fun hb=>?_) fun hb=>?_|refine zG hn_g3 (fun hb=>?_) fun hb=>?_|refine zD hn_g3 (fun hb=>?_) fun hb=>?_
  ·have h0:s1.e≠0:=by simpa using hb
   refine aw_rethw (h':=[(g,rdO L s1)]) rfl (by first|exact List.Sublist.refl _|exact .cons _ (.refl _)|exact .cons _ (.cons _ (.refl _))|exact .cons _ (.cons _ (.cons _ (.refl _)))) fun R r=>?_;simp only[go_sem,hn_g3];refine r _ rfl ?_;clear r R
   rw [if_neg h0]
   exact⟨rfl,rfl⟩
  ·rename_i hb0
   have h0:s1.e=0:=by simpa using hb0
   have hn:n<0:=hb
   refine aw_rethw (h':=[(g,rdO L (failS 3 s1))]) rfl (by first|exact List.Sublist.refl _|exact .cons _ (.refl _)|exact .cons _ (.cons _ (.refl _))|exact .cons _ (.cons _ (.cons _ (.refl _)))) fun R r=>?_;simp only[go_sem,hn_g3];refine r _ rfl ?_;clear r R
   rw [if_pos h0]
   try dsimp only
   unfold failS
   rw [if_pos h0,if_neg om]
   exact⟨rfl,rfl⟩
  ·rename_i hb0 hb1
   have h0:s1.e=0:=by simpa using hb0
   have hn:n>1073741824:=hb
   refine aw_rethw (h':=[(g,rdO L (failS 3 s1))]) rfl (by first|exact List.Sublist.refl _|exact .cons _ (.refl _)|exact .cons _ (.cons _ (.refl _))|exact .cons _ (.cons _ (.cons _ (.refl _)))) fun R r=>?_;simp only[go_sem,hn_g3];refine r _ rfl ?_;clear r R
   rw [if_pos h0]
   try dsimp only
   unfold failS
   rw [if_pos h0,if_neg om]
   exact⟨rfl,rfl⟩
  ·rename_i hb0 hb1
   have h0:s1.e=0:=by simpa using hb0
   have h1:¬n<0:=hb1
   have h2:¬n>1073741824:=hb
   refine aw_rethw (h':=[(g,rdO L s1)]) rfl (by first|exact List.Sublist.refl _|exact .cons _ (.refl _)|exact .cons _ (.cons _ (.refl _))|exact .cons _ (.cons _ (.cons _ (.refl _)))) fun R r=>?_;simp only[go_sem,hn_g3];refine r _ rfl ?_;clear r R
   rw [if_pos h0]
   try dsimp only
   rw [if_pos om]
   exact⟨rfl,rfl⟩
theorem house_fg (g:Nat) (L:List TX) (s:PS) (hs:s.l<:+L.map TX.t) (hL:L.length≤1099511627776):Fg Tryz.prog 35 g (rdO L s) [.c (.optr g 0)] (.agg (hsc (houseS s).1)) (rdO L (houseS s).2):=by
 have f1:=word_fg g L s hs hL
 unfold houseS
 dsimp only
 have hs1:=(rdr_word.suf s).trans hs
 generalize hr:wordS s=r at*
 obtain⟨nm,s1⟩:=r
 dsimp only at*
 have f2:=is_fg g L s1 kOn hs1 hL
 have f3:=is_fg g L s1 kOff hs1 hL
 have f4:=take_fg g L s1 (isS s1 kOn||isS s1 kOff) hs1 hL
 have hs2:=((rdr_take fun s=>isS s kOn||isS s kOff).suf s1).trans hs1
 try dsimp only at hs2
 cases h1:isS s1 kOn with
 |true=>
  rw [h1] at f2 f4 hs2
  rw [Bool.true_or] at f4 hs2
  rw [Bool.true_or]
  generalize takeS true s1=r at*
  obtain⟨t,s2⟩:=r
  dsimp only at*
  have f6:=expect_fg g L s2 kSemi hs2 hL
  unfold Fg
  refine fh_of_body Tryz.func35 rfl rfl (by simp [Tryz.ntmps35]) fun C hC=> ?_
  simp only [initS,Nat.reduceAdd]
  repeat' first|refine yA1 o0 ?_|refine zW o0 ?_|refine yP o0 ?_|refine yN o0 ?_|refine zC o0 (fun hb=>?_) fun hb=>?_|refine zG o0 (fun hb=>?_) fun hb=>?_|refine zD o0 (fun hb=>?_) fun hb=>?_
  refine xA fun g2 hn_g2=>?_
  repeat' first|refine yA1 hn_g2 ?_|(refine zg hn_g2 (f1) ?_)|refine zW hn_g2 ?_|refine yP hn_g2 ?_|refine yN hn_g2 ?_|refine zC hn_g2 (fun hb=>?_) fun hb=>?_|refine zG hn_g2 (fun hb=>?_) fun hb=>?_|refine zD hn_g2 (fun hb=>?_) fun hb=>?_
  refine yA hn_g2 fun g3 hn_g3=>?_
  all_goals try(have Z:=(oj hn_g2 hn_g3);(repeat' first|refine yA1 Z ?_|(refine zg Z (f2) ?_)|(refine zg Z (f3) ?_)|(refine zg Z (f4) ?_)|(refine zg Z (f6) ?_)|refine zW Z ?_|refine yP Z ?_|refine yN Z ?_|refine zC Z (fun hb=>?_) fun hb=>?_|refine zG Z (fun hb=>?_) fun hb=>?_|refine zD Z (fun hb=>?_) fun hb=>?_);all_goals clear Z)
  refine aw_rethw (h':=[(g,rdO L (expS kSemi s2))]) rfl (by first|exact List.Sublist.refl _|exact .cons _ (.refl _)|exact .cons _ (.cons _ (.refl _))|exact .cons _ (.cons _ (.cons _ (.refl _)))) fun R r=>?_;simp only[go_sem,hn_g2,hn_g3];refine r _ rfl ?_;clear r R
  exact⟨rfl,rfl⟩
 |false=>
  rw [h1] at f2 f4 hs2
  rw [Bool.false_or] at f4 hs2
  rw [Bool.false_or]
  generalize takeS (isS s1 kOff) s1=r at*
  obtain⟨t,s2⟩:=r
  dsimp only at*
  have f6:=expect_fg g L s2 kSemi hs2 hL
  unfold Fg
  refine fh_of_body Tryz.func35 rfl rfl (by simp [Tryz.ntmps35]) fun C hC=> ?_
  simp only [initS,Nat.reduceAdd]
  repeat' first|refine yA1 o0 ?_|refine zW o0 ?_|refine yP o0 ?_|refine yN o0 ?_|refine zC o0 (fun hb=>?_) fun hb=>?_|refine zG o0 (fun hb=>?_) fun hb=>?_|refine zD o0 (fun hb=>?_) fun hb=>?_
  refine xA fun g2 hn_g2=>?_
  repeat' first|refine yA1 hn_g2 ?_|(refine zg hn_g2 (f1) ?_)|refine zW hn_g2 ?_|refine yP hn_g2 ?_|refine yN hn_g2 ?_|refine zC hn_g2 (fun hb=>?_) fun hb=>?_|refine zG hn_g2 (fun hb=>?_) fun hb=>?_|refine zD hn_g2 (fun hb=>?_) fun hb=>?_
  refine yA hn_g2 fun g3 hn_g3=>?_
  all_goals try(have Z:=(oj hn_g2 hn_g3);(repeat' first|refine yA1 Z ?_|(refine zg Z (f2) ?_)|(refine zg Z (f3) ?_)|(refine zg Z (f4) ?_)|(refine zg Z (f6) ?_)|refine zW Z ?_|refine yP Z ?_|refine yN Z ?_|refine zC Z (fun hb=>?_) fun hb=>?_|refine zG Z (fun hb=>?_) fun hb=>?_|refine zD Z (fun hb=>?_) fun hb=>?_);all_goals clear Z)
  refine aw_rethw (h':=[(g,rdO L (expS kSemi s2))]) rfl (by first|exact List.Sublist.refl _|exact .cons _ (.refl _)|exact .cons _ (.cons _ (.refl _))|exact .cons _ (.cons _ (.cons _ (.refl _)))) fun R r=>?_;simp only[go_sem,hn_g2,hn_g3];refine r _ rfl ?_;clear r R
  exact⟨rfl,rfl⟩
end Go.Proofs.YteehccacfedolaaGreat
namespace Go.AI
section
variable {E : Env} {K : List It} {l : List Oper} {FP FP' : Heap} {σ σ' : Sl} {h : Heap} {o : Oper} {i m : Nat} {cs : List (Nat × Nat)}
theorem cw_buildSlice {t e size bytes len:Nat} {xs:List Operand} {cells:List CV} (ho:l[i]?=some o) (hop:o.op=.buildSlice t len (enumO 0 xs).toArray) (hw:wantA l σ o=some true) (hd:dstOk E.N o.dst=true) (ht:tElem E.P t=some (e,size,bytes))
  (hz:(tZero E.P e).isSome=true) (hl:xs.length=len) (hsm:len*size≤16777216) (hlm:len≤16777216) (hx:∀x∈xs,(ev σ x).flat=true∧(ev σ x).cells.all CV.solid=true∧(ev σ x).cells.length=size) (hc:(xs.map (ev σ)).flatMap AV.cells=cells) (hops:∀x∈xs,x∈o.op.operands) (hFP:Has0 FP' h)
  (k:∀g,g∉h.keys→CW E l K FP' cs (σ.setO o.dst (.c (.osl g size 0 len))) ((g,.cells e (len*size) (ofL cells))::h)) (hm:m=2∨m=1∧FP'=FP:=by first|exact .inl rfl|exact .inr ⟨rfl,rfl⟩):CW E l K FP ((i,m)::cs) σ h:=by
 refine .pin ho hm (R:=fun r h2=>∃g,g∉h.keys∧r=.c (.osl g size 0 len)∧h2=(g,.cells e (len*size) (ofL cells))::h) (fun σ' K hs=> ?_) ?_ ?_
 ·have he:∀x∈xs,ev σ' x=ev σ x:=fun x hxx=>ev_same (hops x hxx) hs
  exact aw_buildSlice hop ((want_same hs).trans hw) hd ht hz hl hsm hlm (fun x hxx=>by rw [he x hxx];exact hx x hxx) (by rw [List.map_congr_left he];exact hc) fun g hg=>aw_ops_nil (aw_stop ⟨_,⟨g,hg,rfl,rfl⟩,rfl⟩)
 ·rintro r h2 ⟨g,_,_,rfl⟩;exact fun p hp=>List.mem_cons_of_mem _ (hFP p hp)
 ·rintro r h2 ⟨g,hg,rfl,rfl⟩;exact k g hg
theorem cw_push {t e size bytes n d1 s gt:Nat} {z:List CV} {og:Option Nat} {f f':Nat→CV} {pre:Heap} {v:AV} (ho:l[i]?=some o) (hop2:o.op=.call {callee:=.builtin .append,args:= #[.tmp s,.tmp d1],argTypes:= #[t,t]})
  (hg2:o.guard=none) (hd2:dstOk E.N o.dst=true)
  (ht:tElem E.P t=some (e,size,bytes)) (hz:tZero E.P e=some z) (hzl:z.length=size) (hs0:0<size) (hsz:size≤16777216)
  (hevs:ev σ (.tmp s)=.c (gs og size n)) (hev1:ev σ (.tmp d1)=.c (.osl gt size 0 1)) (hog:og=none→n=0) (hok:okPart v=true) (hvl:v.cells.length=size) (hh:h=(gt,.cells e (1*size) (ofL v.cells))::(pre++gh og e (n*size) f))
  (h63:n+1≤maxLen) (hby:(n+1)*bytes≤140737488355328) (hf:∀j,j<(n+1)*size→appF f (n*size) (ofL v.cells) j=f' j) (hFP:Has0 FP' ((gt,.cells e (1*size) (ofL v.cells))::pre))
  (k:∀g',g'∉Heap.keys ((gt,.cells e (1*size) (ofL v.cells))::pre)→CW E l K FP' cs (σ.setO o.dst (.c (gs (some g') size (n+1)))) ((gt,.cells e (1*size) (ofL v.cells))::(pre++gh (some g') e ((n+1)*size) f')))
  (hm:m=2∨m=1∧FP'=FP:=by first|exact .inl rfl|exact .inr ⟨rfl,rfl⟩):CW E l K FP ((i,m)::cs) σ h:=by
 subst hh
 obtain⟨ok1,ok2⟩:=okPart_spec hok
 refine .pin ho hm (R:=fun r h2=>∃g',g'∉Heap.keys ((gt,.cells e (1*size) (ofL v.cells))::pre)∧r=.c (gs (some g') size (n+1))∧h2=(gt,.cells e (1*size) (ofL v.cells))::(pre++gh (some g') e ((n+1)*size) f')) (fun σ' K hs=> ?_) ?_ ?_
 ·have hw2:∀σ2,wantA l σ2 o=some true:=fun σ2=>by unfold wantA;rw [hg2]
  have hevs':ev σ' (.tmp s)=.c (gs og size n):=(ev_same (by rw [hop2];simp [Op.operands,Call.operands]) hs).trans hevs
  have hev1':ev σ' (.tmp d1)=.c (.osl gt size 0 1):=(ev_same (by rw [hop2];simp [Op.operands,Call.operands]) hs).trans hev1
  have hsrc:∀h0:Heap,Src ((gt,.cells e (1*size) (ofL v.cells))::h0) size (.osl gt size 0 1) 1 (ofL v.cells):=fun h0=>by
   refine .osl (f':=ofL v.cells) (m:=1*size) (ty:=e) (by simp [Heap.get]) om (fun j _=>by rw [Nat.zero_add])
  cases og with
  |none=>
   have hn0:n=0:=hog rfl
   subst hn0
   refine aw_appendN (cx:=.osl gt size 0 1) (k:=1) (f2:=ofL v.cells) hop2 (hw2 _) hd2 ht hz hzl hs0 hevs' hev1' (hsrc _) om om om fun g' hg'=> ?_
   refine aw_conv1 (f':=f') (fun j hj=> ?_) ?_
   ·have:=hf j om
    rw [←this];simp [appF]
   ·have hnew:g'∉Heap.keys ((gt,.cells e (1*size) (ofL v.cells))::pre):=fun hm=>hg' (by simpa [gh] using hm)
    refine aw_perm (h':=(gt,.cells e (1*size) (ofL v.cells))::(pre++[(g',.cells e (1*size) f')])) ?_ ?_
    ·have:(pre++gh none e (0*size) f)=pre:=by simp [gh]
     rw [this]
     refine(List.Perm.swap _ _ _).trans (List.Perm.cons _ ?_)
     exact(List.perm_append_singleton _ _).symm
    ·exact aw_ops_nil (aw_stop ⟨_,⟨g',hnew,rfl,by simp [gh]⟩,rfl⟩)
  |some g=>
   refine aw_nd fun hnd=> ?_
   have hnp:g∉pre.keys:=fun hm=>by
    simp only [Heap.keys,gh,List.map_cons,List.map_append,List.map_nil,List.nodup_cons] at hnd
    have:=(List.nodup_append.1 hnd.2).2.2 g hm g (by simp)
    exact this rfl
   have hgtg:gt≠g:=fun e=>by
    subst e
    simp [Heap.keys,gh] at hnd
   refine aw_append (cx:=.osl gt size 0 1) (k:=1) (f2:=ofL v.cells) (g:=g) (m:=n*size) (f:=f) (h2:=(gt,.cells e (1*size) (ofL v.cells))::pre) hop2 (hw2 _) hd2 ht hz hzl hs0 hevs' ?_ (Nat.le_refl _) hev1' (hsrc _) ?_ om h63 hby ?_ fun g' hg'=> ?_
   ·show Heap.get ((gt,_)::(pre++[(g,_)])) g=_
    simp only [Heap.get,if_neg hgtg]
    exact Heap.get_app hnp
   ·intro j hj
    have hjl:j<v.cells.length:=by omega
    rw [ofL_get v.cells j v.cells[j] (List.getElem?_eq_getElem hjl)]
    exact List.all_eq_true.1 ok2 _ (List.getElem_mem hjl)
   ·show Heap.del ((gt,_)::(pre++[(g,_)])) g=_
    rw [Heap.del_ne hgtg,Heap.del_app hnp]
   ·refine aw_conv1 (f':=f') hf ?_
    refine aw_perm (h':=(gt,.cells e (1*size) (ofL v.cells))::(pre++[(g',.cells e ((n+1)*size) f')])) ?_ ?_
    ·refine(List.Perm.swap _ _ _).trans (List.Perm.cons _ ?_)
     exact(List.perm_append_singleton _ _).symm
    ·exact aw_ops_nil (aw_stop ⟨_,⟨g',hg',rfl,rfl⟩,rfl⟩)
 ·rintro r h2 ⟨g',_,_,rfl⟩
  intro p hp
  rcases List.mem_cons.1 (hFP p hp) with e|hm
  ·exact e▸List.mem_cons_self ..
  ·exact List.mem_cons_of_mem _ (List.mem_append_left _ hm)
 ·rintro r h2 ⟨g',hg,rfl,rfl⟩;exact k g' hg
end
end Go.AI
namespace Go.AI
section
variable {E : Env} {K : List It} {l : List Oper} {FP : Heap} {σ σ' : Sl} {h : Heap} {o : Oper} {i : Nat} {cs : List (Nat × Nat)}
theorem cw_cg {f:FuncId} {xs:List Operand} {ts:Array TypeId} {g:Nat} {ob ob':AObj} {args:List AV} {r:AV} (ho:l[i]?=some o) (hf:Fg E.P f g ob args r ob') (hop:o.op=.call {callee:=.value (.func f),args:=xs.toArray,argTypes:=ts}) (hw:wantA l σ o=some true) (hd:dstOk E.N o.dst=true)
  (hg:h.get g=some ob) (le:LeA [] (xs.map (ev σ)) args) (hFP:Has0 FP (h.set g ob')) (k:CW E l K FP cs (σ.setO o.dst r) (h.set g ob')):CW E l K FP ((i,1)::cs) σ h:=by
 refine cw_callh (hc:=[(g,ob)]) (hr:=h.del g) ho hf hop hw hd (Heap.get_perm hg) le ?_ ?_ (hm:=.inr ⟨rfl,rfl⟩)
 ·rintro _ _ ⟨rfl,rfl⟩
  exact fun p hp=>(Heap.set_perm (ob':=ob') hg).mem_iff.1 (hFP p hp)
 ·rintro _ _ ⟨rfl,rfl⟩ _
  exact cw_perm (Heap.set_perm hg).symm k
end
end Go.AI
namespace Go.PN
open Go.AI
theorem kd_true {s:PS} {L:List TX} (hs:s.l<:+L.map TX.t) (h:kindS s 0=true):s.e=0∧L.length-s.l.length<L.length∧(L.getD (L.length-s.l.length) tx0).t.text=hdT s:=by
 have hr:=rat hs
 unfold kindS at h
 simp only [Bool.and_eq_true,decide_eq_true_eq] at h
 refine⟨h.1,?_⟩
 by_cases hl:L.length-s.l.length<L.length
 ·obtain⟨l,h1,_⟩:=hr.cons hl
  refine⟨hl,?_⟩
  have h2:hdT s=(L.getD (L.length-s.l.length) tx0).t.text:=hd_cons h1
  rw [h2]
 ·have:=hr.nil hl
  rw [this] at h
  simp at h
def gtV (k:Option Int) (s:PS):Int×PS:=if k=some 2 then wholeS s else(0,s)
def gtD (k:Option Int) (s:PS):RD×PS:=if k=some 7 then numS (gtV k s).2 else(rd0,(gtV k s).2)
theorem gtD_suf (k:Option Int) (s:PS):(gtD k s).2.l<:+s.l:=by
 have h1:(gtV k s).2.l<:+s.l:=by
  unfold gtV;split
  ·exact rdr_whole.suf s
  ·exact List.suffix_refl _
 unfold gtD;split
 ·exact(rdr_num.suf _).trans h1
 ·exact h1
theorem suf_word {L:List TX} {s:PS} (hs:s.l<:+L.map TX.t):(wordS s).2.l<:+L.map TX.t:=(rdr_word.suf s).trans hs
end Go.PN
namespace Go.AI
open Go.PN
theorem strs_push {xs:List BS} {n:Nat} (hn:xs.length=n) (t:BS):∀j,j<(n+1)*1→appF (strsF xs) (n*1) (ofL (stc t)) j=strsF (xs++[t]) j:=lf_push (s:=1) (c:=stc) (d:=([]:BS)) hn t (by decide)
end Go.AI
namespace Go.Proofs.YteehccacfedolaaGreat
open Go.AI Go.PN
theorem conv_gate {a b c:CV}:∀j,j<7→∀(S:Bool→Nat→Prop) w u,RepC S w (ofL [a,b,c,.nils,.bool false,.nils,.nils] j) u→RepC S w (ofL ([a,b,c,.nils]++rdc rd0) j) u:=fun j hj S w u hr=>by
 match j,hj with
 |0,_=>exact hr
 |1,_=>exact hr
 |2,_=>exact hr
 |3,_=>exact hr
 |4,_=>exact hr
 |5,_=>exact repC_nil hr
 |6,_=>exact repC_nil hr
attribute [local irreducible] aw Fa Fh DrK
theorem gate_fg (g:Nat) (L:List TX) (s:PS) (hs:s.l<:+L.map TX.t) (hL:L.length≤1048576) (hw:∀t∈L,t.t.text.length≤1099511627776):Fg Tryz.prog 30 g (rdO L s) [.c (.optr g 0)] (.agg (gtc (gateS s).1)) (rdO L (gateS s).2):=by
 have f1:=word_fg g L s hs om
 have hs1:=suf_word hs
 rw [gateS_eq]
 unfold PN.bnd
 generalize wordS s=r at*
 obtain⟨nm,s1⟩:=r
 dsimp only at*
 have f2:=kind_fg g L s1 0 hs1 om
 have f3:=take_fg g L s1 (kdS s1).isSome hs1 om
 have hs2:=(rdr_gk.suf s1).trans hs1
 have hg1:(gkS s1).1=kdS s1:=rfl
 have hg2:(gkS s1).2=(takeS (kdS s1).isSome s1).2:=rfl
 rw [hg1]
 rw [←hg2] at f3
 generalize (gkS s1).2=s2 at*
 generalize (takeS (kdS s1).isSome s1).1=tw at*
 unfold Fg
 refine fh_of_body Tryz.func30 rfl rfl (by simp [Tryz.ntmps30]) fun C hC=> ?_
 simp only [initS,Nat.reduceAdd]
 apply wa1
 apply wa6
 refine xA fun g2 hn_g2=>?_
 refine yH hn_g2 ?_
 apply wa1
 apply wa6
 refine yH hn_g2 ?_
 refine aw_cg f1 rfl rfl rfl (zE hn_g2) (zL2 o0) ?_
 refine yS hn_g2 ?_
 refine yH hn_g2 ?_
 refine yA hn_g2 fun g3 hn_g3=>?_
 have J1:=oj hn_g2 hn_g3
 refine yW J1 ?_
 refine yS J1 ?_
 refine yH J1 ?_
 apply wa1
 apply wa6
 refine yH J1 ?_
 apply wa1
 refine aw_cut (fun _:Unit=>[(0,.c (.optr g 0)),(2,.c (.optr g2 0)),(3,.c (.optr g3 0)),(4,.c (.bool (kdS s1).isSome))]) (fun _=>[(g3,.cells 45 7 (ofL [.str (sB nm),.int .i64 ((kdS s1).getD 0),.int .i64 0,.nils,.bool false,.nils,.nils])),(g2,.cells 45 7 (ofL [.str (sB []),.int .i64 0,.int .i64 0,.nils,.bool false,.nils,.nils])),(g,rdO L s1)]) (fun _=>1=1) ?_ ?_
 ·all_goals try(have Z:=J1;(repeat' first|refine yA1 Z ?_|(refine zg Z (f2) ?_)|refine zW Z ?_|refine yP Z ?_|refine yN Z ?_|refine zC Z (fun hb=>?_) fun hb=>?_|refine zG Z (fun hb=>?_) fun hb=>?_|refine zD Z (fun hb=>?_) fun hb=>?_);all_goals clear Z)
  ·obtain⟨h0,h1,h2⟩:=kd_true hs1 hb
   have hk:kdS s1=gkind (hdT s1):=by unfold kdS;rw [if_pos hb]
   have hgk:=gkind_fa (hdT s1)
   rw [←hk] at hgk
   refine aw_cw ([(g3,.cells 45 7 (ofL [.str (sB nm),.int .i64 0,.int .i64 0,.nils,.bool false,.nils,.nils])),(g,rdO L s1)]) [(0,0),(1,0),(2,0),(3,0),(4,0),(5,0),(6,0),(7,0),(8,0),(9,0),(10,0),(11,0),(12,0),(13,0),(15,0),(14,3),(16,2),(17,0)] ty_mixed (by kernel_rfl) eI ?_
   have J2:=oj hn_g2 (oj hn_g3 h2)
   refine yG J2 ?_
   refine cw_callq rfl hgk rfl rfl rfl (fun _ _=>(zL J2)) ?_
   refine ySG J2 ?_
   iterate 1 (refine wc3 rfl rfl fun R r=> ?_;simp only [go_sem,hn_g2,hn_g3,h2];with_reducible show R (some _);with_reducible refine r _ _ ?_;clear r R)
   have J3:=oj hn_g2 (oj hn_g3 h2)
   refine yS J3 ?_
   refine cw_store (FP':=[]) rfl rfl rfl rfl rfl (zE J3) (zE J3) (zE J3) (zE J3) (fun _ e=>by cases e) rfl rfl (show 2≤7 from by omega) rfl has0_nil ?_
   refine ySG J3 ?_
   refine aw_stop ⟨(),?_⟩
   and_intros<;>first|rfl|exact List.Sublist.refl _|exact True.intro
  ·have hk:kdS s1=none:=by unfold kdS;rw [if_neg (by rw [hb];decide)]
   rw [hk]
   refine aw_stop ⟨(),?_⟩
   and_intros<;>first|rfl|exact List.Sublist.refl _|exact True.intro
 rintro _ _
 apply wa1
 apply wa6
 have J4:=oj hn_g2 hn_g3
 refine yH J4 ?_
 refine aw_cg f3 rfl rfl rfl (zE J4) (zL2 o0) ?_
 refine yS J4 ?_
 refine yH J4 ?_
 apply wa1
 refine aw_cut (fun _:Unit=>[(0,.c (.optr g 0)),(2,.c (.optr g2 0)),(3,.c (.optr g3 0))]) (fun _=>[(g3,.cells 45 7 (ofL ([.str (sB nm),.int .i64 ((kdS s1).getD 0),.int .i64 (gtV (kdS s1) s2).1,.nils]++rdc (gtD (kdS s1) s2).1))),(g2,.cells 45 7 (ofL [.str (sB []),.int .i64 0,.int .i64 0,.nils,.bool false,.nils,.nils])),(g,rdO L (gtD (kdS s1) s2).2)]) (fun _=>1=1) ?_ ?_
 ·have f4:=whole_fg g L s2 hs2 om hw
  have f5:=number_fg g L s2 hs2 om hw
  by_cases k2:kdS s1=some 2
  ·have hv:gtV (kdS s1) s2=wholeS s2:=by unfold gtV;rw [if_pos k2]
   have hd:gtD (kdS s1) s2=(rd0,(wholeS s2).2):=by unfold gtD;rw [if_neg (by rw [k2];decide),hv]
   rw [hv,hd,k2]
   all_goals try(have Z:=J4;(repeat' first|refine yA1 Z ?_|(refine zg Z (f4) ?_)|refine zW Z ?_|refine yP Z ?_|refine yN Z ?_|refine zC Z (fun hb=>?_) fun hb=>?_|refine zG Z (fun hb=>?_) fun hb=>?_|refine zD Z (fun hb=>?_) fun hb=>?_);all_goals clear Z)
   refine aw_convR (f':=ofL ([.str (sB nm),.int .i64 2,.int .i64 (wholeS s2).1,.nils]++rdc rd0)) conv_gate ?_
   refine aw_stop ⟨(),?_⟩
   and_intros<;>first|rfl|exact List.Sublist.refl _|exact True.intro
  by_cases k7:kdS s1=some 7
  ·have hv:gtV (kdS s1) s2=(0,s2):=by unfold gtV;rw [if_neg k2]
   have hd:gtD (kdS s1) s2=numS s2:=by unfold gtD;rw [if_pos k7,hv]
   rw [hv,hd,k7]
   all_goals try(have Z:=J4;(repeat' first|refine yA1 Z ?_|(refine zg Z (f5) ?_)|refine zW Z ?_|refine yP Z ?_|refine yN Z ?_|refine zC Z (fun hb=>?_) fun hb=>?_|refine zG Z (fun hb=>?_) fun hb=>?_|refine zD Z (fun hb=>?_) fun hb=>?_);all_goals clear Z)
   refine aw_stop ⟨(),?_⟩
   and_intros<;>first|rfl|exact List.Sublist.refl _|exact True.intro
  ·have hv:gtV (kdS s1) s2=(0,s2):=by unfold gtV;rw [if_neg k2]
   have hd:gtD (kdS s1) s2=(rd0,s2):=by unfold gtD;rw [if_neg k7,hv]
   have n2:((kdS s1).getD 0==(2:Int))=false:=by
    cases hk:kdS s1 with
    |none=>rfl
    |some v=>simp only [Option.getD_some];rw [beq_eq_false_iff_ne];intro e;exact k2 (by rw [hk,e])
   have n7:((kdS s1).getD 0==(7:Int))=false:=by
    cases hk:kdS s1 with
    |none=>rfl
    |some v=>simp only [Option.getD_some];rw [beq_eq_false_iff_ne];intro e;exact k7 (by rw [hk,e])
   rw [hv,hd]
   all_goals try(have Z:=(oj hn_g2 (oj hn_g3 (oj n2 n7)));(repeat' first|refine yA1 Z ?_|refine zW Z ?_|refine yP Z ?_|refine yN Z ?_|refine zC Z (fun hb=>?_) fun hb=>?_|refine zG Z (fun hb=>?_) fun hb=>?_|refine zD Z (fun hb=>?_) fun hb=>?_);all_goals clear Z)
   refine aw_convR (f':=ofL ([.str (sB nm),.int .i64 ((kdS s1).getD 0),.int .i64 0,.nils]++rdc rd0)) conv_gate ?_
   refine aw_stop ⟨(),?_⟩
   and_intros<;>first|rfl|exact List.Sublist.refl _|exact True.intro
 rintro _ _
 have hs3:(gtD (kdS s1) s2).2.l<:+L.map TX.t:=(gtD_suf _ _).trans hs2
 have hsp:gtK nm (kdS s1) s2=(⟨nm,(kdS s1).getD 0,(gtV (kdS s1) s2).1,(insS (gtD (kdS s1) s2).2).1,(gtD (kdS s1) s2).1⟩,(insS (gtD (kdS s1) s2).2).2):=rfl
 rw [hsp]
 generalize gtV (kdS s1) s2=v at*
 generalize gtD (kdS s1) s2=d at*
 generalize (kdS s1).getD 0=kd at*
 obtain⟨d,s3⟩:=d
 obtain⟨v,s3'⟩:=v
 dsimp only at*
 clear f1 f2 f3 hg1 hg2 hs2 hs1 J4
 unfold insS
 dsimp only
 generalize hF:lpS (fun s=> !isS s kSemi) inB [] s3=F at*
 apply wa1
 refine aw_cut (fun _:Nat×Option Nat=>[(0,.c (.optr g 0)),(2,.c (.optr g2 0)),(3,.c (.optr g3 0))]) (fun x=>[(g3,.cells 45 7 (ofL ([.str (sB nm),.int .i64 kd,.int .i64 v,gs x.2 1 x.1]++rdc d))),(g2,.cells 45 7 (ofL [.str (sB []),.int .i64 0,.int .i64 0,.nils,.bool false,.nils,.nils])),(g,rdO L F.2)]++gh x.2 9 x.1 (strsF F.1)) (fun x=>F.1.length=x.1∧(x.2=none→x.1=0)) ?_ ?_
 ·apply wa2
  refine aw_lp (fun _:PS×List BS×Nat×Option Nat=>[(0,.c (.optr g 0)),(2,.c (.optr g2 0)),(3,.c (.optr g3 0))]) (fun x=>[(g3,.cells 45 7 (ofL ([.str (sB nm),.int .i64 kd,.int .i64 v,gs x.2.2.2 1 x.2.2.1]++rdc d))),(g2,.cells 45 7 (ofL [.str (sB []),.int .i64 0,.int .i64 0,.nils,.bool false,.nils,.nils])),(g,rdO L x.1)]++gh x.2.2.2 9 x.2.2.1 (strsF x.2.1))
   (fun x=>x.1.l<:+L.map TX.t∧x.2.1.length=x.2.2.1∧(x.2.2.2=none→x.2.2.1=0)∧x.2.2.1+mS x.1≤1048577∧lpS (fun s=> !isS s kSemi) inB x.2.1 x.1=F) (fun x=>mS x.1) (s3,[],0,none) (zB (oj hn_g2 hn_g3)) zZ ⟨hs3,rfl,fun _=>rfl,?_,hF⟩ ?_
  ·have:=hs3.length_le
   rw [List.length_map] at this
   dsimp only
   unfold mS
   split<;>omega
  rintro ⟨sx,xs,n,og⟩ ⟨hsx,hn,hog,hm,hlp⟩
  dsimp only at hsx hn hog hm hlp⊢
  have f2:=is_fg g L sx kSemi hsx om
  have f4:=input_fg g L sx hsx om hw
  all_goals try(have Z:=(oj hn_g2 hn_g3);(repeat' first|refine yA1 Z ?_|(refine zg Z (f2) ?_)|refine zW Z ?_|refine yP Z ?_|refine yN Z ?_|refine zC Z (fun hb=>?_) fun hb=>?_|refine zG Z (fun hb=>?_) fun hb=>?_|refine zD Z (fun hb=>?_) fun hb=>?_);all_goals clear Z)
  ·rename_i h0
   have hc:(!isS sx kSemi)=true:=hb
   have hst:=lpS_step (c:=fun s=> !isS s kSemi) (b:=inB) (a:=xs) (fun a s h _=>con_inB a s h) h0 hc
   have hlt:=con_inB xs sx h0
   rw [hst] at hlp
   have hsy:(inB xs sx).2.l<:+L.map TX.t:=((rdr_inB xs).suf sx).trans hsx
   have e1:(inB xs sx).1=xs++[(inputS sx).1]:=rfl
   have e2:(inB xs sx).2=(inputS sx).2:=rfl
   rw [e2] at hlt hsy
   rw [e1,e2] at hlp
   generalize inputS sx=y at*
   obtain⟨t,sy⟩:=y
   dsimp only at*
   refine aw_cw ([(g3,.cells 45 7 (ofL (.str (sB nm)::.int .i64 kd::.int .i64 v::gs og 1 n::rdc d)))]) [(0,0),(1,0),(2,0),(3,1),(4,1),(5,1),(6,0),(7,2)] ty_mixed (by kernel_rfl) eI ?_
   have J5:=oj hn_g2 hn_g3
   refine yG J5 ?_
   refine cw_cg rfl f4 rfl rfl rfl (zE J5) (zL J5) (by refine yS J5 ?_;exact has0_cons (List.mem_cons_self ..) has0_nil) ?_
   refine ySG J5 ?_
   refine cw_buildSlice (xs:=[.tmp 54]) (cells:=[.str (sB t)]) rfl rfl rfl rfl (zE J5) (by refine yS J5 ?_;rfl) rfl om om (by intro x hx;simp only [List.mem_singleton] at hx;subst hx;exact⟨rfl,rfl,rfl⟩) rfl (by simp [Op.operands]) (has0_cons (List.mem_cons_self ..) has0_nil) (fun ga hn_ga=> ?_) (hm:=.inr ⟨rfl,rfl⟩)
   refine yS J5 ?_
   refine cw_push (pre:=[(g3,.cells 45 7 (ofL (.str (sB nm)::.int .i64 kd::.int .i64 v::gs og 1 n::rdc d))),(g2,.cells 45 7 (ofL [.str (sB []),.int .i64 0,.int .i64 0,.nils,.bool false,.nils,.nils])),(g,rdO L sy)]) (og:=og) (n:=n) (s:=52) (d1:=55) (gt:=ga) (v:=.c (.str (sB t))) rfl rfl rfl rfl (zE J5) (zE J5) (by rfl) om om (zE J5) (zE J5) hog (by rfl) (by rfl) (by simp only [Nat.mul_one,List.cons_append,List.nil_append];rfl) (by unfold maxLen;omega) om (strs_push hn t) (has0_skip (has0_cons (List.mem_cons_self ..) has0_nil)) (fun gb hn_gb=> ?_) (hm:=.inr ⟨rfl,rfl⟩)
   replace hn_ga:=Heap.ne_of hn_ga
   simp only [Heap.ne] at hn_ga
   have J6:=oj hn_g2 (oj hn_g3 hn_ga)
   refine ySG J6 ?_
   refine cw_store (FP':=[]) rfl rfl rfl rfl rfl (zE J6) (zE J6) (zE J6) (zE J6) (fun _ e=>by cases e) rfl rfl (show 4≤7 from by omega) rfl has0_nil ?_
   refine ySG J6 ?_
   refine aw_stop ⟨(sy,xs++[t],n+1,some gb),?_⟩
   refine⟨hlt,?_⟩
   and_intros
   all_goals first|rfl|exact List.Sublist.cons _ (List.Sublist.refl _)|exact True.intro|exact hsy|exact some_ne|exact hlp|(dsimp only;rw [List.length_append,hn];rfl)|(dsimp only;omega)
  ·have hc:¬(sx.e=0∧(!isS sx kSemi)=true):=fun z=>by rw [hb] at z;exact absurd z.2 (by decide)
   rw [lpS_end hc] at hlp
   subst hlp
   refine aw_stop ⟨(n,og),?_⟩
   and_intros<;>first|rfl|exact List.Sublist.refl _|exact True.intro|exact hn|exact hog
  ·have hc:¬(sx.e=0∧(!isS sx kSemi)=true):=fun z=>hb z.1
   rw [lpS_end hc] at hlp
   subst hlp
   refine aw_stop ⟨(n,og),?_⟩
   and_intros<;>first|rfl|exact List.Sublist.refl _|exact True.intro|exact hn|exact hog
 rintro ⟨n,og⟩ ⟨hn,hog⟩
 dsimp only at hn hog⊢
 have hs4:F.2.l<:+L.map TX.t:=by
  rw [←hF];exact((rdr_lp rdr_inB []).suf s3).trans hs3
 have f6:=expect_fg g L F.2 kSemi hs4 om
 subst hn
 refine aw_nd fun hnd=> ?_
 have hog2:∀q,og=some q→¬C.own0 q:=fun q hq hown=>by
  subst hq
  have:q=g:=by simpa [Heap.keys] using (hC q).1 hown
  subst this
  simp [Heap.keys,gh] at hnd
 refine aw_perm (h':=(g3,.cells 45 7 (ofL (.str (sB nm)::.int .i64 kd::.int .i64 v::gs og 1 F.1.length::rdc d)))::(gh og 9 (F.1.length*1) (strsF F.1)++[(g2,.cells 45 7 (ofL [.str (sB []),.int .i64 0,.int .i64 0,.nils,.bool false,.nils,.nils])),(g,rdO L F.2)])) (by rw [Nat.mul_one];exact .cons _ (List.perm_append_comm (l₁:=[(g2,.cells 45 7 (ofL [.str (sB []),.int .i64 0,.int .i64 0,.nils,.bool false,.nils,.nils])),(g,rdO L F.2)]))) ?_
 refine aw_frzG (j0:=3) (n:=F.1.length) (s:=1) (f':=ofL (.str (sB nm)::.int .i64 kd::.int .i64 v::strs true F.1::rdc d)) rfl rfl (fun j hj hj3=>by
  match j,hj,hj3 with
  |0,_,_=>rfl
  |1,_,_=>rfl
  |2,_,_=>rfl
  |4,_,_=>rfl
  |5,_,_=>rfl
  |6,_,_=>rfl) hog hog2 ?_
 all_goals try(have Z:=(oj hn_g2 hn_g3);(repeat' first|refine yA1 Z ?_|(refine zg Z (f6) ?_)|refine zW Z ?_|refine yP Z ?_|refine yN Z ?_|refine zC Z (fun hb=>?_) fun hb=>?_|refine zG Z (fun hb=>?_) fun hb=>?_|refine zD Z (fun hb=>?_) fun hb=>?_);all_goals clear Z)
 refine aw_rethw (h':=[(g,rdO L (expS kSemi F.2))]) rfl (by first|exact List.Sublist.refl _|exact .cons _ (.refl _)|exact .cons _ (.cons _ (.refl _))|exact .cons _ (.cons _ (.cons _ (.refl _)))) fun R r=>?_;simp only[go_sem,hn_g2,hn_g3];refine r _ rfl ?_;clear r R
 exact⟨rfl,rfl⟩
end Go.Proofs.YteehccacfedolaaGreat
namespace Go.AI
open Go.PN
theorem gts_push {xs:List GtD} {n:Nat} (hn:xs.length=n) (t:GtD):∀j,j<(n+1)*7→appF (gtsF xs) (n*7) (ofL (gtc t)) j=gtsF (xs++[t]) j:=lf_push (s:=7) (c:=gtc) (d:=(gt0:GtD)) hn t (by decide)
end Go.AI
namespace Go.Proofs.YteehccacfedolaaGreat
open Go.AI Go.PN
attribute [local irreducible] aw Fa Fh DrK
theorem page_fg (g:Nat) (L:List TX) (s:PS) (hs:s.l<:+L.map TX.t) (hL:L.length≤1048576) (hw:∀t∈L,t.t.text.length≤1099511627776):Fg Tryz.prog 36 g (rdO L s) [.c (.optr g 0)] (.agg (pgc (pageS s).1)) (rdO L (pageS s).2):=by
 have f1:=word_fg g L s hs om
 have hs1:=suf_word hs
 unfold pageS
 dsimp only
 generalize wordS s=r at*
 obtain⟨nm,s1⟩:=r
 dsimp only at*
 have f2:=expect_fg g L s1 kTop hs1 om
 have hs2:(expS kTop s1).l<:+L.map TX.t:=((rdr_exp kTop).suf s1).trans hs1
 generalize expS kTop s1=s2 at*
 have f3:=input_fg g L s2 hs2 om hw
 have hs3:=(rdr_input.suf s2).trans hs2
 generalize inputS s2=r at*
 obtain⟨tp,s3⟩:=r
 dsimp only at*
 have f4:=expect_fg g L s3 kOpen hs3 om
 have hs4:(expS kOpen s3).l<:+L.map TX.t:=((rdr_exp kOpen).suf s3).trans hs3
 generalize expS kOpen s3=s4 at*
 generalize hF:lpS (fun s=> !isS s kClose) pgB [] s4=F at*
 unfold Fg
 refine fh_of_body Tryz.func36 rfl rfl (by simp [Tryz.ntmps36]) fun C hC=> ?_
 simp only [initS,Nat.reduceAdd]
 repeat' first|refine yA1 o0 ?_|refine zW o0 ?_|refine yP o0 ?_|refine yN o0 ?_|refine zC o0 (fun hb=>?_) fun hb=>?_|refine zG o0 (fun hb=>?_) fun hb=>?_|refine zD o0 (fun hb=>?_) fun hb=>?_
 refine xA fun g2 hn_g2=>?_
 repeat' first|refine yA1 hn_g2 ?_|(refine zg hn_g2 (f1) ?_)|refine zW hn_g2 ?_|refine yP hn_g2 ?_|refine yN hn_g2 ?_|refine zC hn_g2 (fun hb=>?_) fun hb=>?_|refine zG hn_g2 (fun hb=>?_) fun hb=>?_|refine zD hn_g2 (fun hb=>?_) fun hb=>?_
 refine yA hn_g2 fun g3 hn_g3=>?_
 all_goals try(have Z:=(oj hn_g2 hn_g3);(repeat' first|refine yA1 Z ?_|(refine zg Z (f2) ?_)|(refine zg Z (f3) ?_)|refine zW Z ?_|refine yP Z ?_|refine yN Z ?_|refine zC Z (fun hb=>?_) fun hb=>?_|refine zG Z (fun hb=>?_) fun hb=>?_|refine zD Z (fun hb=>?_) fun hb=>?_);all_goals clear Z)
 refine aw_cg f4 rfl rfl rfl (zE (oj hn_g2 hn_g3)) (zL2 o0) ?_
 have J1:=oj hn_g2 hn_g3
 refine yS J1 ?_
 refine yH J1 ?_
 apply wa1
 refine aw_cut (fun _:Nat×Option Nat=>[(0,.c (.optr g 0)),(2,.c (.optr g2 0)),(3,.c (.optr g3 0))]) (fun x=>[(g3,.cells 100 3 (ofL [.str (sB nm),.str (sB tp),gs x.2 7 x.1])),(g2,.cells 100 3 (ofL [.str (sB []),.str (sB []),.nils])),(g,rdO L F.2)]++gh x.2 45 (x.1*7) (gtsF F.1)) (fun x=>F.1.length=x.1∧(x.2=none→x.1=0)) ?_ ?_
 ·apply wa2
  refine aw_lp (fun _:PS×List GtD×Nat×Option Nat=>[(0,.c (.optr g 0)),(2,.c (.optr g2 0)),(3,.c (.optr g3 0))]) (fun x=>[(g3,.cells 100 3 (ofL [.str (sB nm),.str (sB tp),gs x.2.2.2 7 x.2.2.1])),(g2,.cells 100 3 (ofL [.str (sB []),.str (sB []),.nils])),(g,rdO L x.1)]++gh x.2.2.2 45 (x.2.2.1*7) (gtsF x.2.1))
   (fun x=>x.1.l<:+L.map TX.t∧x.2.1.length=x.2.2.1∧(x.2.2.2=none→x.2.2.1=0)∧x.2.2.1+mS x.1≤1048577∧lpS (fun s=> !isS s kClose) pgB x.2.1 x.1=F) (fun x=>mS x.1) (s4,[],0,none) (zB J1) zZ ⟨hs4,rfl,fun _=>rfl,?_,hF⟩ ?_
  ·have:=hs4.length_le
   rw [List.length_map] at this
   dsimp only
   unfold mS
   split<;>omega
  rintro ⟨sx,xs,n,og⟩ ⟨hsx,hn,hog,hm,hlp⟩
  dsimp only at hsx hn hog hm hlp⊢
  have f5:=is_fg g L sx kClose hsx om
  have f6:=expect_fg g L sx kGate hsx om
  have hsw:(expS kGate sx).l<:+L.map TX.t:=((rdr_exp kGate).suf sx).trans hsx
  have f7:=gate_fg g L (expS kGate sx) hsw hL hw
  all_goals try(have Z:=J1;(repeat' first|refine yA1 Z ?_|(refine zg Z (f5) ?_)|(refine zg Z (f6) ?_)|refine zW Z ?_|refine yP Z ?_|refine yN Z ?_|refine zC Z (fun hb=>?_) fun hb=>?_|refine zG Z (fun hb=>?_) fun hb=>?_|refine zD Z (fun hb=>?_) fun hb=>?_);all_goals clear Z)
  ·rename_i h0
   have hc:(!isS sx kClose)=true:=hb
   have hst:=lpS_step (c:=fun s=> !isS s kClose) (b:=pgB) (a:=xs) (fun a s h _=>con_pgB a s h) h0 hc
   have hlt:=con_pgB xs sx h0
   rw [hst] at hlp
   have hsy:(pgB xs sx).2.l<:+L.map TX.t:=((rdr_pgB xs).suf sx).trans hsx
   have e1:(pgB xs sx).1=xs++[(gateS (expS kGate sx)).1]:=rfl
   have e2:(pgB xs sx).2=(gateS (expS kGate sx)).2:=rfl
   rw [e2] at hlt hsy
   rw [e1,e2] at hlp
   generalize gateS (expS kGate sx)=y at*
   obtain⟨t,sy⟩:=y
   dsimp only at*
   refine aw_cw ([(g3,.cells 100 3 (ofL [.str (sB nm),.str (sB tp),gs og 7 n]))]) [(0,0),(1,0),(2,0),(3,1),(4,1),(5,1),(6,0),(7,2)] ty_mixed (by kernel_rfl) eI ?_
   refine yG J1 ?_
   refine cw_cg rfl f7 rfl rfl rfl (zE J1) (zL J1) (by refine yS J1 ?_;exact has0_cons (List.mem_cons_self ..) has0_nil) ?_
   refine ySG J1 ?_
   refine cw_buildSlice (xs:=[.tmp 29]) (cells:=gtc t) rfl rfl rfl rfl (zE J1) (by refine yS J1 ?_;rfl) rfl om om (by intro x hx;simp only [List.mem_singleton] at hx;subst hx;exact⟨rfl,rfl,rfl⟩) rfl (by simp [Op.operands]) (has0_cons (List.mem_cons_self ..) has0_nil) (fun ga hn_ga=> ?_) (hm:=.inr ⟨rfl,rfl⟩)
   refine yS J1 ?_
   refine cw_push (pre:=[(g3,.cells 100 3 (ofL [.str (sB nm),.str (sB tp),gs og 7 n])),(g2,.cells 100 3 (ofL [.str (sB []),.str (sB []),.nils])),(g,rdO L sy)]) (og:=og) (n:=n) (s:=27) (d1:=30) (gt:=ga) (v:=.agg (gtc t)) rfl rfl rfl rfl (zE J1) (zE J1) (by rfl) om om (zE J1) (zE J1) hog (by rfl) (by rfl) (by simp only [Nat.mul_one,List.cons_append,List.nil_append];rfl) (by unfold maxLen;omega) om (gts_push hn t) (has0_skip (has0_cons (List.mem_cons_self ..) has0_nil)) (fun gb hn_gb=> ?_) (hm:=.inr ⟨rfl,rfl⟩)
   replace hn_ga:=Heap.ne_of hn_ga
   simp only [Heap.ne] at hn_ga
   have J2:=oj hn_g2 (oj hn_g3 hn_ga)
   refine ySG J2 ?_
   refine cw_store (FP':=[]) rfl rfl rfl rfl rfl (zE J2) (zE J2) (zE J2) (zE J2) (fun _ e=>by cases e) rfl rfl (show 3≤3 from by omega) rfl has0_nil ?_
   refine ySG J2 ?_
   refine aw_stop ⟨(sy,xs++[t],n+1,some gb),?_⟩
   refine⟨hlt,?_⟩
   and_intros
   all_goals first|rfl|exact List.Sublist.cons _ (List.Sublist.refl _)|exact True.intro|exact hsy|exact some_ne|exact hlp|(dsimp only;rw [List.length_append,hn];rfl)|(dsimp only;omega)
  ·have hc:¬(sx.e=0∧(!isS sx kClose)=true):=fun z=>by rw [hb] at z;exact absurd z.2 (by decide)
   rw [lpS_end hc] at hlp
   subst hlp
   refine aw_stop ⟨(n,og),?_⟩
   and_intros<;>first|rfl|exact List.Sublist.refl _|exact True.intro|exact hn|exact hog
  ·have hc:¬(sx.e=0∧(!isS sx kClose)=true):=fun z=>hb z.1
   rw [lpS_end hc] at hlp
   subst hlp
   refine aw_stop ⟨(n,og),?_⟩
   and_intros<;>first|rfl|exact List.Sublist.refl _|exact True.intro|exact hn|exact hog
 rintro ⟨n,og⟩ ⟨hn,hog⟩
 dsimp only at hn hog⊢
 have hs5:F.2.l<:+L.map TX.t:=by
  rw [←hF];exact((rdr_lp rdr_pgB []).suf s4).trans hs4
 have f6:=expect_fg g L F.2 kClose hs5 om
 subst hn
 refine aw_nd fun hnd=> ?_
 have hog2:∀q,og=some q→¬C.own0 q:=fun q hq hown=>by
  subst hq
  have:q=g:=by simpa [Heap.keys] using (hC q).1 hown
  subst this
  simp [Heap.keys,gh] at hnd
 refine aw_perm (h':=(g3,.cells 100 3 (ofL [.str (sB nm),.str (sB tp),gs og 7 F.1.length]))::(gh og 45 (F.1.length*7) (gtsF F.1)++[(g2,.cells 100 3 (ofL [.str (sB []),.str (sB []),.nils])),(g,rdO L F.2)])) (.cons _ (List.perm_append_comm (l₁:=[(g2,.cells 100 3 (ofL [.str (sB []),.str (sB []),.nils])),(g,rdO L F.2)]))) ?_
 refine aw_frzG (j0:=2) (n:=F.1.length) (s:=7) (f':=ofL [.str (sB nm),.str (sB tp),gts true F.1]) rfl rfl (fun j hj hj3=>by
  match j,hj,hj3 with
  |0,_,_=>rfl
  |1,_,_=>rfl
  |j+2,h1,h2=>exact absurd (show j+2=2 from by omega) h2) hog hog2 ?_
 all_goals try(have Z:=J1;(repeat' first|refine yA1 Z ?_|(refine zg Z (f6) ?_)|refine zW Z ?_|refine yP Z ?_|refine yN Z ?_|refine zC Z (fun hb=>?_) fun hb=>?_|refine zG Z (fun hb=>?_) fun hb=>?_|refine zD Z (fun hb=>?_) fun hb=>?_);all_goals clear Z)
 refine aw_rethw (h':=[(g,rdO L (expS kClose F.2))]) rfl (by first|exact List.Sublist.refl _|exact .cons _ (.refl _)|exact .cons _ (.cons _ (.refl _))|exact .cons _ (.cons _ (.cons _ (.refl _)))) fun R r=>?_;simp only[go_sem,hn_g2,hn_g3];refine r _ rfl ?_;clear r R
 exact⟨rfl,rfl⟩
end Go.Proofs.YteehccacfedolaaGreat
