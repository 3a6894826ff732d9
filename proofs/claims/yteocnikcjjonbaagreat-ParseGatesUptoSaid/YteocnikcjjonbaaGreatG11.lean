/- Parts of one proof, laid by a program. -/
import Derived.Test.YteocnikcjjonbaaGreatG00
import Derived.Test.YteocnikcjjonbaaGreatG10
import Derived.Laws.IdiomStrings
set_option linter.unusedSimpArgs false
set_option linter.unusedVariables false
set_option maxRecDepth 100000
set_option maxHeartbeats 12800000
namespace Go.PN
open Go.AI
variable {α β γ : Type}
abbrev BG:Nat:=1048576
def TB (s:PS):Prop:=∀t∈s.l,t.text.length≤BG
theorem TB.suf {s r:PS} (h:TB s) (hs:r.l<:+s.l):TB r:=fun t ht=>h t (hs.subset ht)
def SzO (P:α→Prop) (f:PS→α×PS):Prop:=∀s,TB s→P (f s).1
theorem SzO.bnd {P:α→Prop} {Q:β→Prop} {f:PS→α×PS} {k:α→PS→β×PS} (h:SzO P f) (hf:Rdr f) (hk:∀a,P a→SzO Q (k a)):SzO Q (bnd f k):=fun s hs=>hk _ (h s hs) _ (hs.suf (hf.suf s))
theorem SzO.pure {P:α→Prop} {a:α} (h:P a):SzO P fun s=>(a,s):=fun _ _=>h
theorem SzO.ite {P:α→Prop} {c:PS→Prop} [DecidablePred c] {f g:PS→α×PS} (hf:SzO P f) (hg:SzO P g):SzO P fun s=>if c s then f s else g s:=fun s hs=>by
 dsimp only
 split
 ·exact hf s hs
 ·exact hg s hs
theorem SzO.unit {f:PS→Unit×PS}:SzO (fun _=>True) f:=fun _ _=>trivial
theorem sz_take (m:PS→Bool):SzO (fun x:BS=>x.length≤BG) fun s=>takeS (m s) s:=fun s hs=>by
 dsimp only
 unfold takeS
 split
 ·split
  ·exact Nat.zero_le _
  ·rename_i t l e
   split
   ·exact hs t (by rw [e];exact List.mem_cons_self)
   ·exact Nat.zero_le _
 ·exact Nat.zero_le _
theorem sz_word:SzO (fun x:BS=>x.length≤BG) wordS:=sz_take _
abbrev RdOk (r:RD):Prop:=r.wf 500000000
theorem rd0_ok:RdOk rd0:=⟨fun x hx=>(by cases hx),fun x hx=>(by cases hx),Nat.zero_le _,Nat.zero_le _⟩
theorem valR_ok (s:BS):RdOk (valR s):=(valR_wf s).mono (by decide)
theorem sz_num:SzO RdOk numS:=fun s _=>by
 unfold numS
 dsimp only
 split
 ·exact valR_ok _
 ·exact rd0_ok
theorem sz_input:SzO (fun x:BS=>x.length≤BG+1) inputS:=fun s hs=>by
 unfold inputS
 split
 ·exact Nat.succ_le_succ (sz_word _ (hs.suf ((rdr_exp kAt).suf s)))
 ·exact Nat.le_succ_of_le (sz_word s hs)
theorem loop_inv {J:α→PS→Prop} {c:PS→Bool} {b:α→PS→α×PS} (hb:∀a s,s.e=0→J a s→J (b a s).1 (b a s).2):∀(n:Nat) (a:α) (s:PS),J a s→J (loopS c b n a s).1 (loopS c b n a s).2
 |0,_,_,h=>h
 |n+1,a,s,h=>by
  unfold loopS
  split
  ·rename_i e
   exact loop_inv hb n _ _ (hb a s e.1 h)
  ·exact h
def GrO (P:α→Prop) (N:Nat) (a:List α) (s:PS):Prop:=TB s∧a.length+mS s≤N∧∀x∈a,P x
theorem gr_step {P:α→Prop} {N:Nat} {a:List α} {s:PS} {x:α} {s':PS} (h:GrO P N a s) (hs:s'.l<:+s.l) (hm:mS s'<mS s) (hx:P x):GrO P N (a++[x]) s':=
 ⟨h.1.suf hs,by rw [List.length_append,List.length_singleton];have:=h.2.1;omega,fun y hy=>by
  rcases List.mem_append.1 hy with e|e
  ·exact h.2.2 y e
  ·rw [List.mem_singleton.1 e];exact hx⟩
abbrev NG:Nat:=1048576
def EvO (x:EvD):Prop:=x.name.length≤BG∧RdOk x.p∧RdOk x.fail∧RdOk x.rep
def HsO (x:HsD):Prop:=x.name.length≤BG
def GtO (x:GtD):Prop:=x.name.length≤BG∧RdOk x.dorm∧x.inputs.length≤NG∧∀i∈x.inputs,i.length≤BG+1
def PgO (x:PgD):Prop:=x.name.length≤BG∧x.top.length≤BG+1∧x.gates.length≤NG∧∀g∈x.gates,GtO g
def GrpO (x:GrD):Prop:=x.name.length≤BG∧x.members.length≤NG∧(∀n∈x.members,n.length≤BG)∧x.factors.length≤NG∧∀r∈x.factors,RdOk r
def VlO (x:VlD):Prop:=x.event.length≤BG∧RdOk x.p
def PhO (x:PhD):Prop:=x.name.length≤BG∧x.top.length≤BG+1∧x.values.length≤NG∧∀v∈x.values,VlO v
def SzN (P:α→Prop) (f:PS→α×PS):Prop:=∀s,TB s→mS s≤NG→P (f s).1
theorem SzO.n {P:α→Prop} {f:PS→α×PS} (h:SzO P f):SzN P f:=fun s hs _=>h s hs
theorem SzN.bnd {P:α→Prop} {Q:β→Prop} {f:PS→α×PS} {k:α→PS→β×PS} (h:SzN P f) (hf:Rdr f) (hk:∀a,P a→SzN Q (k a)):SzN Q (bnd f k):=fun s hs hm=>hk _ (h s hs hm) _ (hs.suf (hf.suf s)) (Nat.le_trans (rdr_mS hf s) hm)
theorem SzN.pure {P:α→Prop} {a:α} (h:P a):SzN P fun s=>(a,s):=fun _ _ _=>h
theorem SzN.unit {f:PS→Unit×PS}:SzN (fun _=>True) f:=fun _ _ _=>trivial
theorem szn_loop {P:α→Prop} {c:PS→Bool} {f:PS→α×PS} {b:List α→PS→List α×PS} (hb:∀a s,b a s=(a++[(f s).1],(f s).2)) (rf:Rdr f) (cf:Con f) (hf:SzN P f):SzN (fun l=>l.length≤NG∧∀x∈l,P x) (lpS c b []):=fun s ht hN=>by
 have:=loop_inv (J:=fun a s=>GrO P NG a s∧mS s≤NG) (c:=c) (b:=b) (fun a s e h=>by
  rw [hb]
  exact⟨gr_step h.1 (rf.suf s) (cf s e) (hf s h.1.1 h.2),Nat.le_trans (rdr_mS rf s) h.2⟩) (mS s) [] s ⟨⟨ht,by simpa using hN,fun _ h=>by cases h⟩,hN⟩
 exact⟨by have:=this.1.2.1;unfold lpS;omega,this.1.2.2⟩
theorem sz_gate:SzN GtO gateS:=by
 rw [gateS_eq]
 refine SzN.bnd sz_word.n rdr_word fun nm hn=>SzN.bnd (P:=fun _=>True) (fun _ _ _=>trivial) rdr_gk fun k _=> ?_
 refine SzN.bnd (P:=fun _=>True) (fun _ _ _=>trivial) (rdr_ite rdr_whole (rdr_pure 0)) fun v _=> ?_
 refine SzN.bnd (P:=RdOk) (SzO.ite (c:=fun _=>k=some 7) sz_num (SzO.pure rd0_ok)).n (rdr_ite rdr_num (rdr_pure rd0)) fun d hd=> ?_
 refine SzN.bnd (P:=fun l:List BS=>l.length≤NG∧∀x∈l,x.length≤BG+1) ?_ rdr_ins fun q hq=>SzN.pure ⟨hn,hd,hq⟩
 exact SzN.bnd (Q:=fun l:List BS=>l.length≤NG∧∀x∈l,x.length≤BG+1) (szn_loop (fun _ _=>rfl) rdr_input con_input sz_input.n) (rdr_lp rdr_inB []) fun q hq=>SzN.bnd (Q:=fun l:List BS=>l.length≤NG∧∀x∈l,x.length≤BG+1) SzN.unit (rdr_exp kSemi) fun _ _=>SzN.pure (P:=fun l:List BS=>l.length≤NG∧∀x∈l,x.length≤BG+1) hq
theorem sz_topK {P:α→Prop} {k:BS→PS→α×PS} (h:∀t,t.length≤BG+1→SzN P (k t)):SzN P (topK k):=
 SzN.bnd SzN.unit (rdr_exp _) fun _ _=>SzN.bnd sz_input.n rdr_input fun t ht=>SzN.bnd SzN.unit (rdr_exp _) fun _ _=>h t ht
theorem sz_page:SzN PgO pageS:=by
 rw [pageS_eq]
 refine SzN.bnd sz_word.n rdr_word fun nm hn=>sz_topK fun t ht=> ?_
 refine SzN.bnd (szn_loop (P:=GtO) (f:=PN.bnd (fun s=>((),expS kGate s)) fun _=>gateS) (fun _ _=>rfl) (Rdr.bnd (rdr_exp kGate) fun _=>rdr_gate) (Con.bnd (con_exp kGate) fun _=>rdr_gate) (SzN.bnd SzN.unit (rdr_exp kGate) fun _ _=>sz_gate)) (rdr_lp rdr_pgB _) fun q hq=> ?_
 exact SzN.bnd SzN.unit (rdr_exp _) fun _ _=>SzN.pure ⟨hn,ht,hq⟩
theorem sz_phase:SzN PhO phaseS:=by
 rw [phaseS_eq]
 refine SzN.bnd sz_word.n rdr_word fun nm hn=>sz_topK fun t ht=> ?_
 refine SzN.bnd (szn_loop (P:=VlO) (f:=PN.bnd wordS fun w=>PN.bnd numS fun q=>PN.bnd (fun s=>((),expS kSemi s)) fun _ s=>((⟨w,q⟩:VlD),s)) (fun _ _=>rfl) (Rdr.bnd rdr_word fun w=>Rdr.bnd rdr_num fun q=>Rdr.bnd (rdr_exp kSemi) fun _=>rdr_pure _) (Con.bnd con_word fun w=>Rdr.bnd rdr_num fun q=>Rdr.bnd (rdr_exp kSemi) fun _=>rdr_pure _) ?_) (rdr_lp rdr_vlB _) fun q hq=> ?_
 ·exact SzN.bnd sz_word.n rdr_word fun w hw=>SzN.bnd sz_num.n rdr_num fun q hq=>SzN.bnd SzN.unit (rdr_exp kSemi) fun _ _=>SzN.pure ⟨hw,hq⟩
 ·exact SzN.bnd SzN.unit (rdr_exp _) fun _ _=>SzN.pure ⟨hn,ht,hq⟩
theorem sz_group:SzN GrpO groupS:=by
 rw [groupS_eq]
 refine SzN.bnd sz_word.n rdr_word fun nm hn=>SzN.bnd (P:=fun _=>True) (fun _ _ _=>trivial) rdr_grT fun g _=> ?_
 refine SzN.bnd (szn_loop (P:=RdOk) (f:=numS) (fun _ _=>rfl) rdr_num con_num sz_num.n) (rdr_lp rdr_facB _) fun f hf=>SzN.bnd SzN.unit (rdr_exp _) fun _ _=> ?_
 refine SzN.bnd (szn_loop (P:=fun x:BS=>x.length≤BG) (f:=wordS) (fun _ _=>rfl) rdr_word con_word sz_word.n) (rdr_lp rdr_memB _) fun m hm=>SzN.bnd SzN.unit (rdr_exp _) fun _ _=>SzN.pure ⟨hn,hm.1,hm.2,hf⟩
theorem sz_house:SzN HsO houseS:=by
 rw [houseS_eq]
 exact SzN.bnd sz_word.n rdr_word fun nm hn=>SzN.bnd (P:=fun _=>True) (fun _ _ _=>trivial) rdr_hsT fun b _=>SzN.bnd SzN.unit (rdr_exp _) fun _ _=>SzN.pure hn
theorem sz_event:SzN EvO eventS:=fun s hs _=>by
 have hw:=sz_word s hs
 have:=loop_inv (J:=fun(x:List BS×EvD) (_:PS)=>EvO x.2) (c:=fun s=> !isS s kSemi) (b:=evB) (fun a s _ h=>by
  have hn:∀r,RdOk (numS r).1:=fun r=>by
   unfold numS
   dsimp only
   split
   ·exact valR_ok _
   ·exact rd0_ok
  unfold evB
  dsimp only
  split
  ·exact h
  split
  ·exact⟨h.1,hn _,h.2.2⟩
  split
  ·exact⟨h.1,h.2.1,hn _,h.2.2.2⟩
  split
  ·exact⟨h.1,h.2.1,h.2.2.1,hn _⟩
  split<;>exact h) (mS (wordS s).2) ([],{ev0 with name:=(wordS s).1}) (wordS s).2 ⟨hw,rd0_ok,rd0_ok,rd0_ok⟩
 exact this
structure MdO (m:MdD):Prop where
 nm:m.name.length≤BG
 tp:m.top.length≤BG+1
 ev:m.events.length≤NG∧∀x∈m.events,EvO x
 hs:m.houses.length≤NG∧∀x∈m.houses,HsO x
 gt:m.gates.length≤NG∧∀x∈m.gates,GtO x
 pg:m.pages.length≤NG∧∀x∈m.pages,PgO x
 gr:m.groups.length≤NG∧∀x∈m.groups,GrpO x
 ph:m.phases.length≤NG∧∀x∈m.phases,PhO x
structure MdR (m:MdD) (s:PS):Prop where
 nm:m.name.length≤BG
 tp:m.top.length≤BG+1
 ev:GrO EvO NG m.events s
 hs:GrO HsO NG m.houses s
 gt:GrO GtO NG m.gates s
 pg:GrO PgO NG m.pages s
 gr:GrO GrpO NG m.groups s
 ph:GrO PhO NG m.phases s
theorem gr_keep {P:α→Prop} {N:Nat} {a:List α} {s s':PS} (h:GrO P N a s) (hs:s'.l<:+s.l) (hm:mS s'≤mS s):GrO P N a s':=⟨h.1.suf hs,by have:=h.2.1;omega,h.2.2⟩
theorem MdR.keep {m:MdD} {s s':PS} (h:MdR m s) (hs:s'.l<:+s.l) (hm:mS s'≤mS s):MdR m s':=
 ⟨h.nm,h.tp,gr_keep h.ev hs hm,gr_keep h.hs hs hm,gr_keep h.gt hs hm,gr_keep h.pg hs hm,gr_keep h.gr hs hm,gr_keep h.ph hs hm⟩
theorem mdr_step {m:MdD} {s:PS} (e0:s.e=0) (h:MdR m s):MdR (stB m s).1 (stB m s).2:=by
 have hsf:=(rdr_stB m).suf s
 have hcm:=con_stB m s e0
 have hm:mS s≤NG:=by have:=h.ev.2.1;omega
 have rt:=rdr_take stM
 have ht:TB (takeS (stM s) s).2:=h.ev.1.suf (rt.suf s)
 have hmt:mS (takeS (stM s) s).2≤NG:=Nat.le_trans (rdr_mS rt s) hm
 unfold stB at hsf hcm⊢
 dsimp only at hsf hcm⊢
 change TB (takeS (isS s kEvent||isS s kHouse||isS s kGate||isS s kPage||isS s kGroup||isS s kPhase) s).2 at ht
 change mS (takeS (isS s kEvent||isS s kHouse||isS s kGate||isS s kPage||isS s kGroup||isS s kPhase) s).2≤NG at hmt
 generalize takeS (isS s kEvent||isS s kHouse||isS s kGate||isS s kPage||isS s kGroup||isS s kPhase) s=r at*
 have kp:∀{s':PS},s'.l<:+s.l→mS s'<mS s→MdR m s':=fun a b=>h.keep a (Nat.le_of_lt b)
 split at hsf
 ·rename_i e
  rw [if_pos e] at hcm⊢
  exact {kp hsf hcm with ev:=gr_step h.ev hsf hcm (sz_event _ ht hmt)}
 rename_i e;rw [if_neg e] at hcm⊢
 split at hsf
 ·rename_i e
  rw [if_pos e] at hcm⊢
  exact {kp hsf hcm with hs:=gr_step h.hs hsf hcm (sz_house _ ht hmt)}
 rename_i e;rw [if_neg e] at hcm⊢
 split at hsf
 ·rename_i e
  rw [if_pos e] at hcm⊢
  exact {kp hsf hcm with gt:=gr_step h.gt hsf hcm (sz_gate _ ht hmt)}
 rename_i e;rw [if_neg e] at hcm⊢
 split at hsf
 ·rename_i e
  rw [if_pos e] at hcm⊢
  exact {kp hsf hcm with pg:=gr_step h.pg hsf hcm (sz_page _ ht hmt)}
 rename_i e;rw [if_neg e] at hcm⊢
 split at hsf
 ·rename_i e
  rw [if_pos e] at hcm⊢
  exact {kp hsf hcm with gr:=gr_step h.gr hsf hcm (sz_group _ ht hmt)}
 rename_i e;rw [if_neg e] at hcm⊢
 split at hsf
 ·rename_i e
  rw [if_pos e] at hcm⊢
  exact {kp hsf hcm with ph:=gr_step h.ph hsf hcm (sz_phase _ ht hmt)}
 rename_i e;rw [if_neg e] at hcm⊢
 exact kp hsf hcm
theorem sz_read:SzN MdO readS:=by
 rw [readS_eq]
 refine SzN.bnd SzN.unit (rdr_exp _) fun _ _=>SzN.bnd sz_word.n rdr_word fun nm hn=>SzN.bnd SzN.unit (rdr_exp _) fun _ _=> ?_
 intro s hs hm
 have g0:∀{α:Type} (P:α→Prop),GrO P NG [] s:=fun P=>⟨hs,by simpa using hm,fun _ h=>by cases h⟩
 have h0:MdR {md0 with name:=nm} s:=⟨hn,Nat.zero_le _,g0 _,g0 _,g0 _,g0 _,g0 _,g0 _⟩
 have h1:=loop_inv (J:=MdR) (c:=fun s=> !isS s kTop) (b:=stB) (fun a s e h=>mdr_step e h) (mS s) _ _ h0
 have ht:∀x:MdD,MdR x (lpS (fun s=> !isS s kTop) stB {md0 with name:=nm} s).2→SzN MdO (rdK x):=fun x hx=>by
  refine SzN.bnd SzN.unit (rdr_exp _) fun _ _=>SzN.bnd sz_input.n rdr_input fun t ht=>SzN.bnd SzN.unit (rdr_exp _) fun _ _=> ?_
  have gl:∀{α:Type} {P:α→Prop} {l:List α} {r:PS},GrO P NG l r→l.length≤NG∧∀x∈l,P x:=fun h=>⟨by have:=h.2.1;omega,h.2.2⟩
  exact fun _ _ _=>⟨hx.nm,ht,gl hx.ev,gl hx.hs,gl hx.gt,gl hx.pg,gl hx.gr,gl hx.ph⟩
 have h1':MdR (lpS (fun s=> !isS s kTop) stB {md0 with name:=nm} s).1 (lpS (fun s=> !isS s kTop) stB {md0 with name:=nm} s).2:=h1
 exact ht _ h1' _ h1'.ev.1 (by have:=h1'.ev.2.1;omega)
theorem getD_all {P:α→Prop} {l:List α} {d:α} (h:∀x∈l,P x) (hd:P d) (i:Nat):P (l.getD i d):=by
 rw [List.getD_eq_getElem?_getD]
 by_cases hi:i<l.length
 ·rw [List.getElem?_eq_getElem hi];exact h _ (List.getElem_mem hi)
 ·rw [List.getElem?_eq_none om];exact hd
theorem gt0_o:GtO gt0:=⟨Nat.zero_le _,rd0_ok,Nat.zero_le _,fun _ h=>by cases h⟩
theorem pg0_o:PgO pg0:=⟨Nat.zero_le _,Nat.zero_le _,Nat.zero_le _,fun _ h=>by cases h⟩
theorem MdO.pgi {m:MdD} (h:MdO m) (i:Nat):PgO (m.pages.getD i pg0):=getD_all h.pg.2 pg0_o i
theorem MdO.gts {m:MdD} (h:MdO m):∀k,(gtsK m k).length≤NG∧∀g∈gtsK m k,GtO g
 |0=>h.gt
 |k+1=>(h.pgi k).2.2
theorem MdO.gti {m:MdD} (h:MdO m) (k i:Nat):GtO ((gtsK m k).getD i gt0):=getD_all (h.gts k).2 gt0_o i
theorem RdOk.w {r:RD} (h:RdOk r):r.wf 1073741824:=h.mono (by decide)
theorem MdO.ok {m:MdD} (h:MdO m):Go.Proofs.YteocnikcjjonbaaGreat.MdOk m:=⟨Nat.le_trans h.ev.1 (by decide),Nat.le_trans h.hs.1 (by decide),Nat.le_trans h.gt.1 (by decide),Nat.le_trans h.pg.1 (by decide),fun p hp=>Nat.le_trans (h.pg.2 p hp).2.2.1 (by decide)⟩
theorem ev0_o:EvO ev0:=⟨Nat.zero_le _,rd0_ok,rd0_ok,rd0_ok⟩
theorem hs0_o:HsO hs0:=Nat.zero_le _
theorem gr0_o:GrpO gr0:=⟨Nat.zero_le _,Nat.zero_le _,fun _ h=>(by cases h),Nat.zero_le _,fun _ h=>(by cases h)⟩
theorem ph0_o:PhO ph0:=⟨Nat.zero_le _,Nat.zero_le _,Nat.zero_le _,fun _ h=>by cases h⟩
theorem vl0_o:VlO vl0:=⟨Nat.zero_le _,rd0_ok⟩
theorem MdO.wf {m:MdD} (h:MdO m):MdWf m:=⟨Nat.le_trans h.nm (by decide),fun i=>by
 obtain⟨a,b⟩:=getD_all h.ev.2 ev0_o i
 exact⟨Nat.le_trans a (by decide),RdOk.w b.1,RdOk.w b.2.1,RdOk.w b.2.2⟩,fun i=>Nat.le_trans (getD_all h.hs.2 hs0_o i) (by decide)⟩
theorem MdO.wf2 {m:MdD} (h:MdO m):MdWf2 m:=⟨fun i=>⟨Nat.le_trans (h.pgi i).1 (by decide),(h.pgi i).2.2.1⟩,h.gt.1,h.pg.1,fun k i=>by
 obtain⟨a,b,c,_⟩:=h.gti k i
 exact⟨Nat.le_trans a (by decide),RdOk.w b,Nat.le_trans c (by decide)⟩⟩
theorem MdO.wf3 {m:MdD} (h:MdO m):MdWf3 m:=⟨Nat.le_trans h.ph.1 (by decide),fun i=>by
 obtain⟨a,b,c,_⟩:=getD_all h.ph.2 ph0_o i
 exact⟨Nat.le_trans a (by decide),Nat.le_trans b (by decide),Nat.le_trans c (by decide)⟩,fun i k=>RdOk.w (getD_all (getD_all h.ph.2 ph0_o i).2.2.2 vl0_o k).2⟩
theorem MdO.wf4 {m:MdD} (h:MdO m):MdWf4 m:=⟨Nat.le_trans h.gr.1 (by decide),fun i=>by
 obtain⟨a,b,_,d,_⟩:=getD_all h.gr.2 gr0_o i
 exact⟨Nat.le_trans a (by decide),b,Nat.le_trans d (by decide)⟩,fun i k=>RdOk.w (getD_all (getD_all h.gr.2 gr0_o i).2.2.2.2 rd0_ok k)⟩
theorem MdO.inl {m:MdD} (h:MdO m) (k i j:Nat):(((gtsK m k).getD i gt0).inputs.getD j []).length≤1099511627776:=
 Nat.le_trans (getD_all (P:=fun x:BS=>x.length≤BG+1) (h.gti k i).2.2.2 (Nat.zero_le _) j) (by decide)
end Go.PN
namespace Go.PN
open Go.AI
theorem nodesF_step (m:MdD) {k:Nat} (h:k≤m.pages.length):nodesF m k (m.pages.length+1-k)=nodesK m k++nodesF m (k+1) (m.pages.length+1-(k+1)):=by
 rw [show m.pages.length+1-k=(m.pages.length+1-(k+1))+1 from by omega];rfl
theorem nodesK_drop (m:MdD) {k i:Nat} (h:i<(gtsK m k).length):(nodesK m k).drop i=((2,(k:Int)-1,(i:Int)):Th)::(nodesK m k).drop (i+1):=by
 have hl:i<(nodesK m k).length:=by unfold nodesK;rw [List.length_map,List.length_range];exact h
 rw [List.drop_eq_getElem_cons hl]
 congr 1
 simp only [nodesK,List.getElem_map,List.getElem_range]
theorem nodesK_len (m:MdD) (k:Nat):(nodesK m k).length=(gtsK m k).length:=by unfold nodesK;rw [List.length_map,List.length_range]
theorem MdO.cy {m:MdD} (h:MdO m) (h0:mcode0 m=0):CyOk m:=⟨h.ok,h.wf2,ins_ok (mcode0_ok h0),h.inl⟩
end Go.PN
namespace Go.Proofs.YteocnikcjjonbaaGreat
open Go.AI Go.PN
attribute [local irreducible] aw Fa Fh DrK
theorem nop_fa (t:Th):Fa Tryz.prog 103 [thA t] (.tup []):=by
 refine fa_of_body Tryz.func103 rfl rfl (by simp [Tryz.ntmps103]) fun C hC=> ?_
 simp only [initS,Nat.reduceAdd]
 repeat' first|refine yA1 o0 ?_|refine zW o0 ?_|refine yP o0 ?_|refine yN o0 ?_|refine zC o0 (fun hb=>?_) fun hb=>?_|refine zG o0 (fun hb=>?_) fun hb=>?_|refine zD o0 (fun hb=>?_) fun hb=>?_
 refine xB fun g1 hn_g1=>?_
 repeat' first|refine yA1 hn_g1 ?_|refine zW hn_g1 ?_|refine yP hn_g1 ?_|refine yN hn_g1 ?_|refine zC hn_g1 (fun hb=>?_) fun hb=>?_|refine zG hn_g1 (fun hb=>?_) fun hb=>?_|refine zD hn_g1 (fun hb=>?_) fun hb=>?_
 refine aw_endq hC rfl fun R r=>?_
 refine yS hn_g1 ?_
 refine r _ rfl ?_
 exact .tup trivial
theorem cyclic_fa (m:MdD) (hc:CyOk m):Fa Tryz.prog 50 [.agg (mdc true m)] (.c (.bool (cycB m))):=by
 have hpl:=hc.w2.pl
 refine fa_of_body Tryz.func50 rfl rfl (by simp [Tryz.ntmps50]) fun C hC=> ?_
 simp only [initS,Nat.reduceAdd]
 repeat' first|refine yA1 o0 ?_|refine zW o0 ?_|refine yP o0 ?_|refine yN o0 ?_|refine zC o0 (fun hb=>?_) fun hb=>?_|refine zG o0 (fun hb=>?_) fun hb=>?_|refine zD o0 (fun hb=>?_) fun hb=>?_
 refine xB fun g1 hn_g1=>?_
 repeat' first|refine yA1 hn_g1 ?_|refine zW hn_g1 ?_|refine yP hn_g1 ?_|refine yN hn_g1 ?_|refine zC hn_g1 (fun hb=>?_) fun hb=>?_|refine zG hn_g1 (fun hb=>?_) fun hb=>?_|refine zD hn_g1 (fun hb=>?_) fun hb=>?_
 refine aw_makeMap (Kf:=keyT) rfl rfl rfl fun g hn_g=> ?_
 replace hn_g:=Heap.ne_of hn_g
 dsimp only [Heap.ne] at hn_g
 have J1:=oj hn_g1 hn_g
 refine yS J1 ?_
 all_goals try(have Z:=J1;(repeat' first|refine yA1 Z ?_|refine zW Z ?_|refine yP Z ?_|refine yN Z ?_|refine zC Z (fun hb=>?_) fun hb=>?_|refine zG Z (fun hb=>?_) fun hb=>?_|refine zD Z (fun hb=>?_) fun hb=>?_);all_goals clear Z)
 have hcy:cycB m=(goD (walkT m ((nodesT m).length+1)) (nodesF m 0 (m.pages.length+1-0)) []).1:=rfl
 rw [hcy]
 generalize hR:goD (walkT m ((nodesT m).length+1)) (nodesF m 0 (m.pages.length+1-0)) []=R
 refine aw_lp (fun x:Nat×List (Th×Int)×List Th=>[(1,.c (.optr g1 0)),(3,.c (.raw (.map (some g)))),(4,.c (.int .i64 ((x.1:Int)-1)))]) (fun x=>[(g,.gen (MapI keyT (kvT x.2.1))),(g1,.cells 30 8 (ofL (mdc true m)))]) (fun x=>x.1≤m.pages.length+1∧goD (walkT m ((nodesT m).length+1)) (nodesF m x.1 (m.pages.length+1-x.1)) x.2.1=R∧DInv leafT (sucT m) (nodesT m) x.2.1 [] x.2.2) (fun x=>m.pages.length+1-x.1) (0,[],[]) (zB J1) zZ ⟨Nat.zero_le _,hR,dinv_nil⟩ ?_
 clear hR hcy J1
 rintro ⟨k,st,fin⟩ ⟨hk,hgo,hi⟩
 dsimp only at hk hgo hi⊢
 all_goals try(have Z:=(oj hn_g1 hn_g);(repeat' first|refine yA1 Z ?_|refine zW Z ?_|refine yP Z ?_|refine yN Z ?_|refine zC Z (fun hb=>?_) fun hb=>?_|refine zG Z (fun hb=>?_) fun hb=>?_|refine zD Z (fun hb=>?_) fun hb=>?_);all_goals clear Z)
 ·have hk':k≤m.pages.length:=by omega
  have f1:=gatesOf_fa m k hk' hc.ok.pg
  have hgl:=gtsK_len hc.w2 k
  rw [nodesF_step m hk'] at hgo
  all_goals try(have Z:=(oj hn_g1 hn_g);(repeat' first|refine yA1 Z ?_|(refine yC2 Z (f1) ?_)|(refine yD2 Z (f1) ?_)|refine zW Z ?_|refine yP Z ?_|refine yN Z ?_|refine zC Z (fun hb=>?_) fun hb=>?_|refine zG Z (fun hb=>?_) fun hb=>?_|refine zD Z (fun hb=>?_) fun hb=>?_);all_goals clear Z)
  refine aw_lp (fun x:Nat×List (Th×Int)×List Th=>[(1,.c (.optr g1 0)),(3,.c (.raw (.map (some g)))),(4,.c (.int .i64 ((k:Int)-1))),(17,.c (.int .i64 (gtsK m k).length)),(18,.c (.int .i64 x.1))]) (fun x=>[(g,.gen (MapI keyT (kvT x.2.1))),(g1,.cells 30 8 (ofL (mdc true m)))]) (fun x=>x.1≤(gtsK m k).length∧goD (walkT m ((nodesT m).length+1)) ((nodesK m k).drop x.1++nodesF m (k+1) (m.pages.length+1-(k+1))) x.2.1=R∧DInv leafT (sucT m) (nodesT m) x.2.1 [] x.2.2) (fun x=>(gtsK m k).length-x.1) (0,st,fin) (zB (oj hn_g1 hn_g)) zZ ⟨Nat.zero_le _,hgo,hi⟩ ?_
  clear hgo hi
  rintro ⟨i,st,fin⟩ ⟨hil,hgo,hi⟩
  dsimp only at hil hgo hi⊢
  all_goals try(have Z:=(oj hn_g1 hn_g);(repeat' first|refine yA1 Z ?_|refine zW Z ?_|refine yP Z ?_|refine yN Z ?_|refine zC Z (fun hb=>?_) fun hb=>?_|refine zG Z (fun hb=>?_) fun hb=>?_|refine zD Z (fun hb=>?_) fun hb=>?_);all_goals clear Z)
  ·have hi':=hb
   have hmem:((2,(k:Int)-1,(i:Int)):Th)∈nodesT m:=mem_nodesT.2 ⟨k,i,hk',hi',rfl⟩
   have f2:=walk_fg m hc 103 nop_fa g ((nodesT m).length+1) st [] fin (2,(k:Int)-1,(i:Int)) hi om (.inr hmem) (fun h e=>by simp at e)
   have ho:=walk_ok leaf_nodes (suc_nodes hc.ins) ((nodesT m).length+1) st [] fin (2,(k:Int)-1,(i:Int)) hi om (.inr hmem) (fun h e=>by simp at e)
   change DOut leafT (sucT m) (nodesT m) st [] fin (walkT m ((nodesT m).length+1) st (2,(k:Int)-1,(i:Int))) _ at ho
   rw [nodesK_drop m hi',List.cons_append] at hgo
   have hgo2:(if(walkT m ((nodesT m).length+1) st (2,(k:Int)-1,(i:Int))).1=true then walkT m ((nodesT m).length+1) st (2,(k:Int)-1,(i:Int)) else goD (walkT m ((nodesT m).length+1)) ((nodesK m k).drop (i+1)++nodesF m (k+1) (m.pages.length+1-(k+1))) (walkT m ((nodesT m).length+1) st (2,(k:Int)-1,(i:Int))).2)=R:=hgo
   clear hgo
   generalize hr:walkT m ((nodesT m).length+1) st (2,(k:Int)-1,(i:Int))=r at*
   all_goals try(have Z:=(oj hn_g1 hn_g);(repeat' first|refine yA1 Z ?_|(refine zg Z (f2) ?_)|refine zW Z ?_|refine yP Z ?_|refine yN Z ?_|refine zC Z (fun hb=>?_) fun hb=>?_|refine zG Z (fun hb=>?_) fun hb=>?_|refine zD Z (fun hb=>?_) fun hb=>?_);all_goals clear Z)
   ·refine yT hC (oj hn_g1 hn_g) ?_
    rw [if_pos hb] at hgo2
    rw [←hgo2]
    exact .one (.c (ler_bool hb.symm))
   ·have hrf:r.1=false:=hb
    rw [if_neg (by rw [hrf];decide)] at hgo2
    obtain⟨fin2,q1,_,q3,_⟩:=ho.2 hrf
    refine aw_stop ⟨(i+1,r.2,fin2),?_⟩
    and_intros
    all_goals first|rfl|exact List.Sublist.refl _|exact True.intro|exact hgo2|exact q1|(dsimp only;omega)
  ·rw [List.drop_of_length_le (by rw [nodesK_len];omega),List.nil_append] at hgo
   all_goals try(have Z:=(oj hn_g1 hn_g);(repeat' first|refine yA1 Z ?_|refine zW Z ?_|refine yP Z ?_|refine yN Z ?_|refine zC Z (fun hb=>?_) fun hb=>?_|refine zG Z (fun hb=>?_) fun hb=>?_|refine zD Z (fun hb=>?_) fun hb=>?_);all_goals clear Z)
   refine aw_stop ⟨(k+1,st,fin),?_⟩
   and_intros
   all_goals first|rfl|exact List.Sublist.refl _|exact True.intro|exact hgo|exact hi|exact c_int om|(dsimp only;omega)
 ·have hk1:k=m.pages.length+1:=by omega
  subst hk1
  rw [Nat.sub_self] at hgo
  have hgo2:(false,st)=R:=hgo
  subst hgo2
  refine yT hC (oj hn_g1 hn_g) ?_
  exact .one (.c (.bool _))
end Go.Proofs.YteocnikcjjonbaaGreat
namespace Go.PN
open Go.AI
variable {α β σ : Type}
theorem orC_ne {a b:Int} (h:a≠0):orC a b=a:=if_neg h
theorem orC_z {a b:Int} (h:a=0):orC a b=b:=if_pos h
theorem orC_assoc (a b c:Int):orC (orC a b) c=orC a (orC b c):=by
 by_cases h:a=0
 ·rw [orC_z h,orC_z h]
 ·rw [orC_ne h,orC_ne h,orC_ne h]
theorem frsN_z {f:Nat→σ→Int×σ} {n i:Nat} {s:σ} (h:(f i s).1=0):frsN f (n+1) i s=frsN f n (i+1) (f i s).2:=if_pos h
theorem frsN_ne {f:Nat→σ→Int×σ} {n i:Nat} {s:σ} (h:(f i s).1≠0):frsN f (n+1) i s=f i s:=if_neg h
def mcC (m:MdD):Int:=orC (mcode0 m) (if cycB m then 14 else 0)
abbrev gtN1 (m:MdD):Int:=(frsN (fun k (_:Unit)=>(gtsC m k,())) (m.pages.length+1) 0 ()).1
abbrev inN1 (m:MdD):Int:=(frsN (inP m) (m.pages.length+1) 0 []).1
theorem mcC_eq (m:MdD):mcC m=orC (if nameOk m.name then 0 else 5) (orC (evhC m) (orC (pgsC m) (orC (gtN1 m) (orC (inN1 m) (orC (if isInp m 0 m.top then 0 else 5) (orC (grsC m) (orC (phsC m) (if cycB m then 14 else 0)))))))):=by
 unfold mcC mcode0
 simp only [orC_assoc]
theorem frsS_size {f:Nat→α→List β→Int×List β} {c:Nat}:∀(l:List α) (i:Nat) (s:List β),(∀i x s,x∈l→(f i x s).2.length≤s.length+c)→(frsS f l i s).2.length≤s.length+c*l.length
 |[],_,s,_=>Nat.le_refl _
 |x::l,i,s,h=>by
  have h1:=h i x s List.mem_cons_self
  have h2:=frsS_size l (i+1) (f i x s).2 fun i y s hy=>h i y s (List.mem_cons_of_mem _ hy)
  rw [List.length_cons,Nat.mul_add]
  unfold frsS
  split
  ·omega
  ·omega
theorem inI_size (m:MdD) (k:Nat) (x:GtD) (j:Nat) (i:BS) (sp:List BS):(inI m k x j i sp).2.length≤sp.length+1:=by
 unfold inI
 repeat' split
 all_goals first|exact Nat.le_succ _|(rw [List.length_append];exact Nat.le_refl _)
theorem inP_size {m:MdD} {k:Nat} (hI:∀x∈gtsK m k,x.inputs.length≤16) (sp:List BS):(inP m k sp).2.length≤sp.length+16*(gtsK m k).length:=by
 have:=frsS_size (f:=inG m k) (c:=16) (gtsK m k) 0 sp fun i x s hx=>by
  have h1:=frsS_size (f:=inI m k x) (c:=1) x.inputs 0 s fun j n s _=>inI_size m k x j n s
  have h2:=hI x hx
  show(frsS (inI m k x) x.inputs 0 s).2.length≤_
  omega
 unfold inP
 split<;>exact this
theorem inp_16 {m:MdD} (h:gtN1 m=0) {k:Nat} (hk:k≤m.pages.length):∀x∈gtsK m k,x.inputs.length≤16:=fun x hx=>by
 obtain⟨_,hg⟩:=frsN_0 h k om
 rw [Nat.zero_add] at hg
 obtain⟨i,hi,rfl⟩:=List.getElem_of_mem hx
 have:=frst_0 gt0 (show frst (gtC m k) (gtsK m k) 0=0 from hg) i hi
 rw [List.getD_eq_getElem?_getD,List.getElem?_eq_getElem hi] at this
 simp only [Option.getD_some] at this
 generalize (gtsK m k)[i]=x at*
 unfold gtC at this
 split at this
 ·cases this
 split at this
 ·cases this
 unfold shpC at this
 split at this
 ·cases this
 split at this
 ·cases this
 rename_i hb
 unfold inpB at hb
 repeat' split at hb
 all_goals simp at hb<;>omega
end Go.PN
namespace Go.Proofs.YteocnikcjjonbaaGreat
open Go.AI Go.PN
attribute [local irreducible] aw Fa Fh DrK
theorem check_fa (m:MdD) (ho:MdO m):Fa Tryz.prog 14 [.agg (mdc true m)] (.c (errA (mcC m))):=by
 have hm:=ho.ok
 have hw2:=ho.wf2
 have hpl:=hw2.pl
 have fn:Fa Tryz.prog 42 [.c (.str (sB m.name))] (.c (.bool (nameOk m.name))):=tname_fa m.name ho.wf.nm
 have f1:=checkEvents_fa m hm ho.wf
 have f2:=checkPages_fa m hm hw2
 rw [mcC_eq]
 refine fa_of_body Tryz.func14 rfl rfl (by simp [Tryz.ntmps14]) fun C hC=> ?_
 simp only [initS,Nat.reduceAdd]
 repeat' first|refine yA1 o0 ?_|refine zW o0 ?_|refine yP o0 ?_|refine yN o0 ?_|refine zC o0 (fun hb=>?_) fun hb=>?_|refine zG o0 (fun hb=>?_) fun hb=>?_|refine zD o0 (fun hb=>?_) fun hb=>?_
 refine xB fun g1 hn_g1=>?_
 repeat' first|refine yA1 hn_g1 ?_|(refine yC2 hn_g1 (fn) ?_)|(refine yD2 hn_g1 (fn) ?_)|(refine yC2 hn_g1 (f1) ?_)|(refine yD2 hn_g1 (f1) ?_)|(refine yC2 hn_g1 (f2) ?_)|(refine yD2 hn_g1 (f2) ?_)|refine zW hn_g1 ?_|refine yP hn_g1 ?_|refine yN hn_g1 ?_|refine zC hn_g1 (fun hb=>?_) fun hb=>?_|refine zG hn_g1 (fun hb=>?_) fun hb=>?_|refine zD hn_g1 (fun hb=>?_) fun hb=>?_
 ·refine yT hC hn_g1 ?_
  rw [show nameOk m.name=false from by simpa using hb,orC_ne (by decide)]
  exact .one (.c (ler_errE rfl (by decide)))
 ·rename_i h1
  rw [if_pos (by simpa using h1),orC_z rfl,orC_ne (by simpa using hb)]
  refine yT hC hn_g1 ?_
  exact .one (.c ler_err)
 ·rename_i h1 h2
  rw [if_pos (by simpa using h1),orC_z rfl,orC_z (by simpa using h2),orC_ne (by simpa using hb)]
  refine yT hC hn_g1 ?_
  exact .one (.c ler_err)
 rename_i h1 h2
 have h3:pgsC m=0:=by simpa using hb
 rw [if_pos (by simpa using h1),orC_z rfl,orC_z (by simpa using h2),orC_z h3]
 clear fn f1 f2
 generalize hG:gtN1 m=G
 refine aw_lp (fun k:Nat=>[(1,.c (.optr g1 0)),(2,.c .nilI),(5,.c (.int .i64 ((k:Int)-1)))]) (fun _=>[(g1,.cells 30 8 (ofL (mdc true m)))]) (fun k=>k≤m.pages.length+1∧(frsN (fun k (_:Unit)=>(gtsC m k,())) (m.pages.length+1-k) k ()).1=G) (fun k=>m.pages.length+1-k) 0 (zB hn_g1) zZ ⟨Nat.zero_le _,hG⟩ ?_
 rintro k ⟨hk,hlp⟩
 repeat' first|refine yA1 hn_g1 ?_|refine zW hn_g1 ?_|refine yP hn_g1 ?_|refine yN hn_g1 ?_|refine zC hn_g1 (fun hb=>?_) fun hb=>?_|refine zG hn_g1 (fun hb=>?_) fun hb=>?_|refine zD hn_g1 (fun hb=>?_) fun hb=>?_
 ·have hk':k≤m.pages.length:=by omega
  have f1:=checkGates_fa m k hk' hm hw2
  rw [show m.pages.length+1-k=(m.pages.length+1-(k+1))+1 from by omega] at hlp
  repeat' first|refine yA1 hn_g1 ?_|(refine yC2 hn_g1 (f1) ?_)|(refine yD2 hn_g1 (f1) ?_)|refine zW hn_g1 ?_|refine yP hn_g1 ?_|refine yN hn_g1 ?_|refine zC hn_g1 (fun hb=>?_) fun hb=>?_|refine zG hn_g1 (fun hb=>?_) fun hb=>?_|refine zD hn_g1 (fun hb=>?_) fun hb=>?_
  ·have hb2:gtsC m k≠0:=by simpa using hb
   rw [frsN_ne (f:=fun k (_:Unit)=>(gtsC m k,())) hb2] at hlp
   have hlp:gtsC m k=G:=hlp
   subst hlp
   rw [orC_ne hb2]
   refine yT hC hn_g1 ?_
   exact .one (.c ler_err)
  ·rw [frsN_z (f:=fun k (_:Unit)=>(gtsC m k,())) (by simpa using hb)] at hlp
   refine aw_stop ⟨k+1,?_⟩
   and_intros
   all_goals first|rfl|exact List.Sublist.refl _|exact True.intro|exact hlp|exact c_int om|omega
 have hk1:k=m.pages.length+1:=by omega
 subst hk1
 rw [Nat.sub_self] at hlp
 have hG0:G=0:=hlp.symm
 subst hG0
 rw [orC_z rfl]
 have hI:=fun k hk=>inp_16 hG (k:=k) hk
 have hp8:m.pages.length≤8:=by
  unfold pgsC at h3
  split at h3
  ·cases h3
  ·omega
 have hIi:∀k,k≤m.pages.length→∀i,((gtsK m k).getD i gt0).inputs.length≤16:=fun k hk i=>getD_all (P:=fun x:GtD=>x.inputs.length≤16) (hI k hk) (Nat.zero_le _) i
 have hsz:=fun k hk sp=>inP_size (hI k hk) sp
 have hgl:=fun k=>gtsK_len hw2 k
 clear hlp
 generalize hN:inN1 m=N
 repeat' first|refine yA1 hn_g1 ?_|refine zW hn_g1 ?_|refine yP hn_g1 ?_|refine yN hn_g1 ?_|refine zC hn_g1 (fun hb=>?_) fun hb=>?_|refine zG hn_g1 (fun hb=>?_) fun hb=>?_|refine zD hn_g1 (fun hb=>?_) fun hb=>?_
 refine aw_lp (fun x:Nat×List BS×Option Nat=>[(1,.c (.optr g1 0)),(2,.c .nilI),(7,.c (gs x.2.2 1 x.2.1.length)),(8,.c (.int .i64 ((x.1:Int)-1)))]) (fun x=>gh x.2.2 9 x.2.1.length (strsF x.2.1)++[(g1,.cells 30 8 (ofL (mdc true m)))]) (fun x=>x.1≤m.pages.length+1∧(x.2.2=none→x.2.1.length=0)∧x.2.1.length≤16777216*x.1∧(frsN (inP m) (m.pages.length+1-x.1) x.1 x.2.1).1=N) (fun x=>m.pages.length+1-x.1) (0,[],none) (zB hn_g1) zZ ⟨Nat.zero_le _,fun _=>rfl,Nat.zero_le _,hN⟩ ?_
 rintro ⟨k,sp,og⟩ ⟨hk,hog,hsp,hlp⟩
 dsimp only at hk hog hsp hlp⊢
 refine aw_nd fun hnd=> ?_
 have hgn:∀g,og=some g→(g=g1)=False:=fun g e=>by
  subst e
  simp only [gh,Heap.keys,List.map_append,List.map_cons,List.map_nil,List.cons_append,List.nil_append] at hnd
  exact eq_false fun e=>(List.nodup_cons.1 hnd).1 (by rw [e];exact List.mem_cons_self)
 refine aw_perm List.perm_append_comm ?_
 clear hnd
 simp only [List.cons_append,List.nil_append]
 repeat' first|refine yA1 hn_g1 ?_|refine zW hn_g1 ?_|refine yP hn_g1 ?_|refine yN hn_g1 ?_|refine zC hn_g1 (fun hb=>?_) fun hb=>?_|refine zG hn_g1 (fun hb=>?_) fun hb=>?_|refine zD hn_g1 (fun hb=>?_) fun hb=>?_
 ·have hk':k≤m.pages.length:=by omega
  have hsz':=hsz k hk' sp
  have hgk:=hgl k
  rw [show m.pages.length+1-k=(m.pages.length+1-(k+1))+1 from by omega] at hlp
  refine aw_callh (hc:=gh og 9 sp.length (strsF sp)) (hr:=[(g1,.cells 30 8 (ofL (mdc true m)))]) (checkInputs_fh m k sp og hk' hm hw2 (hIi k hk') (fun i j=>ho.inl k i j) hog om) rfl rfl rfl (List.perm_append_comm (l₁:=[(g1,_)])) (zL hn_g1) ?_
  rintro _ _ (⟨q1,rfl,rfl⟩|⟨q1,og2,q2,rfl,rfl⟩) _
  ·rw [frsN_ne (f:=inP m) q1] at hlp
   subst hlp
   simp only [List.nil_append]
   rw [orC_ne q1]
   refine yS hn_g1 ?_
   repeat' first|refine yA1 hn_g1 ?_|refine zW hn_g1 ?_|refine yP hn_g1 ?_|refine yN hn_g1 ?_|refine zC hn_g1 (fun hb=>?_) fun hb=>?_|refine zG hn_g1 (fun hb=>?_) fun hb=>?_|refine zD hn_g1 (fun hb=>?_) fun hb=>?_
   ·refine yT hC hn_g1 ?_
    exact .one (.c ler_err)
   ·exfalso;simp_all
  ·rw [frsN_z (f:=inP m) q1] at hlp
   refine yS hn_g1 ?_
   repeat' first|refine yA1 hn_g1 ?_|refine zW hn_g1 ?_|refine yP hn_g1 ?_|refine yN hn_g1 ?_|refine zC hn_g1 (fun hb=>?_) fun hb=>?_|refine zG hn_g1 (fun hb=>?_) fun hb=>?_|refine zD hn_g1 (fun hb=>?_) fun hb=>?_
   refine aw_stop ⟨(k+1,(inP m k sp).2,og2),?_⟩
   and_intros
   all_goals first|rfl|exact List.Sublist.refl _|exact True.intro|exact q2|exact hlp|exact c_int om|(dsimp only;omega)
 all_goals
  have hk1:k=m.pages.length+1:=by omega
  subst hk1
  rw [Nat.sub_self] at hlp
  have hN0:N=0:=hlp.symm
  subst hN0
  rw [orC_z rfl]
 have f3:=isInput_fa m 0 m.top (Nat.zero_le _) hm (Nat.le_trans (hgl 0) (by decide)) (Nat.le_trans ho.tp (by decide))
 rw [show((0:Nat):Int)-1= -1 from rfl] at f3
 have f4:=checkGroups_fa m hm ho.wf4
 have f5:=checkPhases_fa m hm hw2 ho.wf3
 clear hlp hsp hog hgn
 repeat' first|refine yA1 hn_g1 ?_|(refine yC2 hn_g1 (f3) ?_)|(refine yD2 hn_g1 (f3) ?_)|(refine yC2 hn_g1 (f4) ?_)|(refine yD2 hn_g1 (f4) ?_)|(refine yC2 hn_g1 (f5) ?_)|(refine yD2 hn_g1 (f5) ?_)|refine zW hn_g1 ?_|refine yP hn_g1 ?_|refine yN hn_g1 ?_|refine zC hn_g1 (fun hb=>?_) fun hb=>?_|refine zG hn_g1 (fun hb=>?_) fun hb=>?_|refine zD hn_g1 (fun hb=>?_) fun hb=>?_
 ·refine yT hC hn_g1 ?_
  rw [show isInp m 0 m.top=false from by simpa using hb,if_neg (by decide),orC_ne (by decide)]
  exact .one (.c (ler_errE rfl (by decide)))
 ·rename_i h4
  rw [if_pos (by simpa using h4),orC_z rfl,orC_ne (by simpa using hb)]
  refine yT hC hn_g1 ?_
  exact .one (.c ler_err)
 ·rename_i h4 h5
  rw [if_pos (by simpa using h4),orC_z rfl,orC_z (by simpa using h5),orC_ne (by simpa using hb)]
  refine yT hC hn_g1 ?_
  exact .one (.c ler_err)
 rename_i h4 h5
 have e0:mcode0 m=0:=by
  unfold mcode0
  rw [if_pos (by simpa using h1),orC_z rfl,orC_z (by simpa using h2),orC_z h3,orC_z hG,orC_z hN,if_pos (by simpa using h4),orC_z rfl,orC_z (by simpa using h5)]
  simpa using hb
 rw [if_pos (by simpa using h4),orC_z rfl,orC_z (by simpa using h5),orC_z (by simpa using hb)]
 have f6:=cyclic_fa m (ho.cy e0)
 repeat' first|refine yA1 hn_g1 ?_|(refine yC2 hn_g1 (f6) ?_)|(refine yD2 hn_g1 (f6) ?_)|refine zW hn_g1 ?_|refine yP hn_g1 ?_|refine yN hn_g1 ?_|refine zC hn_g1 (fun hb=>?_) fun hb=>?_|refine zG hn_g1 (fun hb=>?_) fun hb=>?_|refine zD hn_g1 (fun hb=>?_) fun hb=>?_
 ·refine yT hC hn_g1 ?_
  rw [if_pos hb]
  exact .one (.c (ler_errE rfl (by decide)))
 ·refine yT hC hn_g1 ?_
  rw [if_neg (by simpa using hb)]
  exact .one (.c (ler_err0 rfl))
end Go.Proofs.YteocnikcjjonbaaGreat
namespace Go.PN
open Go.AI
theorem splitT_len {l:BS} (B:Nat):∀(n i:Nat) (out:List TK),out.length+(l.length-i)≤B→(splitT l n i out).2.length≤B
 |0,_,_,h=>by unfold splitT;dsimp only;omega
 |n+1,i,out,h=>by
  unfold splitT
  by_cases hi:i<l.length
  ·rw [if_pos hi]
   cases hs:stepT l i with
   |err c=>exact Nat.zero_le _
   |skip e=>
    have:=stepT_skip hi hs
    exact splitT_len B n e out om
   |tok k e=>
    have:=stepT_tok hi hs
    exact splitT_len B n e _ (by rw [List.length_append,List.length_singleton];omega)
  ·rw [if_neg hi];dsimp only;omega
theorem splitT_txt {l:BS}:∀(n i:Nat) (out:List TK),(∀t∈out,t.text.length≤l.length)→∀t∈(splitT l n i out).2,t.text.length≤l.length
 |0,_,_,h=>h
 |n+1,i,out,h=>by
  unfold splitT
  by_cases hi:i<l.length
  ·rw [if_pos hi]
   cases hs:stepT l i with
   |err c=>exact fun _ h=>by cases h
   |skip e=>exact splitT_txt n e out h
   |tok k e=>
    have hh:=stepT_tok hi hs
    refine splitT_txt n e _ fun t ht=> ?_
    rcases List.mem_append.1 ht with e'|e'
    ·exact h t e'
    ·rw [List.mem_singleton.1 e']
     show(cutS l i e).length≤_
     rw [cutS_len hh.2];omega
  ·rw [if_neg hi];exact h
theorem splitS_len (l:BS):(splitS l).2.length≤65536:=by
 unfold splitS
 split
 ·exact Nat.zero_le _
 ·exact splitT_len 65536 _ _ _ (by simp;omega)
theorem splitS_txt (l:BS):∀t∈(splitS l).2,t.text.length≤65536:=by
 unfold splitS
 split
 ·exact fun _ h=>by cases h
 ·exact fun t ht=>Nat.le_trans (splitT_txt _ _ _ (fun _ h=>by cases h) t ht) om
theorem splitS_ok (l:BS):TksOk (splitS l).2:=by
 unfold splitS
 split
 ·exact fun _ h=>by cases h
 ·exact splitT_ok _ _ _ fun _ h=>by cases h
end Go.PN
namespace Go.PN
open Go.AI
theorem read_o (l:BS):MdO (readS ⟨(splitS l).2,0⟩).1:=sz_read _ (fun t ht=>Nat.le_trans (splitS_txt l t ht) (by decide)) (by
 have:=splitS_len l
 show(if(0:Int)=0 then(splitS l).2.length+1 else 0)≤NG
 rw [if_pos rfl]
 show _≤1048576
 omega)
end Go.PN
namespace Go.Proofs.YteocnikcjjonbaaGreat
open Go.AI Go.PN
attribute [local irreducible] aw Fa Fh DrK
theorem pm_fa (l:BS) (hl:l.length≤1099511627776):Fa Tryz.prog 10 [.c (.str (sB l))] (.tup [.agg (mdc true (modelP mcC l).1),.c (errA (modelP mcC l).2)]):=
 pmodel_fa mcC l hl (Nat.le_trans (splitS_len l) (by decide)) (fun t ht=>Nat.le_trans (splitS_txt l t ht) (by decide)) fun _=>check_fa _ (read_o l)
theorem pg_fa (l:BS) (hl:l.length≤1099511627776):Fa Tryz.prog 20 [.c (.str (sB l))] (.tup [.agg (gtc (gateP l).1),.c (errA (gateP l).2)]):=pgate_fa l hl (Nat.le_trans (splitS_len l) (by decide)) (fun t ht=>Nat.le_trans (splitS_txt l t ht) (by decide))
end Go.Proofs.YteocnikcjjonbaaGreat
namespace Go.PN
open Go.AI
theorem getD_ext {α:Type} (d:α) {xs ys:List α} (hl:xs.length=ys.length) (h:∀j,j<xs.length→xs.getD j d=ys.getD j d):xs=ys:=by
 refine List.ext_getElem hl fun j h1 h2=> ?_
 have:=h j h1
 rw [List.getD_eq_getElem?_getD,List.getD_eq_getElem?_getD,List.getElem?_eq_getElem h1,List.getElem?_eq_getElem h2] at this
 exact this
theorem pre_succ {α:Type} {d:α} {xs ys:List α} {i:Nat} (hs:∀j,j<i→xs.getD j d=ys.getD j d) (h:xs.getD i d=ys.getD i d):∀j,j<i+1→xs.getD j d=ys.getD j d:=fun j hj=>by
 by_cases e:j=i
 ·subst e;exact h
 ·exact hs j om
instance:DecidableEq GtD:=fun a b=>decidable_of_iff (a.name=b.name∧a.kind=b.kind∧a.k=b.k∧a.inputs=b.inputs∧a.dorm=b.dorm) (by cases a;cases b;simp)
instance:DecidableEq EvD:=fun a b=>decidable_of_iff (a.name=b.name∧a.p=b.p∧a.fail=b.fail∧a.rep=b.rep∧a.cost=b.cost) (by cases a;cases b;simp)
instance:DecidableEq HsD:=fun a b=>decidable_of_iff (a.name=b.name∧a.on=b.on) (by cases a;cases b;simp)
instance:DecidableEq PgD:=fun a b=>decidable_of_iff (a.name=b.name∧a.top=b.top∧a.gates=b.gates) (by cases a;cases b;simp)
instance:DecidableEq GrD:=fun a b=>decidable_of_iff (a.name=b.name∧a.kind=b.kind∧a.members=b.members∧a.factors=b.factors) (by cases a;cases b;simp)
instance:DecidableEq VlD:=fun a b=>decidable_of_iff (a.event=b.event∧a.p=b.p) (by cases a;cases b;simp)
instance:DecidableEq PhD:=fun a b=>decidable_of_iff (a.name=b.name∧a.top=b.top∧a.values=b.values) (by cases a;cases b;simp)
instance:DecidableEq MdD:=fun a b=>decidable_of_iff (a.name=b.name∧a.top=b.top∧a.events=b.events∧a.houses=b.houses∧a.gates=b.gates∧a.pages=b.pages∧a.groups=b.groups∧a.phases=b.phases) (by cases a;cases b;simp)
end Go.PN
namespace Go.Proofs.YteocnikcjjonbaaGreat
open Go.AI Go.PN
attribute [local irreducible] aw Fa Fh DrK
theorem texts_fa (xs ys:List BS) (hl:xs.length≤1099511627776) (hl2:ys.length≤1099511627776):Fa Tryz.prog 25 [.c (strs false xs),.c (strs false ys)] (.c (.bool (decide (xs=ys)))):=by
 refine fa_of_body Tryz.func25 rfl rfl (by simp [Tryz.ntmps25]) fun C hC=> ?_
 simp only [initS,Nat.reduceAdd]
 repeat' first|refine yA1 o0 ?_|refine zW o0 ?_|refine yP o0 ?_|refine yN o0 ?_|refine zC o0 (fun hb=>?_) fun hb=>?_|refine zG o0 (fun hb=>?_) fun hb=>?_|refine zD o0 (fun hb=>?_) fun hb=>?_
 ·refine xT hC ?_
  exact .one (.c (ler_bool (decide_eq_false fun e=>hb (by rw [e])).symm))
 have hlen:xs.length=ys.length:=by simpa using hb
 refine aw_lp (fun i:Nat=>[(0,.c (strs false xs)),(1,.c (strs false ys)),(12,.c (.int .i64 xs.length)),(13,.c (.int .i64 i))]) (fun _=>[]) (fun i=>i≤xs.length∧∀j,j<i→xs.getD j []=ys.getD j []) (fun i=>xs.length-i) 0 eB zZ ⟨Nat.zero_le _,fun j hj=>absurd hj om⟩ ?_
 rintro i ⟨hi,hs⟩
 repeat' first|refine yA1 o0 ?_|refine zW o0 ?_|refine yP o0 ?_|refine yN o0 ?_|refine zC o0 (fun hb=>?_) fun hb=>?_|refine zG o0 (fun hb=>?_) fun hb=>?_|refine zD o0 (fun hb=>?_) fun hb=>?_
 ·have hi':=hb
  have hi2:i<ys.length:=by omega
  refine aw_dr 9 ty_mixed (by kernel_rfl) ?_
  repeat' first|refine yA1 o0 ?_|refine zW o0 ?_|refine yP o0 ?_|refine yN o0 ?_|refine zC o0 (fun hb=>?_) fun hb=>?_|refine zG o0 (fun hb=>?_) fun hb=>?_|refine zD o0 (fun hb=>?_) fun hb=>?_
  ·refine xT hC ?_
   exact .one (.c (ler_bool (decide_eq_false fun e=>hb (by rw [e])).symm))
  ·refine aw_stop ⟨i+1,?_⟩
   have hs2:=pre_succ hs (by simpa using hb)
   and_intros
   all_goals first|rfl|exact List.Sublist.refl _|exact True.intro|exact hs2|omega
 ·refine xT hC ?_
  exact .one (.c (ler_bool (decide_eq_true (getD_ext [] hlen fun j hj=>hs j om)).symm))
end Go.Proofs.YteocnikcjjonbaaGreat
namespace Go.PN
open Go.AI
def awT:BS:=[109,111,100,101,108,32,109,59,32,101,118,101,110,116,32,97,32,112,32,49,47,49,48,48,59,32,101,118,101,110,116,32,98,59,32,103,97,116,101,32,103,32,97,110,100,32,97,32,98,59,32,116,111,112,32,103,59]
def awG:BS:=[103,97,116,101,32,103,32,118,111,116,101,32,50,32,97,32,98,32,64,32,112,59]
abbrev awM:MdD:=⟨[109],[103],[⟨[97],rd (1/100),rd0,rd0,0⟩,⟨[98],rd0,rd0,rd0,0⟩],[],[⟨[103],0,0,[[97],[98]],rd0⟩],[],[],[]⟩
abbrev awD:GtD:=⟨[103],2,2,[[97],[98],[64,112]],rd0⟩
theorem awT_ok:modelP mcC awT=(awM,0):=by
 have h1:(splitS awT).1=0:=by decide+kernel
 have h2:(readS ⟨(splitS awT).2,0⟩).1=awM:=by decide+kernel
 have h3:(readS ⟨(splitS awT).2,0⟩).2.e=0:=by decide+kernel
 have h4:mcC awM=0:=by decide+kernel
 unfold modelP
 dsimp only
 rw [if_neg (fun h=>h h1),if_neg (fun h=>h h3),h2,if_neg (fun h=>h h4)]
theorem awG_ok:gateP awG=(awD,0):=by
 have h1:(splitS awG).1=0:=by decide+kernel
 have h2:(gateS (expS kGate ⟨(splitS awG).2,0⟩)).1=awD:=by decide+kernel
 have h3:(endS (gateS (expS kGate ⟨(splitS awG).2,0⟩)).2).e=0:=by decide+kernel
 unfold gateP
 dsimp only
 rw [if_neg (fun h=>h h1),if_neg (fun h=>h h3),h2]
end Go.PN
namespace Go.Proofs.YteocnikcjjonbaaGreat
open Go.AI Go.PN
attribute [local irreducible] aw Fa Fh DrK
theorem awake23_fa:Fa Tryz.prog 9 [] (.c (.bool true)):=by
 have f1:=pm_fa awT (by decide)
 have f2:=pg_fa awG (by decide)
 rw [awT_ok] at f1
 rw [awG_ok] at f2
 dsimp only at f1 f2
 have f3:=texts_fa [[97],[98],[64,112]] [[97],[98],[64,112]] (by decide) (by decide)
 have e0:errA 0=.nilI:=if_pos rfl
 rw [e0] at f1 f2
 unfold awT at f1
 unfold awG at f2
 refine fa_of_body Tryz.func9 rfl rfl (by simp [Tryz.ntmps9]) fun C hC=> ?_
 simp only [initS,Nat.reduceAdd]
 repeat' first|refine yA1 o0 ?_|(refine yC2 o0 (f1) ?_)|(refine yD2 o0 (f1) ?_)|(refine yC2 o0 (f2) ?_)|(refine yD2 o0 (f2) ?_)|refine zW o0 ?_|refine yP o0 ?_|refine yN o0 ?_|refine zC o0 (fun hb=>?_) fun hb=>?_|refine zG o0 (fun hb=>?_) fun hb=>?_|refine zD o0 (fun hb=>?_) fun hb=>?_
 refine xA fun g1 hn_g1=>?_
 repeat' first|refine yA1 hn_g1 ?_|(refine yC2 hn_g1 (f1) ?_)|(refine yD2 hn_g1 (f1) ?_)|(refine yC2 hn_g1 (f2) ?_)|(refine yD2 hn_g1 (f2) ?_)|refine zW hn_g1 ?_|refine yP hn_g1 ?_|refine yN hn_g1 ?_|refine zC hn_g1 (fun hb=>?_) fun hb=>?_|refine zG hn_g1 (fun hb=>?_) fun hb=>?_|refine zD hn_g1 (fun hb=>?_) fun hb=>?_
 refine yA hn_g1 fun g3 hn_g3=>?_
 all_goals try(have Z:=(oj hn_g1 hn_g3);(repeat' first|refine yA1 Z ?_|refine zW Z ?_|refine yP Z ?_|refine yN Z ?_|refine zC Z (fun hb=>?_) fun hb=>?_|refine zG Z (fun hb=>?_) fun hb=>?_|refine zD Z (fun hb=>?_) fun hb=>?_);all_goals clear Z)
 all_goals first
  |(exfalso;exact hb rfl)
  |skip
 have hc1:(Value.string {data:= #[97]})=.string (sB [97]):=rfl
 refine aw_buildSlice (xs:=[.const (.string (sB [97])),.const (.string (sB [98])),.const (.string (sB [64,112]))]) (cells:=[.str (sB [97]),.str (sB [98]),.str (sB [64,112])]) rfl rfl rfl (zE (oj hn_g1 hn_g3)) (by refine yS (oj hn_g1 hn_g3) ?_;rfl) rfl om om (by intro z hz;simp only [List.mem_cons,List.not_mem_nil,or_false] at hz;rcases hz with rfl|rfl|rfl<;>exact⟨rfl,rfl,rfl⟩) rfl fun g hg=> ?_
 replace hg:=Heap.ne_of hg
 dsimp only [Heap.ne] at hg
 have J1:=oj hn_g1 (oj hn_g3 hg)
 refine yS J1 ?_
 refine aw_callq f3 rfl rfl rfl (by refine yS J1 ?_;exact⟨.c wl2,.c (.osl (m:=3) (zE J1) om (fun j hj=>by match j,hj with|0,_=>exact .refl _|1,_=>exact .refl _|2,_=>exact .refl _))⟩) ?_
 refine yS J1 ?_
 all_goals try(have Z:=J1;(repeat' first|refine yA1 Z ?_|refine zW Z ?_|refine yP Z ?_|refine yN Z ?_|refine zC Z (fun hb=>?_) fun hb=>?_|refine zG Z (fun hb=>?_) fun hb=>?_|refine zD Z (fun hb=>?_) fun hb=>?_);all_goals clear Z)
 refine yT hC J1 ?_
 exact .one (.c (ler_bool (by decide)))
end Go.Proofs.YteocnikcjjonbaaGreat
namespace Go.PN
open Go.AI
theorem dec_step {q:Rat} {x:Nat} (h:q=q) (n:Nat):(n:Rat)/((10^x:Nat):Rat)/((10:Int):Rat)=(n:Rat)/((10^(x+1):Nat):Rat):=by
 have h1:=pow10_ne x
 have h2:=pow10_ne (x+1)
 have h3:((10^(x+1):Nat):Rat)=((10^x:Nat):Rat)*10:=by rw [Nat.pow_succ];push_cast;rfl
 rw [h3]
 grind
theorem dec_sum (a b:BS):(natB a:Rat)+(natB b:Rat)/((10^b.length:Nat):Rat)=(natB (a++b):Rat)/((10^b.length:Nat):Rat):=by
 have h1:=pow10_ne b.length
 rw [natB_app]
 push_cast
 push_cast at h1
 grind
end Go.PN
namespace Go.Proofs.YteocnikcjjonbaaGreat
open Go.AI Go.PN
attribute [local irreducible] aw Fa Fh DrK
theorem sfromZ (neg:Bool) (n:Nat):Fa Tryz.prog 188 [.c (.bool neg),.c (ws false (words n)),.c (ws false (words 0))] (.tup [.agg (rdc rd0),.c (.int .i64 8)]):=by
 have h:=qbits_fa (words 0) (words_lt _) (by rw [words_zero];simp)
 rw [val_words,show bitlen 0=0 from bitlen_zero.2 rfl] at h
 refine fa_of_body Tryz.func188 rfl rfl (by simp [Tryz.ntmps188]) fun C hC=> ?_
 simp only [initS,Nat.reduceAdd]
 refine xG ?_
 refine xA fun g6 hn_g6=>?_
 repeat' first|refine yA1 hn_g6 ?_|(refine yC2 hn_g6 (h) ?_)|(refine yD2 hn_g6 (h) ?_)|refine zW hn_g6 ?_|refine yP hn_g6 ?_|refine yN hn_g6 ?_|refine zC hn_g6 (fun hb=>?_) fun hb=>?_|refine zG hn_g6 (fun hb=>?_) fun hb=>?_|refine zD hn_g6 (fun hb=>?_) fun hb=>?_
 refine yT hC hn_g6 ?_
 exact .tup ⟨.agg ⟨.bool _,.nils,.nils,trivial⟩,.c (.int _ _),trivial⟩
theorem sdiv_zero (a b:RD) (ha:a.wf 1073741824) (hb:b.wf 1073741824) (hz:b.q=0):Fa Tryz.prog 171 [.agg (rdc a),.agg (rdc b)] (.tup [.agg (rdc rd0),.c (.int .i64 8)]):=by
 obtain⟨l1,l2⟩:=RD.p_len ha om
 obtain⟨l3,l4⟩:=RD.p_len hb om
 have hp:b.pn=0:=Classical.byContradiction fun h=>by
  have hd:=RD.pd_ne hb
  unfold RD.q sq at hz
  rw [Rat.mkRat_eq_zero hd] at hz
  unfold sgn at hz
  split at hz<;>omega
 have m1:=words_mul_len a.pn b.pd
 have m3:=words_mul_len a.pd b.pn
 have h1:=sparts_fa a ha
 have h2:=sparts_fa b hb
 have h3:=qmulW a.pn b.pd om om
 have h4:=qmulW a.pd b.pn om om
 have h5:=sfromZ (a.ps !=b.ps) (a.pn*b.pd)
 rw [show(0:Nat)=a.pd*b.pn from by rw [hp];simp] at h5
 refine fa_of_body Tryz.func171 rfl rfl (by simp [Tryz.ntmps171]) fun C hC=> ?_
 simp only [initS,Nat.reduceAdd]
 refine xG ?_
 refine xB fun g2 hn_g2=>?_
 refine yB hn_g2 fun g3 hn_g3=>?_
 refine yA (oj hn_g2 hn_g3) fun g4 hn_g4=>?_
 all_goals try(have Z:=(oj hn_g2 (oj hn_g3 hn_g4));(repeat' first|refine yA1 Z ?_|(refine yC2 Z (h1) ?_)|(refine yD2 Z (h1) ?_)|(refine yC2 Z (h2) ?_)|(refine yD2 Z (h2) ?_)|(refine yC2 Z (h3) ?_)|(refine yD2 Z (h3) ?_)|(refine yC2 Z (h4) ?_)|(refine yD2 Z (h4) ?_)|(refine yC2 Z (h5) ?_)|(refine yD2 Z (h5) ?_)|refine zW Z ?_|refine yP Z ?_|refine yN Z ?_|refine zC Z (fun hb=>?_) fun hb=>?_|refine zG Z (fun hb=>?_) fun hb=>?_|refine zD Z (fun hb=>?_) fun hb=>?_);all_goals clear Z)
 refine yT hC (oj hn_g2 (oj hn_g3 hn_g4)) ?_
 exact .tup ⟨.agg lerl_rd,.c (.int _ _),trivial⟩
end Go.Proofs.YteocnikcjjonbaaGreat
namespace Go.PN
theorem span_all {s:BS} (h:∀i,i<s.length→isDig (bAt s i)=true):spanE isDig s 0=s.length:=by
 have:∀k i,i+k=s.length→spanE isDig s i=s.length:=by
  intro k
  induction k with
  |zero=>intro i hi;rw [spanE_out om];omega
  |succ k ih=>intro i hi;rw [spanE_yes om (h i om)];exact ih (i+1) om
 exact this _ _ (Nat.zero_add _)
end Go.PN
namespace Go.Proofs.YteocnikcjjonbaaGreat
open Go.AI Go.PN
theorem words_2_63:words 9223372036854775808=[0,2147483648]:=by decide+kernel
attribute [local irreducible] aw Fa Fh DrK
theorem sint_fa (r:RD) (hw:r.wf 1073741824):Fa Tryz.prog 145 [.agg (rdc r)] (.tup [.c (.int .i64 ((intQ r.q).getD 0)),.c (.bool (intQ r.q).isSome)]):=by
 obtain⟨l1,l2⟩:=RD.p_len hw om
 rw [intQ_of hw]
 have h1:=sparts_fa r hw
 have h3:=qcmpW r.pd 1 om (by rw [words_one];simp)
 rw [words_one] at h3
 have h5:=qcmpW r.pn 9223372036854775808 om (Nat.le_trans (words_small om) om)
 rw [words_2_63] at h5
 have h6:=qint_fa r.pn om
 have hn:∀n:Nat,n<9223372036854775808→wrapZ .i64 (0-(n:Int))= -(n:Int):=fun n hn=>int_neg om om
 have hn0:wrapZ .i64 (0-0)=0:=int_neg (n:=0) om om
 unfold partsAV at h1
 generalize r.pd=d at*
 generalize r.pn=n at*
 generalize r.ps=p at*
 refine fa_of_body Tryz.func145 rfl rfl (by simp [Tryz.ntmps145]) fun C hC=> ?_
 simp only [initS,Nat.reduceAdd]
 repeat' first|refine yA1 o0 ?_|refine zW o0 ?_|refine yP o0 ?_|refine yN o0 ?_|refine zC o0 (fun hb=>?_) fun hb=>?_|refine zG o0 (fun hb=>?_) fun hb=>?_|refine zD o0 (fun hb=>?_) fun hb=>?_
 refine xB fun g1 hn_g1=>?_
 repeat' first|refine yA1 hn_g1 ?_|(refine yC2 hn_g1 (h1) ?_)|(refine yD2 hn_g1 (h1) ?_)|refine zW hn_g1 ?_|refine yP hn_g1 ?_|refine yN hn_g1 ?_|refine zC hn_g1 (fun hb=>?_) fun hb=>?_|refine zG hn_g1 (fun hb=>?_) fun hb=>?_|refine zD hn_g1 (fun hb=>?_) fun hb=>?_
 refine aw_buildSlice (xs:=[.const (.int .u32 1)]) (cells:=[.int .u32 1]) rfl rfl rfl (zE hn_g1) (by refine yS hn_g1 ?_;rfl) rfl om om (by intro x hx;simp only [List.mem_singleton] at hx;subst hx;exact⟨rfl,rfl,rfl⟩) rfl fun g16 hn_g16=> ?_
 replace hn_g16:=Heap.ne_of hn_g16
 dsimp only [Heap.ne] at hn_g16
 have J1:=oj hn_g1 hn_g16
 refine yS J1 ?_
 refine aw_frzT (t:=16) (fun j=>.int .u32 (([1]:List Nat).getD j 0:Nat)) (zE J1) (zE J1) om (hC g16) (fun j hj=>by match j,hj with|0,_=>rfl) rfl (zE J1) ?_
 refine yS J1 ?_
 all_goals try(have Z:=J1;(repeat' first|refine yA1 Z ?_|(refine yC2 Z (h3) ?_)|(refine yD2 Z (h3) ?_)|(refine yC2 Z (h6) ?_)|(refine yD2 Z (h6) ?_)|refine zW Z ?_|refine yP Z ?_|refine yN Z ?_|refine zC Z (fun hb=>?_) fun hb=>?_|refine zG Z (fun hb=>?_) fun hb=>?_|refine zD Z (fun hb=>?_) fun hb=>?_);all_goals clear Z)
 all_goals try
  refine aw_buildSlice (xs:=[.const (.int .u32 0),.const (.int .u32 2147483648)]) (cells:=[.int .u32 0,.int .u32 2147483648]) rfl rfl rfl (zE J1) (by refine yS J1 ?_;rfl) rfl om om (by intro x hx;simp only [List.mem_cons,List.not_mem_nil,or_false] at hx;rcases hx with rfl|rfl<;>exact⟨rfl,rfl,rfl⟩) rfl fun g22 hn_g22=> ?_
  replace hn_g22:=Heap.ne_of hn_g22
  dsimp only [Heap.ne] at hn_g22
  have J2:=oj hn_g1 (oj hn_g16 hn_g22)
  refine yS J2 ?_
  refine aw_frzT (t:=22) (fun j=>.int .u32 (([0,2147483648]:List Nat).getD j 0:Nat)) (zE J2) (zE J2) om (hC g22) (fun j hj=>by match j,hj with|0,_=>rfl|1,_=>rfl) rfl (zE J2) ?_
  refine yS J2 ?_
  all_goals try(have Z:=J2;(repeat' first|refine yA1 Z ?_|(refine yC2 Z (h5) ?_)|(refine yD2 Z (h5) ?_)|(refine yC2 Z (h6) ?_)|(refine yD2 Z (h6) ?_)|refine zW Z ?_|refine yP Z ?_|refine yN Z ?_|refine zC Z (fun hb=>?_) fun hb=>?_|refine zG Z (fun hb=>?_) fun hb=>?_|refine zD Z (fun hb=>?_) fun hb=>?_);all_goals clear Z)
 all_goals
  refine yT hC J1 ?_
  clear h1 h3 h5 h6 J1
  refine .tup ⟨.c (ler_int ?_),.c (ler_bool ?_),trivial⟩
  all_goals
   simp only [ne_eq,cmpN_eq0] at*
   first
    |(exfalso;simp_all;done)
    |(try subst_vars
      try simp only [Bool.not_eq_true',Bool.not_eq_false',decide_eq_false_iff_not,decide_eq_true_eq] at*
      unfold sgn
      (repeat' split)<;>(try rw [hn _ om])<;>(try rw [hn0])<;>simp_all<;>omega)
end Go.Proofs.YteocnikcjjonbaaGreat
namespace Go.PN
open Go.AI
theorem span_eq {p:Nat→Bool} {l:BS}:∀(n i:Nat),(∀j,i≤j→j<i+n→p (bAt l j)=true)→i+n≤l.length→(i+n<l.length→p (bAt l (i+n))=false)→spanE p l i=i+n
 |0,i,_,h1,h2=>by
  by_cases h:i<l.length
  ·exact spanE_no h (by simpa using h2 om)
  ·exact spanE_out om
 |n+1,i,h,h1,h2=>by
  rw [spanE_yes om (h i (Nat.le_refl _) om),span_eq n (i+1) (fun j a b=>h j om om) om (fun z=>by rw [show i+1+n=i+(n+1) from by omega];exact h2 om)]
  omega
inductive LexOk (t:TK):Prop where
 |word (k:t.kind=0) (h0:0<t.text.length) (h1:t.text.length≤24) (h2:isLet (bAt t.text 0)=true) (h3:∀j,j<t.text.length→isIns (bAt t.text j)=true)
 |num (k:t.kind=1) (h0:0<t.text.length) (hd:isDig (bAt t.text 0)=true) (h1:NumF t.text)
 |sgn (k:t.kind=2) (h0:t.text.length=1) (h1:isSgn (bAt t.text 0)=true)
end Go.PN
namespace Go.PN
open Go.AI
def endB (l:BS):Prop:=l=[]∨isIns (bAt l 0)=false∧bAt l 0≠47
inductive Lx:BS→List TK→Prop where
 |nil:Lx [] []
 |blank (b:UInt8) (l:BS) (ts:List TK):isBlk b.toNat=true→Lx l ts→Lx (b::l) ts
 |note (c l:BS) (ts:List TK):(∀x∈c,x.toNat≠10)→Lx l ts→Lx (35::(c++10::l)) ts
 |tok (t:TK) (l:BS) (ts:List TK):LexOk t→endB l→Lx l ts→Lx (t.text++l) (t::ts)
end Go.PN
namespace Go.PN
open Go.AI
variable {α β : Type}
def Ext (st:Bool) (f:PS→α×PS):Prop:=∀l x,(f ⟨l,0⟩).2.e=20∨(st=false∧(f ⟨l,0⟩).2.e=0∧(f ⟨l,0⟩).2.l=[])∨
 ((f ⟨l++x,0⟩).2=⟨(f ⟨l,0⟩).2.l++x,(f ⟨l,0⟩).2.e⟩∧((f ⟨l,0⟩).2.e=0→(f ⟨l++x,0⟩).1=(f ⟨l,0⟩).1))
def Nl (st:Bool) (f:PS→α×PS):Prop:=(f ⟨[],0⟩).2.e=20∨(st=false∧(f ⟨[],0⟩).2.e=0)
theorem nil_l {f:PS→α×PS} (hf:Rdr f):(f ⟨[],0⟩).2.l=[]:=by
 have:=hf.suf ⟨[],0⟩
 exact List.suffix_nil.1 this
theorem ps_eta (s:PS) (h:s.e=0):s=⟨s.l,0⟩:=by cases s;simp at h;subst h;rfl
theorem Ext.bnd {a b:Bool} {f:PS→α×PS} {k:α→PS→β×PS} (hf:Ext a f) (hk:∀v,Ext b (k v)) (hn:a=true∨∀v,Nl b (k v)) (rk:∀v,Rdr (k v)):Ext b (PN.bnd f k):=by
 intro l x
 show(k (f ⟨l,0⟩).1 (f ⟨l,0⟩).2).2.e=20∨(b=false∧(k (f ⟨l,0⟩).1 (f ⟨l,0⟩).2).2.e=0∧(k (f ⟨l,0⟩).1 (f ⟨l,0⟩).2).2.l=[])∨((k (f ⟨l++x,0⟩).1 (f ⟨l++x,0⟩).2).2=⟨(k (f ⟨l,0⟩).1 (f ⟨l,0⟩).2).2.l++x,(k (f ⟨l,0⟩).1 (f ⟨l,0⟩).2).2.e⟩∧((k (f ⟨l,0⟩).1 (f ⟨l,0⟩).2).2.e=0→(k (f ⟨l++x,0⟩).1 (f ⟨l++x,0⟩).2).1=(k (f ⟨l,0⟩).1 (f ⟨l,0⟩).2).1))
 have h:=hf l x
 generalize f ⟨l,0⟩=r at*
 generalize f ⟨l++x,0⟩=q at*
 obtain⟨rv,rl,re⟩:=r
 dsimp only at h⊢
 rcases h with h|⟨h1,h2,h3⟩|⟨h1,h2⟩
 ·left
  rw [(rk rv).stk _ (show re≠0 by omega)]
  exact h
 ·subst h2 h3
  rcases hn with hn|hn
  ·rw [h1] at hn;cases hn
  rcases hn rv with h|⟨h,h'⟩
  ·exact .inl h
  ·exact .inr (.inl ⟨h,h',nil_l (rk rv)⟩)
 ·by_cases e0:re=0
  ·subst e0
   rw [h1,h2 rfl]
   exact hk rv rl x
  ·right;right
   rw [(rk rv).stk _ e0,h1,(rk _).stk _ e0]
   exact⟨rfl,fun h=>absurd h e0⟩
theorem Nl.bnd {a b:Bool} {f:PS→α×PS} {k:α→PS→β×PS} (hf:Nl a f) (rf:Rdr f) (hk:∀v,Nl b (k v)) (rk:∀v,Rdr (k v)):Nl b (PN.bnd f k):=by
 rcases hf with h|⟨_,h⟩
 ·left
  show(k (f ⟨[],0⟩).1 (f ⟨[],0⟩).2).2.e=20
  rw [(rk _).stk _ om]
  exact h
 ·have e:(f ⟨[],0⟩).2=⟨[],0⟩:=by rw [ps_eta _ h,nil_l rf]
  have:=hk (f ⟨[],0⟩).1
  unfold Nl at this⊢
  show(k (f ⟨[],0⟩).1 (f ⟨[],0⟩).2).2.e=20∨(b=false∧(k (f ⟨[],0⟩).1 (f ⟨[],0⟩).2).2.e=0)
  rw [e]
  exact this
def HO (c:PS→Bool):Prop:=∀t l x,c ⟨t::l,0⟩=c ⟨t::(l++x),0⟩
theorem HO.or {c d:PS→Bool} (h:HO c) (k:HO d):HO fun s=>c s||d s:=fun t l x=>by dsimp only;rw [h t l x,k t l x]
theorem HO.not {c:PS→Bool} (h:HO c):HO fun s=> !c s:=fun t l x=>by dsimp only;rw [h t l x]
end Go.PN
namespace Go.PN
open Go.AI
variable {α β : Type}
theorem Ext.any {b:Bool} {f:PS→α×PS} (h:Ext true f):Ext b f:=fun l x=>by
 rcases h l x with h|h|h
 ·exact .inl h
 ·cases h.1
 ·exact .inr (.inr h)
end Go.PN
namespace Go.AI
section
variable {E : Env} {K : List It} {l : List Oper} {FP FP' : Heap} {σ σ' : Sl} {h : Heap} {o : Oper} {i m : Nat} {cs : List (Nat × Nat)}
theorem POk.congr {P:Program} {ρ ρ':Operand→AV} {op:Op} {r:AV} (hp:POk P h ρ op r) (he:∀x∈op.operands,ρ' x=ρ x):POk P h ρ' op r:=fun S w e hm ho hh=>hp S w e hm (fun x hx=>by rw [←he x hx];exact ho x hx) hh
end
end Go.AI
namespace Go.PN
open Go.AI
theorem num_digs {s:BS} (h0:0<s.length) (hd:∀i,i<s.length→isDig (bAt s i)=true) (hl:s.length≤100):valC s=0∧valR s=rd (natB s:Rat):=by
 have hs:spanE isDig s 0=s.length:=by
  have:=span_eq (p:=isDig) (l:=s) s.length 0 (fun j _ b=>hd j om) om (fun z=>by omega)
  omega
 have hn:isNum s=true:=by
  unfold isNum numE
  rw [hs,hd 0 h0,if_neg (fun z=>by omega)]
  simp [h0]
 obtain⟨x1,x2⟩:=ix_all hd
 have hc:valC s=0:=by
  unfold valC
  rw [if_neg om,hn,if_neg (by simp),if_neg om]
 refine⟨hc,?_⟩
 unfold valR valQ
 rw [if_pos hc,if_neg om,x2,List.take_length,List.drop_of_length_le om,List.append_nil]
 congr 1
 simp
 grind
end Go.PN
namespace Go.PN
theorem div_p0 (n:Nat):(n:Rat)/((10^0:Nat):Rat)=n:=by
 have h1:((10^0:Nat):Rat)=1:=by simp
 rw [h1]
 grind
end Go.PN
namespace Go.Proofs.YteocnikcjjonbaaGreat
open Go.AI Go.PN
attribute [local irreducible] aw Fa Fh DrK
theorem rvalue_fa (s:BS) (hl:s.length≤1099511627776):Fa Tryz.prog 146 [.c (.str (sB s))] (.tup [.agg (rdc (valR s)),.c (.int .i64 (valC s))]):=by
 by_cases h100:s.length>100
 ·have d1:decide (s.length>100)=true:=decide_eq_true h100
  have hc:valC s=4:=by unfold valC;rw [if_pos h100]
  have hr:valR s=rd0:=by unfold valR;rw [hc];rfl
  rw [hc,hr]
  refine fa_of_body Tryz.func146 rfl rfl (by simp [Tryz.ntmps146]) fun C hC=> ?_
  simp only [initS,Nat.reduceAdd]
  repeat' first|refine yA1 o0 ?_|refine zW o0 ?_|refine yP o0 ?_|refine yN o0 ?_|refine zC o0 (fun hb=>?_) fun hb=>?_|refine zG o0 (fun hb=>?_) fun hb=>?_|refine zD o0 (fun hb=>?_) fun hb=>?_
  refine xA fun g2 hn_g2=>?_
  all_goals try(have Z:=(oj hn_g2 d1);(repeat' first|refine yA1 Z ?_|refine zW Z ?_|refine yP Z ?_|refine yN Z ?_|refine zC Z (fun hb=>?_) fun hb=>?_|refine zG Z (fun hb=>?_) fun hb=>?_|refine zD Z (fun hb=>?_) fun hb=>?_);all_goals clear Z)
  refine yT hC (oj hn_g2 d1) ?_
  exact .tup ⟨.agg ⟨.bool _,.nils,.nils,trivial⟩,.c (.int _ _),trivial⟩
 have d1:decide (s.length>100)=false:=decide_eq_false h100
 have hw:=rnum_fa s 0 hl (Nat.zero_le _)
 cases hn:isNum s with
 |false=>
  have hc:valC s=2:=by unfold valC;rw [if_neg h100,if_pos hn]
  have hr:valR s=rd0:=by unfold valR;rw [hc];rfl
  rw [hc,hr]
  refine fa_of_body Tryz.func146 rfl rfl (by simp [Tryz.ntmps146]) fun C hC=> ?_
  simp only [initS,Nat.reduceAdd]
  repeat' first|refine yA1 o0 ?_|refine zW o0 ?_|refine yP o0 ?_|refine yN o0 ?_|refine zC o0 (fun hb=>?_) fun hb=>?_|refine zG o0 (fun hb=>?_) fun hb=>?_|refine zD o0 (fun hb=>?_) fun hb=>?_
  refine xA fun g2 hn_g2=>?_
  all_goals try(have Z:=(oj hn_g2 d1);(repeat' first|refine yA1 Z ?_|(refine yC2 Z (rdig_fa _) ?_)|(refine yD2 Z (rdig_fa _) ?_)|(refine yC2 Z (hw) ?_)|(refine yD2 Z (hw) ?_)|refine zW Z ?_|refine yP Z ?_|refine yN Z ?_|refine zC Z (fun hb=>?_) fun hb=>?_|refine zG Z (fun hb=>?_) fun hb=>?_|refine zD Z (fun hb=>?_) fun hb=>?_);all_goals clear Z)
  all_goals first
   |(exfalso
     unfold isNum at hn
     simp_all
     omega)
   |(exfalso
     unfold isNum at hn
     simp_all
     done)
   |(refine yT hC (oj hn_g2 d1) ?_
     exact .tup ⟨.agg ⟨.bool _,.nils,.nils,trivial⟩,.c (.int _ _),trivial⟩)
 |true=>
  obtain⟨hf,h0⟩:=num_form hn
  have hn':=hn
  unfold isNum at hn'
  simp only [Bool.and_eq_true,decide_eq_true_eq,beq_iff_eq] at hn'
  have f0:decide (s.length<1)=false:=decide_eq_false om
  have f1:isDig (bAt s 0)=true:=hn'.1.2
  have f2:(numE s 0 !=s.length)=false:=by simpa using hn'.2
  have hc0:valC s=if idxB 47 s<s.length∧natB (s.drop (idxB 47 s+1))=0 then 8 else 0:=by unfold valC;rw [if_neg h100,if_neg (by rw [hn];decide)]
  have hdg:=rdigs_fa s 0 hl (Nat.zero_le _)
  cases hf with
  |all h=>
   obtain⟨v1,v2⟩:=num_digs h0 h om
   rw [span_all h] at hdg
   have ha:=rnat_fa s h om
   rw [←v2] at ha
   have hcut:=cutS_take s s.length
   rw [List.take_length] at hcut
   rw [v1]
   refine fa_of_body Tryz.func146 rfl rfl (by simp [Tryz.ntmps146]) fun C hC=> ?_
   simp only [initS,Nat.reduceAdd]
   repeat' first|refine yA1 o0 ?_|refine zW o0 ?_|refine yP o0 ?_|refine yN o0 ?_|refine zC o0 (fun hb=>?_) fun hb=>?_|refine zG o0 (fun hb=>?_) fun hb=>?_|refine zD o0 (fun hb=>?_) fun hb=>?_
   refine xA fun g2 hn_g2=>?_
   all_goals try(have Z:=(oj hn_g2 (oj d1 (oj f0 (oj f1 (oj f2 hcut)))));(repeat' first|refine yA1 Z ?_|(refine yC2 Z (rdig_fa _) ?_)|(refine yD2 Z (rdig_fa _) ?_)|(refine yC2 Z (hw) ?_)|(refine yD2 Z (hw) ?_)|(refine yC2 Z (hdg) ?_)|(refine yD2 Z (hdg) ?_)|(refine yC2 Z (ha) ?_)|(refine yD2 Z (ha) ?_)|refine zW Z ?_|refine yP Z ?_|refine yN Z ?_|refine zC Z (fun hb=>?_) fun hb=>?_|refine zG Z (fun hb=>?_) fun hb=>?_|refine zD Z (fun hb=>?_) fun hb=>?_);all_goals clear Z)
   refine yA (oj hn_g2 (oj d1 (oj f0 (oj f1 (oj f2 hcut))))) fun g5 hn_g5=>?_
   all_goals try(have Z:=(oj hn_g2 (oj d1 (oj f0 (oj f1 (oj f2 (oj hcut hn_g5))))));(repeat' first|refine yA1 Z ?_|refine zW Z ?_|refine yP Z ?_|refine yN Z ?_|refine zC Z (fun hb=>?_) fun hb=>?_|refine zG Z (fun hb=>?_) fun hb=>?_|refine zD Z (fun hb=>?_) fun hb=>?_);all_goals clear Z)
   ·refine yT hC (oj hn_g2 (oj d1 (oj f0 (oj f1 (oj f2 (oj hcut hn_g5)))))) ?_
    exact .tup ⟨.agg lerl_rd,.c (.int _ _),trivial⟩
   ·exact absurd rfl hb
  |two e he hm h1 h2=>
   have hs0:=span_two he hm h1
   rw [hs0] at hdg
   have f3:(e==s.length)=false:=by simp;omega
   have k1:=cutS_take s e
   have k2:=cutS_drop s (e+1)
   have ha:=rnat_fa (s.take e) (dig_take h1) (by rw [List.length_take];omega)
   have hb:=rnat_fa (s.drop (e+1)) (dig_drop h2) (by rw [List.length_drop];omega)
   have wa:(rd (natB (s.take e):Rat)).wf 1073741824:=rd_wf (fits_mono (by have:=natB_fits (s:=s.take e) (dig_take h1) (Nat.le_refl _);rwa [List.take_length] at this) (by rw [List.length_take];omega))
   have fb:PN.fits (natB (s.drop (e+1)):Rat) ((s.drop (e+1)).length+1):=by have:=natB_fits (s:=s.drop (e+1)) (dig_drop h2) (Nat.le_refl _);rwa [List.take_length] at this
   have wb:(rd (natB (s.drop (e+1)):Rat)).wf 1073741824:=rd_wf (fits_mono fb (by rw [List.length_drop];omega))
   rcases hm with hm|hm
   ·obtain⟨i1,i2⟩:=ix_point he hm h1 h2
    rw [if_neg (fun z=>by omega)] at hc0
    have hr:valR s=rd (valQ s):=by unfold valR;rw [if_pos hc0]
    have hq:valQ s=(natB (s.take e++s.drop (e+1)):Rat)/((10^(s.drop (e+1)).length:Nat):Rat):=by unfold valQ;rw [if_neg om,i2]
    have f4:((bAt s e:Nat)==47)=false:=by rw [hm];rfl
    have hlb:(s.drop (e+1)).length≤100:=by rw [List.length_drop];omega
    have hdb:=dig_drop h2
    rw [←dec_sum] at hq
    generalize s.take e=a at*
    generalize s.drop (e+1)=b at*
    have f10:∀k,k≤100→PN.fits ((10^k:Nat):Rat) (k+1):=fun k _=>nat_fits (pow10_lt k) om
    have wk:∀k,k≤100→(rd ((natB b:Rat)/((10^k:Nat):Rat))).wf 1073741824:=fun k hk=>rd_wf (fits_mono (fits_div fb (f10 k hk) (pow10_ne k)) om)
    have w10:(rd ((10:Int):Rat)).wf 1073741824:=rd_wf (fits_mono (fitsZ (by decide)) om)
    have h10:=sof_fa 10 om om
    have hs:=sadd_fa _ _ wa (wk b.length hlb)
    rw [rd_q,rd_q,←hq,←hr] at hs
    rw [hc0]
    refine fa_of_body Tryz.func146 rfl rfl (by simp [Tryz.ntmps146]) fun C hC=> ?_
    simp only [initS,Nat.reduceAdd]
    repeat' first|refine yA1 o0 ?_|refine zW o0 ?_|refine yP o0 ?_|refine yN o0 ?_|refine zC o0 (fun hb=>?_) fun hb=>?_|refine zG o0 (fun hb=>?_) fun hb=>?_|refine zD o0 (fun hb=>?_) fun hb=>?_
    refine xA fun g2 hn_g2=>?_
    all_goals try(have Z:=(oj hn_g2 (oj d1 (oj f0 (oj f1 (oj f2 (oj f3 (oj f4 (oj k1 k2))))))));(repeat' first|refine yA1 Z ?_|(refine yC2 Z (rdig_fa _) ?_)|(refine yD2 Z (rdig_fa _) ?_)|(refine yC2 Z (hw) ?_)|(refine yD2 Z (hw) ?_)|(refine yC2 Z (hdg) ?_)|(refine yD2 Z (hdg) ?_)|(refine yC2 Z (ha) ?_)|(refine yD2 Z (ha) ?_)|refine zW Z ?_|refine yP Z ?_|refine yN Z ?_|refine zC Z (fun hb=>?_) fun hb=>?_|refine zG Z (fun hb=>?_) fun hb=>?_|refine zD Z (fun hb=>?_) fun hb=>?_);all_goals clear Z)
    refine yA (oj hn_g2 (oj d1 (oj f0 (oj f1 (oj f2 (oj f3 (oj f4 (oj k1 k2)))))))) fun g5 hn_g5=>?_
    all_goals try(have Z:=(oj hn_g2 (oj d1 (oj f0 (oj f1 (oj f2 (oj f3 (oj f4 (oj k1 (oj k2 hn_g5)))))))));(repeat' first|refine yA1 Z ?_|(refine yC2 Z (hb) ?_)|(refine yD2 Z (hb) ?_)|refine zW Z ?_|refine yP Z ?_|refine yN Z ?_|refine zC Z (fun hb=>?_) fun hb=>?_|refine zG Z (fun hb=>?_) fun hb=>?_|refine zD Z (fun hb=>?_) fun hb=>?_);all_goals clear Z)
    refine yA (oj hn_g2 (oj d1 (oj f0 (oj f1 (oj f2 (oj f3 (oj f4 (oj k1 (oj k2 hn_g5))))))))) fun g6 hn_g6=>?_
    all_goals try(have Z:=(oj hn_g2 (oj d1 (oj f0 (oj f1 (oj f2 (oj f3 (oj f4 (oj k1 (oj k2 (oj hn_g5 hn_g6))))))))));(repeat' first|refine yA1 Z ?_|(refine yC2 Z (h10) ?_)|(refine yD2 Z (h10) ?_)|refine zW Z ?_|refine yP Z ?_|refine yN Z ?_|refine zC Z (fun hb=>?_) fun hb=>?_|refine zG Z (fun hb=>?_) fun hb=>?_|refine zD Z (fun hb=>?_) fun hb=>?_);all_goals clear Z)
    refine yA (oj hn_g2 (oj d1 (oj f0 (oj f1 (oj f2 (oj f3 (oj f4 (oj k1 (oj k2 (oj hn_g5 hn_g6)))))))))) fun g7 hn_g7=>?_
    all_goals try(have Z:=(oj hn_g2 (oj d1 (oj f0 (oj f1 (oj f2 (oj f3 (oj f4 (oj k1 (oj k2 (oj hn_g5 (oj hn_g6 hn_g7)))))))))));(repeat' first|refine yA1 Z ?_|refine zW Z ?_|refine yP Z ?_|refine yN Z ?_|refine zC Z (fun hb=>?_) fun hb=>?_|refine zG Z (fun hb=>?_) fun hb=>?_|refine zD Z (fun hb=>?_) fun hb=>?_);all_goals clear Z)
    clear hb ha hw hdg h10
    refine aw_rangeS (l:=b) rfl rfl rfl (by kernel_rfl) (zE (oj hn_g2 (oj d1 (oj f0 (oj f1 (oj f2 (oj f3 (oj f4 (oj k1 (oj k2 (oj hn_g5 (oj hn_g6 hn_g7)))))))))))) fun g59 hn_g59=> ?_
    replace hn_g59:=Heap.ne_of hn_g59
    dsimp only [Heap.ne] at hn_g59
    have J1:=oj hn_g2 (oj d1 (oj f0 (oj f1 (oj f2 (oj f3 (oj f4 (oj k1 (oj k2 (oj hn_g5 (oj hn_g6 (oj hn_g7 hn_g59)))))))))))
    refine yS J1 ?_
    all_goals try(have Z:=J1;(repeat' first|refine yA1 Z ?_|refine zW Z ?_|refine yP Z ?_|refine yN Z ?_|refine zC Z (fun hb=>?_) fun hb=>?_|refine zG Z (fun hb=>?_) fun hb=>?_|refine zD Z (fun hb=>?_) fun hb=>?_);all_goals clear Z)
    refine aw_lp (fun x:Nat=>[(2,.c (.optr g2 0)),(3,.c (.int .i64 0)),(5,.c (.optr g5 0)),(6,.c (.optr g6 0)),(7,.c (.optr g7 0)),(59,.c (.optr g59 0))]) (fun x=>[(g59,.gen (ItS b x)),(g7,.cells 59 3 (ofL (rdc (rd ((10:Int):Rat))))),(g6,.cells 59 3 (ofL (rdc (rd ((natB b:Rat)/((10^x:Nat):Rat)))))),(g5,.cells 59 3 (ofL (rdc (rd (natB a:Rat))))),(g2,.cells 59 3 (ofL [.bool false,.nils,.nils]))]) (fun x=>x≤b.length) (fun x=>b.length-x) 0 (zB J1) (by rw [div_p0];exact List.Sublist.refl _) (Nat.zero_le _) ?_
    rintro x hx
    by_cases hxb:x<b.length
    ·have hdv:=sdiv_fa _ _ (wk x om) w10 (by rw [rd_q];decide)
     rw [rd_q,rd_q,dec_step (q:=0) (x:=x) rfl (natB b)] at hdv
     have h128:bAt b x<128:=by have:=dig_le (hdb x hxb);omega
     refine yG J1 ?_
     refine aw_nextS (l:=b) (i:=x) rfl rfl rfl (zE J1) (zE J1) hxb h128 ?_
     refine yS J1 ?_
     all_goals try(have Z:=J1;(repeat' first|refine yA1 Z ?_|(refine yC2 Z (hdv) ?_)|(refine yD2 Z (hdv) ?_)|refine zW Z ?_|refine yP Z ?_|refine yN Z ?_|refine zC Z (fun hb=>?_) fun hb=>?_|refine zG Z (fun hb=>?_) fun hb=>?_|refine zD Z (fun hb=>?_) fun hb=>?_);all_goals clear Z)
     exact aw_stop ⟨x+1,by omega,(zB J1),List.Sublist.refl _,by omega⟩
    ·obtain rfl:x=b.length:=by omega
     refine yG J1 ?_
     refine aw_nextE (l:=b) (i:=b.length) rfl rfl rfl (zE J1) (zE J1) hxb ?_
     refine yS J1 ?_
     all_goals try(have Z:=J1;(repeat' first|refine yA1 Z ?_|(refine yC2 Z (hs) ?_)|(refine yD2 Z (hs) ?_)|refine zW Z ?_|refine yP Z ?_|refine yN Z ?_|refine zC Z (fun hb=>?_) fun hb=>?_|refine zG Z (fun hb=>?_) fun hb=>?_|refine zD Z (fun hb=>?_) fun hb=>?_);all_goals clear Z)
     refine yT hC J1 ?_
     exact .tup ⟨.agg lerl_rd,.c (.int _ _),trivial⟩
   ·have hix:=ix_slash he hm h1
    rw [hix] at hc0
    have f4:((bAt s e:Nat)==47)=true:=by rw [hm];rfl
    by_cases hz:natB (s.drop (e+1))=0
    ·rw [if_pos ⟨by omega,hz⟩] at hc0
     have hr:valR s=rd0:=by unfold valR;rw [hc0];rfl
     have hd:=sdiv_zero _ _ wa wb (by rw [rd_q,hz];rfl)
     rw [hc0,hr]
     refine fa_of_body Tryz.func146 rfl rfl (by simp [Tryz.ntmps146]) fun C hC=> ?_
     simp only [initS,Nat.reduceAdd]
     repeat' first|refine yA1 o0 ?_|refine zW o0 ?_|refine yP o0 ?_|refine yN o0 ?_|refine zC o0 (fun hb=>?_) fun hb=>?_|refine zG o0 (fun hb=>?_) fun hb=>?_|refine zD o0 (fun hb=>?_) fun hb=>?_
     refine xA fun g2 hn_g2=>?_
     all_goals try(have Z:=(oj hn_g2 (oj d1 (oj f0 (oj f1 (oj f2 (oj f3 (oj f4 (oj k1 k2))))))));(repeat' first|refine yA1 Z ?_|(refine yC2 Z (rdig_fa _) ?_)|(refine yD2 Z (rdig_fa _) ?_)|(refine yC2 Z (hw) ?_)|(refine yD2 Z (hw) ?_)|(refine yC2 Z (hdg) ?_)|(refine yD2 Z (hdg) ?_)|(refine yC2 Z (ha) ?_)|(refine yD2 Z (ha) ?_)|refine zW Z ?_|refine yP Z ?_|refine yN Z ?_|refine zC Z (fun hb=>?_) fun hb=>?_|refine zG Z (fun hb=>?_) fun hb=>?_|refine zD Z (fun hb=>?_) fun hb=>?_);all_goals clear Z)
     refine yA (oj hn_g2 (oj d1 (oj f0 (oj f1 (oj f2 (oj f3 (oj f4 (oj k1 k2)))))))) fun g5 hn_g5=>?_
     all_goals try(have Z:=(oj hn_g2 (oj d1 (oj f0 (oj f1 (oj f2 (oj f3 (oj f4 (oj k1 (oj k2 hn_g5)))))))));(repeat' first|refine yA1 Z ?_|(refine yC2 Z (hb) ?_)|(refine yD2 Z (hb) ?_)|refine zW Z ?_|refine yP Z ?_|refine yN Z ?_|refine zC Z (fun hb=>?_) fun hb=>?_|refine zG Z (fun hb=>?_) fun hb=>?_|refine zD Z (fun hb=>?_) fun hb=>?_);all_goals clear Z)
     refine yA (oj hn_g2 (oj d1 (oj f0 (oj f1 (oj f2 (oj f3 (oj f4 (oj k1 (oj k2 hn_g5))))))))) fun g6 hn_g6=>?_
     all_goals try(have Z:=(oj hn_g2 (oj d1 (oj f0 (oj f1 (oj f2 (oj f3 (oj f4 (oj k1 (oj k2 (oj hn_g5 hn_g6))))))))));(repeat' first|refine yA1 Z ?_|(refine yC2 Z (hd) ?_)|(refine yD2 Z (hd) ?_)|refine zW Z ?_|refine yP Z ?_|refine yN Z ?_|refine zC Z (fun hb=>?_) fun hb=>?_|refine zG Z (fun hb=>?_) fun hb=>?_|refine zD Z (fun hb=>?_) fun hb=>?_);all_goals clear Z)
     refine yT hC (oj hn_g2 (oj d1 (oj f0 (oj f1 (oj f2 (oj f3 (oj f4 (oj k1 (oj k2 (oj hn_g5 hn_g6)))))))))) ?_
     exact .tup ⟨.agg lerl_rd,.c (.int _ _),trivial⟩
    ·rw [if_neg (fun h=>hz h.2)] at hc0
     have hr:valR s=rd (valQ s):=by unfold valR;rw [if_pos hc0]
     have hq:valQ s=(natB (s.take e):Rat)/(natB (s.drop (e+1)):Rat):=by unfold valQ;rw [hix,if_pos om]
     have hd:=sdiv_fa _ _ wa wb (by rw [rd_q];simpa using hz)
     rw [rd_q,rd_q,←hq,←hr] at hd
     rw [hc0]
     refine fa_of_body Tryz.func146 rfl rfl (by simp [Tryz.ntmps146]) fun C hC=> ?_
     simp only [initS,Nat.reduceAdd]
     repeat' first|refine yA1 o0 ?_|refine zW o0 ?_|refine yP o0 ?_|refine yN o0 ?_|refine zC o0 (fun hb=>?_) fun hb=>?_|refine zG o0 (fun hb=>?_) fun hb=>?_|refine zD o0 (fun hb=>?_) fun hb=>?_
     refine xA fun g2 hn_g2=>?_
     all_goals try(have Z:=(oj hn_g2 (oj d1 (oj f0 (oj f1 (oj f2 (oj f3 (oj f4 (oj k1 k2))))))));(repeat' first|refine yA1 Z ?_|(refine yC2 Z (rdig_fa _) ?_)|(refine yD2 Z (rdig_fa _) ?_)|(refine yC2 Z (hw) ?_)|(refine yD2 Z (hw) ?_)|(refine yC2 Z (hdg) ?_)|(refine yD2 Z (hdg) ?_)|(refine yC2 Z (ha) ?_)|(refine yD2 Z (ha) ?_)|refine zW Z ?_|refine yP Z ?_|refine yN Z ?_|refine zC Z (fun hb=>?_) fun hb=>?_|refine zG Z (fun hb=>?_) fun hb=>?_|refine zD Z (fun hb=>?_) fun hb=>?_);all_goals clear Z)
     refine yA (oj hn_g2 (oj d1 (oj f0 (oj f1 (oj f2 (oj f3 (oj f4 (oj k1 k2)))))))) fun g5 hn_g5=>?_
     all_goals try(have Z:=(oj hn_g2 (oj d1 (oj f0 (oj f1 (oj f2 (oj f3 (oj f4 (oj k1 (oj k2 hn_g5)))))))));(repeat' first|refine yA1 Z ?_|(refine yC2 Z (hb) ?_)|(refine yD2 Z (hb) ?_)|refine zW Z ?_|refine yP Z ?_|refine yN Z ?_|refine zC Z (fun hb=>?_) fun hb=>?_|refine zG Z (fun hb=>?_) fun hb=>?_|refine zD Z (fun hb=>?_) fun hb=>?_);all_goals clear Z)
     refine yA (oj hn_g2 (oj d1 (oj f0 (oj f1 (oj f2 (oj f3 (oj f4 (oj k1 (oj k2 hn_g5))))))))) fun g6 hn_g6=>?_
     all_goals try(have Z:=(oj hn_g2 (oj d1 (oj f0 (oj f1 (oj f2 (oj f3 (oj f4 (oj k1 (oj k2 (oj hn_g5 hn_g6))))))))));(repeat' first|refine yA1 Z ?_|(refine yC2 Z (hd) ?_)|(refine yD2 Z (hd) ?_)|refine zW Z ?_|refine yP Z ?_|refine yN Z ?_|refine zC Z (fun hb=>?_) fun hb=>?_|refine zG Z (fun hb=>?_) fun hb=>?_|refine zD Z (fun hb=>?_) fun hb=>?_);all_goals clear Z)
     refine yT hC (oj hn_g2 (oj d1 (oj f0 (oj f1 (oj f2 (oj f3 (oj f4 (oj k1 (oj k2 (oj hn_g5 hn_g6)))))))))) ?_
     exact .tup ⟨.agg lerl_rd,.c (.int _ _),trivial⟩
end Go.Proofs.YteocnikcjjonbaaGreat
namespace Go.PN
open Go.AI
def tlX (L:List TX) (s:PS):List TX:=L.drop (L.length-s.l.length)
theorem tlX_map {L:List TX} {s:PS} (hs:s.l<:+L.map TX.t):(tlX L s).map TX.t=s.l:=by
 have:=List.suffix_iff_eq_drop.1 hs
 rw [List.length_map] at this
 unfold tlX
 rw [List.map_drop]
 exact this.symm
theorem tlX_len {L:List TX} {s:PS} (hs:s.l<:+L.map TX.t):(tlX L s).length=s.l.length:=by
 have:=congrArg List.length (tlX_map hs)
 rwa [List.length_map] at this
theorem tlX_tail {L:List TX} {s:PS} (hs:s.l<:+L.map TX.t) {t:TK} {l:List TK} (hl:s.l=t::l) (e:Int):tlX L ⟨l,e⟩=(tlX L s).drop 1:=by
 have h:=hs.length_le
 rw [List.length_map,hl,List.length_cons] at h
 unfold tlX
 rw [List.drop_drop,hl,List.length_cons]
 congr 1
 show L.length-l.length=_
 omega
abbrev rv (L:List TX) (s:PS):List CV:=[txs true (tlX L s),.int .i64 s.e]
theorem nextR_tl {L:List TX} {s:PS} (hs:s.l<:+L.map TX.t) (k:Nat) (w:BS):nextR s k w=(decide (s.e=0)&&(decide (0<(tlX L s).length)&&(((tlX L s).getD 0 tx0).t.kind==k&&(w==[]||((tlX L s).getD 0 tx0).t.text==w)))):=by
 unfold nextR
 have hm:=tlX_map hs
 cases hT:tlX L s with
 |nil=>rw [hT] at hm;rw [←hm];simp
 |cons x M=>rw [hT] at hm;rw [←hm];simp
theorem txs_0 (T:List TX):txsF T 0=.int .i64 (T.getD 0 tx0).t.kind:=txsF_0 T 0
theorem txs_1 (T:List TX):txsF T 1=.str (sB (T.getD 0 tx0).t.text):=txsF_1 T 0
theorem txs_tail (T:List TX) (j:Nat) (hj:j<(T.length-1)*5):txsF T (5+j)=txsF (T.drop 1) j:=by
 obtain⟨i,k,hk,rfl⟩:∃i k,k<5∧j=i*5+k:=⟨j/5,j%5,Nat.mod_lt _ om,by omega⟩
 unfold txsF
 rw [show 5+(i*5+k)=(i+1)*5+k from by omega,lf_at hk,lf_at hk]
 congr 2
 rw [List.getD_eq_getElem?_getD,List.getD_eq_getElem?_getD,List.getElem?_drop,Nat.add_comm]
theorem failS_e {c:Int} {s:PS} (h:s.e=0):failS c s=⟨s.l,c⟩:=by unfold failS;rw [if_pos h]
theorem tl_cons {L:List TX} {s:PS} (hs:s.l<:+L.map TX.t) (h:¬(tlX L s).length=0):∃l,s.l=((tlX L s).getD 0 tx0).t::l:=by
 have hm:=tlX_map hs
 cases hT:tlX L s with
 |nil=>rw [hT] at h;exact absurd rfl h
 |cons x M=>rw [hT] at hm;rw [←hm];exact⟨M.map TX.t,by simp⟩
end Go.PN
namespace Go.Proofs.YteocnikcjjonbaaGreat
open Go.AI Go.PN
theorem ler_tx1 {h:Heap} {l:List TX} (j:Nat):LeR h (txsF l j) (txsF l j):=lf_ler (by decide) (fun _ k hk=>match k,hk with|0,_=>.int _ _|1,_=>.str _|2,_=>.int _ _|3,_=>.int _ _|4,_=>.int _ _) j
theorem ler_txs {h:Heap} {l:List TX}:LeR h (txs true l) (txs true l):=.row fun j _=>ler_tx1 j
theorem ler_txs_tail {h:Heap} (T:List TX):LeR h (.row true 5 (T.length-1) fun j=>txsF T (5+j)) (txs true (T.drop 1)):=by
 show LeR h _ (.row true 5 (T.drop 1).length _)
 rw [List.length_drop]
 refine .row fun j hj=> ?_
 rw [txs_tail _ _ hj]
 exact ler_tx1 j
attribute [local irreducible] aw Fa Fh DrK
theorem rfail_fa (L:List TX) (s:PS) (c:Int):Fa Tryz.prog 69 [.agg (rv L s),.c (.int .i64 c)] (.agg (rv L (failS c s))):=by
 refine fa_of_body Tryz.func69 rfl rfl (by simp [Tryz.ntmps69]) fun C hC=> ?_
 simp only [initS,Nat.reduceAdd]
 repeat' first|refine yA1 o0 ?_|refine zW o0 ?_|refine yP o0 ?_|refine yN o0 ?_|refine zC o0 (fun hb=>?_) fun hb=>?_|refine zG o0 (fun hb=>?_) fun hb=>?_|refine zD o0 (fun hb=>?_) fun hb=>?_
 refine xB fun g2 hn_g2=>?_
 repeat' first|refine yA1 hn_g2 ?_|refine zW hn_g2 ?_|refine yP hn_g2 ?_|refine yN hn_g2 ?_|refine zC hn_g2 (fun hb=>?_) fun hb=>?_|refine zG hn_g2 (fun hb=>?_) fun hb=>?_|refine zD hn_g2 (fun hb=>?_) fun hb=>?_
 refine yA hn_g2 fun g4 hn_g4=>?_
 all_goals try(have Z:=(oj hn_g2 hn_g4);(repeat' first|refine yA1 Z ?_|refine zW Z ?_|refine yP Z ?_|refine yN Z ?_|refine zC Z (fun hb=>?_) fun hb=>?_|refine zG Z (fun hb=>?_) fun hb=>?_|refine zD Z (fun hb=>?_) fun hb=>?_);all_goals clear Z)
 ·refine yT hC (oj hn_g2 hn_g4) ?_
  unfold failS
  rw [if_pos hb]
  exact .one (.agg ⟨ler_txs,.int _ _,trivial⟩)
 ·refine yT hC (oj hn_g2 hn_g4) ?_
  unfold failS
  rw [if_neg hb]
  exact .one (.agg ⟨ler_txs,.int _ _,trivial⟩)
theorem rnext_fa (L:List TX) (s:PS) (k:Nat) (w:BS) (hs:s.l<:+L.map TX.t) (hL:L.length≤1099511627776):Fa Tryz.prog 34 [.agg (rv L s),.c (.int .i64 k),.c (.str (sB w))] (.c (.bool (nextR s k w))):=by
 rw [nextR_tl hs]
 have hTL:(tlX L s).length≤1099511627776:=Nat.le_trans (by unfold tlX;rw [List.length_drop];omega) hL
 have q0:=txs_0 (tlX L s)
 have q1:=txs_1 (tlX L s)
 refine fa_of_body Tryz.func34 rfl rfl (by simp [Tryz.ntmps34]) fun C hC=> ?_
 simp only [initS,Nat.reduceAdd]
 all_goals try(have Z:=(oj q0 q1);(repeat' first|refine yA1 Z ?_|refine zW Z ?_|refine yP Z ?_|refine yN Z ?_|refine zC Z (fun hb=>?_) fun hb=>?_|refine zG Z (fun hb=>?_) fun hb=>?_|refine zD Z (fun hb=>?_) fun hb=>?_);all_goals clear Z)
 refine yB (oj q0 q1) fun g3 hn_g3=>?_
 all_goals try(have Z:=(oj q0 (oj q1 hn_g3));(repeat' first|refine yA1 Z ?_|refine zW Z ?_|refine yP Z ?_|refine yN Z ?_|refine zC Z (fun hb=>?_) fun hb=>?_|refine zG Z (fun hb=>?_) fun hb=>?_|refine zD Z (fun hb=>?_) fun hb=>?_);all_goals clear Z)
 all_goals
  refine yT hC (oj q0 (oj q1 hn_g3)) ?_
  refine .one (.c (ler_bool ?_))
  simp_all
theorem rtake_fa (L:List TX) (s:PS) (k:Nat) (w:BS) (hs:s.l<:+L.map TX.t) (hL:L.length≤1099511627776):Fa Tryz.prog 33 [.agg (rv L s),.c (.int .i64 k),.c (.str (sB w))] (.tup [.agg (rv L (takeR s k w).2),.c (.str (sB (takeR s k w).1))]):=by
 have hTL:(tlX L s).length≤1099511627776:=Nat.le_trans (by unfold tlX;rw [List.length_drop];omega) hL
 have q0:=txs_0 (tlX L s)
 have q1:=txs_1 (tlX L s)
 have f1:=rfail_fa L s 20
 have f2:=rfail_fa L s 2
 have f3:=rnext_fa L s k w hs hL
 have hn:=tlX_len hs
 unfold takeR
 generalize hm:nextR s k w=m at*
 refine fa_of_body Tryz.func33 rfl rfl (by simp [Tryz.ntmps33]) fun C hC=> ?_
 simp only [initS,Nat.reduceAdd]
 all_goals try(have Z:=(oj q0 q1);(repeat' first|refine yA1 Z ?_|refine zW Z ?_|refine yP Z ?_|refine yN Z ?_|refine zC Z (fun hb=>?_) fun hb=>?_|refine zG Z (fun hb=>?_) fun hb=>?_|refine zD Z (fun hb=>?_) fun hb=>?_);all_goals clear Z)
 refine yB (oj q0 q1) fun g3 hn_g3=>?_
 all_goals try(have Z:=(oj q0 (oj q1 hn_g3));(repeat' first|refine yA1 Z ?_|refine zW Z ?_|refine yP Z ?_|refine yN Z ?_|refine zC Z (fun hb=>?_) fun hb=>?_|refine zG Z (fun hb=>?_) fun hb=>?_|refine zD Z (fun hb=>?_) fun hb=>?_);all_goals clear Z)
 refine yA (oj q0 (oj q1 hn_g3)) fun g6 hn_g6=>?_
 all_goals try(have Z:=(oj q0 (oj q1 (oj hn_g3 hn_g6)));(repeat' first|refine yA1 Z ?_|(refine yC2 Z (f1) ?_)|(refine yD2 Z (f1) ?_)|(refine yC2 Z (f2) ?_)|(refine yD2 Z (f2) ?_)|(refine yC2 Z (f3) ?_)|(refine yD2 Z (f3) ?_)|refine zW Z ?_|refine yP Z ?_|refine yN Z ?_|refine zC Z (fun hb=>?_) fun hb=>?_|refine zG Z (fun hb=>?_) fun hb=>?_|refine zD Z (fun hb=>?_) fun hb=>?_);all_goals clear Z)
 ·have ht:takeS m s=([],s):=by unfold takeS;rw [if_neg hb]
  rw [ht]
  refine yT hC (oj q0 (oj q1 (oj hn_g3 hn_g6))) ?_
  exact .tup ⟨.agg ⟨ler_txs,.int _ _,trivial⟩,.c (.str _),trivial⟩
 ·rename_i h0
  have hl:s.l=[]:=List.length_eq_zero_iff.1 om
  have ht:takeS m s=([],failS 20 s):=by rw [take_nil h0 hl,failS_e h0,hl]
  rw [ht]
  refine yT hC (oj q0 (oj q1 (oj hn_g3 hn_g6))) ?_
  exact .tup ⟨.agg ⟨ler_txs,.int _ _,trivial⟩,.c (.str _),trivial⟩
 ·rename_i h0 h1
  obtain⟨l,hl⟩:=tl_cons hs h1
  have hm0:m=false:=by simpa using hb
  have ht:takeS m s=([],failS 2 s):=by rw [take_cons h0 hl,hm0,failS_e h0,hl];rfl
  rw [ht]
  refine yT hC (oj q0 (oj q1 (oj hn_g3 hn_g6))) ?_
  exact .tup ⟨.agg ⟨ler_txs,.int _ _,trivial⟩,.c (.str _),trivial⟩
 ·rename_i h0 h1
  obtain⟨l,hl⟩:=tl_cons hs h1
  have hm1:m=true:=by simpa using hb
  have ht:takeS m s=(((tlX L s).getD 0 tx0).t.text,⟨l,0⟩):=by rw [take_cons h0 hl,hm1];rfl
  have eT:=tlX_tail hs hl 0
  rw [ht]
  refine yT hC (oj q0 (oj q1 (oj hn_g3 hn_g6))) ?_
  rw [h0]
  refine .tup ⟨.agg ⟨?_,.int _ _,trivial⟩,.c (.str _),trivial⟩
  rw [eT]
  exact ler_txs_tail _
theorem rend_fa (L:List TX) (s:PS) (hs:s.l<:+L.map TX.t) (hL:L.length≤1099511627776):Fa Tryz.prog 37 [.agg (rv L s)] (.c (.int .i64 (endS s).e)):=by
 have hTL:(tlX L s).length≤1099511627776:=Nat.le_trans (by unfold tlX;rw [List.length_drop];omega) hL
 have hn:=tlX_len hs
 refine fa_of_body Tryz.func37 rfl rfl (by simp [Tryz.ntmps37]) fun C hC=> ?_
 simp only [initS,Nat.reduceAdd]
 repeat' first|refine yA1 o0 ?_|refine zW o0 ?_|refine yP o0 ?_|refine yN o0 ?_|refine zC o0 (fun hb=>?_) fun hb=>?_|refine zG o0 (fun hb=>?_) fun hb=>?_|refine zD o0 (fun hb=>?_) fun hb=>?_
 refine xB fun g1 hn_g1=>?_
 repeat' first|refine yA1 hn_g1 ?_|refine zW hn_g1 ?_|refine yP hn_g1 ?_|refine yN hn_g1 ?_|refine zC hn_g1 (fun hb=>?_) fun hb=>?_|refine zG hn_g1 (fun hb=>?_) fun hb=>?_|refine zD hn_g1 (fun hb=>?_) fun hb=>?_
 all_goals
  refine yT hC hn_g1 ?_
  refine .one (.c (ler_int ?_))
  unfold endS
 ·rw [if_pos ⟨by assumption,fun z=>by have h2:=congrArg List.length z;rw [List.length_nil] at h2;omega⟩]
 ·rw [if_neg fun z=> ?_]
  have:=List.length_pos_iff.2 z.2
  omega
 ·rw [if_neg fun z=>by simp_all]
end Go.Proofs.YteocnikcjjonbaaGreat
namespace Go.PN
open Go.AI
theorem take_le {L:List TX} {s:PS} {m:Bool} {B:Nat} (hs:s.l<:+L.map TX.t) (hw:∀t∈L,t.t.text.length≤B):(takeS m s).1.length≤B:=by
 unfold takeS
 split
 ·split
  ·exact Nat.zero_le _
  ·rename_i t l hl
   split
   ·have hm:t∈L.map TX.t:=hs.subset (by rw [hl];exact List.mem_cons_self)
    obtain⟨x,hx,rfl⟩:=List.mem_map.1 hm
    exact hw x hx
   ·exact Nat.zero_le _
 ·exact Nat.zero_le _
theorem takeR_suf {L:List TX} {s:PS} (hs:s.l<:+L.map TX.t) (k:Nat) (w:BS):(takeR s k w).2.l<:+L.map TX.t:=((rdr_tk k w).suf s).trans hs
end Go.PN
namespace Go.Proofs.YteocnikcjjonbaaGreat
open Go.AI Go.PN
attribute [local irreducible] aw Fa Fh DrK
theorem rnumber_fa (L:List TX) (s:PS) (hs:s.l<:+L.map TX.t) (hL:L.length≤1099511627776) (hw:∀t∈L,t.t.text.length≤1099511627776):Fa Tryz.prog 110 [.agg (rv L s)] (.tup [.agg (rv L (numR s).2),.agg (rdc (numR s).1)]):=by
 have f1:=rtake_fa L s 1 [] hs hL
 have f2:=rvalue_fa (takeR s 1 []).1 (take_le hs hw)
 have f3:=rfail_fa L (takeR s 1 []).2 (valC (takeR s 1 []).1)
 unfold numR
 dsimp only
 generalize hr:takeR s 1 []=r at*
 obtain⟨t,s1⟩:=r
 dsimp only at*
 refine fa_of_body Tryz.func110 rfl rfl (by simp [Tryz.ntmps110]) fun C hC=> ?_
 simp only [initS,Nat.reduceAdd]
 repeat' first|refine yA1 o0 ?_|refine zW o0 ?_|refine yP o0 ?_|refine yN o0 ?_|refine zC o0 (fun hb=>?_) fun hb=>?_|refine zG o0 (fun hb=>?_) fun hb=>?_|refine zD o0 (fun hb=>?_) fun hb=>?_
 refine xB fun g1 hn_g1=>?_
 repeat' first|refine yA1 hn_g1 ?_|refine zW hn_g1 ?_|refine yP hn_g1 ?_|refine yN hn_g1 ?_|refine zC hn_g1 (fun hb=>?_) fun hb=>?_|refine zG hn_g1 (fun hb=>?_) fun hb=>?_|refine zD hn_g1 (fun hb=>?_) fun hb=>?_
 refine yA hn_g1 fun g2 hn_g2=>?_
 all_goals try(have Z:=(oj hn_g1 hn_g2);(repeat' first|refine yA1 Z ?_|refine zW Z ?_|refine yP Z ?_|refine yN Z ?_|refine zC Z (fun hb=>?_) fun hb=>?_|refine zG Z (fun hb=>?_) fun hb=>?_|refine zD Z (fun hb=>?_) fun hb=>?_);all_goals clear Z)
 refine yA (oj hn_g1 hn_g2) fun g3 hn_g3=>?_
 all_goals try(have Z:=(oj hn_g1 (oj hn_g2 hn_g3));(repeat' first|refine yA1 Z ?_|(refine yC2 Z (f1) ?_)|(refine yD2 Z (f1) ?_)|(refine yC2 Z (f2) ?_)|(refine yD2 Z (f2) ?_)|refine zW Z ?_|refine yP Z ?_|refine yN Z ?_|refine zC Z (fun hb=>?_) fun hb=>?_|refine zG Z (fun hb=>?_) fun hb=>?_|refine zD Z (fun hb=>?_) fun hb=>?_);all_goals clear Z)
 ·rw [if_neg hb]
  refine yT hC (oj hn_g1 (oj hn_g2 hn_g3)) ?_
  exact .tup ⟨.agg ⟨ler_txs,.int _ _,trivial⟩,.agg ⟨.bool _,.nils,.nils,trivial⟩,trivial⟩
 have h0:s1.e=0:=by simpa using hb
 refine yA (oj hn_g1 (oj hn_g2 hn_g3)) fun g5 hn_g5=>?_
 all_goals try(have Z:=(oj hn_g1 (oj hn_g2 (oj hn_g3 hn_g5)));(repeat' first|refine yA1 Z ?_|(refine yC2 Z (f3) ?_)|(refine yD2 Z (f3) ?_)|refine zW Z ?_|refine yP Z ?_|refine yN Z ?_|refine zC Z (fun hb=>?_) fun hb=>?_|refine zG Z (fun hb=>?_) fun hb=>?_|refine zD Z (fun hb=>?_) fun hb=>?_);all_goals clear Z)
 ·have hv:valC t≠0:=by simpa using hb
  rw [if_pos h0,if_neg hv]
  have hr0:valR t=rd0:=by unfold valR;rw [if_neg hv]
  rw [hr0]
  refine yT hC (oj hn_g1 (oj hn_g2 (oj hn_g3 hn_g5))) ?_
  rw [failS_e h0]
  exact .tup ⟨.agg ⟨ler_txs,.int _ _,trivial⟩,.agg ⟨.bool _,.nils,.nils,trivial⟩,trivial⟩
 ·have hv:valC t=0:=by simpa using hb
  rw [if_pos h0,if_pos hv]
  refine aw_cw ([(g5,.cells 59 3 (ofL (rdc (valR t)))),(g1,.cells 87 2 (ofL (rv L s1)))]) [(0,0),(1,0),(2,1),(3,2)] ty_mixed (by kernel_rfl) eI ?_
  have J1:=oj hn_g1 (oj hn_g2 (oj hn_g3 hn_g5))
  refine yG J1 ?_
  refine cw_store rfl rfl rfl rfl rfl (zE J1) (zE J1) (zE J1) (zE J1) (fun _ e=>by cases e) rfl rfl (Nat.le_refl 2) (zE J1) eI ?_ (hm:=.inr ⟨rfl,rfl⟩)
  refine ySG J1 ?_
  refine cw_store (FP':=[]) rfl rfl rfl rfl rfl (zE J1) (zE J1) (zE J1) (zE J1) (fun _ e=>by cases e) rfl rfl (Nat.le_refl 3) rfl has0_nil ?_
  refine ySGT hC J1 ?_
  exact .tup ⟨.agg ⟨ler_txs,.int _ _,trivial⟩,.agg lerl_rd,trivial⟩
theorem rwhole_fa (L:List TX) (s:PS) (hs:s.l<:+L.map TX.t) (hL:L.length≤1099511627776) (hw:∀t∈L,t.t.text.length≤1099511627776):Fa Tryz.prog 109 [.agg (rv L s)] (.tup [.agg (rv L (wholeR s).2),.c (.int .i64 (wholeR s).1)]):=by
 have f1:=rnumber_fa L s hs hL hw
 have f2:=sint_fa (numR s).1 (wf_mono (by rw [numR_eq];exact numS_wf s) om)
 have f3:=rfail_fa L (numR s).2 3
 unfold wholeR
 dsimp only
 generalize hr:numR s=r at*
 obtain⟨q,s1⟩:=r
 dsimp only at*
 generalize hi:intQ q.q=o at*
 cases o with
 |none=>
  dsimp only [Option.getD_none,Option.isSome_none] at*
  refine fa_of_body Tryz.func109 rfl rfl (by simp [Tryz.ntmps109]) fun C hC=> ?_
  simp only [initS,Nat.reduceAdd]
  repeat' first|refine yA1 o0 ?_|refine zW o0 ?_|refine yP o0 ?_|refine yN o0 ?_|refine zC o0 (fun hb=>?_) fun hb=>?_|refine zG o0 (fun hb=>?_) fun hb=>?_|refine zD o0 (fun hb=>?_) fun hb=>?_
  refine xB fun g1 hn_g1=>?_
  repeat' first|refine yA1 hn_g1 ?_|refine zW hn_g1 ?_|refine yP hn_g1 ?_|refine yN hn_g1 ?_|refine zC hn_g1 (fun hb=>?_) fun hb=>?_|refine zG hn_g1 (fun hb=>?_) fun hb=>?_|refine zD hn_g1 (fun hb=>?_) fun hb=>?_
  refine yA hn_g1 fun g2 hn_g2=>?_
  all_goals try(have Z:=(oj hn_g1 hn_g2);(repeat' first|refine yA1 Z ?_|(refine yC2 Z (f1) ?_)|(refine yD2 Z (f1) ?_)|refine zW Z ?_|refine yP Z ?_|refine yN Z ?_|refine zC Z (fun hb=>?_) fun hb=>?_|refine zG Z (fun hb=>?_) fun hb=>?_|refine zD Z (fun hb=>?_) fun hb=>?_);all_goals clear Z)
  refine yA (oj hn_g1 hn_g2) fun g4 hn_g4=>?_
  all_goals try(have Z:=(oj hn_g1 (oj hn_g2 hn_g4));(repeat' first|refine yA1 Z ?_|(refine yC2 Z (f2) ?_)|(refine yD2 Z (f2) ?_)|(refine yC2 Z (f3) ?_)|(refine yD2 Z (f3) ?_)|refine zW Z ?_|refine yP Z ?_|refine yN Z ?_|refine zC Z (fun hb=>?_) fun hb=>?_|refine zG Z (fun hb=>?_) fun hb=>?_|refine zD Z (fun hb=>?_) fun hb=>?_);all_goals clear Z)
  ·rw [if_pos (by assumption)]
   refine yT hC (oj hn_g1 (oj hn_g2 hn_g4)) ?_
   rw [failS_e (by assumption)]
   exact .tup ⟨.agg ⟨ler_txs,.int _ _,trivial⟩,.c (.int _ _),trivial⟩
  ·rw [if_neg hb]
   refine yT hC (oj hn_g1 (oj hn_g2 hn_g4)) ?_
   exact .tup ⟨.agg ⟨ler_txs,.int _ _,trivial⟩,.c (.int _ _),trivial⟩
 |some n=>
  dsimp only [Option.getD_some,Option.isSome_some] at*
  refine fa_of_body Tryz.func109 rfl rfl (by simp [Tryz.ntmps109]) fun C hC=> ?_
  simp only [initS,Nat.reduceAdd]
  repeat' first|refine yA1 o0 ?_|refine zW o0 ?_|refine yP o0 ?_|refine yN o0 ?_|refine zC o0 (fun hb=>?_) fun hb=>?_|refine zG o0 (fun hb=>?_) fun hb=>?_|refine zD o0 (fun hb=>?_) fun hb=>?_
  refine xB fun g1 hn_g1=>?_
  repeat' first|refine yA1 hn_g1 ?_|refine zW hn_g1 ?_|refine yP hn_g1 ?_|refine yN hn_g1 ?_|refine zC hn_g1 (fun hb=>?_) fun hb=>?_|refine zG hn_g1 (fun hb=>?_) fun hb=>?_|refine zD hn_g1 (fun hb=>?_) fun hb=>?_
  refine yA hn_g1 fun g2 hn_g2=>?_
  all_goals try(have Z:=(oj hn_g1 hn_g2);(repeat' first|refine yA1 Z ?_|(refine yC2 Z (f1) ?_)|(refine yD2 Z (f1) ?_)|refine zW Z ?_|refine yP Z ?_|refine yN Z ?_|refine zC Z (fun hb=>?_) fun hb=>?_|refine zG Z (fun hb=>?_) fun hb=>?_|refine zD Z (fun hb=>?_) fun hb=>?_);all_goals clear Z)
  refine yA (oj hn_g1 hn_g2) fun g4 hn_g4=>?_
  all_goals try(have Z:=(oj hn_g1 (oj hn_g2 hn_g4));(repeat' first|refine yA1 Z ?_|(refine yC2 Z (f2) ?_)|(refine yD2 Z (f2) ?_)|(refine yC2 Z (f3) ?_)|(refine yD2 Z (f3) ?_)|refine zW Z ?_|refine yP Z ?_|refine yN Z ?_|refine zC Z (fun hb=>?_) fun hb=>?_|refine zG Z (fun hb=>?_) fun hb=>?_|refine zD Z (fun hb=>?_) fun hb=>?_);all_goals clear Z)
  all_goals first
   |(rw [if_pos (by constructor<;>first|assumption|omega)]
     refine yT hC (oj hn_g1 (oj hn_g2 hn_g4)) ?_
     rw [failS_e (by assumption)]
     exact .tup ⟨.agg ⟨ler_txs,.int _ _,trivial⟩,.c (.int _ _),trivial⟩)
   |(rw [if_neg om]
     refine yT hC (oj hn_g1 (oj hn_g2 hn_g4)) ?_
     exact .tup ⟨.agg ⟨ler_txs,.int _ _,trivial⟩,.c (.int _ _),trivial⟩)
theorem rinput_fa (L:List TX) (s:PS) (hs:s.l<:+L.map TX.t) (hL:L.length≤1099511627776) (hw:∀t∈L,t.t.text.length≤1099511627776):Fa Tryz.prog 36 [.agg (rv L s)] (.tup [.agg (rv L (inputR s).2),.c (.str (sB (inputR s).1))]):=by
 have f1:=rnext_fa L s 2 kAt hs hL
 have f2:=rtake_fa L s 0 [] hs hL
 have f3:=rtake_fa L s 2 kAt hs hL
 have f4:=rtake_fa L (takeR s 2 kAt).2 0 [] (takeR_suf hs 2 kAt) hL
 have hlen:(takeR (takeR s 2 kAt).2 0 []).1.length≤1099511627776:=take_le (takeR_suf hs 2 kAt) hw
 unfold inputR wordR
 dsimp only
 refine fa_of_body Tryz.func36 rfl rfl (by simp [Tryz.ntmps36]) fun C hC=> ?_
 simp only [initS,Nat.reduceAdd]
 repeat' first|refine yA1 o0 ?_|refine zW o0 ?_|refine yP o0 ?_|refine yN o0 ?_|refine zC o0 (fun hb=>?_) fun hb=>?_|refine zG o0 (fun hb=>?_) fun hb=>?_|refine zD o0 (fun hb=>?_) fun hb=>?_
 refine xB fun g1 hn_g1=>?_
 repeat' first|refine yA1 hn_g1 ?_|refine zW hn_g1 ?_|refine yP hn_g1 ?_|refine yN hn_g1 ?_|refine zC hn_g1 (fun hb=>?_) fun hb=>?_|refine zG hn_g1 (fun hb=>?_) fun hb=>?_|refine zD hn_g1 (fun hb=>?_) fun hb=>?_
 refine yA hn_g1 fun g2 hn_g2=>?_
 all_goals try(have Z:=(oj hn_g1 hn_g2);(repeat' first|refine yA1 Z ?_|(refine yC2 Z (f1) ?_)|(refine yD2 Z (f1) ?_)|(refine yC2 Z (f2) ?_)|(refine yD2 Z (f2) ?_)|(refine yC2 Z (f3) ?_)|(refine yD2 Z (f3) ?_)|(refine yC2 Z (f4) ?_)|(refine yD2 Z (f4) ?_)|refine zW Z ?_|refine yP Z ?_|refine yN Z ?_|refine zC Z (fun hb=>?_) fun hb=>?_|refine zG Z (fun hb=>?_) fun hb=>?_|refine zD Z (fun hb=>?_) fun hb=>?_);all_goals clear Z)
 ·rw [if_neg (by simpa using hb)]
  refine yT hC (oj hn_g1 hn_g2) ?_
  exact .tup ⟨.agg ⟨ler_txs,.int _ _,trivial⟩,.c (.str _),trivial⟩
 ·rw [if_pos (by simpa using hb)]
  refine yT hC (oj hn_g1 hn_g2) ?_
  exact .tup ⟨.agg ⟨ler_txs,.int _ _,trivial⟩,.c (.str _),trivial⟩
end Go.Proofs.YteocnikcjjonbaaGreat
namespace Go.Proofs.YteocnikcjjonbaaGreat
open Go.AI Go.PN
attribute [local irreducible] aw Fa Fh DrK
theorem rinputs_fa (L:List TX) (s:PS) (hs:s.l<:+L.map TX.t) (hL:L.length≤1048576) (hw:∀t∈L,t.t.text.length≤1099511627776):Fa Tryz.prog 111 [.agg (rv L s)] (.tup [.agg (rv L (inputsR s).2),.c (strs true (inputsR s).1)]):=by
 unfold inputsR
 dsimp only
 generalize hF:lpS (fun s=> !nextR s 2 kSemi) inBR [] s=F at*
 refine fa_of_body Tryz.func111 rfl rfl (by simp [Tryz.ntmps111]) fun C hC=> ?_
 simp only [initS,Nat.reduceAdd]
 repeat' first|refine yA1 o0 ?_|refine zW o0 ?_|refine yP o0 ?_|refine yN o0 ?_|refine zC o0 (fun hb=>?_) fun hb=>?_|refine zG o0 (fun hb=>?_) fun hb=>?_|refine zD o0 (fun hb=>?_) fun hb=>?_
 refine xB fun g1 hn_g1=>?_
 repeat' first|refine yA1 hn_g1 ?_|refine zW hn_g1 ?_|refine yP hn_g1 ?_|refine yN hn_g1 ?_|refine zC hn_g1 (fun hb=>?_) fun hb=>?_|refine zG hn_g1 (fun hb=>?_) fun hb=>?_|refine zD hn_g1 (fun hb=>?_) fun hb=>?_
 refine yA hn_g1 fun g2 hn_g2=>?_
 all_goals try(have Z:=(oj hn_g1 hn_g2);(repeat' first|refine yA1 Z ?_|refine zW Z ?_|refine yP Z ?_|refine yN Z ?_|refine zC Z (fun hb=>?_) fun hb=>?_|refine zG Z (fun hb=>?_) fun hb=>?_|refine zD Z (fun hb=>?_) fun hb=>?_);all_goals clear Z)
 refine aw_lp (fun x:PS×List BS×Option Nat=>[(1,.c (.optr g1 0)),(2,.c (.optr g2 0)),(4,.c (gs x.2.2 1 x.2.1.length))]) (fun x=>[(g2,.cells 87 2 (ofL [.nils,.int .i64 0])),(g1,.cells 87 2 (ofL (rv L x.1)))]++gh x.2.2 9 x.2.1.length (strsF x.2.1))
  (fun x=>x.1.l<:+L.map TX.t∧(x.2.2=none→x.2.1.length=0)∧x.2.1.length+mS x.1≤1048577∧lpS (fun s=> !nextR s 2 kSemi) inBR x.2.1 x.1=F) (fun x=>mS x.1) (s,[],none) (zB (oj hn_g1 hn_g2)) zZ ⟨hs,fun _=>rfl,?_,hF⟩ ?_
 ·have:=hs.length_le
  rw [List.length_map] at this
  dsimp only
  unfold mS
  split<;>simp<;>omega
 rintro ⟨sx,xs,og⟩ ⟨hsx,hog,hm,hlp⟩
 dsimp only at hsx hog hm hlp⊢
 have f2:=rnext_fa L sx 2 kSemi hsx om
 have f4:=rinput_fa L sx hsx om hw
 all_goals try(have Z:=(oj hn_g1 hn_g2);(repeat' first|refine yA1 Z ?_|(refine yC2 Z (f2) ?_)|(refine yD2 Z (f2) ?_)|refine zW Z ?_|refine yP Z ?_|refine yN Z ?_|refine zC Z (fun hb=>?_) fun hb=>?_|refine zG Z (fun hb=>?_) fun hb=>?_|refine zD Z (fun hb=>?_) fun hb=>?_);all_goals clear Z)
 ·rename_i h0
  have hc:(!nextR sx 2 kSemi)=true:=hb
  have hst:=lpS_step (c:=fun s=> !nextR s 2 kSemi) (b:=inBR) (a:=xs) (fun a s h _=>con_inBR' a s h) h0 hc
  have hlt:=con_inBR' xs sx h0
  rw [hst] at hlp
  have e1:(inBR xs sx).1=xs++[(inputR sx).1]:=rfl
  have e2:(inBR xs sx).2=(inputR sx).2:=rfl
  have hsy:(inputR sx).2.l<:+L.map TX.t:=(rdr_inputR.suf sx).trans hsx
  rw [e2] at hlt
  rw [e1,e2] at hlp
  generalize inputR sx=y at*
  obtain⟨t,sy⟩:=y
  dsimp only at*
  have hln:(xs++[t]).length=xs.length+1:=by rw [List.length_append];rfl
  all_goals try(have Z:=(oj hn_g1 hn_g2);(repeat' first|refine yA1 Z ?_|(refine yC2 Z (f4) ?_)|(refine yD2 Z (f4) ?_)|refine zW Z ?_|refine yP Z ?_|refine yN Z ?_|refine zC Z (fun hb=>?_) fun hb=>?_|refine zG Z (fun hb=>?_) fun hb=>?_|refine zD Z (fun hb=>?_) fun hb=>?_);all_goals clear Z)
  refine aw_push (pre:=[(g2,.cells 87 2 (ofL [.nils,.int .i64 0])),(g1,.cells 87 2 (ofL (rv L sy)))]) rfl rfl rfl rfl rfl rfl rfl (zE (oj hn_g1 hn_g2)) (zE (oj hn_g1 hn_g2)) (by rfl) om om (zE (oj hn_g1 hn_g2)) om (by exact hog) (zE (oj hn_g1 hn_g2)) (by rfl) (by rfl) (by first|rfl|simp only [Nat.mul_one,List.nil_append,List.cons_append]<;>rfl) (by unfold maxLen;omega) om (by exact strs_push rfl t) fun gb hn_gb=> ?_
  replace hn_gb:=Heap.ne_of hn_gb
  first|dsimp only [Heap.ne,gh] at hn_gb|dsimp only [Heap.ne] at hn_gb|skip
  have J1:=oj hn_g1 (oj hn_g2 hn_gb)
  refine yS J1 ?_
  all_goals try(have Z:=J1;(repeat' first|refine yA1 Z ?_|refine zW Z ?_|refine yP Z ?_|refine yN Z ?_|refine zC Z (fun hb=>?_) fun hb=>?_|refine zG Z (fun hb=>?_) fun hb=>?_|refine zD Z (fun hb=>?_) fun hb=>?_);all_goals clear Z)
  refine aw_stop ⟨(sy,xs++[t],some gb),hlt,?_⟩
  dsimp only
  simp only [hln]
  and_intros
  all_goals first|rfl|exact List.Sublist.refl _|exact .cons _ (.refl _)|exact True.intro|exact hsy|exact some_ne|exact hlp|omega
 all_goals
  have hc:¬(sx.e=0∧(!nextR sx 2 kSemi)=true):=by
   first
    |exact fun z=>by rw [hb] at z;exact absurd z.2 (by decide)
    |exact fun z=>hb z.1
  rw [lpS_end hc] at hlp
  subst hlp
  dsimp only at*
  have f6:=rtake_fa L sx 2 kSemi hsx om
  cases og with
  |none=>
   have hx:xs=[]:=List.length_eq_zero_iff.1 (hog rfl)
   subst hx
   dsimp only [gs,gh]
   all_goals try(have Z:=(oj hn_g1 hn_g2);(repeat' first|refine yA1 Z ?_|(refine yC2 Z (f6) ?_)|(refine yD2 Z (f6) ?_)|refine zW Z ?_|refine yP Z ?_|refine yN Z ?_|refine zC Z (fun hb=>?_) fun hb=>?_|refine zG Z (fun hb=>?_) fun hb=>?_|refine zD Z (fun hb=>?_) fun hb=>?_);all_goals clear Z)
   refine yT hC (oj hn_g1 hn_g2) ?_
   exact .tup ⟨.agg ⟨ler_txs,.int _ _,trivial⟩,.c .nils,trivial⟩
  |some q=>
   dsimp only [gs,gh]
   try simp only [List.cons_append,List.nil_append]
   refine aw_nd fun hnd=> ?_
   simp only [Heap.keys,List.map_cons,List.map_nil] at hnd
   replace hnd:=ndP_of hnd
   dsimp only [ndP,neA] at hnd
   refine aw_frzT (t:=4) (strsF xs) (zE (oj hn_g1 (oj hn_g2 hnd))) (zE (oj hn_g1 (oj hn_g2 hnd))) om (hC q) (fun j hj=>by rw [Nat.zero_add]) rfl (zE (oj hn_g1 (oj hn_g2 hnd))) ?_
   have J2:=oj hn_g1 (oj hn_g2 hnd)
   refine yS J2 ?_
   all_goals try(have Z:=J2;(repeat' first|refine yA1 Z ?_|(refine yC2 Z (f6) ?_)|(refine yD2 Z (f6) ?_)|refine zW Z ?_|refine yP Z ?_|refine yN Z ?_|refine zC Z (fun hb=>?_) fun hb=>?_|refine zG Z (fun hb=>?_) fun hb=>?_|refine zD Z (fun hb=>?_) fun hb=>?_);all_goals clear Z)
   refine yT hC J2 ?_
   exact .tup ⟨.agg ⟨ler_txs,.int _ _,trivial⟩,.c ler_strs,trivial⟩
end Go.Proofs.YteocnikcjjonbaaGreat
namespace Go.PN
open Go.AI
abbrev Wd9:List BS:=[kAnd,kOr,kVote,kNot,kXor,kInhibit,kPand,kSpare,kDepend]
theorem gk_to (w:BS) (k:Int) (h:gkind w=some k):0≤k∧k<9∧Wd9.getD k.toNat []=w:=by
 unfold gkind at h
 repeat' split at h
 all_goals first
  |(cases h;done)
  |(injection h with h
    subst h
    rename_i hw
    exact⟨by decide,by decide,(eq_of_beq hw).symm⟩)
theorem gk_of (w:BS) (i:Nat) (hi:i<9) (h:Wd9.getD i []=w):gkind w=some (i:Int):=by
 subst h
 match i,hi with
 |0,_=>rfl
 |1,_=>rfl
 |2,_=>rfl
 |3,_=>rfl
 |4,_=>rfl
 |5,_=>rfl
 |6,_=>rfl
 |7,_=>rfl
 |8,_=>rfl
def kdI (w:BS) (i:Nat):Int:=match gkind w with
 |some k=>if k<i then k else-1
 |none=> -1
theorem kdI_0 (w:BS):kdI w 0= -1:=by
 unfold kdI
 split
 ·rename_i k h
  have:=(gk_to w k h).1
  rw [if_neg om]
 ·rfl
theorem kdI_yes {w:BS} {i:Nat} (hi:i<9) (h:Wd9.getD i []=w):kdI w (i+1)=i:=by
 unfold kdI
 rw [gk_of w i hi h]
 show(if(i:Int)<((i+1:Nat):Int) then(i:Int) else-1)=i
 rw [if_pos om]
theorem kdI_no {w:BS} {i:Nat} (h:Wd9.getD i []≠w):kdI w (i+1)=kdI w i:=by
 unfold kdI
 split
 ·rename_i k hk
  obtain⟨h0,h9,hw⟩:=gk_to w k hk
  by_cases e:k=i
  ·rw [e,Int.toNat_natCast] at hw;exact absurd hw h
  ·by_cases hl:k<i
   ·rw [if_pos hl,if_pos om]
   ·rw [if_neg hl,if_neg om]
 ·rfl
theorem kdI_9 (w:BS):kdI w 9=(gkind w).getD (-1):=by
 unfold kdI
 split
 ·rename_i k hk
  have:=(gk_to w k hk).2.1
  rw [if_pos om,hk];rfl
 ·rename_i hk;rw [hk];rfl
end Go.PN
namespace Go.Proofs.YteocnikcjjonbaaGreat
open Go.AI Go.PN
attribute [local irreducible] aw Fa Fh DrK
theorem rgate_fa (L:List TX) (s:PS) (hs:s.l<:+L.map TX.t) (hL:L.length≤1048576) (hw:∀t∈L,t.t.text.length≤1099511627776):Fa Tryz.prog 59 [.agg (rv L s)] (.tup [.agg (rv L (gateR s).2),.agg (gtc (gateR s).1)]):=by
 have f1:=rtake_fa L s 0 [] hs om
 have hs1:=takeR_suf hs 0 []
 have f2:=rtake_fa L (takeR s 0 []).2 0 [] hs1 om
 have hs2:=takeR_suf hs1 0 []
 unfold gateR wordR
 dsimp only
 generalize takeR s 0 []=r1 at*
 obtain⟨nm,s1⟩:=r1
 dsimp only at*
 generalize takeR s1 0 []=r2 at*
 obtain⟨w,s2⟩:=r2
 dsimp only at*
 refine fa_of_body Tryz.func59 rfl rfl (by simp [Tryz.ntmps59]) fun C hC=> ?_
 simp only [initS,Nat.reduceAdd]
 repeat' first|refine yA1 o0 ?_|refine zW o0 ?_|refine yP o0 ?_|refine yN o0 ?_|refine zC o0 (fun hb=>?_) fun hb=>?_|refine zG o0 (fun hb=>?_) fun hb=>?_|refine zD o0 (fun hb=>?_) fun hb=>?_
 refine xB fun g1 hn_g1=>?_
 repeat' first|refine yA1 hn_g1 ?_|refine zW hn_g1 ?_|refine yP hn_g1 ?_|refine yN hn_g1 ?_|refine zC hn_g1 (fun hb=>?_) fun hb=>?_|refine zG hn_g1 (fun hb=>?_) fun hb=>?_|refine zD hn_g1 (fun hb=>?_) fun hb=>?_
 refine yA hn_g1 fun g2 hn_g2=>?_
 all_goals try(have Z:=(oj hn_g1 hn_g2);(repeat' first|refine yA1 Z ?_|refine zW Z ?_|refine yP Z ?_|refine yN Z ?_|refine zC Z (fun hb=>?_) fun hb=>?_|refine zG Z (fun hb=>?_) fun hb=>?_|refine zD Z (fun hb=>?_) fun hb=>?_);all_goals clear Z)
 refine yA (oj hn_g1 hn_g2) fun g3 hn_g3=>?_
 all_goals try(have Z:=(oj hn_g1 (oj hn_g2 hn_g3));(repeat' first|refine yA1 Z ?_|refine zW Z ?_|refine yP Z ?_|refine yN Z ?_|refine zC Z (fun hb=>?_) fun hb=>?_|refine zG Z (fun hb=>?_) fun hb=>?_|refine zD Z (fun hb=>?_) fun hb=>?_);all_goals clear Z)
 refine yA (oj hn_g1 (oj hn_g2 hn_g3)) fun g4 hn_g4=>?_
 all_goals try(have Z:=(oj hn_g1 (oj hn_g2 (oj hn_g3 hn_g4)));(repeat' first|refine yA1 Z ?_|(refine yC2 Z (f1) ?_)|(refine yD2 Z (f1) ?_)|(refine yC2 Z (f2) ?_)|(refine yD2 Z (f2) ?_)|refine zW Z ?_|refine yP Z ?_|refine yN Z ?_|refine zC Z (fun hb=>?_) fun hb=>?_|refine zG Z (fun hb=>?_) fun hb=>?_|refine zD Z (fun hb=>?_) fun hb=>?_);all_goals clear Z)
 refine aw_buildSlice (xs:=Wd9.map fun w=>Operand.const (.string (sB w))) (cells:=Wd9.map fun w=>.str (sB w)) rfl rfl rfl (zE (oj hn_g1 (oj hn_g2 (oj hn_g3 hn_g4)))) (by refine yS (oj hn_g1 (oj hn_g2 (oj hn_g3 hn_g4))) ?_;rfl) rfl (by decide) (by decide) (by intro x hx;simp only [Wd9,List.map_cons,List.map_nil,List.mem_cons,List.not_mem_nil,or_false] at hx;rcases hx with rfl|rfl|rfl|rfl|rfl|rfl|rfl|rfl|rfl<;>exact⟨rfl,rfl,rfl⟩) rfl fun g20 hn_g20=> ?_
 replace hn_g20:=Heap.ne_of hn_g20
 dsimp only [Heap.ne] at hn_g20
 have J1:=oj hn_g1 (oj hn_g2 (oj hn_g3 (oj hn_g4 hn_g20)))
 refine yS J1 ?_
 refine aw_frzT (t:=20) (strsF Wd9) (zE J1) (zE J1) (by decide) (hC g20) (fun j hj=>by
  match j,hj with
  |0,_=>rfl
  |1,_=>rfl
  |2,_=>rfl
  |3,_=>rfl
  |4,_=>rfl
  |5,_=>rfl
  |6,_=>rfl
  |7,_=>rfl
  |8,_=>rfl) rfl (zE J1) ?_
 refine yS J1 ?_
 all_goals try(have Z:=J1;(repeat' first|refine yA1 Z ?_|refine zW Z ?_|refine yP Z ?_|refine yN Z ?_|refine zC Z (fun hb=>?_) fun hb=>?_|refine zG Z (fun hb=>?_) fun hb=>?_|refine zD Z (fun hb=>?_) fun hb=>?_);all_goals clear Z)
 refine aw_lp (fun i:Nat=>[(1,.c (.optr g1 0)),(2,.c (.optr g2 0)),(3,.c (.optr g3 0)),(4,.c (.optr g4 0)),(5,.c (.str (sB w))),(20,.c (.row true 1 9 (strsF Wd9))),(21,.c (.int .i64 ((9:Nat):Int))),(22,.c (.int .i64 i))]) (fun i=>[(g4,.cells 65 7 (ofL [.str (sB nm),.int .i64 (kdI w i),.int .i64 0,.nils,.bool false,.nils,.nils])),(g3,.cells 65 7 (ofL [.str (sB []),.int .i64 0,.int .i64 0,.nils,.bool false,.nils,.nils])),(g2,.cells 87 2 (ofL [.nils,.int .i64 0])),(g1,.cells 87 2 (ofL (rv L s2)))]) (fun i=>i≤9) (fun i=>9-i) 0 (zB J1) (by rw [kdI_0];exact List.Sublist.refl _) (Nat.zero_le _) ?_
 rintro i hi
 by_cases hi9:i<9
 ·have d9:decide (i<9)=true:=decide_eq_true hi9
  all_goals try(have Z:=(oj hn_g1 (oj hn_g2 (oj hn_g3 (oj hn_g4 (oj hn_g20 d9)))));(repeat' first|refine yA1 Z ?_|refine zW Z ?_|refine yP Z ?_|refine yN Z ?_|refine zC Z (fun hb=>?_) fun hb=>?_|refine zG Z (fun hb=>?_) fun hb=>?_|refine zD Z (fun hb=>?_) fun hb=>?_);all_goals clear Z)
  ·have hk:=kdI_yes hi9 hb
   refine aw_stop ⟨i+1,by omega,?_⟩
   rw [hk]
   and_intros
   all_goals first|rfl|exact List.Sublist.refl _|exact True.intro|omega
  ·have hk:=kdI_no hb
   refine aw_stop ⟨i+1,by omega,?_⟩
   rw [hk]
   and_intros
   all_goals first|rfl|exact List.Sublist.refl _|exact True.intro|omega
 obtain rfl:i=9:=by omega
 have d9:decide (9<9)=false:=by decide
 rw [kdI_9]
 cases hk:gkind w with
 |none=>
  have f3:=rfail_fa L s2 2
  dsimp only [Option.getD_none]
  all_goals try(have Z:=(oj hn_g1 (oj hn_g2 (oj hn_g3 (oj hn_g4 (oj hn_g20 d9)))));(repeat' first|refine yA1 Z ?_|(refine yC2 Z (f3) ?_)|(refine yD2 Z (f3) ?_)|refine zW Z ?_|refine yP Z ?_|refine yN Z ?_|refine zC Z (fun hb=>?_) fun hb=>?_|refine zG Z (fun hb=>?_) fun hb=>?_|refine zD Z (fun hb=>?_) fun hb=>?_);all_goals clear Z)
  ·refine yT hC (oj hn_g1 (oj hn_g2 (oj hn_g3 (oj hn_g4 (oj hn_g20 d9))))) ?_
   exact .tup ⟨.agg ⟨ler_txs,.int _ _,trivial⟩,.agg lerl_gt0,trivial⟩
 |some k=>
  obtain⟨k0,k9,_⟩:=gk_to w k hk
  have d0:decide (k<0)=false:=decide_eq_false om
  dsimp only [Option.getD_some]
  by_cases k2:k=2
  ·subst k2
   have f4:=rwhole_fa L s2 hs2 om hw
   have hs3:(wholeR s2).2.l<:+L.map TX.t:=by rw [wholeR_eq];exact(rdr_whole.suf s2).trans hs2
   rw [if_pos rfl,if_neg (show¬(2:Int)=7 by decide)]
   generalize wholeR s2=V at*
   obtain⟨v,S3⟩:=V
   dsimp only at*
   have f6:=rinputs_fa L S3 hs3 hL hw
   generalize inputsR S3=I at*
   obtain⟨xs,S4⟩:=I
   dsimp only at*
   all_goals try(have Z:=(oj hn_g1 (oj hn_g2 (oj hn_g3 (oj hn_g4 (oj hn_g20 (oj d9 d0))))));(repeat' first|refine yA1 Z ?_|(refine yC2 Z (f4) ?_)|(refine yD2 Z (f4) ?_)|(refine yC2 Z (f6) ?_)|(refine yD2 Z (f6) ?_)|refine zW Z ?_|refine yP Z ?_|refine yN Z ?_|refine zC Z (fun hb=>?_) fun hb=>?_|refine zG Z (fun hb=>?_) fun hb=>?_|refine zD Z (fun hb=>?_) fun hb=>?_);all_goals clear Z)
   refine aw_cw ([(g4,.cells 65 7 (ofL [.str (sB nm),.int .i64 2,.int .i64 v,strs true xs,.bool false,.nils,.nils])),(g1,.cells 87 2 (ofL (rv L S4)))]) [(0,0),(1,0),(2,1),(3,2)] ty_mixed (by kernel_rfl) eI ?_
   have J2:=oj hn_g1 (oj hn_g2 (oj hn_g3 (oj hn_g4 (oj hn_g20 (oj d9 d0)))))
   refine yG J2 ?_
   refine cw_store rfl rfl rfl rfl rfl (zE J2) (zE J2) (zE J2) (zE J2) (fun _ e=>by cases e) rfl rfl (Nat.le_refl 2) (zE J2) eI ?_ (hm:=.inr ⟨rfl,rfl⟩)
   refine ySG J2 ?_
   refine cw_store (FP':=[]) rfl rfl rfl rfl rfl (zE J2) (zE J2) (zE J2) (zE J2) (fun _ e=>by cases e) rfl rfl (Nat.le_refl 7) rfl has0_nil ?_
   refine ySGT hC J2 ?_
   exact .tup ⟨.agg ⟨ler_txs,.int _ _,trivial⟩,.agg ⟨.str _,.int _ _,.int _ _,ler_strs,.bool _,.nils,.nils,trivial⟩,trivial⟩
  by_cases k7:k=7
  ·subst k7
   have f4:=rnumber_fa L s2 hs2 om hw
   have hs3:(numR s2).2.l<:+L.map TX.t:=by rw [numR_eq];exact(rdr_num.suf s2).trans hs2
   rw [if_neg (show¬(7:Int)=2 by decide),if_pos rfl]
   generalize numR s2=V at*
   obtain⟨d,S3⟩:=V
   dsimp only at*
   have f6:=rinputs_fa L S3 hs3 hL hw
   generalize inputsR S3=I at*
   obtain⟨xs,S4⟩:=I
   dsimp only at*
   all_goals try(have Z:=(oj hn_g1 (oj hn_g2 (oj hn_g3 (oj hn_g4 (oj hn_g20 (oj d9 d0))))));(repeat' first|refine yA1 Z ?_|(refine yC2 Z (f4) ?_)|(refine yD2 Z (f4) ?_)|(refine yC2 Z (f6) ?_)|(refine yD2 Z (f6) ?_)|refine zW Z ?_|refine yP Z ?_|refine yN Z ?_|refine zC Z (fun hb=>?_) fun hb=>?_|refine zG Z (fun hb=>?_) fun hb=>?_|refine zD Z (fun hb=>?_) fun hb=>?_);all_goals clear Z)
   refine aw_cw ([(g4,.cells 65 7 (ofL [.str (sB nm),.int .i64 7,.int .i64 0,strs true xs,.bool d.neg,ws true d.num,ws true d.den])),(g1,.cells 87 2 (ofL (rv L S4)))]) [(0,0),(1,0),(2,1),(3,2)] ty_mixed (by kernel_rfl) eI ?_
   have J3:=oj hn_g1 (oj hn_g2 (oj hn_g3 (oj hn_g4 (oj hn_g20 (oj d9 d0)))))
   refine yG J3 ?_
   refine cw_store rfl rfl rfl rfl rfl (zE J3) (zE J3) (zE J3) (zE J3) (fun _ e=>by cases e) rfl rfl (Nat.le_refl 2) (zE J3) eI ?_ (hm:=.inr ⟨rfl,rfl⟩)
   refine ySG J3 ?_
   refine cw_store (FP':=[]) rfl rfl rfl rfl rfl (zE J3) (zE J3) (zE J3) (zE J3) (fun _ e=>by cases e) rfl rfl (Nat.le_refl 7) rfl has0_nil ?_
   refine ySGT hC J3 ?_
   exact .tup ⟨.agg ⟨ler_txs,.int _ _,trivial⟩,.agg ⟨.str _,.int _ _,.int _ _,ler_strs,.bool _,ler_ws,ler_ws,trivial⟩,trivial⟩
  ·have n2:(k==(2:Int))=false:=beq_eq_false_iff_ne.2 k2
   have n7:(k==(7:Int))=false:=beq_eq_false_iff_ne.2 k7
   rw [if_neg k2,if_neg k7]
   dsimp only
   have f6:=rinputs_fa L s2 hs2 hL hw
   generalize inputsR s2=I at*
   obtain⟨xs,S4⟩:=I
   dsimp only at*
   all_goals try(have Z:=(oj hn_g1 (oj hn_g2 (oj hn_g3 (oj hn_g4 (oj hn_g20 (oj d9 (oj d0 (oj n2 n7))))))));(repeat' first|refine yA1 Z ?_|(refine yC2 Z (f6) ?_)|(refine yD2 Z (f6) ?_)|refine zW Z ?_|refine yP Z ?_|refine yN Z ?_|refine zC Z (fun hb=>?_) fun hb=>?_|refine zG Z (fun hb=>?_) fun hb=>?_|refine zD Z (fun hb=>?_) fun hb=>?_);all_goals clear Z)
   refine aw_cw ([(g4,.cells 65 7 (ofL [.str (sB nm),.int .i64 k,.int .i64 0,strs true xs,.bool false,.nils,.nils])),(g1,.cells 87 2 (ofL (rv L S4)))]) [(0,0),(1,0),(2,1),(3,2)] ty_mixed (by kernel_rfl) eI ?_
   have J4:=oj hn_g1 (oj hn_g2 (oj hn_g3 (oj hn_g4 (oj hn_g20 (oj d9 (oj d0 (oj n2 n7)))))))
   refine yG J4 ?_
   refine cw_store rfl rfl rfl rfl rfl (zE J4) (zE J4) (zE J4) (zE J4) (fun _ e=>by cases e) rfl rfl (Nat.le_refl 2) (zE J4) eI ?_ (hm:=.inr ⟨rfl,rfl⟩)
   refine ySG J4 ?_
   refine cw_store (FP':=[]) rfl rfl rfl rfl rfl (zE J4) (zE J4) (zE J4) (zE J4) (fun _ e=>by cases e) rfl rfl (Nat.le_refl 7) rfl has0_nil ?_
   refine ySGT hC J4 ?_
   exact .tup ⟨.agg ⟨ler_txs,.int _ _,trivial⟩,.agg ⟨.str _,.int _ _,.int _ _,ler_strs,.bool _,.nils,.nils,trivial⟩,trivial⟩
end Go.Proofs.YteocnikcjjonbaaGreat
