/- Parts of one proof, laid by a program. -/
import Derived.Test.YteehccacfedolaaGreatP00
import Derived.Test.YteehccacfedolaaGreatP09
set_option linter.unusedSimpArgs false
set_option linter.unusedVariables false
set_option maxRecDepth 100000
set_option maxHeartbeats 12800000
namespace Go.PN
open Go.AI
def modelP (ck:MdD→Int) (l:BS):MdD×Int:=if(splitS l).1≠0 then(md0,(splitS l).1) else let r:=readS ⟨(splitS l).2,0⟩;if r.2.e≠0 then(md0,r.2.e) else if ck r.1≠0 then(md0,ck r.1) else(r.1,0)
theorem MdSm.mono {m:MdD} {a b:Nat} (h:MdSm m a) (hab:a≤b):MdSm m b:=⟨Nat.le_trans h.e hab,Nat.le_trans h.h hab,Nat.le_trans h.g hab,Nat.le_trans h.p hab,Nat.le_trans h.r hab,Nat.le_trans h.s hab⟩
theorem MdSm.stB {m:MdD} {n:Nat} (h:MdSm m n) (s:PS):MdSm (stB m s).1 (n+1):=by
 obtain⟨h1,h2,h3,h4,h5,h6⟩:=h
 unfold Go.PN.stB
 dsimp only
 repeat' split
 all_goals constructor
 all_goals first|(dsimp only;rw [List.length_append];exact Nat.succ_le_succ (by assumption))|(dsimp only;omega)
end Go.PN
namespace Go.Proofs.YteehccacfedolaaGreat
open Go.AI Go.PN
attribute [local irreducible] aw Fa Fh DrK
theorem pmodel_fa (ck:MdD→Int) (l:BS) (hl:l.length≤1099511627776) (hn:(splitS l).2.length≤1048576) (hw:∀t∈(splitS l).2,t.text.length≤1099511627776) (hck:(readS ⟨(splitS l).2,0⟩).2.e=0→Fa Tryz.prog 18 [.agg (mdc true (readS ⟨(splitS l).2,0⟩).1)] (.c (errA (ck (readS ⟨(splitS l).2,0⟩).1)))):Fa Tryz.prog 5 [.c (.str (sB l))] (.tup [.agg (mdc true (modelP ck l).1),.c (errA (modelP ck l).2)]):=by
 refine fa_of_body Tryz.func5 rfl rfl (by simp [Tryz.ntmps5]) fun C hC=> ?_
 simp only [initS,Nat.reduceAdd]
 repeat' first|refine yA1 o0 ?_|refine zW o0 ?_|refine yP o0 ?_|refine yN o0 ?_|refine zC o0 (fun hb=>?_) fun hb=>?_|refine zG o0 (fun hb=>?_) fun hb=>?_|refine zD o0 (fun hb=>?_) fun hb=>?_
 refine xA fun g2 hn_g2=>?_
 repeat' first|refine yA1 hn_g2 ?_|refine zW hn_g2 ?_|refine yP hn_g2 ?_|refine yN hn_g2 ?_|refine zC hn_g2 (fun hb=>?_) fun hb=>?_|refine zG hn_g2 (fun hb=>?_) fun hb=>?_|refine zD hn_g2 (fun hb=>?_) fun hb=>?_
 refine aw_callh (hr:=[(g2,.cells 30 8 (ofL [.str (sB []),.str (sB []),.nils,.nils,.nils,.nils,.nils,.nils]))]) (begin_fh l hl) rfl rfl rfl (.refl _) (zL hn_g2) ?_
 rintro r h' ⟨out,g,ho,rfl,rfl⟩ hgg
 have hne:g≠g2:=by simpa [Heap.keys] using hgg
 have hne':g2≠g:=fun e=>hne e.symm
 clear hgg
 simp only [List.cons_append,List.nil_append]
 have hs:(PS.mk (splitS l).2 0).l<:+out.map TX.t:=by rw [ho];exact List.suffix_refl _
 have hL:out.length≤1048576:=by rw [←List.length_map TX.t,ho];exact hn
 have hw':∀t∈out,t.t.text.length≤1099511627776:=fun t ht=>hw t.t (by rw [←ho];exact List.mem_map_of_mem ht)
 clear hw hn
 unfold modelP
 unfold readS at hck⊢
 dsimp only at hck⊢
 have f0:=expect_fg g out ⟨(splitS l).2,0⟩ kModel hs om
 have hs1:=((rdr_exp kModel).suf ⟨(splitS l).2,0⟩).trans hs
 generalize expS kModel ⟨(splitS l).2,0⟩=s1 at*
 have f1:=word_fg g out s1 hs1 om
 have hs2:=suf_word hs1
 generalize wordS s1=r at*
 obtain⟨nm,s2⟩:=r
 dsimp only at*
 have f2:=expect_fg g out s2 kSemi hs2 om
 have hs3:(expS kSemi s2).l<:+out.map TX.t:=((rdr_exp kSemi).suf s2).trans hs2
 generalize expS kSemi s2=s3 at*
 generalize hF:lpS (fun s=> !isS s kTop) stB {md0 with name:=nm} s3=F at*
 have hs4:F.2.l<:+out.map TX.t:=by rw [←hF];exact((rdr_lp rdr_stB _).suf s3).trans hs3
 have f3:=expect_fg g out F.2 kTop hs4 om
 have hs5:(expS kTop F.2).l<:+out.map TX.t:=((rdr_exp kTop).suf F.2).trans hs4
 generalize expS kTop F.2=s5 at*
 have f4:=input_fg g out s5 hs5 om hw'
 have hs6:=(rdr_input.suf s5).trans hs5
 generalize inputS s5=r at*
 obtain⟨tp,s6⟩:=r
 dsimp only at*
 have f5:=expect_fg g out s6 kSemi hs6 om
 have hs7:(expS kSemi s6).l<:+out.map TX.t:=((rdr_exp kSemi).suf s6).trans hs6
 generalize expS kSemi s6=s7 at*
 have f6:=end_fg g out s7 hs7 om
 all_goals try(have Z:=(oj hn_g2 (oj hne hne'));(repeat' first|refine yA1 Z ?_|refine zW Z ?_|refine yP Z ?_|refine yN Z ?_|refine zC Z (fun hb=>?_) fun hb=>?_|refine zG Z (fun hb=>?_) fun hb=>?_|refine zD Z (fun hb=>?_) fun hb=>?_);all_goals clear Z)
 ·have h0:(splitS l).1≠0:=by simpa using hb
  refine yT hC (oj hn_g2 (oj hne hne')) ?_
  rw [if_pos h0]
  exact .tup ⟨.agg lerl_md0,.c ler_err,trivial⟩
 have h0:¬(splitS l).1≠0:=by simpa using hb
 rw [if_neg h0]
 refine yA (oj hn_g2 (oj hne hne')) fun gM hn_gM=>?_
 have J1:=oj hn_g2 (oj hne (oj hne' hn_gM))
 refine yW J1 ?_
 refine yS J1 ?_
 all_goals try(have Z:=J1;(repeat' first|refine yA1 Z ?_|(refine zg Z (f0) ?_)|(refine zg Z (f1) ?_)|refine zW Z ?_|refine yP Z ?_|refine yN Z ?_|refine zC Z (fun hb=>?_) fun hb=>?_|refine zG Z (fun hb=>?_) fun hb=>?_|refine zD Z (fun hb=>?_) fun hb=>?_);all_goals clear Z)
 refine aw_cg f2 rfl rfl rfl (zE J1) (zL2 o0) ?_
 refine yS J1 ?_
 refine yH J1 ?_
 apply wa1
 refine aw_cut (fun _:Og=>[(2,.c (.optr g2 0)),(3,.c .nilI),(4,.c (.optr g 0)),(6,.c (.optr gM 0))]) (fun o=>[(gM,mdO F.1 o),(g,rdO out F.2)]++mdT F.1 o++[(g2,.cells 30 8 (ofL [.str (sB []),.str (sB []),.nils,.nils,.nils,.nils,.nils,.nils]))]) (fun o=>OgOk F.1 o) ?_ ?_
 ·apply wa2
  refine aw_lp (fun _:PS×MdD×Og=>[(2,.c (.optr g2 0)),(3,.c .nilI),(4,.c (.optr g 0)),(6,.c (.optr gM 0))]) (fun x=>[(gM,mdO x.2.1 x.2.2),(g,rdO out x.1)]++mdT x.2.1 x.2.2++[(g2,.cells 30 8 (ofL [.str (sB []),.str (sB []),.nils,.nils,.nils,.nils,.nils,.nils]))])
   (fun x=>x.1.l<:+out.map TX.t∧OgOk x.2.1 x.2.2∧MdSm x.2.1 (1048577-mS x.1)∧lpS (fun s=> !isS s kTop) stB x.2.1 x.1=F) (fun x=>mS x.1) (s3,{md0 with name:=nm},⟨none,none,none,none,none,none⟩) (zB J1) zZ ⟨hs3,⟨fun _=>rfl,fun _=>rfl,fun _=>rfl,fun _=>rfl,fun _=>rfl,fun _=>rfl⟩,⟨Nat.zero_le _,Nat.zero_le _,Nat.zero_le _,Nat.zero_le _,Nat.zero_le _,Nat.zero_le _⟩,hF⟩ ?_
  rintro ⟨sx,m,o⟩ ⟨hsx,hog,hm,hlp⟩
  dsimp only at hsx hog hm hlp⊢
  simp only [List.cons_append,List.nil_append]
  have i0:=is_fg g out sx kTop hsx om
  all_goals try(have Z:=J1;(repeat' first|refine yA1 Z ?_|(refine zg Z (i0) ?_)|refine zW Z ?_|refine yP Z ?_|refine yN Z ?_|refine zC Z (fun hb=>?_) fun hb=>?_|refine zG Z (fun hb=>?_) fun hb=>?_|refine zD Z (fun hb=>?_) fun hb=>?_);all_goals clear Z)
  ·rename_i hz
   have hc:(fun s=> !isS s kTop) sx=true:=hb
   have hst:=lpS_step (c:=fun s=> !isS s kTop) (b:=stB) (a:=m) (fun a s h _=>con_stB a s h) hz hc
   have hlt:=con_stB m sx hz
   rw [hst] at hlp
   have hsy:(stB m sx).2.l<:+out.map TX.t:=((rdr_stB m).suf sx).trans hsx
   have hm1:1≤mS sx:=by unfold mS;rw [if_pos hz];omega
   have hm2:mS sx≤1048577:=by
    have:=hsx.length_le
    rw [List.length_map] at this
    unfold mS
    split<;>omega
   have hf:=statement_fh gM g out sx m o hsx hL hw' hog (hm.mono om)
   have hm3:=(hm.stB sx).mono (show _≤1048577-mS (stB m sx).2 by omega)
   refine aw_callh (hr:=[(g2,.cells 30 8 (ofL [.str (sB []),.str (sB []),.nils,.nils,.nils,.nils,.nils,.nils]))]) hf rfl rfl rfl (by simp only [List.cons_append,List.nil_append];exact .refl _) (zL J1) ?_
   rintro r h' ⟨rfl,o',ho',rfl⟩ _
   all_goals try(have Z:=J1;(repeat' first|refine yA1 Z ?_|refine zW Z ?_|refine yP Z ?_|refine yN Z ?_|refine zC Z (fun hb=>?_) fun hb=>?_|refine zG Z (fun hb=>?_) fun hb=>?_|refine zD Z (fun hb=>?_) fun hb=>?_);all_goals clear Z)
   refine aw_stop ⟨((stB m sx).2,(stB m sx).1,o'),?_⟩
   refine⟨hlt,?_⟩
   and_intros
   all_goals first|rfl|exact List.Sublist.refl _|exact True.intro|exact hsy|exact ho'|exact hm3|exact hlp
  ·have hc:¬(sx.e=0∧(fun s=> !isS s kTop) sx=true):=fun z=>by rw [show(fun s=> !isS s kTop) sx=false from hb] at z;exact absurd z.2 (by decide)
   rw [lpS_end hc] at hlp
   subst hlp
   refine aw_stop ⟨o,?_⟩
   and_intros<;>first|rfl|exact List.Sublist.refl _|exact True.intro|exact hog
  ·have hc:¬(sx.e=0∧(fun s=> !isS s kTop) sx=true):=fun z=>hb z.1
   rw [lpS_end hc] at hlp
   subst hlp
   refine aw_stop ⟨o,?_⟩
   and_intros<;>first|rfl|exact List.Sublist.refl _|exact True.intro|exact hog
 rintro o hog
 try dsimp only at hog⊢
 refine aw_perm (h':=(gM,mdO F.1 o)::(gh o.e 94 (F.1.events.length*11) (evsF F.1.events)++(gh o.h 97 (F.1.houses.length*2) (hssF F.1.houses)++(gh o.g 45 (F.1.gates.length*7) (gtsF F.1.gates)++(gh o.p 100 (F.1.pages.length*3) (pgsF F.1.pages)++(gh o.r 78 (F.1.groups.length*4) (grsF F.1.groups)++(gh o.s 82 (F.1.phases.length*3) (phsF F.1.phases)++([(g,rdO out F.2),(g2,.cells 30 8 (ofL [.str (sB []),.str (sB []),.nils,.nils,.nils,.nils,.nils,.nils]))])))))))) (.cons _ ?_) ?_
 ·have e:gh o.e 94 (F.1.events.length*11) (evsF F.1.events)++(gh o.h 97 (F.1.houses.length*2) (hssF F.1.houses)++(gh o.g 45 (F.1.gates.length*7) (gtsF F.1.gates)++(gh o.p 100 (F.1.pages.length*3) (pgsF F.1.pages)++(gh o.r 78 (F.1.groups.length*4) (grsF F.1.groups)++(gh o.s 82 (F.1.phases.length*3) (phsF F.1.phases)++([(g,rdO out F.2),(g2,.cells 30 8 (ofL [.str (sB []),.str (sB []),.nils,.nils,.nils,.nils,.nils,.nils]))]))))))=mdT F.1 o++[(g,rdO out F.2),(g2,.cells 30 8 (ofL [.str (sB []),.str (sB []),.nils,.nils,.nils,.nils,.nils,.nils]))]:=by
   unfold mdT
   simp only [List.flatten_cons,List.flatten_nil,List.append_assoc,List.append_nil,List.nil_append]
  rw [e]
  exact(List.perm_middle (l₁:=mdT F.1 o)).symm
 refine aw_frzG (j0:=2) (n:=F.1.events.length) (s:=11) (f':=ofL [.str (sB F.1.name),.str (sB F.1.top),evs true F.1.events,gs o.h 2 F.1.houses.length,gs o.g 7 F.1.gates.length,gs o.p 3 F.1.pages.length,gs o.r 4 F.1.groups.length,gs o.s 3 F.1.phases.length]) rfl rfl (fun j hj hj3=>by
  match j,hj,hj3 with
  |0,_,_=>rfl
  |1,_,_=>rfl
  |2,_,h=>exact absurd rfl h
  |3,_,_=>rfl
  |4,_,_=>rfl
  |5,_,_=>rfl
  |6,_,_=>rfl
  |7,_,_=>rfl
  |j+8,h,_=>exact absurd h om) hog.e (fun g _=>hC g) ?_
 refine aw_frzG (j0:=3) (n:=F.1.houses.length) (s:=2) (f':=ofL [.str (sB F.1.name),.str (sB F.1.top),evs true F.1.events,hss true F.1.houses,gs o.g 7 F.1.gates.length,gs o.p 3 F.1.pages.length,gs o.r 4 F.1.groups.length,gs o.s 3 F.1.phases.length]) rfl rfl (fun j hj hj3=>by
  match j,hj,hj3 with
  |0,_,_=>rfl
  |1,_,_=>rfl
  |2,_,_=>rfl
  |3,_,h=>exact absurd rfl h
  |4,_,_=>rfl
  |5,_,_=>rfl
  |6,_,_=>rfl
  |7,_,_=>rfl
  |j+8,h,_=>exact absurd h om) hog.h (fun g _=>hC g) ?_
 refine aw_frzG (j0:=4) (n:=F.1.gates.length) (s:=7) (f':=ofL [.str (sB F.1.name),.str (sB F.1.top),evs true F.1.events,hss true F.1.houses,gts true F.1.gates,gs o.p 3 F.1.pages.length,gs o.r 4 F.1.groups.length,gs o.s 3 F.1.phases.length]) rfl rfl (fun j hj hj3=>by
  match j,hj,hj3 with
  |0,_,_=>rfl
  |1,_,_=>rfl
  |2,_,_=>rfl
  |3,_,_=>rfl
  |4,_,h=>exact absurd rfl h
  |5,_,_=>rfl
  |6,_,_=>rfl
  |7,_,_=>rfl
  |j+8,h,_=>exact absurd h om) hog.g (fun g _=>hC g) ?_
 refine aw_frzG (j0:=5) (n:=F.1.pages.length) (s:=3) (f':=ofL [.str (sB F.1.name),.str (sB F.1.top),evs true F.1.events,hss true F.1.houses,gts true F.1.gates,pgs true F.1.pages,gs o.r 4 F.1.groups.length,gs o.s 3 F.1.phases.length]) rfl rfl (fun j hj hj3=>by
  match j,hj,hj3 with
  |0,_,_=>rfl
  |1,_,_=>rfl
  |2,_,_=>rfl
  |3,_,_=>rfl
  |4,_,_=>rfl
  |5,_,h=>exact absurd rfl h
  |6,_,_=>rfl
  |7,_,_=>rfl
  |j+8,h,_=>exact absurd h om) hog.p (fun g _=>hC g) ?_
 refine aw_frzG (j0:=6) (n:=F.1.groups.length) (s:=4) (f':=ofL [.str (sB F.1.name),.str (sB F.1.top),evs true F.1.events,hss true F.1.houses,gts true F.1.gates,pgs true F.1.pages,grs true F.1.groups,gs o.s 3 F.1.phases.length]) rfl rfl (fun j hj hj3=>by
  match j,hj,hj3 with
  |0,_,_=>rfl
  |1,_,_=>rfl
  |2,_,_=>rfl
  |3,_,_=>rfl
  |4,_,_=>rfl
  |5,_,_=>rfl
  |6,_,h=>exact absurd rfl h
  |7,_,_=>rfl
  |j+8,h,_=>exact absurd h om) hog.r (fun g _=>hC g) ?_
 refine aw_frzG (j0:=7) (n:=F.1.phases.length) (s:=3) (f':=ofL [.str (sB F.1.name),.str (sB F.1.top),evs true F.1.events,hss true F.1.houses,gts true F.1.gates,pgs true F.1.pages,grs true F.1.groups,phs true F.1.phases]) rfl rfl (fun j hj hj3=>by
  match j,hj,hj3 with
  |0,_,_=>rfl
  |1,_,_=>rfl
  |2,_,_=>rfl
  |3,_,_=>rfl
  |4,_,_=>rfl
  |5,_,_=>rfl
  |6,_,_=>rfl
  |7,_,h=>exact absurd rfl h
  |j+8,h,_=>exact absurd h om) hog.s (fun g _=>hC g) ?_
 all_goals try(have Z:=J1;(repeat' first|refine yA1 Z ?_|(refine zg Z (f3) ?_)|(refine zg Z (f4) ?_)|(refine zg Z (f5) ?_)|(refine zg Z (f6) ?_)|refine zW Z ?_|refine yP Z ?_|refine yN Z ?_|refine zC Z (fun hb=>?_) fun hb=>?_|refine zG Z (fun hb=>?_) fun hb=>?_|refine zD Z (fun hb=>?_) fun hb=>?_);all_goals clear Z)
 ·have h1:(endS s7).e≠0:=by simpa using hb
  refine yT hC J1 ?_
  rw [if_pos h1]
  exact .tup ⟨.agg lerl_md0,.c ler_err,trivial⟩
 have h1:¬(endS s7).e≠0:=by simpa using hb
 rw [if_neg h1]
 have f7:=hck (by simpa using h1)
 all_goals try(have Z:=J1;(repeat' first|refine yA1 Z ?_|(refine yC2 Z (f7) ?_)|(refine yD2 Z (f7) ?_)|refine zW Z ?_|refine yP Z ?_|refine yN Z ?_|refine zC Z (fun hb=>?_) fun hb=>?_|refine zG Z (fun hb=>?_) fun hb=>?_|refine zD Z (fun hb=>?_) fun hb=>?_);all_goals clear Z)
 ·have h2:ck {F.1 with top:=tp}≠0:=by simpa using hb
  refine yT hC J1 ?_
  rw [if_pos h2]
  exact .tup ⟨.agg lerl_md0,.c ler_err,trivial⟩
 ·have h2:¬ck {F.1 with top:=tp}≠0:=by simpa using hb
  refine yT hC J1 ?_
  rw [if_neg h2]
  exact .tup ⟨.agg (lerl_md (x:={F.1 with top:=tp})),.c (ler_err0 rfl),trivial⟩
end Go.Proofs.YteehccacfedolaaGreat
namespace Go.PN
def RD.prob (r:RD):Bool:=r.valid&&decide (0≤r.q)&&decide (r.q≤1)
theorem signQ_ge (x:Rat):decide (signQ x≥0)=decide (0≤x):=by
 unfold signQ
 by_cases h0:x=0
 ·subst h0;simp
 ·rw [if_neg h0]
  by_cases h1:x<0
  ·rw [if_pos h1]
   have:¬(0≤x):=Rat.not_le.2 h1
   simp [this]
  ·rw [if_neg h1]
   have:0≤x:=Rat.not_lt.1 h1
   simp [this]
theorem signQ_le (x:Rat):decide (signQ x≤0)=decide (x≤0):=by
 unfold signQ
 by_cases h0:x=0
 ·subst h0;simp
 ·rw [if_neg h0]
  by_cases h1:x<0
  ·rw [if_pos h1]
   have:x≤0:=Rat.le_of_lt h1
   simp [this]
  ·rw [if_neg h1]
   have:¬x≤0:=fun h=>by
    have:=Rat.not_lt.1 h1
    exact h0 (Rat.le_antisymm h this)
   simp [this]
theorem sub_le_iff (x:Rat):decide (x-1≤0)=decide (x≤1):=by
 rw [Bool.eq_iff_iff];simp only [decide_eq_true_eq];constructor<;>intro h<;>grind
theorem sq_le_one {n d:Nat} (hd:d≠0):sq false n d≤1↔n≤d:=by
 unfold sq sgn
 simp only [Bool.false_eq_true,if_false]
 rw [Rat.mkRat_eq_div]
 have hd0:(0:Rat)<(d:Rat):=by
  have:((0:Nat):Rat)<(d:Rat):=Rat.natCast_lt_natCast.2 om
  exact this
 have hne:(d:Rat)≠0:=fun e=>by rw [e] at hd0;exact Rat.lt_irrefl hd0
 have hx:((n:Int):Rat)/(d:Rat)*(d:Rat)=(n:Rat):=by
  have h1:((n:Int):Rat)=(n:Rat):=rfl
  rw [h1,Rat.div_def,Rat.mul_assoc,Rat.inv_mul_cancel _ hne,Rat.mul_one]
 generalize ((n:Int):Rat)/(d:Rat)=x at hx
 constructor
 ·intro h
  have h1:=Rat.mul_le_mul_of_nonneg_right h (Rat.le_of_lt hd0)
  rw [hx,Rat.one_mul] at h1
  exact Rat.natCast_le_natCast.1 h1
 ·intro h
  have h1:(n:Rat)≤(d:Rat):=Rat.natCast_le_natCast.2 h
  rw [←hx] at h1
  refine Rat.not_lt.1 fun hlt=> ?_
  have h2:=Rat.mul_lt_mul_of_pos_right hlt hd0
  rw [Rat.one_mul] at h2
  exact absurd h1 (Rat.not_le.2 h2)
theorem prob_eq {r:RD} {L:Nat} (hw:r.wf L) (hv:r.valid=true):((!r.neg)&&decide (cmpN (val r.num) (val r.den)≤0))=(decide (0≤r.q)&&decide (r.q≤1)):=by
 cases hs:r.some with
 |false=>
  have hn:r.num.length=0:=by
   simp only [RD.some,hv,Bool.true_and,decide_eq_false_iff_not,ne_eq,Classical.not_not] at hs
   exact hs
  have hq:r.q=0:=by unfold RD.q RD.pn;simp [hs,sq_zero]
  have hv':=hv
  unfold RD.valid at hv'
  split at hv'
  ·rename_i h
   have h1:r.num=[]:=List.length_eq_zero_iff.1 h.1
   have h2:r.den=[]:=List.length_eq_zero_iff.1 h.2
   rw [hq,h1,h2]
   simp only [Bool.not_eq_true'] at hv'
   simp [hv',val,cmpN]
   decide
  ·simp [plainB,hn] at hv'
 |true=>
  obtain⟨h1,h2,h3,h4,h5⟩:=RD.some_spec hw hs
  have hq:r.q=sq r.neg (val r.num) (val r.den):=by unfold RD.q RD.ps RD.pn RD.pd;simp [hs]
  rw [hq]
  have hneg:=sq_lt (neg:=r.neg) h3 h4
  cases hb:r.neg with
  |true=>
   rw [hb] at hneg
   have:¬(0≤sq true (val r.num) (val r.den)):=Rat.not_le.2 (hneg.2 rfl)
   simp [this]
  |false=>
   rw [hb] at hneg
   have hge:0≤sq false (val r.num) (val r.den):=Rat.not_lt.1 fun h=>by cases hneg.1 h
   have hle:=sq_le_one (n:=val r.num) h4
   have hc:cmpN (val r.num) (val r.den)≤0↔val r.num≤val r.den:=by
    unfold cmpN
    split
    ·constructor<;>intro _<;>omega
    ·split<;>constructor<;>intro _<;>omega
   simp only [hge,decide_true,Bool.true_and,Bool.not_false,hle,hc]
end Go.PN
namespace Go.Proofs.YteehccacfedolaaGreat
open Go.AI Go.PN
attribute [local irreducible] aw Fa Fh DrK
theorem rprob_fa (r:RD) (hw:r.wf 1073741824):Fa Tryz.prog 80 [.agg (rdc r)] (.c (.bool r.prob)):=by
 have h1:=hw.2.2.1
 have h2:=hw.2.2.2
 refine fa_of_body Tryz.func80 rfl rfl (by simp [Tryz.ntmps80]) fun C hC=> ?_
 simp only [initS,Nat.reduceAdd]
 refine xG ?_
 refine xB fun g1 hn_g1=>?_
 refine yG hn_g1 ?_
 refine yC hn_g1 (rvalid_fa r (wf_mono hw ?_)) ?_
 ·omega
 refine yG hn_g1 ?_
 unfold RD.prob
 refine aw_split 5 (zE hn_g1) (fun hv=> ?_) (fun hv=> ?_)<;>refine yS hn_g1 ?_
 ·have hp:=prob_eq hw hv
  refine yG hn_g1 ?_
  refine aw_split 10 (zE hn_g1) (fun hn=> ?_) (fun hn=> ?_)<;>refine yS hn_g1 ?_
  ·refine yG hn_g1 ?_
   refine yC hn_g1 (cmp_fa _ _ hw.1 hw.2.1 ?_ ?_) ?_
   ·omega
   ·omega
   refine yGT hC hn_g1 ?_
   refine .one (.c (ler_bool ?_))
   rw [hv,Bool.true_and,←hp,hn,Bool.true_and]
  ·refine yGT hC hn_g1 ?_
   refine .one (.c (ler_bool ?_))
   rw [hv,Bool.true_and,←hp,hn,Bool.false_and]
 ·refine yGT hC hn_g1 ?_
  refine .one (.c (ler_bool ?_))
  rw [hv,Bool.false_and,Bool.false_and]
theorem one_wf:(rd ((1:Int):Rat)).wf 500000000:=rd_wf (fits_mono (L:=1) ⟨by simp,by simp⟩ om)
theorem sprob_fa (r:RD) (hw:r.wf 500000000):Fa Tryz.prog 106 [.agg (rdc r)] (.c (.bool r.prob)):=by
 have h1:=hw.2.2.1
 have h2:=hw.2.2.2
 refine fa_of_body Tryz.func106 rfl rfl (by simp [Tryz.ntmps106]) fun C hC=> ?_
 simp only [initS,Nat.reduceAdd]
 refine xG ?_
 refine xB fun g1 hn_g1=>?_
 refine yG hn_g1 ?_
 refine aw_dr 14 ty_mixed (by kernel_rfl) ?_
 refine yG hn_g1 ?_
 refine yD hn_g1 (svalid_fa r (wf_mono hw ?_)) ?_
 ·omega
 refine yG hn_g1 ?_
 unfold RD.prob
 refine drk_split 5 (zE hn_g1) (fun hv=> ?_) (fun hv=> ?_)<;>refine yS hn_g1 ?_
 ·refine yG hn_g1 ?_
  refine yD hn_g1 (ssign_fa r (wf_mono hw ?_)) ?_
  ·omega
  refine yG hn_g1 ?_
  refine drk_split 10 (zE hn_g1) (fun hn=> ?_) (fun hn=> ?_)<;>refine yS hn_g1 ?_
  ·refine yG hn_g1 ?_
   refine yD hn_g1 (sof_fa 1 ?_ ?_) ?_
   ·omega
   ·omega
   refine yG hn_g1 ?_
   refine yD hn_g1 (scmp_fa r (rd ((1:Int):Rat)) hw one_wf) ?_
   rw [rd_q,Rat.intCast_one]
   refine yGT hC hn_g1 ?_
   refine .one (.c (ler_bool ?_))
   rw [signQ_ge] at hn
   rw [hv,hn,signQ_le,sub_le_iff];rfl
  ·refine yGT hC hn_g1 ?_
   refine .one (.c (ler_bool ?_))
   rw [signQ_ge] at hn
   rw [hn,Bool.and_false,Bool.false_and]
 ·refine yGT hC hn_g1 ?_
  refine .one (.c (ler_bool ?_))
  rw [hv,Bool.false_and,Bool.false_and]
end Go.Proofs.YteehccacfedolaaGreat
namespace Go.PN
open Go.AI
variable {α β σ : Type}
def fidx (p:α→Bool):List α→Int
 |[]=> -1
 |x::l=>if p x then 0 else if fidx p l<0 then-1 else fidx p l+1
theorem fidx_ge (p:α→Bool):∀l:List α,-1≤fidx p l
 |[]=>Int.le_refl _
 |x::l=>by
  have:=fidx_ge p l
  unfold fidx
  split
  ·decide
  ·split<;>omega
theorem fidx_lt (p:α→Bool):∀l:List α,fidx p l<l.length
 |[]=>(show(-1:Int)<0 from by decide)
 |x::l=>by
  have:=fidx_lt p l
  unfold fidx
  rw [List.length_cons]
  split
  ·omega
  ·split<;>omega
theorem fidx_no {p:α→Bool} (d:α):∀{l:List α},(∀j,j<l.length→p (l.getD j d)=false)→fidx p l= -1
 |[],_=>rfl
 |x::l,h=>by
  have h0:p x=false:=by simpa using h 0 (by simp)
  have ih:=fidx_no d (l:=l) fun j hj=>by simpa using h (j+1) (by simpa using hj)
  unfold fidx
  rw [h0,ih];rfl
theorem fidx_at {p:α→Bool} (d:α):∀{l:List α} {i:Nat},i<l.length→p (l.getD i d)=true→(∀j,j<i→p (l.getD j d)=false)→fidx p l=i
 |x::l,0,_,h,_=>by
  have:p x=true:=by simpa using h
  unfold fidx
  rw [this];rfl
 |x::l,i+1,hl,h,hn=>by
  have h0:p x=false:=by simpa using hn 0 om
  have ih:=fidx_at d (l:=l) (i:=i) (by simpa using hl) (by simpa using h) fun j hj=>by simpa using hn (j+1) om
  unfold fidx
  rw [h0,ih]
  rw [if_neg (by decide),if_neg om]
  omega
def frst (f:Nat→α→Int):List α→Nat→Int
 |[],_=>0
 |x::l,i=>if f i x=0 then frst f l (i+1) else f i x
theorem frst_step {f:Nat→α→Int} (d:α) {l:List α} {i:Nat} (h:i<l.length):frst f (l.drop i) i=if f i (l.getD i d)=0 then frst f (l.drop (i+1)) (i+1) else f i (l.getD i d):=by
 rw [List.drop_eq_getElem_cons h,List.getD_eq_getElem?_getD,List.getElem?_eq_getElem h];rfl
theorem frst_end {f:Nat→α→Int} {l:List α} {i:Nat} (h:¬i<l.length):frst f (l.drop i) i=0:=by rw [List.drop_of_length_le om];rfl
def frsS (f:Nat→α→σ→Int×σ):List α→Nat→σ→Int×σ
 |[],_,s=>(0,s)
 |x::l,i,s=>if(f i x s).1=0 then frsS f l (i+1) (f i x s).2 else f i x s
theorem frsS_step {f:Nat→α→σ→Int×σ} (d:α) {l:List α} {i:Nat} {s:σ} (h:i<l.length):frsS f (l.drop i) i s=if(f i (l.getD i d) s).1=0 then frsS f (l.drop (i+1)) (i+1) (f i (l.getD i d) s).2 else f i (l.getD i d) s:=by
 rw [List.drop_eq_getElem_cons h,List.getD_eq_getElem?_getD,List.getElem?_eq_getElem h];rfl
theorem frsS_end {f:Nat→α→σ→Int×σ} {l:List α} {i:Nat} {s:σ} (h:¬i<l.length):frsS f (l.drop i) i s=(0,s):=by rw [List.drop_of_length_le om];rfl
def frsN (f:Nat→σ→Int×σ):Nat→Nat→σ→Int×σ
 |0,_,s=>(0,s)
 |n+1,i,s=>if(f i s).1=0 then frsN f n (i+1) (f i s).2 else f i s
def orC (a b:Int):Int:=if a=0 then b else a
def evI (m:MdD) (n:BS):Int:=fidx (fun x=>x.name==n) m.events
def hsI (m:MdD) (n:BS):Int:=fidx (fun x=>x.name==n) m.houses
def gtI (l:List GtD) (n:BS):Int:=fidx (fun x=>x.name==n) l
def pgI (m:MdD) (n:BS):Int:=fidx (fun x=>x.name==n) m.pages
def gtsK (m:MdD):Nat→List GtD
 |0=>m.gates
 |k+1=>(m.pages.getD k pg0).gates
def rateB (r:RD):Bool:=r.valid&&decide (signQ r.q≥0)
def nameOk (s:BS):Bool:=decide (0<s.length)&&decide (s.length≤24)&&isLet (bAt s 0)&&decide (spanE isIns s 0=s.length)
def evC (m:MdD) (i:Nat) (x:EvD):Int:=if nameOk x.name=false then 5 else if evI m x.name<i then 6
 else if x.p.prob=false∨rateB x.fail=false∨rateB x.rep=false∨x.cost<0∨x.cost>1073741824 then 3 else 0
def hsC (m:MdD) (i:Nat) (x:HsD):Int:=if nameOk x.name=false then 5 else if evI m x.name≥0∨hsI m x.name<i then 6 else 0
def evhC (m:MdD):Int:=if m.events.length>24 then 4 else orC (frst (evC m) m.events 0) (if m.houses.length>16 then 4 else frst (hsC m) m.houses 0)
def gtN (m:MdD):Nat:=m.gates.length+(m.pages.map fun p=>p.gates.length).sum
def pgC (m:MdD) (i:Nat) (x:PgD):Int:=if nameOk x.name=false then 5 else if pgI m x.name<i then 6 else 0
def pgsC (m:MdD):Int:=if m.pages.length>8∨gtN m>64 then 4 else frst (pgC m) m.pages 0
def inpB (k:Int) (n:Nat):Bool:=if k=3 then n==1 else if k=5 then n==2 else if k=6∨k=7∨k=8 then decide (n≥2)&&decide (n≤16) else decide (n≥1)&&decide (n≤16)
def zeroB (r:RD):Bool:= !r.neg&&r.num.length==0&&r.den.length==0
def shpC (x:GtD):Int:=if x.kind<0∨x.kind>8 then 7 else if inpB x.kind x.inputs.length=false then 11
 else if x.kind=2∧(x.k<1∨x.k>x.inputs.length) then 3 else if x.kind≠2∧x.k≠0 then 2
 else if x.kind=7∧x.dorm.prob=false then 3 else if x.kind≠7∧zeroB x.dorm=false then 2 else 0
def gtC (m:MdD) (k:Nat) (i:Nat) (x:GtD):Int:=if nameOk x.name=false then 5 else if evI m x.name≥0∨hsI m x.name≥0∨gtI (gtsK m k) x.name<i then 6 else shpC x
def gtsC (m:MdD) (k:Nat):Int:=frst (gtC m k) (gtsK m k) 0
def isInp (m:MdD) (k:Nat) (i:BS):Bool:=if 0<i.length∧bAt i 0=64 then decide (pgI m (i.drop 1)≥0) else decide (evI m i≥0)||decide (hsI m i≥0)||decide (gtI (gtsK m k) i≥0)
def mustE (x:GtD) (j:Nat):Bool:=decide (x.kind=7)||(decide (x.kind=8)&&decide (j>0))
def inI (m:MdD) (k:Nat) (x:GtD) (j:Nat) (i:BS) (sp:List BS):Int×List BS:=if isInp m k i=false then(5,sp) else if mustE x j=true∧evI m i<0 then(7,sp)
 else if x.kind=7 then(if sp.contains i then(6,sp) else(0,sp++[i])) else(0,sp)
def inG (m:MdD) (k:Nat) (_:Nat) (x:GtD) (sp:List BS):Int×List BS:=frsS (inI m k x) x.inputs 0 sp
def tpC (m:MdD):Nat→Int
 |0=>0
 |k+1=>if gtI (m.pages.getD k pg0).gates (m.pages.getD k pg0).top<0∧evI m (m.pages.getD k pg0).top<0 then 5 else 0
def inP (m:MdD) (k:Nat) (sp:List BS):Int×List BS:=if(frsS (inG m k) (gtsK m k) 0 sp).1=0 then(tpC m k,(frsS (inG m k) (gtsK m k) 0 sp).2) else frsS (inG m k) (gtsK m k) 0 sp
def meC (m:MdD) (_:Nat) (n:BS) (ms:List BS):Int×List BS:=if evI m n<0 then(5,ms) else if ms.contains n then(6,ms) else(0,ms++[n])
def grC (m:MdD) (i:Nat) (x:GrD) (ms:List BS):Int×List BS:=if nameOk x.name=false then(5,ms) else if fidx (fun y=>y.name==x.name) m.groups<i then(6,ms)
 else if x.kind≠0∧x.kind≠1 then(7,ms)
 else if(x.members.length:Int)<2∨(x.members.length:Int)>(if x.kind=1 then 4 else 24)∨(x.factors.length:Int)≠(if x.kind=1 then(x.members.length:Int)-1 else 1) then(11,ms)
 else if(frsS (meC m) x.members 0 ms).1≠0 then frsS (meC m) x.members 0 ms
 else if x.factors.all RD.prob=false then(3,ms) else(0,(frsS (meC m) x.members 0 ms).2)
def grsC (m:MdD):Int:=if m.groups.length>8 then 4 else(frsS (grC m) m.groups 0 []).1
def vlC (m:MdD) (x:PhD) (k:Nat) (v:VlD):Int:=if evI m v.event<0 then 5 else if fidx (fun y=>y.event==v.event) x.values<k then 6 else if v.p.prob=false then 3 else 0
def phC (m:MdD) (i:Nat) (x:PhD):Int:=if nameOk x.name=false then 5 else if fidx (fun y=>y.name==x.name) m.phases<i then 6 else if isInp m 0 x.top=false then 5 else frst (vlC m x) x.values 0
def phsC (m:MdD):Int:=if m.phases.length>6 then 4 else frst (phC m) m.phases 0
def mcode0 (m:MdD):Int:=orC (if nameOk m.name then 0 else 5) (orC (evhC m) (orC (pgsC m) (orC (frsN (fun k (_:Unit)=>(gtsC m k,())) (m.pages.length+1) 0 ()).1
 (orC (frsN (inP m) (m.pages.length+1) 0 []).1 (orC (if isInp m 0 m.top then 0 else 5) (orC (grsC m) (phsC m)))))))
end Go.PN
namespace Go.AI
section
variable {E : Env} {K : List It} {σ σ' : Sl} {h : Heap} {all l rest : List Oper} {o : Oper}
theorem aw_cgv {f:FuncId} {x:Operand} {xs:List Operand} {ts:Array TypeId} {g:Nat} {ob ob':AObj} {args:List AV} {r:AV} (hf:Fg E.P f g ob (args++[.c (.optr g 0)]) r ob') (hop:o.op=.call {callee:=.value x,args:=xs.toArray,argTypes:=ts}) (hw:wantA all σ o=some true) (hd:dstOk E.N o.dst=true)
  (hx:ev σ x=.c (fnC f [g])) (hg:h.get g=some ob) (le:LeA [] (xs.map (ev σ)) args) (k:aw E (.ops all rest::K) (σ.setO o.dst r) (h.set g ob')):aw E (.ops all (o::rest)::K) σ h:=by
 refine aw_callhv (gs:=[g]) hf hop hw hd hx (hr:=h.del g) (Heap.get_perm hg) le ?_
 rintro _ _ ⟨rfl,rfl⟩ _
 exact aw_perm (Heap.set_perm hg).symm k
end
end Go.AI
namespace Go.Proofs.YteehccacfedolaaGreat
open Go.AI Go.PN
abbrev stO (n:BS):AObj:=.cells 9 1 (ofL [.str (sB n)])
attribute [local irreducible] aw Fa Fh DrK
theorem event1_fg (g:Nat) (n:BS) (x:EvD):Fg Tryz.prog 120 g (stO n) [.agg (evc x),.c (.optr g 0)] (.c (.bool (x.name==n))) (stO n):=by
 unfold Fg
 refine fh_of_body Tryz.func120 rfl rfl (by simp [Tryz.ntmps120]) fun C hC=> ?_
 simp only [initS,Nat.reduceAdd]
 repeat' first|refine yA1 o0 ?_|refine zW o0 ?_|refine yP o0 ?_|refine yN o0 ?_|refine zC o0 (fun hb=>?_) fun hb=>?_|refine zG o0 (fun hb=>?_) fun hb=>?_|refine zD o0 (fun hb=>?_) fun hb=>?_
 refine xB fun g1 hn_g1=>?_
 repeat' first|refine yA1 hn_g1 ?_|refine zW hn_g1 ?_|refine yP hn_g1 ?_|refine yN hn_g1 ?_|refine zC hn_g1 (fun hb=>?_) fun hb=>?_|refine zG hn_g1 (fun hb=>?_) fun hb=>?_|refine zD hn_g1 (fun hb=>?_) fun hb=>?_
 refine aw_rethw (h':=[(g,stO n)]) rfl (by first|exact List.Sublist.refl _|exact .cons _ (.refl _)|exact .cons _ (.cons _ (.refl _))|exact .cons _ (.cons _ (.cons _ (.refl _)))) fun R r=>?_;simp only[go_sem,hn_g1];refine r _ rfl ?_;clear r R
 exact⟨rfl,rfl⟩
theorem eventI_fg (g:Nat) (n:BS) (l:List EvD) (hl:l.length≤1099511627776):Fg Tryz.prog 119 g (stO n) [.c (evs true l),.c (fnC 120 [g])] (.c (.int .i64 (fidx (fun x=>x.name==n) l))) (stO n):=by
 unfold Fg
 refine fh_of_body Tryz.func119 rfl rfl (by simp [Tryz.ntmps119]) fun C hC=> ?_
 simp only [initS,Nat.reduceAdd]
 repeat' first|refine yA1 o0 ?_|refine zW o0 ?_|refine yP o0 ?_|refine yN o0 ?_|refine zC o0 (fun hb=>?_) fun hb=>?_|refine zG o0 (fun hb=>?_) fun hb=>?_|refine zD o0 (fun hb=>?_) fun hb=>?_
 refine aw_lp (fun i:Nat=>[(0,.c (evs true l)),(1,.c (fnC 120 [g])),(4,.c (.int .i64 0)),(7,.c (.int .i64 l.length)),(8,.c (.int .i64 i))]) (fun _=>[(g,stO n)]) (fun i=>i≤l.length∧∀j,j<i→((fun x:EvD=>x.name==n) (l.getD j ev0))=false) (fun i=>l.length-i) 0 eB zZ ⟨Nat.zero_le _,fun j hj=>absurd hj om⟩ ?_
 rintro i ⟨hi,hn⟩
 repeat' first|refine yA1 o0 ?_|refine zW o0 ?_|refine yP o0 ?_|refine yN o0 ?_|refine zC o0 (fun hb=>?_) fun hb=>?_|refine zG o0 (fun hb=>?_) fun hb=>?_|refine zD o0 (fun hb=>?_) fun hb=>?_
 ·have hi':=hb
  have hf:=event1_fg g n (l.getD i ev0)
  refine aw_cgv (args:=[.agg (evc (l.getD i ev0))]) hf rfl rfl rfl eE eE eL ?_
  refine xS ?_
  repeat' first|refine yA1 o0 ?_|refine zW o0 ?_|refine yP o0 ?_|refine yN o0 ?_|refine zC o0 (fun hb=>?_) fun hb=>?_|refine zG o0 (fun hb=>?_) fun hb=>?_|refine zD o0 (fun hb=>?_) fun hb=>?_
  ·rw [fidx_at (p:=fun x:EvD=>x.name==n) ev0 hi' (by simpa using hb) hn]
   refine xU ?_
   exact⟨rfl,rfl⟩
  ·refine aw_stop ⟨i+1,?_⟩
   have hn':∀j,j<i+1→((fun x:EvD=>x.name==n) (l.getD j ev0))=false:=fun j hj=>by
    by_cases e:j=i
    ·subst e;simpa using hb
    ·exact hn j om
   and_intros
   all_goals first|rfl|exact List.Sublist.refl _|exact True.intro|exact hn'|omega
 ·have hf:fidx (fun x=>x.name==n) l= -1:=fidx_no ev0 (fun j hj=>hn j om)
  rw [hf]
  refine xU ?_
  exact⟨rfl,rfl⟩
theorem event_fa (m:MdD) (n:BS) (hl:m.events.length≤1099511627776):Fa Tryz.prog 79 [.agg (mdc true m),.c (.str (sB n))] (.c (.int .i64 (fidx (fun x=>x.name==n) m.events))):=by
 refine fa_of_body Tryz.func79 rfl rfl (by simp [Tryz.ntmps79]) fun C hC=> ?_
 simp only [initS,Nat.reduceAdd]
 repeat' first|refine yA1 o0 ?_|refine zW o0 ?_|refine yP o0 ?_|refine yN o0 ?_|refine zC o0 (fun hb=>?_) fun hb=>?_|refine zG o0 (fun hb=>?_) fun hb=>?_|refine zD o0 (fun hb=>?_) fun hb=>?_
 refine xB fun g1 hn_g1=>?_
 repeat' first|refine yA1 hn_g1 ?_|refine zW hn_g1 ?_|refine yP hn_g1 ?_|refine yN hn_g1 ?_|refine zC hn_g1 (fun hb=>?_) fun hb=>?_|refine zG hn_g1 (fun hb=>?_) fun hb=>?_|refine zD hn_g1 (fun hb=>?_) fun hb=>?_
 refine yB hn_g1 fun g2 hn_g2=>?_
 all_goals try(have Z:=(oj hn_g1 hn_g2);(repeat' first|refine yA1 Z ?_|refine zW Z ?_|refine yP Z ?_|refine yN Z ?_|refine zC Z (fun hb=>?_) fun hb=>?_|refine zG Z (fun hb=>?_) fun hb=>?_|refine zD Z (fun hb=>?_) fun hb=>?_);all_goals clear Z)
 refine aw_makeFunc (gs:=[g2]) rfl rfl rfl (zE (oj hn_g1 hn_g2)) ?_
 have J1:=oj hn_g1 hn_g2
 refine yS J1 ?_
 have hf:=eventI_fg g2 n m.events hl
 all_goals try(have Z:=J1;(repeat' first|refine yA1 Z ?_|(refine zg Z (hf) ?_)|refine zW Z ?_|refine yP Z ?_|refine yN Z ?_|refine zC Z (fun hb=>?_) fun hb=>?_|refine zG Z (fun hb=>?_) fun hb=>?_|refine zD Z (fun hb=>?_) fun hb=>?_);all_goals clear Z)
 refine yT hC J1 ?_
 exact .one (.c (.int _ _))
theorem house1_fg (g:Nat) (n:BS) (x:HsD):Fg Tryz.prog 125 g (stO n) [.agg (hsc x),.c (.optr g 0)] (.c (.bool (x.name==n))) (stO n):=by
 unfold Fg
 refine fh_of_body Tryz.func125 rfl rfl (by simp [Tryz.ntmps125]) fun C hC=> ?_
 simp only [initS,Nat.reduceAdd]
 repeat' first|refine yA1 o0 ?_|refine zW o0 ?_|refine yP o0 ?_|refine yN o0 ?_|refine zC o0 (fun hb=>?_) fun hb=>?_|refine zG o0 (fun hb=>?_) fun hb=>?_|refine zD o0 (fun hb=>?_) fun hb=>?_
 refine xB fun g1 hn_g1=>?_
 repeat' first|refine yA1 hn_g1 ?_|refine zW hn_g1 ?_|refine yP hn_g1 ?_|refine yN hn_g1 ?_|refine zC hn_g1 (fun hb=>?_) fun hb=>?_|refine zG hn_g1 (fun hb=>?_) fun hb=>?_|refine zD hn_g1 (fun hb=>?_) fun hb=>?_
 refine aw_rethw (h':=[(g,stO n)]) rfl (by first|exact List.Sublist.refl _|exact .cons _ (.refl _)|exact .cons _ (.cons _ (.refl _))|exact .cons _ (.cons _ (.cons _ (.refl _)))) fun R r=>?_;simp only[go_sem,hn_g1];refine r _ rfl ?_;clear r R
 exact⟨rfl,rfl⟩
theorem houseI_fg (g:Nat) (n:BS) (l:List HsD) (hl:l.length≤1099511627776):Fg Tryz.prog 124 g (stO n) [.c (hss true l),.c (fnC 125 [g])] (.c (.int .i64 (fidx (fun x=>x.name==n) l))) (stO n):=by
 unfold Fg
 refine fh_of_body Tryz.func124 rfl rfl (by simp [Tryz.ntmps124]) fun C hC=> ?_
 simp only [initS,Nat.reduceAdd]
 repeat' first|refine yA1 o0 ?_|refine zW o0 ?_|refine yP o0 ?_|refine yN o0 ?_|refine zC o0 (fun hb=>?_) fun hb=>?_|refine zG o0 (fun hb=>?_) fun hb=>?_|refine zD o0 (fun hb=>?_) fun hb=>?_
 refine aw_lp (fun i:Nat=>[(0,.c (hss true l)),(1,.c (fnC 125 [g])),(4,.c (.int .i64 0)),(7,.c (.int .i64 l.length)),(8,.c (.int .i64 i))]) (fun _=>[(g,stO n)]) (fun i=>i≤l.length∧∀j,j<i→((fun x:HsD=>x.name==n) (l.getD j hs0))=false) (fun i=>l.length-i) 0 eB zZ ⟨Nat.zero_le _,fun j hj=>absurd hj om⟩ ?_
 rintro i ⟨hi,hn⟩
 repeat' first|refine yA1 o0 ?_|refine zW o0 ?_|refine yP o0 ?_|refine yN o0 ?_|refine zC o0 (fun hb=>?_) fun hb=>?_|refine zG o0 (fun hb=>?_) fun hb=>?_|refine zD o0 (fun hb=>?_) fun hb=>?_
 ·have hi':=hb
  have hf:=house1_fg g n (l.getD i hs0)
  refine aw_cgv (args:=[.agg (hsc (l.getD i hs0))]) hf rfl rfl rfl eE eE eL ?_
  refine xS ?_
  repeat' first|refine yA1 o0 ?_|refine zW o0 ?_|refine yP o0 ?_|refine yN o0 ?_|refine zC o0 (fun hb=>?_) fun hb=>?_|refine zG o0 (fun hb=>?_) fun hb=>?_|refine zD o0 (fun hb=>?_) fun hb=>?_
  ·rw [fidx_at (p:=fun x:HsD=>x.name==n) hs0 hi' (by simpa using hb) hn]
   refine xU ?_
   exact⟨rfl,rfl⟩
  ·refine aw_stop ⟨i+1,?_⟩
   have hn':∀j,j<i+1→((fun x:HsD=>x.name==n) (l.getD j hs0))=false:=fun j hj=>by
    by_cases e:j=i
    ·subst e;simpa using hb
    ·exact hn j om
   and_intros
   all_goals first|rfl|exact List.Sublist.refl _|exact True.intro|exact hn'|omega
 ·have hf:fidx (fun x=>x.name==n) l= -1:=fidx_no hs0 (fun j hj=>hn j om)
  rw [hf]
  refine xU ?_
  exact⟨rfl,rfl⟩
theorem house_fa (m:MdD) (n:BS) (hl:m.houses.length≤1099511627776):Fa Tryz.prog 82 [.agg (mdc true m),.c (.str (sB n))] (.c (.int .i64 (fidx (fun x=>x.name==n) m.houses))):=by
 refine fa_of_body Tryz.func82 rfl rfl (by simp [Tryz.ntmps82]) fun C hC=> ?_
 simp only [initS,Nat.reduceAdd]
 repeat' first|refine yA1 o0 ?_|refine zW o0 ?_|refine yP o0 ?_|refine yN o0 ?_|refine zC o0 (fun hb=>?_) fun hb=>?_|refine zG o0 (fun hb=>?_) fun hb=>?_|refine zD o0 (fun hb=>?_) fun hb=>?_
 refine xB fun g1 hn_g1=>?_
 repeat' first|refine yA1 hn_g1 ?_|refine zW hn_g1 ?_|refine yP hn_g1 ?_|refine yN hn_g1 ?_|refine zC hn_g1 (fun hb=>?_) fun hb=>?_|refine zG hn_g1 (fun hb=>?_) fun hb=>?_|refine zD hn_g1 (fun hb=>?_) fun hb=>?_
 refine yB hn_g1 fun g2 hn_g2=>?_
 all_goals try(have Z:=(oj hn_g1 hn_g2);(repeat' first|refine yA1 Z ?_|refine zW Z ?_|refine yP Z ?_|refine yN Z ?_|refine zC Z (fun hb=>?_) fun hb=>?_|refine zG Z (fun hb=>?_) fun hb=>?_|refine zD Z (fun hb=>?_) fun hb=>?_);all_goals clear Z)
 refine aw_makeFunc (gs:=[g2]) rfl rfl rfl (zE (oj hn_g1 hn_g2)) ?_
 have J1:=oj hn_g1 hn_g2
 refine yS J1 ?_
 have hf:=houseI_fg g2 n m.houses hl
 all_goals try(have Z:=J1;(repeat' first|refine yA1 Z ?_|(refine zg Z (hf) ?_)|refine zW Z ?_|refine yP Z ?_|refine yN Z ?_|refine zC Z (fun hb=>?_) fun hb=>?_|refine zG Z (fun hb=>?_) fun hb=>?_|refine zD Z (fun hb=>?_) fun hb=>?_);all_goals clear Z)
 refine yT hC J1 ?_
 exact .one (.c (.int _ _))
theorem page1_fg (g:Nat) (n:BS) (x:PgD):Fg Tryz.prog 127 g (stO n) [.agg (pgc x),.c (.optr g 0)] (.c (.bool (x.name==n))) (stO n):=by
 unfold Fg
 refine fh_of_body Tryz.func127 rfl rfl (by simp [Tryz.ntmps127]) fun C hC=> ?_
 simp only [initS,Nat.reduceAdd]
 repeat' first|refine yA1 o0 ?_|refine zW o0 ?_|refine yP o0 ?_|refine yN o0 ?_|refine zC o0 (fun hb=>?_) fun hb=>?_|refine zG o0 (fun hb=>?_) fun hb=>?_|refine zD o0 (fun hb=>?_) fun hb=>?_
 refine xB fun g1 hn_g1=>?_
 repeat' first|refine yA1 hn_g1 ?_|refine zW hn_g1 ?_|refine yP hn_g1 ?_|refine yN hn_g1 ?_|refine zC hn_g1 (fun hb=>?_) fun hb=>?_|refine zG hn_g1 (fun hb=>?_) fun hb=>?_|refine zD hn_g1 (fun hb=>?_) fun hb=>?_
 refine aw_rethw (h':=[(g,stO n)]) rfl (by first|exact List.Sublist.refl _|exact .cons _ (.refl _)|exact .cons _ (.cons _ (.refl _))|exact .cons _ (.cons _ (.cons _ (.refl _)))) fun R r=>?_;simp only[go_sem,hn_g1];refine r _ rfl ?_;clear r R
 exact⟨rfl,rfl⟩
theorem pageI_fg (g:Nat) (n:BS) (l:List PgD) (hl:l.length≤1099511627776):Fg Tryz.prog 126 g (stO n) [.c (pgs true l),.c (fnC 127 [g])] (.c (.int .i64 (fidx (fun x=>x.name==n) l))) (stO n):=by
 unfold Fg
 refine fh_of_body Tryz.func126 rfl rfl (by simp [Tryz.ntmps126]) fun C hC=> ?_
 simp only [initS,Nat.reduceAdd]
 repeat' first|refine yA1 o0 ?_|refine zW o0 ?_|refine yP o0 ?_|refine yN o0 ?_|refine zC o0 (fun hb=>?_) fun hb=>?_|refine zG o0 (fun hb=>?_) fun hb=>?_|refine zD o0 (fun hb=>?_) fun hb=>?_
 refine aw_lp (fun i:Nat=>[(0,.c (pgs true l)),(1,.c (fnC 127 [g])),(4,.c (.int .i64 0)),(7,.c (.int .i64 l.length)),(8,.c (.int .i64 i))]) (fun _=>[(g,stO n)]) (fun i=>i≤l.length∧∀j,j<i→((fun x:PgD=>x.name==n) (l.getD j pg0))=false) (fun i=>l.length-i) 0 eB zZ ⟨Nat.zero_le _,fun j hj=>absurd hj om⟩ ?_
 rintro i ⟨hi,hn⟩
 repeat' first|refine yA1 o0 ?_|refine zW o0 ?_|refine yP o0 ?_|refine yN o0 ?_|refine zC o0 (fun hb=>?_) fun hb=>?_|refine zG o0 (fun hb=>?_) fun hb=>?_|refine zD o0 (fun hb=>?_) fun hb=>?_
 ·have hi':=hb
  have hf:=page1_fg g n (l.getD i pg0)
  refine aw_cgv (args:=[.agg (pgc (l.getD i pg0))]) hf rfl rfl rfl eE eE eL ?_
  refine xS ?_
  repeat' first|refine yA1 o0 ?_|refine zW o0 ?_|refine yP o0 ?_|refine yN o0 ?_|refine zC o0 (fun hb=>?_) fun hb=>?_|refine zG o0 (fun hb=>?_) fun hb=>?_|refine zD o0 (fun hb=>?_) fun hb=>?_
  ·rw [fidx_at (p:=fun x:PgD=>x.name==n) pg0 hi' (by simpa using hb) hn]
   refine xU ?_
   exact⟨rfl,rfl⟩
  ·refine aw_stop ⟨i+1,?_⟩
   have hn':∀j,j<i+1→((fun x:PgD=>x.name==n) (l.getD j pg0))=false:=fun j hj=>by
    by_cases e:j=i
    ·subst e;simpa using hb
    ·exact hn j om
   and_intros
   all_goals first|rfl|exact List.Sublist.refl _|exact True.intro|exact hn'|omega
 ·have hf:fidx (fun x=>x.name==n) l= -1:=fidx_no pg0 (fun j hj=>hn j om)
  rw [hf]
  refine xU ?_
  exact⟨rfl,rfl⟩
theorem page_fa (m:MdD) (n:BS) (hl:m.pages.length≤1099511627776):Fa Tryz.prog 83 [.agg (mdc true m),.c (.str (sB n))] (.c (.int .i64 (fidx (fun x=>x.name==n) m.pages))):=by
 refine fa_of_body Tryz.func83 rfl rfl (by simp [Tryz.ntmps83]) fun C hC=> ?_
 simp only [initS,Nat.reduceAdd]
 repeat' first|refine yA1 o0 ?_|refine zW o0 ?_|refine yP o0 ?_|refine yN o0 ?_|refine zC o0 (fun hb=>?_) fun hb=>?_|refine zG o0 (fun hb=>?_) fun hb=>?_|refine zD o0 (fun hb=>?_) fun hb=>?_
 refine xB fun g1 hn_g1=>?_
 repeat' first|refine yA1 hn_g1 ?_|refine zW hn_g1 ?_|refine yP hn_g1 ?_|refine yN hn_g1 ?_|refine zC hn_g1 (fun hb=>?_) fun hb=>?_|refine zG hn_g1 (fun hb=>?_) fun hb=>?_|refine zD hn_g1 (fun hb=>?_) fun hb=>?_
 refine yB hn_g1 fun g2 hn_g2=>?_
 all_goals try(have Z:=(oj hn_g1 hn_g2);(repeat' first|refine yA1 Z ?_|refine zW Z ?_|refine yP Z ?_|refine yN Z ?_|refine zC Z (fun hb=>?_) fun hb=>?_|refine zG Z (fun hb=>?_) fun hb=>?_|refine zD Z (fun hb=>?_) fun hb=>?_);all_goals clear Z)
 refine aw_makeFunc (gs:=[g2]) rfl rfl rfl (zE (oj hn_g1 hn_g2)) ?_
 have J1:=oj hn_g1 hn_g2
 refine yS J1 ?_
 have hf:=pageI_fg g2 n m.pages hl
 all_goals try(have Z:=J1;(repeat' first|refine yA1 Z ?_|(refine zg Z (hf) ?_)|refine zW Z ?_|refine yP Z ?_|refine yN Z ?_|refine zC Z (fun hb=>?_) fun hb=>?_|refine zG Z (fun hb=>?_) fun hb=>?_|refine zD Z (fun hb=>?_) fun hb=>?_);all_goals clear Z)
 refine yT hC J1 ?_
 exact .one (.c (.int _ _))
theorem gate1_fg (g:Nat) (n:BS) (x:GtD):Fg Tryz.prog 129 g (stO n) [.agg (gtc x),.c (.optr g 0)] (.c (.bool (x.name==n))) (stO n):=by
 unfold Fg
 refine fh_of_body Tryz.func129 rfl rfl (by simp [Tryz.ntmps129]) fun C hC=> ?_
 simp only [initS,Nat.reduceAdd]
 repeat' first|refine yA1 o0 ?_|refine zW o0 ?_|refine yP o0 ?_|refine yN o0 ?_|refine zC o0 (fun hb=>?_) fun hb=>?_|refine zG o0 (fun hb=>?_) fun hb=>?_|refine zD o0 (fun hb=>?_) fun hb=>?_
 refine xB fun g1 hn_g1=>?_
 repeat' first|refine yA1 hn_g1 ?_|refine zW hn_g1 ?_|refine yP hn_g1 ?_|refine yN hn_g1 ?_|refine zC hn_g1 (fun hb=>?_) fun hb=>?_|refine zG hn_g1 (fun hb=>?_) fun hb=>?_|refine zD hn_g1 (fun hb=>?_) fun hb=>?_
 refine aw_rethw (h':=[(g,stO n)]) rfl (by first|exact List.Sublist.refl _|exact .cons _ (.refl _)|exact .cons _ (.cons _ (.refl _))|exact .cons _ (.cons _ (.cons _ (.refl _)))) fun R r=>?_;simp only[go_sem,hn_g1];refine r _ rfl ?_;clear r R
 exact⟨rfl,rfl⟩
theorem gateI_fg (g:Nat) (n:BS) (l:List GtD) (hl:l.length≤1099511627776):Fg Tryz.prog 128 g (stO n) [.c (gts true l),.c (fnC 129 [g])] (.c (.int .i64 (fidx (fun x=>x.name==n) l))) (stO n):=by
 unfold Fg
 refine fh_of_body Tryz.func128 rfl rfl (by simp [Tryz.ntmps128]) fun C hC=> ?_
 simp only [initS,Nat.reduceAdd]
 repeat' first|refine yA1 o0 ?_|refine zW o0 ?_|refine yP o0 ?_|refine yN o0 ?_|refine zC o0 (fun hb=>?_) fun hb=>?_|refine zG o0 (fun hb=>?_) fun hb=>?_|refine zD o0 (fun hb=>?_) fun hb=>?_
 refine aw_lp (fun i:Nat=>[(0,.c (gts true l)),(1,.c (fnC 129 [g])),(4,.c (.int .i64 0)),(7,.c (.int .i64 l.length)),(8,.c (.int .i64 i))]) (fun _=>[(g,stO n)]) (fun i=>i≤l.length∧∀j,j<i→((fun x:GtD=>x.name==n) (l.getD j gt0))=false) (fun i=>l.length-i) 0 eB zZ ⟨Nat.zero_le _,fun j hj=>absurd hj om⟩ ?_
 rintro i ⟨hi,hn⟩
 repeat' first|refine yA1 o0 ?_|refine zW o0 ?_|refine yP o0 ?_|refine yN o0 ?_|refine zC o0 (fun hb=>?_) fun hb=>?_|refine zG o0 (fun hb=>?_) fun hb=>?_|refine zD o0 (fun hb=>?_) fun hb=>?_
 ·have hi':=hb
  have hf:=gate1_fg g n (l.getD i gt0)
  refine aw_cgv (args:=[.agg (gtc (l.getD i gt0))]) hf rfl rfl rfl eE eE eL ?_
  refine xS ?_
  repeat' first|refine yA1 o0 ?_|refine zW o0 ?_|refine yP o0 ?_|refine yN o0 ?_|refine zC o0 (fun hb=>?_) fun hb=>?_|refine zG o0 (fun hb=>?_) fun hb=>?_|refine zD o0 (fun hb=>?_) fun hb=>?_
  ·rw [fidx_at (p:=fun x:GtD=>x.name==n) gt0 hi' (by simpa using hb) hn]
   refine xU ?_
   exact⟨rfl,rfl⟩
  ·refine aw_stop ⟨i+1,?_⟩
   have hn':∀j,j<i+1→((fun x:GtD=>x.name==n) (l.getD j gt0))=false:=fun j hj=>by
    by_cases e:j=i
    ·subst e;simpa using hb
    ·exact hn j om
   and_intros
   all_goals first|rfl|exact List.Sublist.refl _|exact True.intro|exact hn'|omega
 ·have hf:fidx (fun x=>x.name==n) l= -1:=fidx_no gt0 (fun j hj=>hn j om)
  rw [hf]
  refine xU ?_
  exact⟨rfl,rfl⟩
theorem gate_fa (l:List GtD) (n:BS) (hl:l.length≤1099511627776):Fa Tryz.prog 85 [.c (gts true l),.c (.str (sB n))] (.c (.int .i64 (gtI l n))):=by
 refine fa_of_body Tryz.func85 rfl rfl (by simp [Tryz.ntmps85]) fun C hC=> ?_
 simp only [initS,Nat.reduceAdd]
 repeat' first|refine yA1 o0 ?_|refine zW o0 ?_|refine yP o0 ?_|refine yN o0 ?_|refine zC o0 (fun hb=>?_) fun hb=>?_|refine zG o0 (fun hb=>?_) fun hb=>?_|refine zD o0 (fun hb=>?_) fun hb=>?_
 refine xB fun g2 hn_g2=>?_
 repeat' first|refine yA1 hn_g2 ?_|refine zW hn_g2 ?_|refine yP hn_g2 ?_|refine yN hn_g2 ?_|refine zC hn_g2 (fun hb=>?_) fun hb=>?_|refine zG hn_g2 (fun hb=>?_) fun hb=>?_|refine zD hn_g2 (fun hb=>?_) fun hb=>?_
 refine aw_makeFunc (gs:=[g2]) rfl rfl rfl (zE hn_g2) ?_
 refine yS hn_g2 ?_
 have hf:=gateI_fg g2 n l hl
 repeat' first|refine yA1 hn_g2 ?_|(refine zg hn_g2 (hf) ?_)|refine zW hn_g2 ?_|refine yP hn_g2 ?_|refine yN hn_g2 ?_|refine zC hn_g2 (fun hb=>?_) fun hb=>?_|refine zG hn_g2 (fun hb=>?_) fun hb=>?_|refine zD hn_g2 (fun hb=>?_) fun hb=>?_
 refine yT hC hn_g2 ?_
 exact .one (.c (.int _ _))
end Go.Proofs.YteehccacfedolaaGreat
namespace Go.PN
open Go.AI
theorem RD.wf.mono {r:RD} {a b:Nat} (h:r.wf a) (hab:a≤b):r.wf b:=by
 exact⟨h.1,h.2.1,Nat.le_trans h.2.2.1 hab,Nat.le_trans h.2.2.2 hab⟩
end Go.PN
namespace Go.Proofs.YteehccacfedolaaGreat
open Go.AI Go.PN
attribute [local irreducible] aw Fa Fh DrK
theorem rate_fa (r:RD) (hw:r.wf 1073741824):Fa Tryz.prog 81 [.agg (rdc r)] (.c (.bool (rateB r))):=by
 have f1:=rvalid_fa r (hw.mono (by decide))
 have f2:=rsign_fa r hw
 unfold rateB
 refine fa_of_body Tryz.func81 rfl rfl (by simp [Tryz.ntmps81]) fun C hC=> ?_
 simp only [initS,Nat.reduceAdd]
 repeat' first|refine yA1 o0 ?_|refine zW o0 ?_|refine yP o0 ?_|refine yN o0 ?_|refine zC o0 (fun hb=>?_) fun hb=>?_|refine zG o0 (fun hb=>?_) fun hb=>?_|refine zD o0 (fun hb=>?_) fun hb=>?_
 refine xB fun g1 hn_g1=>?_
 repeat' first|refine yA1 hn_g1 ?_|(refine yC2 hn_g1 (f1) ?_)|(refine yD2 hn_g1 (f1) ?_)|(refine yC2 hn_g1 (f2) ?_)|(refine yD2 hn_g1 (f2) ?_)|refine zW hn_g1 ?_|refine yP hn_g1 ?_|refine yN hn_g1 ?_|refine zC hn_g1 (fun hb=>?_) fun hb=>?_|refine zG hn_g1 (fun hb=>?_) fun hb=>?_|refine zD hn_g1 (fun hb=>?_) fun hb=>?_
 all_goals
  refine yT hC hn_g1 ?_
  refine .one (.c (ler_bool ?_))
  simp [hb]
theorem must_fa (x:GtD) (j:Nat) (hj:j≤1099511627776):Fa Tryz.prog 87 [.agg (gtc x),.c (.int .i64 j)] (.c (.bool (mustE x j))):=by
 unfold mustE
 refine fa_of_body Tryz.func87 rfl rfl (by simp [Tryz.ntmps87]) fun C hC=> ?_
 simp only [initS,Nat.reduceAdd]
 repeat' first|refine yA1 o0 ?_|refine zW o0 ?_|refine yP o0 ?_|refine yN o0 ?_|refine zC o0 (fun hb=>?_) fun hb=>?_|refine zG o0 (fun hb=>?_) fun hb=>?_|refine zD o0 (fun hb=>?_) fun hb=>?_
 refine xB fun g1 hn_g1=>?_
 repeat' first|refine yA1 hn_g1 ?_|refine zW hn_g1 ?_|refine yP hn_g1 ?_|refine yN hn_g1 ?_|refine zC hn_g1 (fun hb=>?_) fun hb=>?_|refine zG hn_g1 (fun hb=>?_) fun hb=>?_|refine zD hn_g1 (fun hb=>?_) fun hb=>?_
 all_goals
  refine yT hC hn_g1 ?_
  refine .one (.c (ler_bool ?_))
  simp_all
theorem minp_fa (k:Int) (n:Nat) (hn:n≤1099511627776):Fa Tryz.prog 130 [.c (.int .i64 k),.c (.int .i64 n)] (.c (.bool (inpB k n))):=by
 unfold inpB
 refine fa_of_body Tryz.func130 rfl rfl (by simp [Tryz.ntmps130]) fun C hC=> ?_
 simp only [initS,Nat.reduceAdd]
 repeat' first|refine yA1 o0 ?_|refine zW o0 ?_|refine yP o0 ?_|refine yN o0 ?_|refine zC o0 (fun hb=>?_) fun hb=>?_|refine zG o0 (fun hb=>?_) fun hb=>?_|refine zD o0 (fun hb=>?_) fun hb=>?_
 all_goals first
  |(exfalso;omega)
  |(refine xT hC ?_
    refine .one (.c (ler_bool ?_))
    simp_all<;>omega)
theorem mzero_fa (r:RD) (hw:r.wf 1073741824):Fa Tryz.prog 131 [.agg (rdc r)] (.c (.bool (zeroB r))):=by
 unfold zeroB
 obtain⟨w1,w2⟩:r.num.length≤1073741824∧r.den.length≤1073741824:=⟨hw.2.2.1,hw.2.2.2⟩
 refine fa_of_body Tryz.func131 rfl rfl (by simp [Tryz.ntmps131]) fun C hC=> ?_
 simp only [initS,Nat.reduceAdd]
 repeat' first|refine yA1 o0 ?_|refine zW o0 ?_|refine yP o0 ?_|refine yN o0 ?_|refine zC o0 (fun hb=>?_) fun hb=>?_|refine zG o0 (fun hb=>?_) fun hb=>?_|refine zD o0 (fun hb=>?_) fun hb=>?_
 refine xB fun g1 hn_g1=>?_
 repeat' first|refine yA1 hn_g1 ?_|refine zW hn_g1 ?_|refine yP hn_g1 ?_|refine yN hn_g1 ?_|refine zC hn_g1 (fun hb=>?_) fun hb=>?_|refine zG hn_g1 (fun hb=>?_) fun hb=>?_|refine zD hn_g1 (fun hb=>?_) fun hb=>?_
 all_goals
  refine yT hC hn_g1 ?_
  refine .one (.c (ler_bool ?_))
  simp_all
theorem gatesOf_fa (m:MdD) (k:Nat) (hk:k≤m.pages.length) (hl:m.pages.length≤1099511627776):Fa Tryz.prog 84 [.agg (mdc true m),.c (.int .i64 ((k:Int)-1))] (.c (gts true (gtsK m k))):=by
 refine fa_of_body Tryz.func84 rfl rfl (by simp [Tryz.ntmps84]) fun C hC=> ?_
 simp only [initS,Nat.reduceAdd]
 repeat' first|refine yA1 o0 ?_|refine zW o0 ?_|refine yP o0 ?_|refine yN o0 ?_|refine zC o0 (fun hb=>?_) fun hb=>?_|refine zG o0 (fun hb=>?_) fun hb=>?_|refine zD o0 (fun hb=>?_) fun hb=>?_
 refine xB fun g1 hn_g1=>?_
 repeat' first|refine yA1 hn_g1 ?_|refine zW hn_g1 ?_|refine yP hn_g1 ?_|refine yN hn_g1 ?_|refine zC hn_g1 (fun hb=>?_) fun hb=>?_|refine zG hn_g1 (fun hb=>?_) fun hb=>?_|refine zD hn_g1 (fun hb=>?_) fun hb=>?_
 ·have h0:k=0:=by omega
  subst h0
  refine yT hC hn_g1 ?_
  exact .one (.c ler_gts)
 ·obtain⟨j,rfl⟩:∃j,k=j+1:=⟨k-1,by omega⟩
  refine yT hC hn_g1 ?_
  exact .one (.c ler_gts)
theorem ler_errE {h:Heap} {T:TypeId} {n c:Int} (e:c=n) (h0:n≠0):LeR h (.ifc T (.int .i64 n)) (errC T c):=ler_errN e.symm (by rw [e];exact h0)
theorem fidx_mem (n:BS):∀l:List BS,decide (fidx (fun x=>n==x) l≥0)=l.contains n
 |[]=>rfl
 |x::l=>by
  have ih:=fidx_mem n l
  rw [List.contains_cons,←ih]
  have hg:=fidx_ge (fun x=>n==x) l
  show decide ((if(n==x)=true then(0:Int) else if fidx (fun x=>n==x) l<0 then-1 else fidx (fun x=>n==x) l+1)≥0)=(n==x||decide (fidx (fun x=>n==x) l≥0))
  cases h:(n==x) with
  |true=>rfl
  |false=>
   rw [if_neg (by simp),Bool.false_or]
   by_cases h2:fidx (fun x=>n==x) l<0
   ·have a:¬fidx (fun x=>n==x) l≥0:=by omega
    rw [if_pos h2,decide_eq_false a];rfl
   ·have a:fidx (fun x=>n==x) l≥0:=by omega
    have b:fidx (fun x=>n==x) l+1≥0:=by omega
    rw [if_neg h2,decide_eq_true a,decide_eq_true b]
theorem checkGate_fa (x:GtD) (hw:x.dorm.wf 1073741824) (hl:x.inputs.length≤1099511627776):Fa Tryz.prog 86 [.agg (gtc x)] (.c (errA (shpC x))):=by
 have f1:=minp_fa x.kind x.inputs.length hl
 have f2:=rprob_fa x.dorm hw
 have f3:=mzero_fa x.dorm hw
 refine fa_of_body Tryz.func86 rfl rfl (by simp [Tryz.ntmps86]) fun C hC=> ?_
 simp only [initS,Nat.reduceAdd]
 repeat' first|refine yA1 o0 ?_|refine zW o0 ?_|refine yP o0 ?_|refine yN o0 ?_|refine zC o0 (fun hb=>?_) fun hb=>?_|refine zG o0 (fun hb=>?_) fun hb=>?_|refine zD o0 (fun hb=>?_) fun hb=>?_
 refine xB fun g1 hn_g1=>?_
 repeat' first|refine yA1 hn_g1 ?_|(refine yC2 hn_g1 (f1) ?_)|(refine yD2 hn_g1 (f1) ?_)|(refine yC2 hn_g1 (f2) ?_)|(refine yD2 hn_g1 (f2) ?_)|(refine yC2 hn_g1 (f3) ?_)|(refine yD2 hn_g1 (f3) ?_)|refine zW hn_g1 ?_|refine yP hn_g1 ?_|refine yN hn_g1 ?_|refine zC hn_g1 (fun hb=>?_) fun hb=>?_|refine zG hn_g1 (fun hb=>?_) fun hb=>?_|refine zD hn_g1 (fun hb=>?_) fun hb=>?_
 all_goals first
  |(exfalso;omega)
  |(refine yT hC hn_g1 ?_
    first
     |(refine .one (.c (ler_errE (c:=shpC x) ?_ (by decide)))
       unfold shpC
       repeat' split
       all_goals first|rfl|(exfalso;simp_all;done)|(exfalso;simp_all;omega))
     |(refine .one (.c (ler_err0 (c:=shpC x) ?_))
       unfold shpC
       repeat' split
       all_goals first|rfl|(exfalso;simp_all;done)|(exfalso;simp_all;omega)))
structure MdOk (m:MdD):Prop where
 ev:m.events.length≤1099511627776
 hs:m.houses.length≤1099511627776
 gt:m.gates.length≤1099511627776
 pg:m.pages.length≤1099511627776
 pgt:∀p∈m.pages,p.gates.length≤1099511627776
theorem isInput_fa (m:MdD) (k:Nat) (n:BS) (hk:k≤m.pages.length) (hm:MdOk m) (hg:(gtsK m k).length≤1099511627776) (hn:n.length≤1099511627776):Fa Tryz.prog 45 [.agg (mdc true m),.c (.int .i64 ((k:Int)-1)),.c (.str (sB n))] (.c (.bool (isInp m k n))):=by
 have f1:=event_fa m n hm.ev
 have f2:=house_fa m n hm.hs
 have f3:=page_fa m (cutS n 1 n.length) hm.pg
 have f4:=gatesOf_fa m k hk hm.pg
 have f5:=gate_fa (gtsK m k) n hg
 refine fa_of_body Tryz.func45 rfl rfl (by simp [Tryz.ntmps45]) fun C hC=> ?_
 simp only [initS,Nat.reduceAdd]
 repeat' first|refine yA1 o0 ?_|refine zW o0 ?_|refine yP o0 ?_|refine yN o0 ?_|refine zC o0 (fun hb=>?_) fun hb=>?_|refine zG o0 (fun hb=>?_) fun hb=>?_|refine zD o0 (fun hb=>?_) fun hb=>?_
 refine xB fun g1 hn_g1=>?_
 repeat' first|refine yA1 hn_g1 ?_|(refine yC2 hn_g1 (f1) ?_)|(refine yD2 hn_g1 (f1) ?_)|(refine yC2 hn_g1 (f2) ?_)|(refine yD2 hn_g1 (f2) ?_)|(refine yC2 hn_g1 (f3) ?_)|(refine yD2 hn_g1 (f3) ?_)|(refine yC2 hn_g1 (f4) ?_)|(refine yD2 hn_g1 (f4) ?_)|(refine yC2 hn_g1 (f5) ?_)|(refine yD2 hn_g1 (f5) ?_)|refine zW hn_g1 ?_|refine yP hn_g1 ?_|refine yN hn_g1 ?_|refine zC hn_g1 (fun hb=>?_) fun hb=>?_|refine zG hn_g1 (fun hb=>?_) fun hb=>?_|refine zD hn_g1 (fun hb=>?_) fun hb=>?_
 ·rename_i h0
  refine aw_dr 6 ty_mixed (by kernel_rfl) ?_
  repeat' first|refine yA1 hn_g1 ?_|(refine yC2 hn_g1 (f3) ?_)|(refine yD2 hn_g1 (f3) ?_)|refine zW hn_g1 ?_|refine yP hn_g1 ?_|refine yN hn_g1 ?_|refine zC hn_g1 (fun hb=>?_) fun hb=>?_|refine zG hn_g1 (fun hb=>?_) fun hb=>?_|refine zD hn_g1 (fun hb=>?_) fun hb=>?_
  rw [cutS_drop]
  rw [show isInp m k n=decide (pgI m (n.drop 1)≥0) from if_pos ⟨h0,hb⟩]
  refine yT hC hn_g1 ?_
  exact .one (.c (.bool _))
 all_goals
  clear f1 f2 f3 f4 f5
  refine yT hC hn_g1 ?_
  refine .one (.c (ler_bool ?_))
  unfold isInp evI hsI
  simp_all<;>omega
end Go.Proofs.YteehccacfedolaaGreat
namespace Go.PN
open Go.AI
theorem frst_ret {α:Type} {f:Nat→α→Int} {l:List α} {d:α} {i:Nat} {F:Int} (h:frst f (l.drop i) i=F) (hi:i<l.length) {c:Int} (hc:f i (l.getD i d)=c) (h0:c≠0):F=c:=by
 rw [frst_step d hi,hc,if_neg h0] at h
 exact h.symm
theorem frst_go {α:Type} {f:Nat→α→Int} {l:List α} {d:α} {i:Nat} {F:Int} (h:frst f (l.drop i) i=F) (hi:i<l.length) (hc:f i (l.getD i d)=0):frst f (l.drop (i+1)) (i+1)=F:=by
 rw [frst_step d hi,hc,if_pos rfl] at h
 exact h
theorem frst_fin {α:Type} {f:Nat→α→Int} {l:List α} {i:Nat} {F:Int} (h:frst f (l.drop i) i=F) (hi:¬i<l.length):F=0:=by
 rw [frst_end hi] at h
 exact h.symm
structure MdWf (m:MdD):Prop where
 nm:m.name.length≤1099511627776
 ev:∀i,(m.events.getD i ev0).name.length≤1099511627776∧(m.events.getD i ev0).p.wf 1073741824∧(m.events.getD i ev0).fail.wf 1073741824∧(m.events.getD i ev0).rep.wf 1073741824
 hs:∀i,(m.houses.getD i hs0).name.length≤1099511627776
end Go.PN
namespace Go.Proofs.YteehccacfedolaaGreat
open Go.AI Go.PN
attribute [local irreducible] aw Fa Fh DrK
theorem checkEvents_fa (m:MdD) (hm:MdOk m) (hw:MdWf m):Fa Tryz.prog 41 [.agg (mdc true m)] (.c (errA (evhC m))):=by
 refine fa_of_body Tryz.func41 rfl rfl (by simp [Tryz.ntmps41]) fun C hC=> ?_
 simp only [initS,Nat.reduceAdd]
 repeat' first|refine yA1 o0 ?_|refine zW o0 ?_|refine yP o0 ?_|refine yN o0 ?_|refine zC o0 (fun hb=>?_) fun hb=>?_|refine zG o0 (fun hb=>?_) fun hb=>?_|refine zD o0 (fun hb=>?_) fun hb=>?_
 refine xB fun g1 hn_g1=>?_
 repeat' first|refine yA1 hn_g1 ?_|refine zW hn_g1 ?_|refine yP hn_g1 ?_|refine yN hn_g1 ?_|refine zC hn_g1 (fun hb=>?_) fun hb=>?_|refine zG hn_g1 (fun hb=>?_) fun hb=>?_|refine zD hn_g1 (fun hb=>?_) fun hb=>?_
 ·refine yT hC hn_g1 ?_
  exact .one (.c (ler_errE (by unfold evhC;rw [if_pos om]) (by decide)))
 have he:¬m.events.length>24:=by omega
 generalize hF:frst (evC m) m.events 0=F
 have hl1:=hm.ev
 have hl2:=hm.hs
 refine aw_lp (fun i:Nat=>[(1,.c (.optr g1 0)),(2,.c .nilI),(13,.c (evs true m.events)),(14,.c (.int .i64 m.events.length)),(15,.c (.int .i64 i))]) (fun _=>[(g1,.cells 30 8 (ofL (mdc true m)))]) (fun i=>i≤m.events.length∧frst (evC m) (m.events.drop i) i=F) (fun i=>m.events.length-i) 0 (zB hn_g1) zZ ⟨Nat.zero_le _,hF⟩ ?_
 rintro i ⟨hi,hlp⟩
 repeat' first|refine yA1 hn_g1 ?_|refine zW hn_g1 ?_|refine yP hn_g1 ?_|refine yN hn_g1 ?_|refine zC hn_g1 (fun hb=>?_) fun hb=>?_|refine zG hn_g1 (fun hb=>?_) fun hb=>?_|refine zD hn_g1 (fun hb=>?_) fun hb=>?_
 ·obtain⟨w0,w1,w2,w3⟩:=hw.ev i
  have hi':=hb
  have hR:∀c,evC m i (m.events.getD i ev0)=c→c≠0→evhC m=c:=fun c hc h0=>by
   have:=frst_ret hlp hi' hc h0
   unfold evhC orC
   rw [if_neg he,hF,this,if_neg h0]
  have hG:=frst_go (d:=ev0) hlp hi'
  generalize hx:m.events.getD i ev0=x at*
  have f1:Fa Tryz.prog 40 [.c (.str (sB x.name))] (.c (.bool (nameOk x.name))):=tname_fa x.name w0
  have f2:=event_fa m x.name hl1
  have f3:=rprob_fa x.p w1
  have f4:=rate_fa x.fail w2
  have f5:=rate_fa x.rep w3
  refine yA hn_g1 fun g4 hn_g4=>?_
  all_goals try(have Z:=(oj hn_g1 hn_g4);(repeat' first|refine yA1 Z ?_|(refine yC2 Z (f1) ?_)|(refine yD2 Z (f1) ?_)|(refine yC2 Z (f2) ?_)|(refine yD2 Z (f2) ?_)|(refine yC2 Z (f3) ?_)|(refine yD2 Z (f3) ?_)|(refine yC2 Z (f4) ?_)|(refine yD2 Z (f4) ?_)|(refine yC2 Z (f5) ?_)|(refine yD2 Z (f5) ?_)|refine zW Z ?_|refine yP Z ?_|refine yN Z ?_|refine zC Z (fun hb=>?_) fun hb=>?_|refine zG Z (fun hb=>?_) fun hb=>?_|refine zD Z (fun hb=>?_) fun hb=>?_);all_goals clear Z)
  all_goals clear f1 f2 f3 f4 f5
  all_goals first
   |(refine yT hC (oj hn_g1 hn_g4) ?_
     refine .one (.c (ler_errE (c:=evhC m) (hR _ ?_ (by decide)) (by decide)))
     clear hR hG hlp hF hx
     unfold evC evI
     repeat' split
     all_goals first|rfl|(exfalso;simp_all;done)|(exfalso;simp_all;omega))
   |(refine aw_stop ⟨i+1,?_⟩
     have hz:evC m i x=0:=by
      clear hR hG hlp hF hx
      unfold evC evI
      repeat' split
      all_goals first|rfl|(exfalso;simp_all;done)|(exfalso;simp_all;omega)
     and_intros
     all_goals first|rfl|exact List.Sublist.refl _|exact List.sublist_cons_self _ _|exact True.intro|exact hG hz|omega)
 ·rename_i hi0
  have hF0:=frst_fin hlp hi0
  subst hF0
  refine yT hC hn_g1 ?_
  refine .one (.c (ler_errE (c:=evhC m) ?_ (by decide)))
  unfold evhC orC
  rw [if_neg he,hF,if_pos rfl,if_pos om]
 rename_i hi0
 have hF0:=frst_fin hlp hi0
 subst hF0
 have hh:¬m.houses.length>16:=by omega
 have he2:evhC m=frst (hsC m) m.houses 0:=by
  unfold evhC orC
  rw [if_neg he,hF,if_pos rfl,if_neg hh]
 clear hlp hi0 hi hF
 generalize hF:frst (hsC m) m.houses 0=F at he2
 refine aw_lp (fun i:Nat=>[(1,.c (.optr g1 0)),(2,.c .nilI),(69,.c (hss true m.houses)),(70,.c (.int .i64 m.houses.length)),(71,.c (.int .i64 i))]) (fun _=>[(g1,.cells 30 8 (ofL (mdc true m)))]) (fun i=>i≤m.houses.length∧frst (hsC m) (m.houses.drop i) i=F) (fun i=>m.houses.length-i) 0 (zB hn_g1) zZ ⟨Nat.zero_le _,hF⟩ ?_
 rintro i ⟨hi,hlp⟩
 repeat' first|refine yA1 hn_g1 ?_|refine zW hn_g1 ?_|refine yP hn_g1 ?_|refine yN hn_g1 ?_|refine zC hn_g1 (fun hb=>?_) fun hb=>?_|refine zG hn_g1 (fun hb=>?_) fun hb=>?_|refine zD hn_g1 (fun hb=>?_) fun hb=>?_
 ·have w0:=hw.hs i
  have hi':=hb
  have hR:∀c,hsC m i (m.houses.getD i hs0)=c→c≠0→evhC m=c:=fun c hc h0=>by
   rw [he2];exact frst_ret hlp hi' hc h0
  have hG:=frst_go (d:=hs0) hlp hi'
  generalize hx:m.houses.getD i hs0=x at*
  have f1:Fa Tryz.prog 40 [.c (.str (sB x.name))] (.c (.bool (nameOk x.name))):=tname_fa x.name w0
  have f2:=event_fa m x.name hl1
  have f3:=house_fa m x.name hl2
  refine yA hn_g1 fun g4 hn_g4=>?_
  all_goals try(have Z:=(oj hn_g1 hn_g4);(repeat' first|refine yA1 Z ?_|(refine yC2 Z (f1) ?_)|(refine yD2 Z (f1) ?_)|(refine yC2 Z (f2) ?_)|(refine yD2 Z (f2) ?_)|(refine yC2 Z (f3) ?_)|(refine yD2 Z (f3) ?_)|refine zW Z ?_|refine yP Z ?_|refine yN Z ?_|refine zC Z (fun hb=>?_) fun hb=>?_|refine zG Z (fun hb=>?_) fun hb=>?_|refine zD Z (fun hb=>?_) fun hb=>?_);all_goals clear Z)
  all_goals clear f1 f2 f3
  all_goals first
   |(refine yT hC (oj hn_g1 hn_g4) ?_
     refine .one (.c (ler_errE (c:=evhC m) (hR _ ?_ (by decide)) (by decide)))
     clear hR hG hlp hF hx
     unfold hsC evI hsI
     repeat' split
     all_goals first|rfl|(exfalso;simp_all;done)|(exfalso;simp_all;omega))
   |(refine aw_stop ⟨i+1,?_⟩
     have hz:hsC m i x=0:=by
      clear hR hG hlp hF hx
      unfold hsC evI hsI
      repeat' split
      all_goals first|rfl|(exfalso;simp_all;done)|(exfalso;simp_all;omega)
     and_intros
     all_goals first|rfl|exact List.Sublist.refl _|exact List.sublist_cons_self _ _|exact True.intro|exact hG hz|omega)
 ·have hF0:=frst_fin hlp hb
  subst hF0
  refine yT hC hn_g1 ?_
  exact .one (.c (ler_err0 he2))
end Go.Proofs.YteehccacfedolaaGreat
namespace Go.PN
open Go.AI
structure MdWf2 (m:MdD):Prop where
 pg:∀i,(m.pages.getD i pg0).name.length≤1099511627776∧(m.pages.getD i pg0).gates.length≤1048576
 gl:m.gates.length≤1048576
 pl:m.pages.length≤1048576
 gt:∀k i,((gtsK m k).getD i gt0).name.length≤1099511627776∧((gtsK m k).getD i gt0).dorm.wf 1073741824∧((gtsK m k).getD i gt0).inputs.length≤1099511627776
theorem gtsK_len {m:MdD} (h:MdWf2 m) (k:Nat):(gtsK m k).length≤1048576:=match k with
 |0=>h.gl
 |k+1=>(h.pg k).2
def pgS (l:List PgD):Nat:=(l.map fun p=>p.gates.length).sum
theorem pgS_le {l:List PgD} (h:∀i,(l.getD i pg0).gates.length≤1048576):pgS l≤l.length*1048576:=by
 induction l with
 |nil=>exact Nat.zero_le _
 |cons p l ih=>
  have h0:=h 0
  have:=ih fun i=>h (i+1)
  show p.gates.length+pgS l≤_
  rw [List.length_cons]
  have h1:p.gates.length≤1048576:=h0
  omega
theorem pgS_take {l:List PgD} {i:Nat} (h:i<l.length):pgS (l.take (i+1))=pgS (l.take i)+(l.getD i pg0).gates.length:=by
 have e:l.getD i pg0=l[i]:=by rw [List.getD_eq_getElem?_getD,List.getElem?_eq_getElem h];rfl
 rw [List.take_succ_eq_append_getElem h,e]
 unfold pgS
 rw [List.map_append,List.sum_append]
 simp
end Go.PN
namespace Go.Proofs.YteehccacfedolaaGreat
open Go.AI Go.PN
attribute [local irreducible] aw Fa Fh DrK
theorem checkPages_fa (m:MdD) (hm:MdOk m) (hw:MdWf2 m):Fa Tryz.prog 42 [.agg (mdc true m)] (.c (errA (pgsC m))):=by
 have hgl:=hw.gl
 have hpl:=hw.pl
 have hP:∀i,i≤m.pages.length→pgS (m.pages.take i)≤1099511627776:=fun i hi=>by
  have h1:∀j,((m.pages.take i).getD j pg0).gates.length≤1048576:=fun j=>by
   by_cases hj:j<i
   ·have:=(hw.pg j).2
    rw [List.getD_eq_getElem?_getD,List.getElem?_take_of_lt hj,←List.getD_eq_getElem?_getD];exact this
   ·rw [List.getD_eq_getElem?_getD,List.getElem?_take_eq_none om];exact Nat.zero_le _
  have h2:=pgS_le h1
  rw [List.length_take] at h2
  have:min i m.pages.length≤1048576:=by omega
  calc _≤_:=h2
   _≤1048576*1048576:=Nat.mul_le_mul_right _ this
 refine fa_of_body Tryz.func42 rfl rfl (by simp [Tryz.ntmps42]) fun C hC=> ?_
 simp only [initS,Nat.reduceAdd]
 repeat' first|refine yA1 o0 ?_|refine zW o0 ?_|refine yP o0 ?_|refine yN o0 ?_|refine zC o0 (fun hb=>?_) fun hb=>?_|refine zG o0 (fun hb=>?_) fun hb=>?_|refine zD o0 (fun hb=>?_) fun hb=>?_
 refine xB fun g1 hn_g1=>?_
 repeat' first|refine yA1 hn_g1 ?_|refine zW hn_g1 ?_|refine yP hn_g1 ?_|refine yN hn_g1 ?_|refine zC hn_g1 (fun hb=>?_) fun hb=>?_|refine zG hn_g1 (fun hb=>?_) fun hb=>?_|refine zD hn_g1 (fun hb=>?_) fun hb=>?_
 refine aw_lp (fun i:Nat=>[(1,.c (.optr g1 0)),(2,.c .nilI),(3,.c (.int .i64 ((m.gates.length+pgS (m.pages.take i):Nat):Int))),(12,.c (pgs true m.pages)),(13,.c (.int .i64 m.pages.length)),(14,.c (.int .i64 i))]) (fun _=>[(g1,.cells 30 8 (ofL (mdc true m)))]) (fun i=>i≤m.pages.length) (fun i=>m.pages.length-i) 0 (zB hn_g1) zZ (Nat.zero_le _) ?_
 rintro i hi
 have hPi:=hP i hi
 repeat' first|refine yA1 hn_g1 ?_|refine zW hn_g1 ?_|refine yP hn_g1 ?_|refine yN hn_g1 ?_|refine zC hn_g1 (fun hb=>?_) fun hb=>?_|refine zG hn_g1 (fun hb=>?_) fun hb=>?_|refine zD hn_g1 (fun hb=>?_) fun hb=>?_
 ·have hi':=hb
  have hP2:=hP (i+1) hi'
  have ht:=pgS_take hi'
  have hpg:=(hw.pg i).2
  refine yA hn_g1 fun g4 hn_g4=>?_
  all_goals try(have Z:=(oj hn_g1 hn_g4);(repeat' first|refine yA1 Z ?_|refine zW Z ?_|refine yP Z ?_|refine yN Z ?_|refine zC Z (fun hb=>?_) fun hb=>?_|refine zG Z (fun hb=>?_) fun hb=>?_|refine zD Z (fun hb=>?_) fun hb=>?_);all_goals clear Z)
  refine aw_stop ⟨i+1,?_⟩
  and_intros
  all_goals first|rfl|exact List.Sublist.refl _|exact List.sublist_cons_self _ _|exact True.intro|exact c_int om|omega
 ·rename_i hi0
  refine yT hC hn_g1 ?_
  exact .one (.c (ler_errE (by unfold pgsC;rw [if_pos (.inl om)]) (by decide)))
 ·rename_i h8 hi0
  have htk:m.pages.take i=m.pages:=List.take_of_length_le om
  rw [htk] at hb
  have hg:gtN m>64:=by
   show m.gates.length+pgS m.pages>64
   omega
  refine yT hC hn_g1 ?_
  exact .one (.c (ler_errE (by unfold pgsC;rw [if_pos (.inr hg)]) (by decide)))
 rename_i h8 hi0
 have htk:m.pages.take i=m.pages:=List.take_of_length_le om
 rw [htk] at hb
 have hg:¬gtN m>64:=by
  show¬m.gates.length+pgS m.pages>64
  omega
 have he2:pgsC m=frst (pgC m) m.pages 0:=by
  unfold pgsC
  rw [if_neg (fun z=>z.elim om hg)]
 generalize hF:frst (pgC m) m.pages 0=F at he2
 refine aw_lp (fun i:Nat=>[(1,.c (.optr g1 0)),(2,.c .nilI),(34,.c (pgs true m.pages)),(35,.c (.int .i64 m.pages.length)),(36,.c (.int .i64 i))]) (fun _=>[(g1,.cells 30 8 (ofL (mdc true m)))]) (fun i=>i≤m.pages.length∧frst (pgC m) (m.pages.drop i) i=F) (fun i=>m.pages.length-i) 0 (zB hn_g1) zZ ⟨Nat.zero_le _,hF⟩ ?_
 rintro i ⟨hi,hlp⟩
 repeat' first|refine yA1 hn_g1 ?_|refine zW hn_g1 ?_|refine yP hn_g1 ?_|refine yN hn_g1 ?_|refine zC hn_g1 (fun hb=>?_) fun hb=>?_|refine zG hn_g1 (fun hb=>?_) fun hb=>?_|refine zD hn_g1 (fun hb=>?_) fun hb=>?_
 ·obtain⟨w0,_⟩:=hw.pg i
  have hi':=hb
  have hR:∀c,pgC m i (m.pages.getD i pg0)=c→c≠0→pgsC m=c:=fun c hc h0=>by
   rw [he2];exact frst_ret hlp hi' hc h0
  have hG:=frst_go (d:=pg0) hlp hi'
  generalize hx:m.pages.getD i pg0=x at*
  have f1:Fa Tryz.prog 40 [.c (.str (sB x.name))] (.c (.bool (nameOk x.name))):=tname_fa x.name w0
  have f2:=page_fa m x.name hm.pg
  refine yA hn_g1 fun g4 hn_g4=>?_
  all_goals try(have Z:=(oj hn_g1 hn_g4);(repeat' first|refine yA1 Z ?_|(refine yC2 Z (f1) ?_)|(refine yD2 Z (f1) ?_)|(refine yC2 Z (f2) ?_)|(refine yD2 Z (f2) ?_)|refine zW Z ?_|refine yP Z ?_|refine yN Z ?_|refine zC Z (fun hb=>?_) fun hb=>?_|refine zG Z (fun hb=>?_) fun hb=>?_|refine zD Z (fun hb=>?_) fun hb=>?_);all_goals clear Z)
  all_goals clear f1 f2
  all_goals first
   |(refine yT hC (oj hn_g1 hn_g4) ?_
     refine .one (.c (ler_errE (c:=pgsC m) (hR _ ?_ (by decide)) (by decide)))
     clear hR hG hlp hF hx
     unfold pgC pgI
     repeat' split
     all_goals first|rfl|(exfalso;simp_all;done)|(exfalso;simp_all;omega))
   |(refine aw_stop ⟨i+1,?_⟩
     have hz:pgC m i x=0:=by
      clear hR hG hlp hF hx
      unfold pgC pgI
      repeat' split
      all_goals first|rfl|(exfalso;simp_all;done)|(exfalso;simp_all;omega)
     and_intros
     all_goals first|rfl|exact List.Sublist.refl _|exact List.sublist_cons_self _ _|exact True.intro|exact hG hz|omega)
 ·have hF0:=frst_fin hlp hb
  subst hF0
  refine yT hC hn_g1 ?_
  exact .one (.c (ler_err0 he2))
theorem checkGates_fa (m:MdD) (k:Nat) (hk:k≤m.pages.length) (hm:MdOk m) (hw:MdWf2 m):Fa Tryz.prog 43 [.agg (mdc true m),.c (.int .i64 ((k:Int)-1))] (.c (errA (gtsC m k))):=by
 have hkl:=gtsK_len hw k
 have f0:=gatesOf_fa m k hk hm.pg
 refine fa_of_body Tryz.func43 rfl rfl (by simp [Tryz.ntmps43]) fun C hC=> ?_
 simp only [initS,Nat.reduceAdd]
 repeat' first|refine yA1 o0 ?_|refine zW o0 ?_|refine yP o0 ?_|refine yN o0 ?_|refine zC o0 (fun hb=>?_) fun hb=>?_|refine zG o0 (fun hb=>?_) fun hb=>?_|refine zD o0 (fun hb=>?_) fun hb=>?_
 refine xB fun g1 hn_g1=>?_
 repeat' first|refine yA1 hn_g1 ?_|(refine yC2 hn_g1 (f0) ?_)|(refine yD2 hn_g1 (f0) ?_)|refine zW hn_g1 ?_|refine yP hn_g1 ?_|refine yN hn_g1 ?_|refine zC hn_g1 (fun hb=>?_) fun hb=>?_|refine zG hn_g1 (fun hb=>?_) fun hb=>?_|refine zD hn_g1 (fun hb=>?_) fun hb=>?_
 have he2:gtsC m k=frst (gtC m k) (gtsK m k) 0:=rfl
 generalize hF:frst (gtC m k) (gtsK m k) 0=F at he2
 generalize hL:gtsK m k=L at*
 refine aw_lp (fun i:Nat=>[(1,.c (.int .i64 ((k:Int)-1))),(2,.c (.optr g1 0)),(4,.c .nilI),(5,.c (gts true L)),(12,.c (gts true L)),(13,.c (.int .i64 L.length)),(14,.c (.int .i64 i))]) (fun _=>[(g1,.cells 30 8 (ofL (mdc true m)))]) (fun i=>i≤L.length∧frst (gtC m k) (L.drop i) i=F) (fun i=>L.length-i) 0 (zB hn_g1) zZ ⟨Nat.zero_le _,hF⟩ ?_
 rintro i ⟨hi,hlp⟩
 repeat' first|refine yA1 hn_g1 ?_|refine zW hn_g1 ?_|refine yP hn_g1 ?_|refine yN hn_g1 ?_|refine zC hn_g1 (fun hb=>?_) fun hb=>?_|refine zG hn_g1 (fun hb=>?_) fun hb=>?_|refine zD hn_g1 (fun hb=>?_) fun hb=>?_
 ·obtain⟨w0,w1,w2⟩:=hw.gt k i
  rw [hL] at w0 w1 w2
  have hi':=hb
  have hR:∀c,gtC m k i (L.getD i gt0)=c→c≠0→gtsC m k=c:=fun c hc h0=>by
   rw [he2];exact frst_ret hlp hi' hc h0
  have hG:=frst_go (d:=gt0) hlp hi'
  generalize hx:L.getD i gt0=x at*
  have f1:Fa Tryz.prog 40 [.c (.str (sB x.name))] (.c (.bool (nameOk x.name))):=tname_fa x.name w0
  have f2:=event_fa m x.name hm.ev
  have f3:=house_fa m x.name hm.hs
  have f4:=gate_fa L x.name om
  have f5:=checkGate_fa x w1 w2
  refine yA hn_g1 fun g4 hn_g4=>?_
  all_goals try(have Z:=(oj hn_g1 hn_g4);(repeat' first|refine yA1 Z ?_|(refine yC2 Z (f1) ?_)|(refine yD2 Z (f1) ?_)|(refine yC2 Z (f2) ?_)|(refine yD2 Z (f2) ?_)|(refine yC2 Z (f3) ?_)|(refine yD2 Z (f3) ?_)|(refine yC2 Z (f4) ?_)|(refine yD2 Z (f4) ?_)|(refine yC2 Z (f5) ?_)|(refine yD2 Z (f5) ?_)|refine zW Z ?_|refine yP Z ?_|refine yN Z ?_|refine zC Z (fun hb=>?_) fun hb=>?_|refine zG Z (fun hb=>?_) fun hb=>?_|refine zD Z (fun hb=>?_) fun hb=>?_);all_goals clear Z)
  all_goals clear f1 f2 f3 f4 f5
  all_goals first
   |(refine yT hC (oj hn_g1 hn_g4) ?_
     refine .one (.c (ler_errE (c:=gtsC m k) (hR _ ?_ (by decide)) (by decide)))
     clear hR hG hlp hF hx
     unfold gtC evI hsI
     repeat' split
     all_goals first|rfl|(exfalso;simp_all;done)|(exfalso;simp_all;omega))
   |(refine aw_stop ⟨i+1,?_⟩
     have hz:gtC m k i x=0:=by
      clear hR hG hlp hF hx
      unfold gtC evI hsI
      repeat' split
      all_goals first|rfl|(exfalso;simp_all;done)|(exfalso;simp_all;omega)|simp_all
     and_intros
     all_goals first|rfl|exact List.Sublist.refl _|exact List.sublist_cons_self _ _|exact True.intro|exact hG hz|omega)
   |(have h0:shpC x≠0:=by simpa using hb
     have hz:gtC m k i x=shpC x:=by
      clear hR hG hlp hF hx
      unfold gtC evI hsI
      repeat' split
      all_goals first|rfl|(exfalso;simp_all;done)|(exfalso;simp_all;omega)
     refine yT hC (oj hn_g1 hn_g4) ?_
     rw [hR (shpC x) hz h0]
     exact .one (.c ler_err))
 ·have hF0:=frst_fin hlp hb
  subst hF0
  refine yT hC hn_g1 ?_
  exact .one (.c (ler_err0 he2))
end Go.Proofs.YteehccacfedolaaGreat
namespace Go.Proofs.YteehccacfedolaaGreat
open Go.AI Go.PN
attribute [local irreducible] aw Fa Fh DrK
theorem gr1_fg (g:Nat) (y x:GrD):Fg Tryz.prog 90 g (.cells 78 4 (ofL (grc y))) [.agg (grc x),.c (.optr g 0)] (.c (.bool (x.name==y.name))) (.cells 78 4 (ofL (grc y))):=by
 unfold Fg
 refine fh_of_body Tryz.func90 rfl rfl (by simp [Tryz.ntmps90]) fun C hC=> ?_
 simp only [initS,Nat.reduceAdd]
 repeat' first|refine yA1 o0 ?_|refine zW o0 ?_|refine yP o0 ?_|refine yN o0 ?_|refine zC o0 (fun hb=>?_) fun hb=>?_|refine zG o0 (fun hb=>?_) fun hb=>?_|refine zD o0 (fun hb=>?_) fun hb=>?_
 refine xB fun g1 hn_g1=>?_
 repeat' first|refine yA1 hn_g1 ?_|refine zW hn_g1 ?_|refine yP hn_g1 ?_|refine yN hn_g1 ?_|refine zC hn_g1 (fun hb=>?_) fun hb=>?_|refine zG hn_g1 (fun hb=>?_) fun hb=>?_|refine zD hn_g1 (fun hb=>?_) fun hb=>?_
 refine aw_rethw (h':=[(g,(.cells 78 4 (ofL (grc y))))]) rfl (by first|exact List.Sublist.refl _|exact .cons _ (.refl _)|exact .cons _ (.cons _ (.refl _))|exact .cons _ (.cons _ (.cons _ (.refl _)))) fun R r=>?_;simp only[go_sem,hn_g1];refine r _ rfl ?_;clear r R
 exact⟨rfl,rfl⟩
theorem grI_fg (g:Nat) (y:GrD) (l:List GrD) (hl:l.length≤1099511627776):Fg Tryz.prog 89 g (.cells 78 4 (ofL (grc y))) [.c (grs true l),.c (fnC 90 [g])] (.c (.int .i64 (fidx (fun x=>x.name==y.name) l))) (.cells 78 4 (ofL (grc y))):=by
 unfold Fg
 refine fh_of_body Tryz.func89 rfl rfl (by simp [Tryz.ntmps89]) fun C hC=> ?_
 simp only [initS,Nat.reduceAdd]
 repeat' first|refine yA1 o0 ?_|refine zW o0 ?_|refine yP o0 ?_|refine yN o0 ?_|refine zC o0 (fun hb=>?_) fun hb=>?_|refine zG o0 (fun hb=>?_) fun hb=>?_|refine zD o0 (fun hb=>?_) fun hb=>?_
 refine aw_lp (fun i:Nat=>[(0,.c (grs true l)),(1,.c (fnC 90 [g])),(4,.c (.int .i64 0)),(7,.c (.int .i64 l.length)),(8,.c (.int .i64 i))]) (fun _=>[(g,(.cells 78 4 (ofL (grc y))))]) (fun i=>i≤l.length∧∀j,j<i→((fun x:GrD=>x.name==y.name) (l.getD j gr0))=false) (fun i=>l.length-i) 0 eB zZ ⟨Nat.zero_le _,fun j hj=>absurd hj om⟩ ?_
 rintro i ⟨hi,hn⟩
 repeat' first|refine yA1 o0 ?_|refine zW o0 ?_|refine yP o0 ?_|refine yN o0 ?_|refine zC o0 (fun hb=>?_) fun hb=>?_|refine zG o0 (fun hb=>?_) fun hb=>?_|refine zD o0 (fun hb=>?_) fun hb=>?_
 ·have hi':=hb
  have hf:=gr1_fg g y (l.getD i gr0)
  refine aw_cgv (args:=[.agg (grc (l.getD i gr0))]) hf rfl rfl rfl eE eE eL ?_
  refine xS ?_
  repeat' first|refine yA1 o0 ?_|refine zW o0 ?_|refine yP o0 ?_|refine yN o0 ?_|refine zC o0 (fun hb=>?_) fun hb=>?_|refine zG o0 (fun hb=>?_) fun hb=>?_|refine zD o0 (fun hb=>?_) fun hb=>?_
  ·rw [fidx_at (p:=fun x:GrD=>x.name==y.name) gr0 hi' (by simpa using hb) hn]
   refine xU ?_
   exact⟨rfl,rfl⟩
  ·refine aw_stop ⟨i+1,?_⟩
   have hn':∀j,j<i+1→((fun x:GrD=>x.name==y.name) (l.getD j gr0))=false:=fun j hj=>by
    by_cases e:j=i
    ·subst e;simpa using hb
    ·exact hn j om
   and_intros
   all_goals first|rfl|exact List.Sublist.refl _|exact True.intro|exact hn'|omega
 ·have hf:fidx (fun x=>x.name==y.name) l= -1:=fidx_no gr0 (fun j hj=>hn j om)
  rw [hf]
  refine xU ?_
  exact⟨rfl,rfl⟩
theorem ph1_fg (g:Nat) (y x:PhD):Fg Tryz.prog 94 g (.cells 82 3 (ofL (phc y))) [.agg (phc x),.c (.optr g 0)] (.c (.bool (x.name==y.name))) (.cells 82 3 (ofL (phc y))):=by
 unfold Fg
 refine fh_of_body Tryz.func94 rfl rfl (by simp [Tryz.ntmps94]) fun C hC=> ?_
 simp only [initS,Nat.reduceAdd]
 repeat' first|refine yA1 o0 ?_|refine zW o0 ?_|refine yP o0 ?_|refine yN o0 ?_|refine zC o0 (fun hb=>?_) fun hb=>?_|refine zG o0 (fun hb=>?_) fun hb=>?_|refine zD o0 (fun hb=>?_) fun hb=>?_
 refine xB fun g1 hn_g1=>?_
 repeat' first|refine yA1 hn_g1 ?_|refine zW hn_g1 ?_|refine yP hn_g1 ?_|refine yN hn_g1 ?_|refine zC hn_g1 (fun hb=>?_) fun hb=>?_|refine zG hn_g1 (fun hb=>?_) fun hb=>?_|refine zD hn_g1 (fun hb=>?_) fun hb=>?_
 refine aw_rethw (h':=[(g,(.cells 82 3 (ofL (phc y))))]) rfl (by first|exact List.Sublist.refl _|exact .cons _ (.refl _)|exact .cons _ (.cons _ (.refl _))|exact .cons _ (.cons _ (.cons _ (.refl _)))) fun R r=>?_;simp only[go_sem,hn_g1];refine r _ rfl ?_;clear r R
 exact⟨rfl,rfl⟩
theorem phI_fg (g:Nat) (y:PhD) (l:List PhD) (hl:l.length≤1099511627776):Fg Tryz.prog 93 g (.cells 82 3 (ofL (phc y))) [.c (phs true l),.c (fnC 94 [g])] (.c (.int .i64 (fidx (fun x=>x.name==y.name) l))) (.cells 82 3 (ofL (phc y))):=by
 unfold Fg
 refine fh_of_body Tryz.func93 rfl rfl (by simp [Tryz.ntmps93]) fun C hC=> ?_
 simp only [initS,Nat.reduceAdd]
 repeat' first|refine yA1 o0 ?_|refine zW o0 ?_|refine yP o0 ?_|refine yN o0 ?_|refine zC o0 (fun hb=>?_) fun hb=>?_|refine zG o0 (fun hb=>?_) fun hb=>?_|refine zD o0 (fun hb=>?_) fun hb=>?_
 refine aw_lp (fun i:Nat=>[(0,.c (phs true l)),(1,.c (fnC 94 [g])),(4,.c (.int .i64 0)),(7,.c (.int .i64 l.length)),(8,.c (.int .i64 i))]) (fun _=>[(g,(.cells 82 3 (ofL (phc y))))]) (fun i=>i≤l.length∧∀j,j<i→((fun x:PhD=>x.name==y.name) (l.getD j ph0))=false) (fun i=>l.length-i) 0 eB zZ ⟨Nat.zero_le _,fun j hj=>absurd hj om⟩ ?_
 rintro i ⟨hi,hn⟩
 repeat' first|refine yA1 o0 ?_|refine zW o0 ?_|refine yP o0 ?_|refine yN o0 ?_|refine zC o0 (fun hb=>?_) fun hb=>?_|refine zG o0 (fun hb=>?_) fun hb=>?_|refine zD o0 (fun hb=>?_) fun hb=>?_
 ·have hi':=hb
  have hf:=ph1_fg g y (l.getD i ph0)
  refine aw_cgv (args:=[.agg (phc (l.getD i ph0))]) hf rfl rfl rfl eE eE eL ?_
  refine xS ?_
  repeat' first|refine yA1 o0 ?_|refine zW o0 ?_|refine yP o0 ?_|refine yN o0 ?_|refine zC o0 (fun hb=>?_) fun hb=>?_|refine zG o0 (fun hb=>?_) fun hb=>?_|refine zD o0 (fun hb=>?_) fun hb=>?_
  ·rw [fidx_at (p:=fun x:PhD=>x.name==y.name) ph0 hi' (by simpa using hb) hn]
   refine xU ?_
   exact⟨rfl,rfl⟩
  ·refine aw_stop ⟨i+1,?_⟩
   have hn':∀j,j<i+1→((fun x:PhD=>x.name==y.name) (l.getD j ph0))=false:=fun j hj=>by
    by_cases e:j=i
    ·subst e;simpa using hb
    ·exact hn j om
   and_intros
   all_goals first|rfl|exact List.Sublist.refl _|exact True.intro|exact hn'|omega
 ·have hf:fidx (fun x=>x.name==y.name) l= -1:=fidx_no ph0 (fun j hj=>hn j om)
  rw [hf]
  refine xU ?_
  exact⟨rfl,rfl⟩
theorem vl1_fg (g:Nat) (y x:VlD):Fg Tryz.prog 96 g (.cells 84 4 (ofL (vlc y))) [.agg (vlc x),.c (.optr g 0)] (.c (.bool (x.event==y.event))) (.cells 84 4 (ofL (vlc y))):=by
 unfold Fg
 refine fh_of_body Tryz.func96 rfl rfl (by simp [Tryz.ntmps96]) fun C hC=> ?_
 simp only [initS,Nat.reduceAdd]
 repeat' first|refine yA1 o0 ?_|refine zW o0 ?_|refine yP o0 ?_|refine yN o0 ?_|refine zC o0 (fun hb=>?_) fun hb=>?_|refine zG o0 (fun hb=>?_) fun hb=>?_|refine zD o0 (fun hb=>?_) fun hb=>?_
 refine xB fun g1 hn_g1=>?_
 repeat' first|refine yA1 hn_g1 ?_|refine zW hn_g1 ?_|refine yP hn_g1 ?_|refine yN hn_g1 ?_|refine zC hn_g1 (fun hb=>?_) fun hb=>?_|refine zG hn_g1 (fun hb=>?_) fun hb=>?_|refine zD hn_g1 (fun hb=>?_) fun hb=>?_
 refine aw_rethw (h':=[(g,(.cells 84 4 (ofL (vlc y))))]) rfl (by first|exact List.Sublist.refl _|exact .cons _ (.refl _)|exact .cons _ (.cons _ (.refl _))|exact .cons _ (.cons _ (.cons _ (.refl _)))) fun R r=>?_;simp only[go_sem,hn_g1];refine r _ rfl ?_;clear r R
 exact⟨rfl,rfl⟩
theorem vlI_fg (g:Nat) (y:VlD) (l:List VlD) (hl:l.length≤1099511627776):Fg Tryz.prog 95 g (.cells 84 4 (ofL (vlc y))) [.c (vls true l),.c (fnC 96 [g])] (.c (.int .i64 (fidx (fun x=>x.event==y.event) l))) (.cells 84 4 (ofL (vlc y))):=by
 unfold Fg
 refine fh_of_body Tryz.func95 rfl rfl (by simp [Tryz.ntmps95]) fun C hC=> ?_
 simp only [initS,Nat.reduceAdd]
 repeat' first|refine yA1 o0 ?_|refine zW o0 ?_|refine yP o0 ?_|refine yN o0 ?_|refine zC o0 (fun hb=>?_) fun hb=>?_|refine zG o0 (fun hb=>?_) fun hb=>?_|refine zD o0 (fun hb=>?_) fun hb=>?_
 refine aw_lp (fun i:Nat=>[(0,.c (vls true l)),(1,.c (fnC 96 [g])),(4,.c (.int .i64 0)),(7,.c (.int .i64 l.length)),(8,.c (.int .i64 i))]) (fun _=>[(g,(.cells 84 4 (ofL (vlc y))))]) (fun i=>i≤l.length∧∀j,j<i→((fun x:VlD=>x.event==y.event) (l.getD j vl0))=false) (fun i=>l.length-i) 0 eB zZ ⟨Nat.zero_le _,fun j hj=>absurd hj om⟩ ?_
 rintro i ⟨hi,hn⟩
 repeat' first|refine yA1 o0 ?_|refine zW o0 ?_|refine yP o0 ?_|refine yN o0 ?_|refine zC o0 (fun hb=>?_) fun hb=>?_|refine zG o0 (fun hb=>?_) fun hb=>?_|refine zD o0 (fun hb=>?_) fun hb=>?_
 ·have hi':=hb
  have hf:=vl1_fg g y (l.getD i vl0)
  refine aw_cgv (args:=[.agg (vlc (l.getD i vl0))]) hf rfl rfl rfl eE eE eL ?_
  refine xS ?_
  repeat' first|refine yA1 o0 ?_|refine zW o0 ?_|refine yP o0 ?_|refine yN o0 ?_|refine zC o0 (fun hb=>?_) fun hb=>?_|refine zG o0 (fun hb=>?_) fun hb=>?_|refine zD o0 (fun hb=>?_) fun hb=>?_
  ·rw [fidx_at (p:=fun x:VlD=>x.event==y.event) vl0 hi' (by simpa using hb) hn]
   refine xU ?_
   exact⟨rfl,rfl⟩
  ·refine aw_stop ⟨i+1,?_⟩
   have hn':∀j,j<i+1→((fun x:VlD=>x.event==y.event) (l.getD j vl0))=false:=fun j hj=>by
    by_cases e:j=i
    ·subst e;simpa using hb
    ·exact hn j om
   and_intros
   all_goals first|rfl|exact List.Sublist.refl _|exact True.intro|exact hn'|omega
 ·have hf:fidx (fun x=>x.event==y.event) l= -1:=fidx_no vl0 (fun j hj=>hn j om)
  rw [hf]
  refine xU ?_
  exact⟨rfl,rfl⟩
theorem fac1_fa (r:RD) (hw:r.wf 1073741824):Fa Tryz.prog 92 [.agg (rdc r)] (.c (.bool (!r.prob))):=by
 have f1:=rprob_fa r hw
 refine fa_of_body Tryz.func92 rfl rfl (by simp [Tryz.ntmps92]) fun C hC=> ?_
 simp only [initS,Nat.reduceAdd]
 repeat' first|refine yA1 o0 ?_|refine zW o0 ?_|refine yP o0 ?_|refine yN o0 ?_|refine zC o0 (fun hb=>?_) fun hb=>?_|refine zG o0 (fun hb=>?_) fun hb=>?_|refine zD o0 (fun hb=>?_) fun hb=>?_
 refine xB fun g1 hn_g1=>?_
 repeat' first|refine yA1 hn_g1 ?_|(refine yC2 hn_g1 (f1) ?_)|(refine yD2 hn_g1 (f1) ?_)|refine zW hn_g1 ?_|refine yP hn_g1 ?_|refine yN hn_g1 ?_|refine zC hn_g1 (fun hb=>?_) fun hb=>?_|refine zG hn_g1 (fun hb=>?_) fun hb=>?_|refine zD hn_g1 (fun hb=>?_) fun hb=>?_
 refine yT hC hn_g1 ?_
 exact .one (.c (.bool _))
theorem facI_fa (l:List RD) (hl:l.length≤1099511627776) (hw:∀i,(l.getD i rd0).wf 1073741824):Fa Tryz.prog 133 [.c (rats true l),.c (.raw (.func (.func 92) #[] #[]))] (.c (.int .i64 (fidx (fun x=> !x.prob) l))):=by
 refine fa_of_body Tryz.func133 rfl rfl (by simp [Tryz.ntmps133]) fun C hC=> ?_
 simp only [initS,Nat.reduceAdd]
 repeat' first|refine yA1 o0 ?_|refine zW o0 ?_|refine yP o0 ?_|refine yN o0 ?_|refine zC o0 (fun hb=>?_) fun hb=>?_|refine zG o0 (fun hb=>?_) fun hb=>?_|refine zD o0 (fun hb=>?_) fun hb=>?_
 refine aw_lp (fun i:Nat=>[(0,.c (rats true l)),(1,.c (.raw (.func (.func 92) #[] #[]))),(4,.c (.int .i64 0)),(7,.c (.int .i64 l.length)),(8,.c (.int .i64 i))]) (fun _=>[]) (fun i=>i≤l.length∧∀j,j<i→((fun x:RD=> !x.prob) (l.getD j rd0))=false) (fun i=>l.length-i) 0 eB zZ ⟨Nat.zero_le _,fun j hj=>absurd hj om⟩ ?_
 rintro i ⟨hi,hn⟩
 repeat' first|refine yA1 o0 ?_|refine zW o0 ?_|refine yP o0 ?_|refine yN o0 ?_|refine zC o0 (fun hb=>?_) fun hb=>?_|refine zG o0 (fun hb=>?_) fun hb=>?_|refine zD o0 (fun hb=>?_) fun hb=>?_
 ·have hi':=hb
  have hf:=fac1_fa (l.getD i rd0) (hw i)
  refine aw_callqv hf rfl rfl rfl eE eL ?_
  refine xS ?_
  repeat' first|refine yA1 o0 ?_|refine zW o0 ?_|refine yP o0 ?_|refine yN o0 ?_|refine zC o0 (fun hb=>?_) fun hb=>?_|refine zG o0 (fun hb=>?_) fun hb=>?_|refine zD o0 (fun hb=>?_) fun hb=>?_
  ·rw [fidx_at (p:=fun x:RD=> !x.prob) rd0 hi' (by simpa using hb) hn]
   refine xT hC ?_
   exact .one (.c (.int _ _))
  ·refine aw_stop ⟨i+1,?_⟩
   have hn':∀j,j<i+1→((fun x:RD=> !x.prob) (l.getD j rd0))=false:=fun j hj=>by
    by_cases e:j=i
    ·subst e;simpa using hb
    ·exact hn j om
   and_intros
   all_goals first|rfl|exact List.Sublist.refl _|exact True.intro|exact hn'|omega
 ·have hf:fidx (fun x:RD=> !x.prob) l= -1:=fidx_no rd0 (fun j hj=>hn j om)
  rw [hf]
  refine xT hC ?_
  exact .one (.c (.int _ _))
theorem fidx_all {α:Type} (p:α→Bool):∀l:List α,decide (fidx (fun x=> !p x) l≥0)= !l.all p
 |[]=>rfl
 |x::l=>by
  have ih:=fidx_all p l
  show decide ((if(!p x)=true then(0:Int) else if fidx (fun x=> !p x) l<0 then-1 else fidx (fun x=> !p x) l+1)≥0)= !(p x&&l.all p)
  cases h:p x with
  |false=>rfl
  |true=>
   rw [if_neg (by simp),Bool.true_and,←ih]
   by_cases h2:fidx (fun x=> !p x) l<0
   ·have a:¬fidx (fun x=> !p x) l≥0:=by omega
    rw [if_pos h2,decide_eq_false a];rfl
   ·have a:fidx (fun x=> !p x) l≥0:=by omega
    have b:fidx (fun x=> !p x) l+1≥0:=by omega
    rw [if_neg h2,decide_eq_true a,decide_eq_true b]
theorem facC_fa (l:List RD) (hl:l.length≤1099511627776) (hw:∀i,(l.getD i rd0).wf 1073741824):Fa Tryz.prog 91 [.c (rats true l),.c (.raw (.func (.func 92) #[] #[]))] (.c (.bool (!l.all RD.prob))):=by
 have f1:=facI_fa l hl hw
 have f2:=fidx_all RD.prob l
 refine fa_of_body Tryz.func91 rfl rfl (by simp [Tryz.ntmps91]) fun C hC=> ?_
 simp only [initS,Nat.reduceAdd]
 repeat' first|refine yA1 o0 ?_|(refine yC2 o0 (f1) ?_)|(refine yD2 o0 (f1) ?_)|refine zW o0 ?_|refine yP o0 ?_|refine yN o0 ?_|refine zC o0 (fun hb=>?_) fun hb=>?_|refine zG o0 (fun hb=>?_) fun hb=>?_|refine zD o0 (fun hb=>?_) fun hb=>?_
 refine xT hC ?_
 exact .one (.c (ler_bool f2))
end Go.Proofs.YteehccacfedolaaGreat
namespace Go.PN
open Go.AI
structure MdWf3 (m:MdD):Prop where
 l:m.phases.length≤1099511627776
 ph:∀i,(m.phases.getD i ph0).name.length≤1099511627776∧(m.phases.getD i ph0).top.length≤1099511627776∧(m.phases.getD i ph0).values.length≤1099511627776
 vl:∀i k,(((m.phases.getD i ph0).values.getD k vl0)).p.wf 1073741824
end Go.PN
namespace Go.Proofs.YteehccacfedolaaGreat
open Go.AI Go.PN
attribute [local irreducible] aw Fa Fh DrK
theorem checkPhases_fa (m:MdD) (hm:MdOk m) (hw2:MdWf2 m) (hw:MdWf3 m):Fa Tryz.prog 47 [.agg (mdc true m)] (.c (errA (phsC m))):=by
 have hl:=hw.l
 refine fa_of_body Tryz.func47 rfl rfl (by simp [Tryz.ntmps47]) fun C hC=> ?_
 simp only [initS,Nat.reduceAdd]
 repeat' first|refine yA1 o0 ?_|refine zW o0 ?_|refine yP o0 ?_|refine yN o0 ?_|refine zC o0 (fun hb=>?_) fun hb=>?_|refine zG o0 (fun hb=>?_) fun hb=>?_|refine zD o0 (fun hb=>?_) fun hb=>?_
 refine xB fun g1 hn_g1=>?_
 repeat' first|refine yA1 hn_g1 ?_|refine zW hn_g1 ?_|refine yP hn_g1 ?_|refine yN hn_g1 ?_|refine zC hn_g1 (fun hb=>?_) fun hb=>?_|refine zG hn_g1 (fun hb=>?_) fun hb=>?_|refine zD hn_g1 (fun hb=>?_) fun hb=>?_
 ·refine yT hC hn_g1 ?_
  exact .one (.c (ler_errE (by unfold phsC;rw [if_pos om]) (by decide)))
 have he2:phsC m=frst (phC m) m.phases 0:=by
  unfold phsC
  rw [if_neg om]
 generalize hF:frst (phC m) m.phases 0=F at he2
 refine aw_lp (fun i:Nat=>[(1,.c (.optr g1 0)),(2,.c .nilI),(13,.c (phs true m.phases)),(14,.c (.int .i64 m.phases.length)),(15,.c (.int .i64 i))]) (fun _=>[(g1,.cells 30 8 (ofL (mdc true m)))]) (fun i=>i≤m.phases.length∧frst (phC m) (m.phases.drop i) i=F) (fun i=>m.phases.length-i) 0 (zB hn_g1) zZ ⟨Nat.zero_le _,hF⟩ ?_
 rintro i ⟨hi,hlp⟩
 repeat' first|refine yA1 hn_g1 ?_|refine zW hn_g1 ?_|refine yP hn_g1 ?_|refine yN hn_g1 ?_|refine zC hn_g1 (fun hb=>?_) fun hb=>?_|refine zG hn_g1 (fun hb=>?_) fun hb=>?_|refine zD hn_g1 (fun hb=>?_) fun hb=>?_
 ·obtain⟨w0,w1,w2⟩:=hw.ph i
  have w3:=hw.vl i
  have hi':=hb
  have hR:∀c,phC m i (m.phases.getD i ph0)=c→c≠0→phsC m=c:=fun c hc h0=>by
   rw [he2];exact frst_ret hlp hi' hc h0
  have hG:=frst_go (d:=ph0) hlp hi'
  clear hlp
  generalize hx:m.phases.getD i ph0=x at*
  have f1:Fa Tryz.prog 40 [.c (.str (sB x.name))] (.c (.bool (nameOk x.name))):=tname_fa x.name w0
  have f3:Fa Tryz.prog 45 [.agg (mdc true m),.c (.int .i64 (-1)),.c (.str (sB x.top))] (.c (.bool (isInp m 0 x.top))):=isInput_fa m 0 x.top (Nat.zero_le _) hm (by have:=gtsK_len hw2 0;omega) w1
  refine yA hn_g1 fun g4 hn_g4=>?_
  all_goals try(have Z:=(oj hn_g1 hn_g4);(repeat' first|refine yA1 Z ?_|(refine yC2 Z (f1) ?_)|(refine yD2 Z (f1) ?_)|refine zW Z ?_|refine yP Z ?_|refine yN Z ?_|refine zC Z (fun hb=>?_) fun hb=>?_|refine zG Z (fun hb=>?_) fun hb=>?_|refine zD Z (fun hb=>?_) fun hb=>?_);all_goals clear Z)
  ·refine yT hC (oj hn_g1 hn_g4) ?_
   refine .one (.c (ler_errE (c:=phsC m) (hR _ ?_ (by decide)) (by decide)))
   unfold phC
   rw [if_pos (by simpa using hb)]
  rename_i hn1
  replace hn1:=hb
  refine aw_makeFunc (gs:=[g4]) rfl rfl rfl (zE (oj hn_g1 hn_g4)) ?_
  have J1:=oj hn_g1 hn_g4
  refine yS J1 ?_
  have f2:=phI_fg g4 x m.phases hl
  all_goals try(have Z:=J1;(repeat' first|refine yA1 Z ?_|(refine zg Z (f2) ?_)|(refine yC2 Z (f3) ?_)|(refine yD2 Z (f3) ?_)|refine zW Z ?_|refine yP Z ?_|refine yN Z ?_|refine zC Z (fun hb=>?_) fun hb=>?_|refine zG Z (fun hb=>?_) fun hb=>?_|refine zD Z (fun hb=>?_) fun hb=>?_);all_goals clear Z)
  ·refine yT hC J1 ?_
   refine .one (.c (ler_errE (c:=phsC m) (hR _ ?_ (by decide)) (by decide)))
   unfold phC
   rw [if_neg (by simpa using hn1),if_pos hb]
  ·rename_i hn2
   refine yT hC J1 ?_
   refine .one (.c (ler_errE (c:=phsC m) (hR _ ?_ (by decide)) (by decide)))
   unfold phC
   rw [if_neg (by simpa using hn1),if_neg hn2,if_pos (by simpa using hb)]
  rename_i hn2
  have hn3:=hb
  have hp:phC m i x=frst (vlC m x) x.values 0:=by
   unfold phC
   rw [if_neg (by simpa using hn1),if_neg hn2,if_neg (by simpa using hn3)]
  clear f1 f2 f3 J1
  generalize hF2:frst (vlC m x) x.values 0=F2 at hp
  refine aw_lp (fun k:Nat=>[(1,.c (.optr g1 0)),(2,.c .nilI),(4,.c (.optr g4 0)),(13,.c (phs true m.phases)),(14,.c (.int .i64 m.phases.length)),(15,.c (.int .i64 i)),(39,.c (vls true x.values)),(40,.c (.int .i64 x.values.length)),(41,.c (.int .i64 k))]) (fun _=>[(g4,.cells 82 3 (ofL (phc x))),(g1,.cells 30 8 (ofL (mdc true m)))]) (fun k=>k≤x.values.length∧frst (vlC m x) (x.values.drop k) k=F2) (fun k=>x.values.length-k) 0 (zB (oj hn_g1 hn_g4)) zZ ⟨Nat.zero_le _,hF2⟩ ?_
  rintro k ⟨hk,hlq⟩
  all_goals try(have Z:=(oj hn_g1 hn_g4);(repeat' first|refine yA1 Z ?_|refine zW Z ?_|refine yP Z ?_|refine yN Z ?_|refine zC Z (fun hb=>?_) fun hb=>?_|refine zG Z (fun hb=>?_) fun hb=>?_|refine zD Z (fun hb=>?_) fun hb=>?_);all_goals clear Z)
  ·have hk':=hb
   have hR2:∀c,vlC m x k (x.values.getD k vl0)=c→c≠0→phsC m=c:=fun c hc h0=>hR c (hp.trans (frst_ret hlq hk' hc h0)) h0
   have hG2:=frst_go (d:=vl0) hlq hk'
   clear hlq
   have w4:=w3 k
   generalize hv:x.values.getD k vl0=v at*
   have f1:=event_fa m v.event hm.ev
   have f3:=rprob_fa v.p w4
   refine yA (oj hn_g1 hn_g4) fun g5 hn_g5=>?_
   all_goals try(have Z:=(oj hn_g1 (oj hn_g4 hn_g5));(repeat' first|refine yA1 Z ?_|(refine yC2 Z (f1) ?_)|(refine yD2 Z (f1) ?_)|refine zW Z ?_|refine yP Z ?_|refine yN Z ?_|refine zC Z (fun hb=>?_) fun hb=>?_|refine zG Z (fun hb=>?_) fun hb=>?_|refine zD Z (fun hb=>?_) fun hb=>?_);all_goals clear Z)
   ·refine yT hC (oj hn_g1 (oj hn_g4 hn_g5)) ?_
    refine .one (.c (ler_errE (c:=phsC m) (hR2 _ ?_ (by decide)) (by decide)))
    unfold vlC evI
    rw [if_pos hb]
   have m1:=hb
   refine aw_makeFunc (gs:=[g5]) rfl rfl rfl (zE (oj hn_g1 (oj hn_g4 hn_g5))) ?_
   have J2:=oj hn_g1 (oj hn_g4 hn_g5)
   refine yS J2 ?_
   have f2:=vlI_fg g5 v x.values w2
   all_goals try(have Z:=J2;(repeat' first|refine yA1 Z ?_|(refine zg Z (f2) ?_)|(refine yC2 Z (f3) ?_)|(refine yD2 Z (f3) ?_)|refine zW Z ?_|refine yP Z ?_|refine yN Z ?_|refine zC Z (fun hb=>?_) fun hb=>?_|refine zG Z (fun hb=>?_) fun hb=>?_|refine zD Z (fun hb=>?_) fun hb=>?_);all_goals clear Z)
   ·refine yT hC J2 ?_
    refine .one (.c (ler_errE (c:=phsC m) (hR2 _ ?_ (by decide)) (by decide)))
    unfold vlC evI
    rw [if_neg m1,if_pos hb]
   ·rename_i m2
    refine yT hC J2 ?_
    refine .one (.c (ler_errE (c:=phsC m) (hR2 _ ?_ (by decide)) (by decide)))
    unfold vlC evI
    rw [if_neg m1,if_neg m2,if_pos (by simpa using hb)]
   ·rename_i m2
    refine aw_stop ⟨k+1,?_⟩
    have hz:vlC m x k v=0:=by
     unfold vlC evI
     rw [if_neg m1,if_neg m2,if_neg (by simpa using hb)]
    and_intros
    all_goals first|rfl|exact List.Sublist.refl _|exact List.sublist_cons_self _ _|exact True.intro|exact hG2 hz|omega
  ·have hF0:=frst_fin hlq hb
   refine aw_stop ⟨i+1,?_⟩
   and_intros
   all_goals first|rfl|exact List.Sublist.refl _|exact List.sublist_cons_self _ _|exact True.intro|exact hG (hp.trans hF0)|omega
 ·have hF0:=frst_fin hlp hb
  subst hF0
  refine yT hC hn_g1 ?_
  exact .one (.c (ler_err0 he2))
end Go.Proofs.YteehccacfedolaaGreat
namespace Go.Proofs.YteehccacfedolaaGreat
open Go.AI Go.PN
attribute [local irreducible] aw Fa Fh DrK
theorem sindexF_fa (l:List BS) (n:BS) (hl:l.length≤1099511627776):Fa Tryz.prog 132 [.c (strs false l),.c (.str (sB n))] (.c (.int .i64 (fidx (fun x=>n==x) l))):=by
 refine fa_of_body Tryz.func132 rfl rfl (by simp [Tryz.ntmps132]) fun C hC=> ?_
 simp only [initS,Nat.reduceAdd]
 repeat' first|refine yA1 o0 ?_|refine zW o0 ?_|refine yP o0 ?_|refine yN o0 ?_|refine zC o0 (fun hb=>?_) fun hb=>?_|refine zG o0 (fun hb=>?_) fun hb=>?_|refine zD o0 (fun hb=>?_) fun hb=>?_
 refine aw_lp (fun i:Nat=>[(0,.c (strs false l)),(1,.c (.str (sB n))),(4,.c (.int .i64 0)),(7,.c (.int .i64 l.length)),(8,.c (.int .i64 i))]) (fun _=>[]) (fun i=>i≤l.length∧∀j,j<i→((fun x:BS=>n==x) (l.getD j []))=false) (fun i=>l.length-i) 0 eB zZ ⟨Nat.zero_le _,fun j hj=>absurd hj om⟩ ?_
 rintro i ⟨hi,hn⟩
 repeat' first|refine yA1 o0 ?_|refine zW o0 ?_|refine yP o0 ?_|refine yN o0 ?_|refine zC o0 (fun hb=>?_) fun hb=>?_|refine zG o0 (fun hb=>?_) fun hb=>?_|refine zD o0 (fun hb=>?_) fun hb=>?_
 ·rename_i hi'
  rw [fidx_at (p:=fun x:BS=>n==x) [] hi' (by simpa using hb) hn]
  refine xT hC ?_
  exact .one (.c (.int _ _))
 ·rename_i hi'
  refine aw_stop ⟨i+1,?_⟩
  have hn':∀j,j<i+1→((fun x:BS=>n==x) (l.getD j []))=false:=fun j hj=>by
   by_cases e:j=i
   ·subst e;simpa using hb
   ·exact hn j om
  and_intros
  all_goals first|rfl|exact List.Sublist.refl _|exact True.intro|exact hn'|omega
 ·have hf:fidx (fun x=>n==x) l= -1:=fidx_no [] (fun j hj=>hn j om)
  rw [hf]
  refine xT hC ?_
  exact .one (.c (.int _ _))
theorem scontF_fa (l:List BS) (n:BS) (hl:l.length≤1099511627776):Fa Tryz.prog 88 [.c (strs false l),.c (.str (sB n))] (.c (.bool (l.contains n))):=by
 have f1:=sindexF_fa l n hl
 have f2:=fidx_mem n l
 refine fa_of_body Tryz.func88 rfl rfl (by simp [Tryz.ntmps88]) fun C hC=> ?_
 simp only [initS,Nat.reduceAdd]
 repeat' first|refine yA1 o0 ?_|(refine yC2 o0 (f1) ?_)|(refine yD2 o0 (f1) ?_)|refine zW o0 ?_|refine yP o0 ?_|refine yN o0 ?_|refine zC o0 (fun hb=>?_) fun hb=>?_|refine zG o0 (fun hb=>?_) fun hb=>?_|refine zD o0 (fun hb=>?_) fun hb=>?_
 refine xT hC ?_
 exact .one (.c (ler_bool f2))
end Go.Proofs.YteehccacfedolaaGreat
namespace Go.PN
open Go.AI
theorem frsS_ret {α σ:Type} {f:Nat→α→σ→Int×σ} {l:List α} {d:α} {i:Nat} {s:σ} {F:Int×σ} (h:frsS f (l.drop i) i s=F) (hi:i<l.length) {r:Int×σ} (hc:f i (l.getD i d) s=r) (h0:r.1≠0):F=r:=by
 rw [frsS_step d hi,hc,if_neg h0] at h
 exact h.symm
theorem frsS_go {α σ:Type} {f:Nat→α→σ→Int×σ} {l:List α} {d:α} {i:Nat} {s:σ} {F:Int×σ} (h:frsS f (l.drop i) i s=F) (hi:i<l.length) {r:Int×σ} (hc:f i (l.getD i d) s=r) (h0:r.1=0):frsS f (l.drop (i+1)) (i+1) r.2=F:=by
 rw [frsS_step d hi,hc,if_pos h0] at h
 exact h
theorem frsS_fin {α σ:Type} {f:Nat→α→σ→Int×σ} {l:List α} {i:Nat} {s:σ} {F:Int×σ} (h:frsS f (l.drop i) i s=F) (hi:¬i<l.length):F=(0,s):=by
 rw [frsS_end hi] at h
 exact h.symm
end Go.PN
namespace Go.Proofs.YteehccacfedolaaGreat
open Go.AI Go.PN
theorem le_gst {pre:Heap} {og:Option Nat} {ty:TypeId} {sp:List BS} (hog:og=none→sp.length=0) (hnd:(pre++gh og ty sp.length (strsF sp)).keys.Nodup):LeC (pre++gh og ty sp.length (strsF sp)) (gs og 1 sp.length) (strs false sp):=by
 cases og with
 |none=>
  have h0:=hog rfl
  show LeC _ .nils (.row false 1 sp.length (strsF sp))
  rw [h0]
  exact .nils
 |some g=>
  have hg:g∉pre.keys:=fun hm=>by
   have hk:(pre++gh (some g) ty sp.length (strsF sp)).keys=pre.keys++[g]:=by simp [Heap.keys,gh]
   rw [hk] at hnd
   exact(List.nodup_append.1 hnd).2.2 g hm g (by simp) rfl
  exact .osl (Heap.get_app hg) om (fun j _=>by rw [Nat.zero_add];exact .refl _)
attribute [local irreducible] aw Fa Fh DrK
theorem checkInputs_fh (m:MdD) (k:Nat) (sp0:List BS) (og0:Option Nat) (hk:k≤m.pages.length) (hm:MdOk m) (hw2:MdWf2 m) (hI:∀i,((gtsK m k).getD i gt0).inputs.length≤16) (hin:∀i j,(((gtsK m k).getD i gt0).inputs.getD j []).length≤1099511627776) (hog0:og0=none→sp0.length=0) (hb0:sp0.length≤1073741824):Fh Tryz.prog 44 (gh og0 9 sp0.length (strsF sp0)) [.agg (mdc true m),.c (.int .i64 ((k:Int)-1)),.c (gs og0 1 sp0.length)] (fun x h=>((inP m k sp0).1≠0∧h=[]∧x=.tup [.c .nils,.c (errA (inP m k sp0).1)])∨((inP m k sp0).1=0∧∃og,(og=none→(inP m k sp0).2.length=0)∧h=gh og 9 (inP m k sp0).2.length (strsF (inP m k sp0).2)∧x=.tup [.c (gs og 1 (inP m k sp0).2.length),.c .nilI])):=by
 have hkl:=gtsK_len hw2 k
 have f0:=gatesOf_fa m k hk hm.pg
 refine fh_of_body Tryz.func44 rfl rfl (by simp [Tryz.ntmps44]) fun C hC=> ?_
 simp only [initS,Nat.reduceAdd]
 repeat' first|refine yA1 o0 ?_|refine zW o0 ?_|refine yP o0 ?_|refine yN o0 ?_|refine zC o0 (fun hb=>?_) fun hb=>?_|refine zG o0 (fun hb=>?_) fun hb=>?_|refine zD o0 (fun hb=>?_) fun hb=>?_
 refine xB fun g1 hn_g1=>?_
 repeat' first|refine yA1 hn_g1 ?_|(refine yC2 hn_g1 (f0) ?_)|(refine yD2 hn_g1 (f0) ?_)|refine zW hn_g1 ?_|refine yP hn_g1 ?_|refine yN hn_g1 ?_|refine zC hn_g1 (fun hb=>?_) fun hb=>?_|refine zG hn_g1 (fun hb=>?_) fun hb=>?_|refine zD hn_g1 (fun hb=>?_) fun hb=>?_
 generalize hF:frsS (inG m k) (gtsK m k) 0 sp0=F
 have hPn:F.1≠0→inP m k sp0=F:=fun h=>by unfold inP;rw [hF,if_neg h]
 have hP0:F.1=0→inP m k sp0=(tpC m k,F.2):=fun h=>by unfold inP;rw [hF,if_pos h]
 generalize hL:gtsK m k=L at*
 refine aw_lp (fun x:Nat×List BS×Option Nat=>[(1,.c (.int .i64 ((k:Int)-1))),(2,.c (gs x.2.2 1 x.2.1.length)),(3,.c (.optr g1 0)),(6,.c .nils),(7,.c .nilI),(15,.c (gts true L)),(16,.c (.int .i64 L.length)),(17,.c (.int .i64 x.1))]) (fun x=>[(g1,.cells 30 8 (ofL (mdc true m)))]++gh x.2.2 9 x.2.1.length (strsF x.2.1)) (fun x=>x.1≤L.length∧(x.2.2=none→x.2.1.length=0)∧x.2.1.length≤sp0.length+16*x.1∧frsS (inG m k) (L.drop x.1) x.1 x.2.1=F) (fun x=>L.length-x.1) (0,sp0,og0) (zB hn_g1) zZ ⟨Nat.zero_le _,hog0,by dsimp only;omega,hF⟩ ?_
 rintro ⟨i,sp,og⟩ ⟨hi,hog,hsz,hlp⟩
 dsimp only at hi hog hsz hlp⊢
 simp only [List.cons_append,List.nil_append]
 have fT1:=gate_fa (m.pages.getD (k-1) pg0).gates (m.pages.getD (k-1) pg0).top (by have:=(hw2.pg (k-1)).2;omega)
 have fT2:=event_fa m (m.pages.getD (k-1) pg0).top hm.ev
 repeat' first|refine yA1 hn_g1 ?_|(refine yC2 hn_g1 (fT1) ?_)|(refine yD2 hn_g1 (fT1) ?_)|(refine yC2 hn_g1 (fT2) ?_)|(refine yD2 hn_g1 (fT2) ?_)|refine zW hn_g1 ?_|refine yP hn_g1 ?_|refine yN hn_g1 ?_|refine zC hn_g1 (fun hb=>?_) fun hb=>?_|refine zG hn_g1 (fun hb=>?_) fun hb=>?_|refine zD hn_g1 (fun hb=>?_) fun hb=>?_
 ·have hi':=hb
  have w1:=hI i
  have w2:=hin i
  have hlp2:=fun r=>frsS_ret (d:=gt0) (r:=r) hlp hi'
  have hgo:=fun r=>frsS_go (d:=gt0) (r:=r) hlp hi'
  clear hlp fT1 fT2
  generalize hx:L.getD i gt0=x at*
  refine yA hn_g1 fun g4 hn_g4=>?_
  all_goals try(have Z:=(oj hn_g1 hn_g4);(repeat' first|refine yA1 Z ?_|refine zW Z ?_|refine yP Z ?_|refine yN Z ?_|refine zC Z (fun hb=>?_) fun hb=>?_|refine zG Z (fun hb=>?_) fun hb=>?_|refine zD Z (fun hb=>?_) fun hb=>?_);all_goals clear Z)
  generalize hF2:frsS (inI m k x) x.inputs 0 sp=F2
  have e2:inG m k i x sp=F2:=hF2
  rw [e2] at hlp2 hgo
  refine aw_lp (fun y:Nat×List BS×Option Nat=>[(1,.c (.int .i64 ((k:Int)-1))),(2,.c (gs y.2.2 1 y.2.1.length)),(3,.c (.optr g1 0)),(6,.c .nils),(7,.c .nilI),(9,.c (.optr g4 0)),(15,.c (gts true L)),(16,.c (.int .i64 L.length)),(17,.c (.int .i64 i)),(22,.c (strs true x.inputs)),(23,.c (.int .i64 x.inputs.length)),(24,.c (.int .i64 y.1))]) (fun y=>[(g4,.cells 45 7 (ofL (gtc x))),(g1,.cells 30 8 (ofL (mdc true m)))]++gh y.2.2 9 y.2.1.length (strsF y.2.1)) (fun y=>y.1≤x.inputs.length∧(y.2.2=none→y.2.1.length=0)∧y.2.1.length≤sp.length+y.1∧frsS (inI m k x) (x.inputs.drop y.1) y.1 y.2.1=F2) (fun y=>x.inputs.length-y.1) (0,sp,og) (zB (oj hn_g1 hn_g4)) zZ ⟨Nat.zero_le _,hog,by dsimp only;omega,hF2⟩ ?_
  rintro ⟨j,sq,oq⟩ ⟨hj,hoq,hsq,hlq⟩
  dsimp only at hj hoq hsq hlq⊢
  simp only [List.cons_append,List.nil_append]
  all_goals try(have Z:=(oj hn_g1 hn_g4);(repeat' first|refine yA1 Z ?_|refine zW Z ?_|refine yP Z ?_|refine yN Z ?_|refine zC Z (fun hb=>?_) fun hb=>?_|refine zG Z (fun hb=>?_) fun hb=>?_|refine zD Z (fun hb=>?_) fun hb=>?_);all_goals clear Z)
  ·have hj':=hb
   have w3:=w2 j
   have hq2:=fun r=>frsS_ret (d:=([]:BS)) (r:=r) hlq hj'
   have hqg:=fun r=>frsS_go (d:=([]:BS)) (r:=r) hlq hj'
   clear hlq
   generalize hy:x.inputs.getD j []=y at*
   have hR:∀c s,inI m k x j y sq=(c,s)→c≠0→(inP m k sp0).1=c:=fun c s h1 h2=>by
    have a1:=hq2 _ h1 h2
    rw [a1] at hlp2
    have a2:=hlp2 _ rfl h2
    rw [hPn (by rw [a2];exact h2),a2]
   have f1:=isInput_fa m k y hk hm (by rw [hL];omega) w3
   have f2:=must_fa x j om
   have f3:=event_fa m y hm.ev
   have f4:=scontF_fa sq y om
   all_goals try(have Z:=(oj hn_g1 hn_g4);(repeat' first|refine yA1 Z ?_|(refine yC2 Z (f1) ?_)|(refine yD2 Z (f1) ?_)|(refine yC2 Z (f2) ?_)|(refine yD2 Z (f2) ?_)|(refine yC2 Z (f3) ?_)|(refine yD2 Z (f3) ?_)|refine zW Z ?_|refine yP Z ?_|refine yN Z ?_|refine zC Z (fun hb=>?_) fun hb=>?_|refine zG Z (fun hb=>?_) fun hb=>?_|refine zD Z (fun hb=>?_) fun hb=>?_);all_goals clear Z)
   all_goals first
    |(refine aw_keep [(6,.c .nils),(7,.c (.ifc 73 (.int .i64 5)))] [] (zB (oj hn_g1 hn_g4)) (List.nil_sublist _) ?_
      have h5:=hR 5 sq (by
       unfold inI evI
       repeat' split
       all_goals first|rfl|(exfalso;simp_all;done)|(exfalso;simp_all;omega)) (by decide)
      refine yU (oj hn_g1 hn_g4) ?_
      rw [h5]
      exact .inl ⟨by decide,rfl,rfl⟩)
    |(refine aw_keep [(6,.c .nils),(7,.c (.ifc 73 (.int .i64 7)))] [] (zB (oj hn_g1 hn_g4)) (List.nil_sublist _) ?_
      have h5:=hR 7 sq (by
       unfold inI evI
       repeat' split
       all_goals first|rfl|(exfalso;simp_all;done)|(exfalso;simp_all;omega)) (by decide)
      refine yU (oj hn_g1 hn_g4) ?_
      rw [h5]
      exact .inl ⟨by decide,rfl,rfl⟩)
    |(refine aw_stop ⟨(j+1,sq,oq),?_⟩
      have hz:inI m k x j y sq=(0,sq):=by
       unfold inI evI
       repeat' split
       all_goals first|rfl|(exfalso;simp_all;done)|(exfalso;simp_all;omega)
      have hq:=hqg _ hz rfl
      and_intros
      all_goals first|rfl|exact List.Sublist.refl _|exact List.sublist_cons_self _ _|exact True.intro|exact hoq|exact hq|(dsimp only;omega))
    |skip
   all_goals
    have hk7:=hb
    refine aw_nd fun hnd=> ?_
    refine aw_callq f4 rfl rfl rfl (by refine yS (oj hn_g1 hn_g4) ?_;exact⟨.c (le_gst (pre:=[(g4,.cells 45 7 (ofL (gtc x))),(g1,.cells 30 8 (ofL (mdc true m)))]) hoq hnd),.c (.refl _)⟩) ?_
    have J1:=oj hn_g1 hn_g4
    refine yS J1 ?_
    all_goals try(have Z:=J1;(repeat' first|refine yA1 Z ?_|refine zW Z ?_|refine yP Z ?_|refine yN Z ?_|refine zC Z (fun hb=>?_) fun hb=>?_|refine zG Z (fun hb=>?_) fun hb=>?_|refine zD Z (fun hb=>?_) fun hb=>?_);all_goals clear Z)
    ·refine aw_keep [(6,.c .nils),(7,.c (.ifc 73 (.int .i64 6)))] [] (zB J1) (List.nil_sublist _) ?_
     have h5:=hR 6 sq (by
      unfold inI evI
      repeat' split
      all_goals first|rfl|(exfalso;simp_all;done)|(exfalso;simp_all;omega)) (by decide)
     refine yU J1 ?_
     rw [h5]
     exact .inl ⟨by decide,rfl,rfl⟩
    ·have hz:inI m k x j y sq=(0,sq++[y]):=by
      unfold inI evI
      repeat' split
      all_goals first|rfl|(exfalso;simp_all;done)|(exfalso;simp_all;omega)
     have hq:=hqg _ hz rfl
     have hln:(sq++[y]).length=sq.length+1:=by rw [List.length_append];rfl
     refine aw_push (pre:=[(g4,.cells 45 7 (ofL (gtc x))),(g1,.cells 30 8 (ofL (mdc true m)))]) rfl rfl rfl rfl rfl rfl rfl (zE J1) (zE J1) (by rfl) om om (zE J1) om (by exact hoq) (zE J1) (by rfl) (by rfl) (by first|rfl|simp only [Nat.mul_one,List.nil_append,List.cons_append]<;>rfl) (by unfold maxLen;omega) om (by exact strs_push rfl y) fun gb hn_gb=> ?_
     replace hn_gb:=Heap.ne_of hn_gb
     first|dsimp only [Heap.ne,gh] at hn_gb|dsimp only [Heap.ne] at hn_gb|skip
     refine yS (oj hn_g1 (oj hn_g4 hn_gb)) ?_
     all_goals try(have Z:=(oj hn_g1 (oj hn_g4 hn_gb));(repeat' first|refine yA1 Z ?_|refine zW Z ?_|refine yP Z ?_|refine yN Z ?_|refine zC Z (fun hb=>?_) fun hb=>?_|refine zG Z (fun hb=>?_) fun hb=>?_|refine zD Z (fun hb=>?_) fun hb=>?_);all_goals clear Z)
     refine aw_stop ⟨(j+1,sq++[y],some gb),?_⟩
     dsimp only
     simp only [hln]
     and_intros
     all_goals first|rfl|exact List.Sublist.refl _|exact List.sublist_cons_self _ _|exact True.intro|exact some_ne|exact hq|omega|trace_state
  ·have hF0:=frsS_fin hlq hb
   subst hF0
   refine aw_stop ⟨(i+1,sq,oq),?_⟩
   and_intros
   all_goals first|rfl|exact List.Sublist.refl _|exact List.sublist_cons_self _ _|exact True.intro|exact hoq|exact hgo _ rfl rfl|(dsimp only;omega)
 ·rename_i hi0 hk1 ha
  have hF0:=frsS_fin hlp hi0
  subst hF0
  have hT:inP m k sp0=(tpC m k,sp):=hP0 rfl
  have h5:tpC m k=5:=by
   obtain⟨q,rfl⟩:∃q,k=q+1:=⟨k-1,by omega⟩
   exact if_pos ⟨ha,hb⟩
  refine aw_keep [(6,.c .nils),(7,.c (.ifc 73 (.int .i64 5)))] [] (zB hn_g1) (List.nil_sublist _) ?_
  refine yU hn_g1 ?_
  rw [hT,h5]
  exact .inl ⟨show(5:Int)≠0 by decide,rfl,rfl⟩
 ·rename_i hi0 hk1 ha
  have hF0:=frsS_fin hlp hi0
  subst hF0
  have hT:inP m k sp0=(tpC m k,sp):=hP0 rfl
  have h0:tpC m k=0:=by
   obtain⟨q,rfl⟩:∃q,k=q+1:=⟨k-1,by omega⟩
   exact if_neg fun z=>hb z.2
  refine aw_keep [(6,.c (gs og 1 sp.length)),(7,.c .nilI)] (gh og 9 sp.length (strsF sp)) (zB hn_g1) (List.sublist_cons_self _ _) ?_
  refine yU hn_g1 ?_
  rw [hT,h0]
  exact .inr ⟨rfl,og,hog,rfl,rfl⟩
 ·rename_i hi0 hk1
  have hF0:=frsS_fin hlp hi0
  subst hF0
  have hT:inP m k sp0=(tpC m k,sp):=hP0 rfl
  have h0:tpC m k=0:=by
   obtain⟨q,rfl⟩:∃q,k=q+1:=⟨k-1,by omega⟩
   exact if_neg fun z=>hb z.1
  refine aw_keep [(6,.c (gs og 1 sp.length)),(7,.c .nilI)] (gh og 9 sp.length (strsF sp)) (zB hn_g1) (List.sublist_cons_self _ _) ?_
  refine yU hn_g1 ?_
  rw [hT,h0]
  exact .inr ⟨rfl,og,hog,rfl,rfl⟩
 ·rename_i hi0
  have hF0:=frsS_fin hlp hi0
  subst hF0
  have hT:inP m k sp0=(tpC m k,sp):=hP0 rfl
  have h0:tpC m k=0:=by
   have:k=0:=by omega
   subst this
   rfl
  refine aw_keep [(6,.c (gs og 1 sp.length)),(7,.c .nilI)] (gh og 9 sp.length (strsF sp)) (zB hn_g1) (List.sublist_cons_self _ _) ?_
  refine yU hn_g1 ?_
  rw [hT,h0]
  exact .inr ⟨rfl,og,hog,rfl,rfl⟩
end Go.Proofs.YteehccacfedolaaGreat
