/- Parts of one proof, laid by a program. -/
import Derived.Test.YteocnikcjjonbaaGreatG00
import Derived.Test.YteocnikcjjonbaaGreatG09
set_option linter.unusedSimpArgs false
set_option linter.unusedVariables false
set_option maxRecDepth 100000
set_option maxHeartbeats 12800000
namespace Go.PN
open Go.AI
structure MdWf2 (m:MdD):Prop where
 pg:∀i,(m.pages.getD i pg0).name.length≤1099511627776∧(m.pages.getD i pg0).gates.length≤1048576
 gl:m.gates.length≤1048576
 pl:m.pages.length≤1048576
 gt:∀k i,((gtsK m k).getD i gt0).name.length≤1099511627776∧((gtsK m k).getD i gt0).dorm.wf 1073741824∧((gtsK m k).getD i gt0).inputs.length≤1099511627776
theorem gtsK_len {m:MdD} (h:MdWf2 m) (k:Nat):(gtsK m k).length≤1048576:=match k with
 |0=>h.gl
 |k+1=>(h.pg k).2
def pgS (l:List PgD):Nat:=(l.map fun p=>p.gates.length).sum
theorem pgS_le {l:List PgD} (h:∀i,(l.getD i pg0).gates.length≤1048576):pgS l≤l.length*1048576:=by
 induction l with
 |nil=>exact Nat.zero_le _
 |cons p l ih=>
  have h0:=h 0
  have:=ih fun i=>h (i+1)
  show p.gates.length+pgS l≤_
  rw [List.length_cons]
  have h1:p.gates.length≤1048576:=h0
  omega
theorem pgS_take {l:List PgD} {i:Nat} (h:i<l.length):pgS (l.take (i+1))=pgS (l.take i)+(l.getD i pg0).gates.length:=by
 have e:l.getD i pg0=l[i]:=by rw [List.getD_eq_getElem?_getD,List.getElem?_eq_getElem h];rfl
 rw [List.take_succ_eq_append_getElem h,e]
 unfold pgS
 rw [List.map_append,List.sum_append]
 simp
end Go.PN
namespace Go.Proofs.YteocnikcjjonbaaGreat
open Go.AI Go.PN
attribute [local irreducible] aw Fa Fh DrK
theorem checkPages_fa (m:MdD) (hm:MdOk m) (hw:MdWf2 m):Fa Tryz.prog 44 [.agg (mdc true m)] (.c (errA (pgsC m))):=by
 have hgl:=hw.gl
 have hpl:=hw.pl
 have hP:∀i,i≤m.pages.length→pgS (m.pages.take i)≤1099511627776:=fun i hi=>by
  have h1:∀j,((m.pages.take i).getD j pg0).gates.length≤1048576:=fun j=>by
   by_cases hj:j<i
   ·have:=(hw.pg j).2
    rw [List.getD_eq_getElem?_getD,List.getElem?_take_of_lt hj,←List.getD_eq_getElem?_getD];exact this
   ·rw [List.getD_eq_getElem?_getD,List.getElem?_take_eq_none om];exact Nat.zero_le _
  have h2:=pgS_le h1
  rw [List.length_take] at h2
  have:min i m.pages.length≤1048576:=by omega
  calc _≤_:=h2
   _≤1048576*1048576:=Nat.mul_le_mul_right _ this
 refine fa_of_body Tryz.func44 rfl rfl (by simp [Tryz.ntmps44]) fun C hC=> ?_
 simp only [initS,Nat.reduceAdd]
 repeat' first|refine yA1 o0 ?_|refine zW o0 ?_|refine yP o0 ?_|refine yN o0 ?_|refine zC o0 (fun hb=>?_) fun hb=>?_|refine zG o0 (fun hb=>?_) fun hb=>?_|refine zD o0 (fun hb=>?_) fun hb=>?_
 refine xB fun g1 hn_g1=>?_
 repeat' first|refine yA1 hn_g1 ?_|refine zW hn_g1 ?_|refine yP hn_g1 ?_|refine yN hn_g1 ?_|refine zC hn_g1 (fun hb=>?_) fun hb=>?_|refine zG hn_g1 (fun hb=>?_) fun hb=>?_|refine zD hn_g1 (fun hb=>?_) fun hb=>?_
 refine aw_lp (fun i:Nat=>[(1,.c (.optr g1 0)),(2,.c .nilI),(3,.c (.int .i64 ((m.gates.length+pgS (m.pages.take i):Nat):Int))),(12,.c (pgs true m.pages)),(13,.c (.int .i64 m.pages.length)),(14,.c (.int .i64 i))]) (fun _=>[(g1,.cells 30 8 (ofL (mdc true m)))]) (fun i=>i≤m.pages.length) (fun i=>m.pages.length-i) 0 (zB hn_g1) zZ (Nat.zero_le _) ?_
 rintro i hi
 have hPi:=hP i hi
 repeat' first|refine yA1 hn_g1 ?_|refine zW hn_g1 ?_|refine yP hn_g1 ?_|refine yN hn_g1 ?_|refine zC hn_g1 (fun hb=>?_) fun hb=>?_|refine zG hn_g1 (fun hb=>?_) fun hb=>?_|refine zD hn_g1 (fun hb=>?_) fun hb=>?_
 ·have hi':=hb
  have hP2:=hP (i+1) hi'
  have ht:=pgS_take hi'
  have hpg:=(hw.pg i).2
  refine yA hn_g1 fun g4 hn_g4=>?_
  all_goals try(have Z:=(oj hn_g1 hn_g4);(repeat' first|refine yA1 Z ?_|refine zW Z ?_|refine yP Z ?_|refine yN Z ?_|refine zC Z (fun hb=>?_) fun hb=>?_|refine zG Z (fun hb=>?_) fun hb=>?_|refine zD Z (fun hb=>?_) fun hb=>?_);all_goals clear Z)
  refine aw_stop ⟨i+1,?_⟩
  and_intros
  all_goals first|rfl|exact List.Sublist.refl _|exact List.sublist_cons_self _ _|exact True.intro|exact c_int om|omega
 ·rename_i hi0
  refine yT hC hn_g1 ?_
  exact .one (.c (ler_errE (by unfold pgsC;rw [if_pos (.inl om)]) (by decide)))
 ·rename_i h8 hi0
  have htk:m.pages.take i=m.pages:=List.take_of_length_le om
  rw [htk] at hb
  have hg:gtN m>64:=by
   show m.gates.length+pgS m.pages>64
   omega
  refine yT hC hn_g1 ?_
  exact .one (.c (ler_errE (by unfold pgsC;rw [if_pos (.inr hg)]) (by decide)))
 rename_i h8 hi0
 have htk:m.pages.take i=m.pages:=List.take_of_length_le om
 rw [htk] at hb
 have hg:¬gtN m>64:=by
  show¬m.gates.length+pgS m.pages>64
  omega
 have he2:pgsC m=frst (pgC m) m.pages 0:=by
  unfold pgsC
  rw [if_neg (fun z=>z.elim om hg)]
 generalize hF:frst (pgC m) m.pages 0=F at he2
 refine aw_lp (fun i:Nat=>[(1,.c (.optr g1 0)),(2,.c .nilI),(34,.c (pgs true m.pages)),(35,.c (.int .i64 m.pages.length)),(36,.c (.int .i64 i))]) (fun _=>[(g1,.cells 30 8 (ofL (mdc true m)))]) (fun i=>i≤m.pages.length∧frst (pgC m) (m.pages.drop i) i=F) (fun i=>m.pages.length-i) 0 (zB hn_g1) zZ ⟨Nat.zero_le _,hF⟩ ?_
 rintro i ⟨hi,hlp⟩
 repeat' first|refine yA1 hn_g1 ?_|refine zW hn_g1 ?_|refine yP hn_g1 ?_|refine yN hn_g1 ?_|refine zC hn_g1 (fun hb=>?_) fun hb=>?_|refine zG hn_g1 (fun hb=>?_) fun hb=>?_|refine zD hn_g1 (fun hb=>?_) fun hb=>?_
 ·obtain⟨w0,_⟩:=hw.pg i
  have hi':=hb
  have hR:∀c,pgC m i (m.pages.getD i pg0)=c→c≠0→pgsC m=c:=fun c hc h0=>by
   rw [he2];exact frst_ret hlp hi' hc h0
  have hG:=frst_go (d:=pg0) hlp hi'
  generalize hx:m.pages.getD i pg0=x at*
  have f1:Fa Tryz.prog 42 [.c (.str (sB x.name))] (.c (.bool (nameOk x.name))):=tname_fa x.name w0
  have f2:=page_fa m x.name hm.pg
  refine yA hn_g1 fun g4 hn_g4=>?_
  all_goals try(have Z:=(oj hn_g1 hn_g4);(repeat' first|refine yA1 Z ?_|(refine yC2 Z (f1) ?_)|(refine yD2 Z (f1) ?_)|(refine yC2 Z (f2) ?_)|(refine yD2 Z (f2) ?_)|refine zW Z ?_|refine yP Z ?_|refine yN Z ?_|refine zC Z (fun hb=>?_) fun hb=>?_|refine zG Z (fun hb=>?_) fun hb=>?_|refine zD Z (fun hb=>?_) fun hb=>?_);all_goals clear Z)
  all_goals clear f1 f2
  all_goals first
   |(refine yT hC (oj hn_g1 hn_g4) ?_
     refine .one (.c (ler_errE (c:=pgsC m) (hR _ ?_ (by decide)) (by decide)))
     clear hR hG hlp hF hx
     unfold pgC pgI
     repeat' split
     all_goals first|rfl|(exfalso;simp_all;done)|(exfalso;simp_all;omega))
   |(refine aw_stop ⟨i+1,?_⟩
     have hz:pgC m i x=0:=by
      clear hR hG hlp hF hx
      unfold pgC pgI
      repeat' split
      all_goals first|rfl|(exfalso;simp_all;done)|(exfalso;simp_all;omega)
     and_intros
     all_goals first|rfl|exact List.Sublist.refl _|exact List.sublist_cons_self _ _|exact True.intro|exact hG hz|omega)
 ·have hF0:=frst_fin hlp hb
  subst hF0
  refine yT hC hn_g1 ?_
  exact .one (.c (ler_err0 he2))
theorem checkGates_fa (m:MdD) (k:Nat) (hk:k≤m.pages.length) (hm:MdOk m) (hw:MdWf2 m):Fa Tryz.prog 45 [.agg (mdc true m),.c (.int .i64 ((k:Int)-1))] (.c (errA (gtsC m k))):=by
 have hkl:=gtsK_len hw k
 have f0:=gatesOf_fa m k hk hm.pg
 refine fa_of_body Tryz.func45 rfl rfl (by simp [Tryz.ntmps45]) fun C hC=> ?_
 simp only [initS,Nat.reduceAdd]
 repeat' first|refine yA1 o0 ?_|refine zW o0 ?_|refine yP o0 ?_|refine yN o0 ?_|refine zC o0 (fun hb=>?_) fun hb=>?_|refine zG o0 (fun hb=>?_) fun hb=>?_|refine zD o0 (fun hb=>?_) fun hb=>?_
 refine xB fun g1 hn_g1=>?_
 repeat' first|refine yA1 hn_g1 ?_|(refine yC2 hn_g1 (f0) ?_)|(refine yD2 hn_g1 (f0) ?_)|refine zW hn_g1 ?_|refine yP hn_g1 ?_|refine yN hn_g1 ?_|refine zC hn_g1 (fun hb=>?_) fun hb=>?_|refine zG hn_g1 (fun hb=>?_) fun hb=>?_|refine zD hn_g1 (fun hb=>?_) fun hb=>?_
 have he2:gtsC m k=frst (gtC m k) (gtsK m k) 0:=rfl
 generalize hF:frst (gtC m k) (gtsK m k) 0=F at he2
 generalize hL:gtsK m k=L at*
 refine aw_lp (fun i:Nat=>[(1,.c (.int .i64 ((k:Int)-1))),(2,.c (.optr g1 0)),(4,.c .nilI),(5,.c (gts true L)),(12,.c (gts true L)),(13,.c (.int .i64 L.length)),(14,.c (.int .i64 i))]) (fun _=>[(g1,.cells 30 8 (ofL (mdc true m)))]) (fun i=>i≤L.length∧frst (gtC m k) (L.drop i) i=F) (fun i=>L.length-i) 0 (zB hn_g1) zZ ⟨Nat.zero_le _,hF⟩ ?_
 rintro i ⟨hi,hlp⟩
 repeat' first|refine yA1 hn_g1 ?_|refine zW hn_g1 ?_|refine yP hn_g1 ?_|refine yN hn_g1 ?_|refine zC hn_g1 (fun hb=>?_) fun hb=>?_|refine zG hn_g1 (fun hb=>?_) fun hb=>?_|refine zD hn_g1 (fun hb=>?_) fun hb=>?_
 ·obtain⟨w0,w1,w2⟩:=hw.gt k i
  rw [hL] at w0 w1 w2
  have hi':=hb
  have hR:∀c,gtC m k i (L.getD i gt0)=c→c≠0→gtsC m k=c:=fun c hc h0=>by
   rw [he2];exact frst_ret hlp hi' hc h0
  have hG:=frst_go (d:=gt0) hlp hi'
  generalize hx:L.getD i gt0=x at*
  have f1:Fa Tryz.prog 42 [.c (.str (sB x.name))] (.c (.bool (nameOk x.name))):=tname_fa x.name w0
  have f2:=event_fa m x.name hm.ev
  have f3:=house_fa m x.name hm.hs
  have f4:=gate_fa L x.name om
  have f5:=checkGate_fa x w1 w2
  refine yA hn_g1 fun g4 hn_g4=>?_
  all_goals try(have Z:=(oj hn_g1 hn_g4);(repeat' first|refine yA1 Z ?_|(refine yC2 Z (f1) ?_)|(refine yD2 Z (f1) ?_)|(refine yC2 Z (f2) ?_)|(refine yD2 Z (f2) ?_)|(refine yC2 Z (f3) ?_)|(refine yD2 Z (f3) ?_)|(refine yC2 Z (f4) ?_)|(refine yD2 Z (f4) ?_)|(refine yC2 Z (f5) ?_)|(refine yD2 Z (f5) ?_)|refine zW Z ?_|refine yP Z ?_|refine yN Z ?_|refine zC Z (fun hb=>?_) fun hb=>?_|refine zG Z (fun hb=>?_) fun hb=>?_|refine zD Z (fun hb=>?_) fun hb=>?_);all_goals clear Z)
  all_goals clear f1 f2 f3 f4 f5
  all_goals first
   |(refine yT hC (oj hn_g1 hn_g4) ?_
     refine .one (.c (ler_errE (c:=gtsC m k) (hR _ ?_ (by decide)) (by decide)))
     clear hR hG hlp hF hx
     unfold gtC evI hsI
     repeat' split
     all_goals first|rfl|(exfalso;simp_all;done)|(exfalso;simp_all;omega))
   |(refine aw_stop ⟨i+1,?_⟩
     have hz:gtC m k i x=0:=by
      clear hR hG hlp hF hx
      unfold gtC evI hsI
      repeat' split
      all_goals first|rfl|(exfalso;simp_all;done)|(exfalso;simp_all;omega)|simp_all
     and_intros
     all_goals first|rfl|exact List.Sublist.refl _|exact List.sublist_cons_self _ _|exact True.intro|exact hG hz|omega)
   |(have h0:shpC x≠0:=by simpa using hb
     have hz:gtC m k i x=shpC x:=by
      clear hR hG hlp hF hx
      unfold gtC evI hsI
      repeat' split
      all_goals first|rfl|(exfalso;simp_all;done)|(exfalso;simp_all;omega)
     refine yT hC (oj hn_g1 hn_g4) ?_
     rw [hR (shpC x) hz h0]
     exact .one (.c ler_err))
 ·have hF0:=frst_fin hlp hb
  subst hF0
  refine yT hC hn_g1 ?_
  exact .one (.c (ler_err0 he2))
end Go.Proofs.YteocnikcjjonbaaGreat
namespace Go.Proofs.YteocnikcjjonbaaGreat
open Go.AI Go.PN
attribute [local irreducible] aw Fa Fh DrK
theorem gr1_fg (g:Nat) (y x:GrD):Fg Tryz.prog 95 g (.cells 100 4 (ofL (grc y))) [.agg (grc x),.c (.optr g 0)] (.c (.bool (x.name==y.name))) (.cells 100 4 (ofL (grc y))):=by
 unfold Fg
 refine fh_of_body Tryz.func95 rfl rfl (by simp [Tryz.ntmps95]) fun C hC=> ?_
 simp only [initS,Nat.reduceAdd]
 repeat' first|refine yA1 o0 ?_|refine zW o0 ?_|refine yP o0 ?_|refine yN o0 ?_|refine zC o0 (fun hb=>?_) fun hb=>?_|refine zG o0 (fun hb=>?_) fun hb=>?_|refine zD o0 (fun hb=>?_) fun hb=>?_
 refine xB fun g1 hn_g1=>?_
 repeat' first|refine yA1 hn_g1 ?_|refine zW hn_g1 ?_|refine yP hn_g1 ?_|refine yN hn_g1 ?_|refine zC hn_g1 (fun hb=>?_) fun hb=>?_|refine zG hn_g1 (fun hb=>?_) fun hb=>?_|refine zD hn_g1 (fun hb=>?_) fun hb=>?_
 refine aw_rethw (h':=[(g,(.cells 100 4 (ofL (grc y))))]) rfl (by first|exact List.Sublist.refl _|exact .cons _ (.refl _)|exact .cons _ (.cons _ (.refl _))|exact .cons _ (.cons _ (.cons _ (.refl _)))) fun R r=>?_;simp only[go_sem,hn_g1];refine r _ rfl ?_;clear r R
 exact⟨rfl,rfl⟩
theorem grI_fg (g:Nat) (y:GrD) (l:List GrD) (hl:l.length≤1099511627776):Fg Tryz.prog 94 g (.cells 100 4 (ofL (grc y))) [.c (grs true l),.c (fnC 95 [g])] (.c (.int .i64 (fidx (fun x=>x.name==y.name) l))) (.cells 100 4 (ofL (grc y))):=by
 unfold Fg
 refine fh_of_body Tryz.func94 rfl rfl (by simp [Tryz.ntmps94]) fun C hC=> ?_
 simp only [initS,Nat.reduceAdd]
 repeat' first|refine yA1 o0 ?_|refine zW o0 ?_|refine yP o0 ?_|refine yN o0 ?_|refine zC o0 (fun hb=>?_) fun hb=>?_|refine zG o0 (fun hb=>?_) fun hb=>?_|refine zD o0 (fun hb=>?_) fun hb=>?_
 refine aw_lp (fun i:Nat=>[(0,.c (grs true l)),(1,.c (fnC 95 [g])),(4,.c (.int .i64 0)),(7,.c (.int .i64 l.length)),(8,.c (.int .i64 i))]) (fun _=>[(g,(.cells 100 4 (ofL (grc y))))]) (fun i=>i≤l.length∧∀j,j<i→((fun x:GrD=>x.name==y.name) (l.getD j gr0))=false) (fun i=>l.length-i) 0 eB zZ ⟨Nat.zero_le _,fun j hj=>absurd hj om⟩ ?_
 rintro i ⟨hi,hn⟩
 repeat' first|refine yA1 o0 ?_|refine zW o0 ?_|refine yP o0 ?_|refine yN o0 ?_|refine zC o0 (fun hb=>?_) fun hb=>?_|refine zG o0 (fun hb=>?_) fun hb=>?_|refine zD o0 (fun hb=>?_) fun hb=>?_
 ·have hi':=hb
  have hf:=gr1_fg g y (l.getD i gr0)
  refine aw_cgv (args:=[.agg (grc (l.getD i gr0))]) hf rfl rfl rfl eE eE eL ?_
  refine xS ?_
  repeat' first|refine yA1 o0 ?_|refine zW o0 ?_|refine yP o0 ?_|refine yN o0 ?_|refine zC o0 (fun hb=>?_) fun hb=>?_|refine zG o0 (fun hb=>?_) fun hb=>?_|refine zD o0 (fun hb=>?_) fun hb=>?_
  ·rw [fidx_at (p:=fun x:GrD=>x.name==y.name) gr0 hi' (by simpa using hb) hn]
   refine xU ?_
   exact⟨rfl,rfl⟩
  ·refine aw_stop ⟨i+1,?_⟩
   have hn':∀j,j<i+1→((fun x:GrD=>x.name==y.name) (l.getD j gr0))=false:=fun j hj=>by
    by_cases e:j=i
    ·subst e;simpa using hb
    ·exact hn j om
   and_intros
   all_goals first|rfl|exact List.Sublist.refl _|exact True.intro|exact hn'|omega
 ·have hf:fidx (fun x=>x.name==y.name) l= -1:=fidx_no gr0 (fun j hj=>hn j om)
  rw [hf]
  refine xU ?_
  exact⟨rfl,rfl⟩
theorem ph1_fg (g:Nat) (y x:PhD):Fg Tryz.prog 99 g (.cells 104 3 (ofL (phc y))) [.agg (phc x),.c (.optr g 0)] (.c (.bool (x.name==y.name))) (.cells 104 3 (ofL (phc y))):=by
 unfold Fg
 refine fh_of_body Tryz.func99 rfl rfl (by simp [Tryz.ntmps99]) fun C hC=> ?_
 simp only [initS,Nat.reduceAdd]
 repeat' first|refine yA1 o0 ?_|refine zW o0 ?_|refine yP o0 ?_|refine yN o0 ?_|refine zC o0 (fun hb=>?_) fun hb=>?_|refine zG o0 (fun hb=>?_) fun hb=>?_|refine zD o0 (fun hb=>?_) fun hb=>?_
 refine xB fun g1 hn_g1=>?_
 repeat' first|refine yA1 hn_g1 ?_|refine zW hn_g1 ?_|refine yP hn_g1 ?_|refine yN hn_g1 ?_|refine zC hn_g1 (fun hb=>?_) fun hb=>?_|refine zG hn_g1 (fun hb=>?_) fun hb=>?_|refine zD hn_g1 (fun hb=>?_) fun hb=>?_
 refine aw_rethw (h':=[(g,(.cells 104 3 (ofL (phc y))))]) rfl (by first|exact List.Sublist.refl _|exact .cons _ (.refl _)|exact .cons _ (.cons _ (.refl _))|exact .cons _ (.cons _ (.cons _ (.refl _)))) fun R r=>?_;simp only[go_sem,hn_g1];refine r _ rfl ?_;clear r R
 exact⟨rfl,rfl⟩
theorem phI_fg (g:Nat) (y:PhD) (l:List PhD) (hl:l.length≤1099511627776):Fg Tryz.prog 98 g (.cells 104 3 (ofL (phc y))) [.c (phs true l),.c (fnC 99 [g])] (.c (.int .i64 (fidx (fun x=>x.name==y.name) l))) (.cells 104 3 (ofL (phc y))):=by
 unfold Fg
 refine fh_of_body Tryz.func98 rfl rfl (by simp [Tryz.ntmps98]) fun C hC=> ?_
 simp only [initS,Nat.reduceAdd]
 repeat' first|refine yA1 o0 ?_|refine zW o0 ?_|refine yP o0 ?_|refine yN o0 ?_|refine zC o0 (fun hb=>?_) fun hb=>?_|refine zG o0 (fun hb=>?_) fun hb=>?_|refine zD o0 (fun hb=>?_) fun hb=>?_
 refine aw_lp (fun i:Nat=>[(0,.c (phs true l)),(1,.c (fnC 99 [g])),(4,.c (.int .i64 0)),(7,.c (.int .i64 l.length)),(8,.c (.int .i64 i))]) (fun _=>[(g,(.cells 104 3 (ofL (phc y))))]) (fun i=>i≤l.length∧∀j,j<i→((fun x:PhD=>x.name==y.name) (l.getD j ph0))=false) (fun i=>l.length-i) 0 eB zZ ⟨Nat.zero_le _,fun j hj=>absurd hj om⟩ ?_
 rintro i ⟨hi,hn⟩
 repeat' first|refine yA1 o0 ?_|refine zW o0 ?_|refine yP o0 ?_|refine yN o0 ?_|refine zC o0 (fun hb=>?_) fun hb=>?_|refine zG o0 (fun hb=>?_) fun hb=>?_|refine zD o0 (fun hb=>?_) fun hb=>?_
 ·have hi':=hb
  have hf:=ph1_fg g y (l.getD i ph0)
  refine aw_cgv (args:=[.agg (phc (l.getD i ph0))]) hf rfl rfl rfl eE eE eL ?_
  refine xS ?_
  repeat' first|refine yA1 o0 ?_|refine zW o0 ?_|refine yP o0 ?_|refine yN o0 ?_|refine zC o0 (fun hb=>?_) fun hb=>?_|refine zG o0 (fun hb=>?_) fun hb=>?_|refine zD o0 (fun hb=>?_) fun hb=>?_
  ·rw [fidx_at (p:=fun x:PhD=>x.name==y.name) ph0 hi' (by simpa using hb) hn]
   refine xU ?_
   exact⟨rfl,rfl⟩
  ·refine aw_stop ⟨i+1,?_⟩
   have hn':∀j,j<i+1→((fun x:PhD=>x.name==y.name) (l.getD j ph0))=false:=fun j hj=>by
    by_cases e:j=i
    ·subst e;simpa using hb
    ·exact hn j om
   and_intros
   all_goals first|rfl|exact List.Sublist.refl _|exact True.intro|exact hn'|omega
 ·have hf:fidx (fun x=>x.name==y.name) l= -1:=fidx_no ph0 (fun j hj=>hn j om)
  rw [hf]
  refine xU ?_
  exact⟨rfl,rfl⟩
theorem vl1_fg (g:Nat) (y x:VlD):Fg Tryz.prog 101 g (.cells 106 4 (ofL (vlc y))) [.agg (vlc x),.c (.optr g 0)] (.c (.bool (x.event==y.event))) (.cells 106 4 (ofL (vlc y))):=by
 unfold Fg
 refine fh_of_body Tryz.func101 rfl rfl (by simp [Tryz.ntmps101]) fun C hC=> ?_
 simp only [initS,Nat.reduceAdd]
 repeat' first|refine yA1 o0 ?_|refine zW o0 ?_|refine yP o0 ?_|refine yN o0 ?_|refine zC o0 (fun hb=>?_) fun hb=>?_|refine zG o0 (fun hb=>?_) fun hb=>?_|refine zD o0 (fun hb=>?_) fun hb=>?_
 refine xB fun g1 hn_g1=>?_
 repeat' first|refine yA1 hn_g1 ?_|refine zW hn_g1 ?_|refine yP hn_g1 ?_|refine yN hn_g1 ?_|refine zC hn_g1 (fun hb=>?_) fun hb=>?_|refine zG hn_g1 (fun hb=>?_) fun hb=>?_|refine zD hn_g1 (fun hb=>?_) fun hb=>?_
 refine aw_rethw (h':=[(g,(.cells 106 4 (ofL (vlc y))))]) rfl (by first|exact List.Sublist.refl _|exact .cons _ (.refl _)|exact .cons _ (.cons _ (.refl _))|exact .cons _ (.cons _ (.cons _ (.refl _)))) fun R r=>?_;simp only[go_sem,hn_g1];refine r _ rfl ?_;clear r R
 exact⟨rfl,rfl⟩
theorem vlI_fg (g:Nat) (y:VlD) (l:List VlD) (hl:l.length≤1099511627776):Fg Tryz.prog 100 g (.cells 106 4 (ofL (vlc y))) [.c (vls true l),.c (fnC 101 [g])] (.c (.int .i64 (fidx (fun x=>x.event==y.event) l))) (.cells 106 4 (ofL (vlc y))):=by
 unfold Fg
 refine fh_of_body Tryz.func100 rfl rfl (by simp [Tryz.ntmps100]) fun C hC=> ?_
 simp only [initS,Nat.reduceAdd]
 repeat' first|refine yA1 o0 ?_|refine zW o0 ?_|refine yP o0 ?_|refine yN o0 ?_|refine zC o0 (fun hb=>?_) fun hb=>?_|refine zG o0 (fun hb=>?_) fun hb=>?_|refine zD o0 (fun hb=>?_) fun hb=>?_
 refine aw_lp (fun i:Nat=>[(0,.c (vls true l)),(1,.c (fnC 101 [g])),(4,.c (.int .i64 0)),(7,.c (.int .i64 l.length)),(8,.c (.int .i64 i))]) (fun _=>[(g,(.cells 106 4 (ofL (vlc y))))]) (fun i=>i≤l.length∧∀j,j<i→((fun x:VlD=>x.event==y.event) (l.getD j vl0))=false) (fun i=>l.length-i) 0 eB zZ ⟨Nat.zero_le _,fun j hj=>absurd hj om⟩ ?_
 rintro i ⟨hi,hn⟩
 repeat' first|refine yA1 o0 ?_|refine zW o0 ?_|refine yP o0 ?_|refine yN o0 ?_|refine zC o0 (fun hb=>?_) fun hb=>?_|refine zG o0 (fun hb=>?_) fun hb=>?_|refine zD o0 (fun hb=>?_) fun hb=>?_
 ·have hi':=hb
  have hf:=vl1_fg g y (l.getD i vl0)
  refine aw_cgv (args:=[.agg (vlc (l.getD i vl0))]) hf rfl rfl rfl eE eE eL ?_
  refine xS ?_
  repeat' first|refine yA1 o0 ?_|refine zW o0 ?_|refine yP o0 ?_|refine yN o0 ?_|refine zC o0 (fun hb=>?_) fun hb=>?_|refine zG o0 (fun hb=>?_) fun hb=>?_|refine zD o0 (fun hb=>?_) fun hb=>?_
  ·rw [fidx_at (p:=fun x:VlD=>x.event==y.event) vl0 hi' (by simpa using hb) hn]
   refine xU ?_
   exact⟨rfl,rfl⟩
  ·refine aw_stop ⟨i+1,?_⟩
   have hn':∀j,j<i+1→((fun x:VlD=>x.event==y.event) (l.getD j vl0))=false:=fun j hj=>by
    by_cases e:j=i
    ·subst e;simpa using hb
    ·exact hn j om
   and_intros
   all_goals first|rfl|exact List.Sublist.refl _|exact True.intro|exact hn'|omega
 ·have hf:fidx (fun x=>x.event==y.event) l= -1:=fidx_no vl0 (fun j hj=>hn j om)
  rw [hf]
  refine xU ?_
  exact⟨rfl,rfl⟩
theorem fac1_fa (r:RD) (hw:r.wf 1073741824):Fa Tryz.prog 97 [.agg (rdc r)] (.c (.bool (!r.prob))):=by
 have f1:=rprob_fa r hw
 refine fa_of_body Tryz.func97 rfl rfl (by simp [Tryz.ntmps97]) fun C hC=> ?_
 simp only [initS,Nat.reduceAdd]
 repeat' first|refine yA1 o0 ?_|refine zW o0 ?_|refine yP o0 ?_|refine yN o0 ?_|refine zC o0 (fun hb=>?_) fun hb=>?_|refine zG o0 (fun hb=>?_) fun hb=>?_|refine zD o0 (fun hb=>?_) fun hb=>?_
 refine xB fun g1 hn_g1=>?_
 repeat' first|refine yA1 hn_g1 ?_|(refine yC2 hn_g1 (f1) ?_)|(refine yD2 hn_g1 (f1) ?_)|refine zW hn_g1 ?_|refine yP hn_g1 ?_|refine yN hn_g1 ?_|refine zC hn_g1 (fun hb=>?_) fun hb=>?_|refine zG hn_g1 (fun hb=>?_) fun hb=>?_|refine zD hn_g1 (fun hb=>?_) fun hb=>?_
 refine yT hC hn_g1 ?_
 exact .one (.c (.bool _))
theorem facI_fa (l:List RD) (hl:l.length≤1099511627776) (hw:∀i,(l.getD i rd0).wf 1073741824):Fa Tryz.prog 141 [.c (rats true l),.c (.raw (.func (.func 97) #[] #[]))] (.c (.int .i64 (fidx (fun x=> !x.prob) l))):=by
 refine fa_of_body Tryz.func141 rfl rfl (by simp [Tryz.ntmps141]) fun C hC=> ?_
 simp only [initS,Nat.reduceAdd]
 repeat' first|refine yA1 o0 ?_|refine zW o0 ?_|refine yP o0 ?_|refine yN o0 ?_|refine zC o0 (fun hb=>?_) fun hb=>?_|refine zG o0 (fun hb=>?_) fun hb=>?_|refine zD o0 (fun hb=>?_) fun hb=>?_
 refine aw_lp (fun i:Nat=>[(0,.c (rats true l)),(1,.c (.raw (.func (.func 97) #[] #[]))),(4,.c (.int .i64 0)),(7,.c (.int .i64 l.length)),(8,.c (.int .i64 i))]) (fun _=>[]) (fun i=>i≤l.length∧∀j,j<i→((fun x:RD=> !x.prob) (l.getD j rd0))=false) (fun i=>l.length-i) 0 eB zZ ⟨Nat.zero_le _,fun j hj=>absurd hj om⟩ ?_
 rintro i ⟨hi,hn⟩
 repeat' first|refine yA1 o0 ?_|refine zW o0 ?_|refine yP o0 ?_|refine yN o0 ?_|refine zC o0 (fun hb=>?_) fun hb=>?_|refine zG o0 (fun hb=>?_) fun hb=>?_|refine zD o0 (fun hb=>?_) fun hb=>?_
 ·have hi':=hb
  have hf:=fac1_fa (l.getD i rd0) (hw i)
  refine aw_callqv hf rfl rfl rfl eE eL ?_
  refine xS ?_
  repeat' first|refine yA1 o0 ?_|refine zW o0 ?_|refine yP o0 ?_|refine yN o0 ?_|refine zC o0 (fun hb=>?_) fun hb=>?_|refine zG o0 (fun hb=>?_) fun hb=>?_|refine zD o0 (fun hb=>?_) fun hb=>?_
  ·rw [fidx_at (p:=fun x:RD=> !x.prob) rd0 hi' (by simpa using hb) hn]
   refine xT hC ?_
   exact .one (.c (.int _ _))
  ·refine aw_stop ⟨i+1,?_⟩
   have hn':∀j,j<i+1→((fun x:RD=> !x.prob) (l.getD j rd0))=false:=fun j hj=>by
    by_cases e:j=i
    ·subst e;simpa using hb
    ·exact hn j om
   and_intros
   all_goals first|rfl|exact List.Sublist.refl _|exact True.intro|exact hn'|omega
 ·have hf:fidx (fun x:RD=> !x.prob) l= -1:=fidx_no rd0 (fun j hj=>hn j om)
  rw [hf]
  refine xT hC ?_
  exact .one (.c (.int _ _))
theorem fidx_all {α:Type} (p:α→Bool):∀l:List α,decide (fidx (fun x=> !p x) l≥0)= !l.all p
 |[]=>rfl
 |x::l=>by
  have ih:=fidx_all p l
  show decide ((if(!p x)=true then(0:Int) else if fidx (fun x=> !p x) l<0 then-1 else fidx (fun x=> !p x) l+1)≥0)= !(p x&&l.all p)
  cases h:p x with
  |false=>rfl
  |true=>
   rw [if_neg (by simp),Bool.true_and,←ih]
   by_cases h2:fidx (fun x=> !p x) l<0
   ·have a:¬fidx (fun x=> !p x) l≥0:=by omega
    rw [if_pos h2,decide_eq_false a];rfl
   ·have a:fidx (fun x=> !p x) l≥0:=by omega
    have b:fidx (fun x=> !p x) l+1≥0:=by omega
    rw [if_neg h2,decide_eq_true a,decide_eq_true b]
theorem facC_fa (l:List RD) (hl:l.length≤1099511627776) (hw:∀i,(l.getD i rd0).wf 1073741824):Fa Tryz.prog 96 [.c (rats true l),.c (.raw (.func (.func 97) #[] #[]))] (.c (.bool (!l.all RD.prob))):=by
 have f1:=facI_fa l hl hw
 have f2:=fidx_all RD.prob l
 refine fa_of_body Tryz.func96 rfl rfl (by simp [Tryz.ntmps96]) fun C hC=> ?_
 simp only [initS,Nat.reduceAdd]
 repeat' first|refine yA1 o0 ?_|(refine yC2 o0 (f1) ?_)|(refine yD2 o0 (f1) ?_)|refine zW o0 ?_|refine yP o0 ?_|refine yN o0 ?_|refine zC o0 (fun hb=>?_) fun hb=>?_|refine zG o0 (fun hb=>?_) fun hb=>?_|refine zD o0 (fun hb=>?_) fun hb=>?_
 refine xT hC ?_
 exact .one (.c (ler_bool f2))
end Go.Proofs.YteocnikcjjonbaaGreat
namespace Go.PN
open Go.AI
structure MdWf3 (m:MdD):Prop where
 l:m.phases.length≤1099511627776
 ph:∀i,(m.phases.getD i ph0).name.length≤1099511627776∧(m.phases.getD i ph0).top.length≤1099511627776∧(m.phases.getD i ph0).values.length≤1099511627776
 vl:∀i k,(((m.phases.getD i ph0).values.getD k vl0)).p.wf 1073741824
end Go.PN
namespace Go.Proofs.YteocnikcjjonbaaGreat
open Go.AI Go.PN
attribute [local irreducible] aw Fa Fh DrK
theorem checkPhases_fa (m:MdD) (hm:MdOk m) (hw2:MdWf2 m) (hw:MdWf3 m):Fa Tryz.prog 49 [.agg (mdc true m)] (.c (errA (phsC m))):=by
 have hl:=hw.l
 refine fa_of_body Tryz.func49 rfl rfl (by simp [Tryz.ntmps49]) fun C hC=> ?_
 simp only [initS,Nat.reduceAdd]
 repeat' first|refine yA1 o0 ?_|refine zW o0 ?_|refine yP o0 ?_|refine yN o0 ?_|refine zC o0 (fun hb=>?_) fun hb=>?_|refine zG o0 (fun hb=>?_) fun hb=>?_|refine zD o0 (fun hb=>?_) fun hb=>?_
 refine xB fun g1 hn_g1=>?_
 repeat' first|refine yA1 hn_g1 ?_|refine zW hn_g1 ?_|refine yP hn_g1 ?_|refine yN hn_g1 ?_|refine zC hn_g1 (fun hb=>?_) fun hb=>?_|refine zG hn_g1 (fun hb=>?_) fun hb=>?_|refine zD hn_g1 (fun hb=>?_) fun hb=>?_
 ·refine yT hC hn_g1 ?_
  exact .one (.c (ler_errE (by unfold phsC;rw [if_pos om]) (by decide)))
 have he2:phsC m=frst (phC m) m.phases 0:=by
  unfold phsC
  rw [if_neg om]
 generalize hF:frst (phC m) m.phases 0=F at he2
 refine aw_lp (fun i:Nat=>[(1,.c (.optr g1 0)),(2,.c .nilI),(13,.c (phs true m.phases)),(14,.c (.int .i64 m.phases.length)),(15,.c (.int .i64 i))]) (fun _=>[(g1,.cells 30 8 (ofL (mdc true m)))]) (fun i=>i≤m.phases.length∧frst (phC m) (m.phases.drop i) i=F) (fun i=>m.phases.length-i) 0 (zB hn_g1) zZ ⟨Nat.zero_le _,hF⟩ ?_
 rintro i ⟨hi,hlp⟩
 repeat' first|refine yA1 hn_g1 ?_|refine zW hn_g1 ?_|refine yP hn_g1 ?_|refine yN hn_g1 ?_|refine zC hn_g1 (fun hb=>?_) fun hb=>?_|refine zG hn_g1 (fun hb=>?_) fun hb=>?_|refine zD hn_g1 (fun hb=>?_) fun hb=>?_
 ·obtain⟨w0,w1,w2⟩:=hw.ph i
  have w3:=hw.vl i
  have hi':=hb
  have hR:∀c,phC m i (m.phases.getD i ph0)=c→c≠0→phsC m=c:=fun c hc h0=>by
   rw [he2];exact frst_ret hlp hi' hc h0
  have hG:=frst_go (d:=ph0) hlp hi'
  clear hlp
  generalize hx:m.phases.getD i ph0=x at*
  have f1:Fa Tryz.prog 42 [.c (.str (sB x.name))] (.c (.bool (nameOk x.name))):=tname_fa x.name w0
  have f3:Fa Tryz.prog 47 [.agg (mdc true m),.c (.int .i64 (-1)),.c (.str (sB x.top))] (.c (.bool (isInp m 0 x.top))):=isInput_fa m 0 x.top (Nat.zero_le _) hm (by have:=gtsK_len hw2 0;omega) w1
  refine yA hn_g1 fun g4 hn_g4=>?_
  all_goals try(have Z:=(oj hn_g1 hn_g4);(repeat' first|refine yA1 Z ?_|(refine yC2 Z (f1) ?_)|(refine yD2 Z (f1) ?_)|refine zW Z ?_|refine yP Z ?_|refine yN Z ?_|refine zC Z (fun hb=>?_) fun hb=>?_|refine zG Z (fun hb=>?_) fun hb=>?_|refine zD Z (fun hb=>?_) fun hb=>?_);all_goals clear Z)
  ·refine yT hC (oj hn_g1 hn_g4) ?_
   refine .one (.c (ler_errE (c:=phsC m) (hR _ ?_ (by decide)) (by decide)))
   unfold phC
   rw [if_pos (by simpa using hb)]
  rename_i hn1
  replace hn1:=hb
  refine aw_makeFunc (gs:=[g4]) rfl rfl rfl (zE (oj hn_g1 hn_g4)) ?_
  have J1:=oj hn_g1 hn_g4
  refine yS J1 ?_
  have f2:=phI_fg g4 x m.phases hl
  all_goals try(have Z:=J1;(repeat' first|refine yA1 Z ?_|(refine zg Z (f2) ?_)|(refine yC2 Z (f3) ?_)|(refine yD2 Z (f3) ?_)|refine zW Z ?_|refine yP Z ?_|refine yN Z ?_|refine zC Z (fun hb=>?_) fun hb=>?_|refine zG Z (fun hb=>?_) fun hb=>?_|refine zD Z (fun hb=>?_) fun hb=>?_);all_goals clear Z)
  ·refine yT hC J1 ?_
   refine .one (.c (ler_errE (c:=phsC m) (hR _ ?_ (by decide)) (by decide)))
   unfold phC
   rw [if_neg (by simpa using hn1),if_pos hb]
  ·rename_i hn2
   refine yT hC J1 ?_
   refine .one (.c (ler_errE (c:=phsC m) (hR _ ?_ (by decide)) (by decide)))
   unfold phC
   rw [if_neg (by simpa using hn1),if_neg hn2,if_pos (by simpa using hb)]
  rename_i hn2
  have hn3:=hb
  have hp:phC m i x=frst (vlC m x) x.values 0:=by
   unfold phC
   rw [if_neg (by simpa using hn1),if_neg hn2,if_neg (by simpa using hn3)]
  clear f1 f2 f3 J1
  generalize hF2:frst (vlC m x) x.values 0=F2 at hp
  refine aw_lp (fun k:Nat=>[(1,.c (.optr g1 0)),(2,.c .nilI),(4,.c (.optr g4 0)),(13,.c (phs true m.phases)),(14,.c (.int .i64 m.phases.length)),(15,.c (.int .i64 i)),(39,.c (vls true x.values)),(40,.c (.int .i64 x.values.length)),(41,.c (.int .i64 k))]) (fun _=>[(g4,.cells 104 3 (ofL (phc x))),(g1,.cells 30 8 (ofL (mdc true m)))]) (fun k=>k≤x.values.length∧frst (vlC m x) (x.values.drop k) k=F2) (fun k=>x.values.length-k) 0 (zB (oj hn_g1 hn_g4)) zZ ⟨Nat.zero_le _,hF2⟩ ?_
  rintro k ⟨hk,hlq⟩
  all_goals try(have Z:=(oj hn_g1 hn_g4);(repeat' first|refine yA1 Z ?_|refine zW Z ?_|refine yP Z ?_|refine yN Z ?_|refine zC Z (fun hb=>?_) fun hb=>?_|refine zG Z (fun hb=>?_) fun hb=>?_|refine zD Z (fun hb=>?_) fun hb=>?_);all_goals clear Z)
  ·have hk':=hb
   have hR2:∀c,vlC m x k (x.values.getD k vl0)=c→c≠0→phsC m=c:=fun c hc h0=>hR c (hp.trans (frst_ret hlq hk' hc h0)) h0
   have hG2:=frst_go (d:=vl0) hlq hk'
   clear hlq
   have w4:=w3 k
   generalize hv:x.values.getD k vl0=v at*
   have f1:=event_fa m v.event hm.ev
   have f3:=rprob_fa v.p w4
   refine yA (oj hn_g1 hn_g4) fun g5 hn_g5=>?_
   all_goals try(have Z:=(oj hn_g1 (oj hn_g4 hn_g5));(repeat' first|refine yA1 Z ?_|(refine yC2 Z (f1) ?_)|(refine yD2 Z (f1) ?_)|refine zW Z ?_|refine yP Z ?_|refine yN Z ?_|refine zC Z (fun hb=>?_) fun hb=>?_|refine zG Z (fun hb=>?_) fun hb=>?_|refine zD Z (fun hb=>?_) fun hb=>?_);all_goals clear Z)
   ·refine yT hC (oj hn_g1 (oj hn_g4 hn_g5)) ?_
    refine .one (.c (ler_errE (c:=phsC m) (hR2 _ ?_ (by decide)) (by decide)))
    unfold vlC evI
    rw [if_pos hb]
   have m1:=hb
   refine aw_makeFunc (gs:=[g5]) rfl rfl rfl (zE (oj hn_g1 (oj hn_g4 hn_g5))) ?_
   have J2:=oj hn_g1 (oj hn_g4 hn_g5)
   refine yS J2 ?_
   have f2:=vlI_fg g5 v x.values w2
   all_goals try(have Z:=J2;(repeat' first|refine yA1 Z ?_|(refine zg Z (f2) ?_)|(refine yC2 Z (f3) ?_)|(refine yD2 Z (f3) ?_)|refine zW Z ?_|refine yP Z ?_|refine yN Z ?_|refine zC Z (fun hb=>?_) fun hb=>?_|refine zG Z (fun hb=>?_) fun hb=>?_|refine zD Z (fun hb=>?_) fun hb=>?_);all_goals clear Z)
   ·refine yT hC J2 ?_
    refine .one (.c (ler_errE (c:=phsC m) (hR2 _ ?_ (by decide)) (by decide)))
    unfold vlC evI
    rw [if_neg m1,if_pos hb]
   ·rename_i m2
    refine yT hC J2 ?_
    refine .one (.c (ler_errE (c:=phsC m) (hR2 _ ?_ (by decide)) (by decide)))
    unfold vlC evI
    rw [if_neg m1,if_neg m2,if_pos (by simpa using hb)]
   ·rename_i m2
    refine aw_stop ⟨k+1,?_⟩
    have hz:vlC m x k v=0:=by
     unfold vlC evI
     rw [if_neg m1,if_neg m2,if_neg (by simpa using hb)]
    and_intros
    all_goals first|rfl|exact List.Sublist.refl _|exact List.sublist_cons_self _ _|exact True.intro|exact hG2 hz|omega
  ·have hF0:=frst_fin hlq hb
   refine aw_stop ⟨i+1,?_⟩
   and_intros
   all_goals first|rfl|exact List.Sublist.refl _|exact List.sublist_cons_self _ _|exact True.intro|exact hG (hp.trans hF0)|omega
 ·have hF0:=frst_fin hlp hb
  subst hF0
  refine yT hC hn_g1 ?_
  exact .one (.c (ler_err0 he2))
end Go.Proofs.YteocnikcjjonbaaGreat
namespace Go.Proofs.YteocnikcjjonbaaGreat
open Go.AI Go.PN
attribute [local irreducible] aw Fa Fh DrK
theorem sindexF_fa (l:List BS) (n:BS) (hl:l.length≤1099511627776):Fa Tryz.prog 140 [.c (strs false l),.c (.str (sB n))] (.c (.int .i64 (fidx (fun x=>n==x) l))):=by
 refine fa_of_body Tryz.func140 rfl rfl (by simp [Tryz.ntmps140]) fun C hC=> ?_
 simp only [initS,Nat.reduceAdd]
 repeat' first|refine yA1 o0 ?_|refine zW o0 ?_|refine yP o0 ?_|refine yN o0 ?_|refine zC o0 (fun hb=>?_) fun hb=>?_|refine zG o0 (fun hb=>?_) fun hb=>?_|refine zD o0 (fun hb=>?_) fun hb=>?_
 refine aw_lp (fun i:Nat=>[(0,.c (strs false l)),(1,.c (.str (sB n))),(4,.c (.int .i64 0)),(7,.c (.int .i64 l.length)),(8,.c (.int .i64 i))]) (fun _=>[]) (fun i=>i≤l.length∧∀j,j<i→((fun x:BS=>n==x) (l.getD j []))=false) (fun i=>l.length-i) 0 eB zZ ⟨Nat.zero_le _,fun j hj=>absurd hj om⟩ ?_
 rintro i ⟨hi,hn⟩
 repeat' first|refine yA1 o0 ?_|refine zW o0 ?_|refine yP o0 ?_|refine yN o0 ?_|refine zC o0 (fun hb=>?_) fun hb=>?_|refine zG o0 (fun hb=>?_) fun hb=>?_|refine zD o0 (fun hb=>?_) fun hb=>?_
 ·rename_i hi'
  rw [fidx_at (p:=fun x:BS=>n==x) [] hi' (by simpa using hb) hn]
  refine xT hC ?_
  exact .one (.c (.int _ _))
 ·rename_i hi'
  refine aw_stop ⟨i+1,?_⟩
  have hn':∀j,j<i+1→((fun x:BS=>n==x) (l.getD j []))=false:=fun j hj=>by
   by_cases e:j=i
   ·subst e;simpa using hb
   ·exact hn j om
  and_intros
  all_goals first|rfl|exact List.Sublist.refl _|exact True.intro|exact hn'|omega
 ·have hf:fidx (fun x=>n==x) l= -1:=fidx_no [] (fun j hj=>hn j om)
  rw [hf]
  refine xT hC ?_
  exact .one (.c (.int _ _))
theorem scontF_fa (l:List BS) (n:BS) (hl:l.length≤1099511627776):Fa Tryz.prog 93 [.c (strs false l),.c (.str (sB n))] (.c (.bool (l.contains n))):=by
 have f1:=sindexF_fa l n hl
 have f2:=fidx_mem n l
 refine fa_of_body Tryz.func93 rfl rfl (by simp [Tryz.ntmps93]) fun C hC=> ?_
 simp only [initS,Nat.reduceAdd]
 repeat' first|refine yA1 o0 ?_|(refine yC2 o0 (f1) ?_)|(refine yD2 o0 (f1) ?_)|refine zW o0 ?_|refine yP o0 ?_|refine yN o0 ?_|refine zC o0 (fun hb=>?_) fun hb=>?_|refine zG o0 (fun hb=>?_) fun hb=>?_|refine zD o0 (fun hb=>?_) fun hb=>?_
 refine xT hC ?_
 exact .one (.c (ler_bool f2))
end Go.Proofs.YteocnikcjjonbaaGreat
namespace Go.PN
open Go.AI
theorem frsS_ret {α σ:Type} {f:Nat→α→σ→Int×σ} {l:List α} {d:α} {i:Nat} {s:σ} {F:Int×σ} (h:frsS f (l.drop i) i s=F) (hi:i<l.length) {r:Int×σ} (hc:f i (l.getD i d) s=r) (h0:r.1≠0):F=r:=by
 rw [frsS_step d hi,hc,if_neg h0] at h
 exact h.symm
theorem frsS_go {α σ:Type} {f:Nat→α→σ→Int×σ} {l:List α} {d:α} {i:Nat} {s:σ} {F:Int×σ} (h:frsS f (l.drop i) i s=F) (hi:i<l.length) {r:Int×σ} (hc:f i (l.getD i d) s=r) (h0:r.1=0):frsS f (l.drop (i+1)) (i+1) r.2=F:=by
 rw [frsS_step d hi,hc,if_pos h0] at h
 exact h
theorem frsS_fin {α σ:Type} {f:Nat→α→σ→Int×σ} {l:List α} {i:Nat} {s:σ} {F:Int×σ} (h:frsS f (l.drop i) i s=F) (hi:¬i<l.length):F=(0,s):=by
 rw [frsS_end hi] at h
 exact h.symm
end Go.PN
namespace Go.Proofs.YteocnikcjjonbaaGreat
open Go.AI Go.PN
theorem le_gst {pre:Heap} {og:Option Nat} {ty:TypeId} {sp:List BS} (hog:og=none→sp.length=0) (hnd:(pre++gh og ty sp.length (strsF sp)).keys.Nodup):LeC (pre++gh og ty sp.length (strsF sp)) (gs og 1 sp.length) (strs false sp):=by
 cases og with
 |none=>
  have h0:=hog rfl
  show LeC _ .nils (.row false 1 sp.length (strsF sp))
  rw [h0]
  exact .nils
 |some g=>
  have hg:g∉pre.keys:=fun hm=>by
   have hk:(pre++gh (some g) ty sp.length (strsF sp)).keys=pre.keys++[g]:=by simp [Heap.keys,gh]
   rw [hk] at hnd
   exact(List.nodup_append.1 hnd).2.2 g hm g (by simp) rfl
  exact .osl (Heap.get_app hg) om (fun j _=>by rw [Nat.zero_add];exact .refl _)
attribute [local irreducible] aw Fa Fh DrK
theorem checkInputs_fh (m:MdD) (k:Nat) (sp0:List BS) (og0:Option Nat) (hk:k≤m.pages.length) (hm:MdOk m) (hw2:MdWf2 m) (hI:∀i,((gtsK m k).getD i gt0).inputs.length≤16) (hin:∀i j,(((gtsK m k).getD i gt0).inputs.getD j []).length≤1099511627776) (hog0:og0=none→sp0.length=0) (hb0:sp0.length≤1073741824):Fh Tryz.prog 46 (gh og0 9 sp0.length (strsF sp0)) [.agg (mdc true m),.c (.int .i64 ((k:Int)-1)),.c (gs og0 1 sp0.length)] (fun x h=>((inP m k sp0).1≠0∧h=[]∧x=.tup [.c .nils,.c (errA (inP m k sp0).1)])∨((inP m k sp0).1=0∧∃og,(og=none→(inP m k sp0).2.length=0)∧h=gh og 9 (inP m k sp0).2.length (strsF (inP m k sp0).2)∧x=.tup [.c (gs og 1 (inP m k sp0).2.length),.c .nilI])):=by
 have hkl:=gtsK_len hw2 k
 have f0:=gatesOf_fa m k hk hm.pg
 refine fh_of_body Tryz.func46 rfl rfl (by simp [Tryz.ntmps46]) fun C hC=> ?_
 simp only [initS,Nat.reduceAdd]
 repeat' first|refine yA1 o0 ?_|refine zW o0 ?_|refine yP o0 ?_|refine yN o0 ?_|refine zC o0 (fun hb=>?_) fun hb=>?_|refine zG o0 (fun hb=>?_) fun hb=>?_|refine zD o0 (fun hb=>?_) fun hb=>?_
 refine xB fun g1 hn_g1=>?_
 repeat' first|refine yA1 hn_g1 ?_|(refine yC2 hn_g1 (f0) ?_)|(refine yD2 hn_g1 (f0) ?_)|refine zW hn_g1 ?_|refine yP hn_g1 ?_|refine yN hn_g1 ?_|refine zC hn_g1 (fun hb=>?_) fun hb=>?_|refine zG hn_g1 (fun hb=>?_) fun hb=>?_|refine zD hn_g1 (fun hb=>?_) fun hb=>?_
 generalize hF:frsS (inG m k) (gtsK m k) 0 sp0=F
 have hPn:F.1≠0→inP m k sp0=F:=fun h=>by unfold inP;rw [hF,if_neg h]
 have hP0:F.1=0→inP m k sp0=(tpC m k,F.2):=fun h=>by unfold inP;rw [hF,if_pos h]
 generalize hL:gtsK m k=L at*
 refine aw_lp (fun x:Nat×List BS×Option Nat=>[(1,.c (.int .i64 ((k:Int)-1))),(2,.c (gs x.2.2 1 x.2.1.length)),(3,.c (.optr g1 0)),(6,.c .nils),(7,.c .nilI),(15,.c (gts true L)),(16,.c (.int .i64 L.length)),(17,.c (.int .i64 x.1))]) (fun x=>[(g1,.cells 30 8 (ofL (mdc true m)))]++gh x.2.2 9 x.2.1.length (strsF x.2.1)) (fun x=>x.1≤L.length∧(x.2.2=none→x.2.1.length=0)∧x.2.1.length≤sp0.length+16*x.1∧frsS (inG m k) (L.drop x.1) x.1 x.2.1=F) (fun x=>L.length-x.1) (0,sp0,og0) (zB hn_g1) zZ ⟨Nat.zero_le _,hog0,by dsimp only;omega,hF⟩ ?_
 rintro ⟨i,sp,og⟩ ⟨hi,hog,hsz,hlp⟩
 dsimp only at hi hog hsz hlp⊢
 simp only [List.cons_append,List.nil_append]
 have fT1:=gate_fa (m.pages.getD (k-1) pg0).gates (m.pages.getD (k-1) pg0).top (by have:=(hw2.pg (k-1)).2;omega)
 have fT2:=event_fa m (m.pages.getD (k-1) pg0).top hm.ev
 repeat' first|refine yA1 hn_g1 ?_|(refine yC2 hn_g1 (fT1) ?_)|(refine yD2 hn_g1 (fT1) ?_)|(refine yC2 hn_g1 (fT2) ?_)|(refine yD2 hn_g1 (fT2) ?_)|refine zW hn_g1 ?_|refine yP hn_g1 ?_|refine yN hn_g1 ?_|refine zC hn_g1 (fun hb=>?_) fun hb=>?_|refine zG hn_g1 (fun hb=>?_) fun hb=>?_|refine zD hn_g1 (fun hb=>?_) fun hb=>?_
 ·have hi':=hb
  have w1:=hI i
  have w2:=hin i
  have hlp2:=fun r=>frsS_ret (d:=gt0) (r:=r) hlp hi'
  have hgo:=fun r=>frsS_go (d:=gt0) (r:=r) hlp hi'
  clear hlp fT1 fT2
  generalize hx:L.getD i gt0=x at*
  refine yA hn_g1 fun g4 hn_g4=>?_
  all_goals try(have Z:=(oj hn_g1 hn_g4);(repeat' first|refine yA1 Z ?_|refine zW Z ?_|refine yP Z ?_|refine yN Z ?_|refine zC Z (fun hb=>?_) fun hb=>?_|refine zG Z (fun hb=>?_) fun hb=>?_|refine zD Z (fun hb=>?_) fun hb=>?_);all_goals clear Z)
  generalize hF2:frsS (inI m k x) x.inputs 0 sp=F2
  have e2:inG m k i x sp=F2:=hF2
  rw [e2] at hlp2 hgo
  refine aw_lp (fun y:Nat×List BS×Option Nat=>[(1,.c (.int .i64 ((k:Int)-1))),(2,.c (gs y.2.2 1 y.2.1.length)),(3,.c (.optr g1 0)),(6,.c .nils),(7,.c .nilI),(9,.c (.optr g4 0)),(15,.c (gts true L)),(16,.c (.int .i64 L.length)),(17,.c (.int .i64 i)),(22,.c (strs true x.inputs)),(23,.c (.int .i64 x.inputs.length)),(24,.c (.int .i64 y.1))]) (fun y=>[(g4,.cells 65 7 (ofL (gtc x))),(g1,.cells 30 8 (ofL (mdc true m)))]++gh y.2.2 9 y.2.1.length (strsF y.2.1)) (fun y=>y.1≤x.inputs.length∧(y.2.2=none→y.2.1.length=0)∧y.2.1.length≤sp.length+y.1∧frsS (inI m k x) (x.inputs.drop y.1) y.1 y.2.1=F2) (fun y=>x.inputs.length-y.1) (0,sp,og) (zB (oj hn_g1 hn_g4)) zZ ⟨Nat.zero_le _,hog,by dsimp only;omega,hF2⟩ ?_
  rintro ⟨j,sq,oq⟩ ⟨hj,hoq,hsq,hlq⟩
  dsimp only at hj hoq hsq hlq⊢
  simp only [List.cons_append,List.nil_append]
  all_goals try(have Z:=(oj hn_g1 hn_g4);(repeat' first|refine yA1 Z ?_|refine zW Z ?_|refine yP Z ?_|refine yN Z ?_|refine zC Z (fun hb=>?_) fun hb=>?_|refine zG Z (fun hb=>?_) fun hb=>?_|refine zD Z (fun hb=>?_) fun hb=>?_);all_goals clear Z)
  ·have hj':=hb
   have w3:=w2 j
   have hq2:=fun r=>frsS_ret (d:=([]:BS)) (r:=r) hlq hj'
   have hqg:=fun r=>frsS_go (d:=([]:BS)) (r:=r) hlq hj'
   clear hlq
   generalize hy:x.inputs.getD j []=y at*
   have hR:∀c s,inI m k x j y sq=(c,s)→c≠0→(inP m k sp0).1=c:=fun c s h1 h2=>by
    have a1:=hq2 _ h1 h2
    rw [a1] at hlp2
    have a2:=hlp2 _ rfl h2
    rw [hPn (by rw [a2];exact h2),a2]
   have f1:=isInput_fa m k y hk hm (by rw [hL];omega) w3
   have f2:=must_fa x j om
   have f3:=event_fa m y hm.ev
   have f4:=scontF_fa sq y om
   all_goals try(have Z:=(oj hn_g1 hn_g4);(repeat' first|refine yA1 Z ?_|(refine yC2 Z (f1) ?_)|(refine yD2 Z (f1) ?_)|(refine yC2 Z (f2) ?_)|(refine yD2 Z (f2) ?_)|(refine yC2 Z (f3) ?_)|(refine yD2 Z (f3) ?_)|refine zW Z ?_|refine yP Z ?_|refine yN Z ?_|refine zC Z (fun hb=>?_) fun hb=>?_|refine zG Z (fun hb=>?_) fun hb=>?_|refine zD Z (fun hb=>?_) fun hb=>?_);all_goals clear Z)
   all_goals first
    |(refine aw_keep [(6,.c .nils),(7,.c (.ifc 51 (.int .i64 5)))] [] (zB (oj hn_g1 hn_g4)) (List.nil_sublist _) ?_
      have h5:=hR 5 sq (by
       unfold inI evI
       repeat' split
       all_goals first|rfl|(exfalso;simp_all;done)|(exfalso;simp_all;omega)) (by decide)
      refine yU (oj hn_g1 hn_g4) ?_
      rw [h5]
      exact .inl ⟨by decide,rfl,rfl⟩)
    |(refine aw_keep [(6,.c .nils),(7,.c (.ifc 51 (.int .i64 7)))] [] (zB (oj hn_g1 hn_g4)) (List.nil_sublist _) ?_
      have h5:=hR 7 sq (by
       unfold inI evI
       repeat' split
       all_goals first|rfl|(exfalso;simp_all;done)|(exfalso;simp_all;omega)) (by decide)
      refine yU (oj hn_g1 hn_g4) ?_
      rw [h5]
      exact .inl ⟨by decide,rfl,rfl⟩)
    |(refine aw_stop ⟨(j+1,sq,oq),?_⟩
      have hz:inI m k x j y sq=(0,sq):=by
       unfold inI evI
       repeat' split
       all_goals first|rfl|(exfalso;simp_all;done)|(exfalso;simp_all;omega)
      have hq:=hqg _ hz rfl
      and_intros
      all_goals first|rfl|exact List.Sublist.refl _|exact List.sublist_cons_self _ _|exact True.intro|exact hoq|exact hq|(dsimp only;omega))
    |skip
   all_goals
    have hk7:=hb
    refine aw_nd fun hnd=> ?_
    refine aw_callq f4 rfl rfl rfl (by refine yS (oj hn_g1 hn_g4) ?_;exact⟨.c (le_gst (pre:=[(g4,.cells 65 7 (ofL (gtc x))),(g1,.cells 30 8 (ofL (mdc true m)))]) hoq hnd),.c (.refl _)⟩) ?_
    have J1:=oj hn_g1 hn_g4
    refine yS J1 ?_
    all_goals try(have Z:=J1;(repeat' first|refine yA1 Z ?_|refine zW Z ?_|refine yP Z ?_|refine yN Z ?_|refine zC Z (fun hb=>?_) fun hb=>?_|refine zG Z (fun hb=>?_) fun hb=>?_|refine zD Z (fun hb=>?_) fun hb=>?_);all_goals clear Z)
    ·refine aw_keep [(6,.c .nils),(7,.c (.ifc 51 (.int .i64 6)))] [] (zB J1) (List.nil_sublist _) ?_
     have h5:=hR 6 sq (by
      unfold inI evI
      repeat' split
      all_goals first|rfl|(exfalso;simp_all;done)|(exfalso;simp_all;omega)) (by decide)
     refine yU J1 ?_
     rw [h5]
     exact .inl ⟨by decide,rfl,rfl⟩
    ·have hz:inI m k x j y sq=(0,sq++[y]):=by
      unfold inI evI
      repeat' split
      all_goals first|rfl|(exfalso;simp_all;done)|(exfalso;simp_all;omega)
     have hq:=hqg _ hz rfl
     have hln:(sq++[y]).length=sq.length+1:=by rw [List.length_append];rfl
     refine aw_push (pre:=[(g4,.cells 65 7 (ofL (gtc x))),(g1,.cells 30 8 (ofL (mdc true m)))]) rfl rfl rfl rfl rfl rfl rfl (zE J1) (zE J1) (by rfl) om om (zE J1) om (by exact hoq) (zE J1) (by rfl) (by rfl) (by first|rfl|simp only [Nat.mul_one,List.nil_append,List.cons_append]<;>rfl) (by unfold maxLen;omega) om (by exact strs_push rfl y) fun gb hn_gb=> ?_
     replace hn_gb:=Heap.ne_of hn_gb
     first|dsimp only [Heap.ne,gh] at hn_gb|dsimp only [Heap.ne] at hn_gb|skip
     refine yS (oj hn_g1 (oj hn_g4 hn_gb)) ?_
     all_goals try(have Z:=(oj hn_g1 (oj hn_g4 hn_gb));(repeat' first|refine yA1 Z ?_|refine zW Z ?_|refine yP Z ?_|refine yN Z ?_|refine zC Z (fun hb=>?_) fun hb=>?_|refine zG Z (fun hb=>?_) fun hb=>?_|refine zD Z (fun hb=>?_) fun hb=>?_);all_goals clear Z)
     refine aw_stop ⟨(j+1,sq++[y],some gb),?_⟩
     dsimp only
     simp only [hln]
     and_intros
     all_goals first|rfl|exact List.Sublist.refl _|exact List.sublist_cons_self _ _|exact True.intro|exact some_ne|exact hq|omega|trace_state
  ·have hF0:=frsS_fin hlq hb
   subst hF0
   refine aw_stop ⟨(i+1,sq,oq),?_⟩
   and_intros
   all_goals first|rfl|exact List.Sublist.refl _|exact List.sublist_cons_self _ _|exact True.intro|exact hoq|exact hgo _ rfl rfl|(dsimp only;omega)
 ·rename_i hi0 hk1 ha
  have hF0:=frsS_fin hlp hi0
  subst hF0
  have hT:inP m k sp0=(tpC m k,sp):=hP0 rfl
  have h5:tpC m k=5:=by
   obtain⟨q,rfl⟩:∃q,k=q+1:=⟨k-1,by omega⟩
   exact if_pos ⟨ha,hb⟩
  refine aw_keep [(6,.c .nils),(7,.c (.ifc 51 (.int .i64 5)))] [] (zB hn_g1) (List.nil_sublist _) ?_
  refine yU hn_g1 ?_
  rw [hT,h5]
  exact .inl ⟨show(5:Int)≠0 by decide,rfl,rfl⟩
 ·rename_i hi0 hk1 ha
  have hF0:=frsS_fin hlp hi0
  subst hF0
  have hT:inP m k sp0=(tpC m k,sp):=hP0 rfl
  have h0:tpC m k=0:=by
   obtain⟨q,rfl⟩:∃q,k=q+1:=⟨k-1,by omega⟩
   exact if_neg fun z=>hb z.2
  refine aw_keep [(6,.c (gs og 1 sp.length)),(7,.c .nilI)] (gh og 9 sp.length (strsF sp)) (zB hn_g1) (List.sublist_cons_self _ _) ?_
  refine yU hn_g1 ?_
  rw [hT,h0]
  exact .inr ⟨rfl,og,hog,rfl,rfl⟩
 ·rename_i hi0 hk1
  have hF0:=frsS_fin hlp hi0
  subst hF0
  have hT:inP m k sp0=(tpC m k,sp):=hP0 rfl
  have h0:tpC m k=0:=by
   obtain⟨q,rfl⟩:∃q,k=q+1:=⟨k-1,by omega⟩
   exact if_neg fun z=>hb z.1
  refine aw_keep [(6,.c (gs og 1 sp.length)),(7,.c .nilI)] (gh og 9 sp.length (strsF sp)) (zB hn_g1) (List.sublist_cons_self _ _) ?_
  refine yU hn_g1 ?_
  rw [hT,h0]
  exact .inr ⟨rfl,og,hog,rfl,rfl⟩
 ·rename_i hi0
  have hF0:=frsS_fin hlp hi0
  subst hF0
  have hT:inP m k sp0=(tpC m k,sp):=hP0 rfl
  have h0:tpC m k=0:=by
   have:k=0:=by omega
   subst this
   rfl
  refine aw_keep [(6,.c (gs og 1 sp.length)),(7,.c .nilI)] (gh og 9 sp.length (strsF sp)) (zB hn_g1) (List.sublist_cons_self _ _) ?_
  refine yU hn_g1 ?_
  rw [hT,h0]
  exact .inr ⟨rfl,og,hog,rfl,rfl⟩
end Go.Proofs.YteocnikcjjonbaaGreat
namespace Go.PN
open Go.AI
structure MdWf4 (m:MdD):Prop where
 l:m.groups.length≤1099511627776
 gr:∀i,(m.groups.getD i gr0).name.length≤1099511627776∧(m.groups.getD i gr0).members.length≤1048576∧(m.groups.getD i gr0).factors.length≤1099511627776
 fa:∀i k,((m.groups.getD i gr0).factors.getD k rd0).wf 1073741824
end Go.PN
namespace Go.Proofs.YteocnikcjjonbaaGreat
open Go.AI Go.PN
attribute [local irreducible] aw Fa Fh DrK
theorem checkGroups_fa (m:MdD) (hm:MdOk m) (hw:MdWf4 m):Fa Tryz.prog 48 [.agg (mdc true m)] (.c (errA (grsC m))):=by
 have hl:=hw.l
 refine fa_of_body Tryz.func48 rfl rfl (by simp [Tryz.ntmps48]) fun C hC=> ?_
 simp only [initS,Nat.reduceAdd]
 repeat' first|refine yA1 o0 ?_|refine zW o0 ?_|refine yP o0 ?_|refine yN o0 ?_|refine zC o0 (fun hb=>?_) fun hb=>?_|refine zG o0 (fun hb=>?_) fun hb=>?_|refine zD o0 (fun hb=>?_) fun hb=>?_
 refine xB fun g1 hn_g1=>?_
 repeat' first|refine yA1 hn_g1 ?_|refine zW hn_g1 ?_|refine yP hn_g1 ?_|refine yN hn_g1 ?_|refine zC hn_g1 (fun hb=>?_) fun hb=>?_|refine zG hn_g1 (fun hb=>?_) fun hb=>?_|refine zD hn_g1 (fun hb=>?_) fun hb=>?_
 ·refine yT hC hn_g1 ?_
  exact .one (.c (ler_errE (by unfold grsC;rw [if_pos om]) (by decide)))
 have h8:m.groups.length≤8:=by omega
 have he2:grsC m=(frsS (grC m) m.groups 0 []).1:=by
  unfold grsC
  rw [if_neg om]
 generalize hF:frsS (grC m) m.groups 0 []=F at he2
 refine aw_lp (fun x:Nat×List BS×Option Nat=>[(1,.c (.optr g1 0)),(2,.c .nilI),(3,.c (gs x.2.2 1 x.2.1.length)),(16,.c (grs true m.groups)),(17,.c (.int .i64 m.groups.length)),(18,.c (.int .i64 x.1))]) (fun x=>[(g1,.cells 30 8 (ofL (mdc true m)))]++gh x.2.2 9 x.2.1.length (strsF x.2.1)) (fun x=>x.1≤m.groups.length∧(x.2.2=none→x.2.1.length=0)∧x.2.1.length≤1048576*x.1∧frsS (grC m) (m.groups.drop x.1) x.1 x.2.1=F) (fun x=>m.groups.length-x.1) (0,[],none) (zB hn_g1) zZ ⟨Nat.zero_le _,fun _=>rfl,Nat.zero_le _,hF⟩ ?_
 rintro ⟨i,ms,og⟩ ⟨hi,hog,hsz,hlp⟩
 dsimp only at hi hog hsz hlp⊢
 simp only [List.cons_append,List.nil_append]
 repeat' first|refine yA1 hn_g1 ?_|refine zW hn_g1 ?_|refine yP hn_g1 ?_|refine yN hn_g1 ?_|refine zC hn_g1 (fun hb=>?_) fun hb=>?_|refine zG hn_g1 (fun hb=>?_) fun hb=>?_|refine zD hn_g1 (fun hb=>?_) fun hb=>?_
 ·obtain⟨w0,w1,w2⟩:=hw.gr i
  have w3:=hw.fa i
  have hi':=hb
  have hR:∀c s,grC m i (m.groups.getD i gr0) ms=(c,s)→c≠0→grsC m=c:=fun c s hc h0=>by
   rw [he2,frsS_ret hlp hi' hc h0]
  have hgo:=fun r=>frsS_go (d:=gr0) (r:=r) hlp hi'
  clear hlp
  generalize hx:m.groups.getD i gr0=x at*
  have f1:Fa Tryz.prog 42 [.c (.str (sB x.name))] (.c (.bool (nameOk x.name))):=tname_fa x.name w0
  refine yA hn_g1 fun g4 hn_g4=>?_
  all_goals try(have Z:=(oj hn_g1 hn_g4);(repeat' first|refine yA1 Z ?_|(refine yC2 Z (f1) ?_)|(refine yD2 Z (f1) ?_)|refine zW Z ?_|refine yP Z ?_|refine yN Z ?_|refine zC Z (fun hb=>?_) fun hb=>?_|refine zG Z (fun hb=>?_) fun hb=>?_|refine zD Z (fun hb=>?_) fun hb=>?_);all_goals clear Z)
  ·refine yT hC (oj hn_g1 hn_g4) ?_
   refine .one (.c (ler_errE (c:=grsC m) (hR _ ms ?_ (by decide)) (by decide)))
   unfold grC
   rw [if_pos (by simpa using hb)]
  have hn1:=hb
  refine aw_makeFunc (gs:=[g4]) rfl rfl rfl (zE (oj hn_g1 hn_g4)) ?_
  have J1:=oj hn_g1 hn_g4
  refine yS J1 ?_
  have f2:=grI_fg g4 x m.groups hl
  have f3:=facC_fa x.factors w2 w3
  obtain⟨nm,kd,mb,fc⟩:=x
  dsimp only at*
  by_cases k0:kd=0
  ·subst k0
   all_goals try(have Z:=J1;(repeat' first|refine yA1 Z ?_|(refine zg Z (f2) ?_)|refine zW Z ?_|refine yP Z ?_|refine yN Z ?_|refine zC Z (fun hb=>?_) fun hb=>?_|refine zG Z (fun hb=>?_) fun hb=>?_|refine zD Z (fun hb=>?_) fun hb=>?_);all_goals clear Z)
   all_goals clear f1 f2
   ·refine yT hC J1 ?_
    refine .one (.c (ler_errE (c:=grsC m) (hR _ ms ?_ (by decide)) (by decide)))
    unfold grC
    repeat' split
    all_goals first|rfl|(exfalso;simp_all;done)|(exfalso;simp_all;omega)
   ·refine yT hC J1 ?_
    refine .one (.c (ler_errE (c:=grsC m) (hR _ ms ?_ (by decide)) (by decide)))
    unfold grC
    repeat' split
    all_goals first|rfl|(exfalso;simp_all;done)|(exfalso;simp_all;omega)
   ·refine yT hC J1 ?_
    refine .one (.c (ler_errE (c:=grsC m) (hR _ ms ?_ (by decide)) (by decide)))
    unfold grC
    repeat' split
    all_goals first|rfl|(exfalso;simp_all;done)|(exfalso;simp_all;omega)
   ·refine yT hC J1 ?_
    refine .one (.c (ler_errE (c:=grsC m) (hR _ ms ?_ (by decide)) (by decide)))
    unfold grC
    repeat' split
    all_goals first|rfl|(exfalso;simp_all;done)|(exfalso;simp_all;omega)
   have hff:=hb
   generalize hF2:frsS (meC m) mb 0 ms=F2
   have hQ:grC m i ⟨nm,0,mb,fc⟩ ms=(if F2.1≠0 then F2 else if fc.all RD.prob=false then(3,ms) else(0,F2.2)):=by
    unfold grC
    dsimp only
    rw [hF2]
    rw [if_neg (by simpa using hn1),if_neg (by assumption),if_neg (by decide),if_neg (by simp;omega)]
   refine aw_lp (fun y:Nat×List BS×Option Nat=>[(1,.c (.optr g1 0)),(2,.c .nilI),(3,.c (gs y.2.2 1 y.2.1.length)),(5,.c (.optr g4 0)),(16,.c (grs true m.groups)),(17,.c (.int .i64 m.groups.length)),(18,.c (.int .i64 i)),(71,.c (strs true mb)),(72,.c (.int .i64 mb.length)),(73,.c (.int .i64 y.1))]) (fun y=>[(g4,.cells 100 4 (ofL (grc ⟨nm,0,mb,fc⟩))),(g1,.cells 30 8 (ofL (mdc true m)))]++gh y.2.2 9 y.2.1.length (strsF y.2.1)) (fun y=>y.1≤mb.length∧(y.2.2=none→y.2.1.length=0)∧y.2.1.length≤ms.length+y.1∧frsS (meC m) (mb.drop y.1) y.1 y.2.1=F2) (fun y=>mb.length-y.1) (0,ms,og) (zB J1) zZ ⟨Nat.zero_le _,hog,by dsimp only;omega,hF2⟩ ?_
   rintro ⟨j,sq,oq⟩ ⟨hj,hoq,hsq,hlq⟩
   dsimp only at hj hoq hsq hlq⊢
   simp only [List.cons_append,List.nil_append]
   all_goals try(have Z:=J1;(repeat' first|refine yA1 Z ?_|(refine yC2 Z (f3) ?_)|(refine yD2 Z (f3) ?_)|refine zW Z ?_|refine yP Z ?_|refine yN Z ?_|refine zC Z (fun hb=>?_) fun hb=>?_|refine zG Z (fun hb=>?_) fun hb=>?_|refine zD Z (fun hb=>?_) fun hb=>?_);all_goals clear Z)
   ·have hj':=hb
    have hq2:=fun r=>frsS_ret (d:=([]:BS)) (r:=r) hlq hj'
    have hqg:=fun r=>frsS_go (d:=([]:BS)) (r:=r) hlq hj'
    clear hlq J1
    generalize hy:mb.getD j []=y at*
    have hR2:∀c s,meC m j y sq=(c,s)→c≠0→grsC m=c:=fun c s h1 h2=>by
     have a1:=hq2 _ h1 h2
     refine hR c s ?_ h2
     rw [hQ,a1]
     exact if_pos h2
    have f5:=event_fa m y hm.ev
    have f4:=scontF_fa sq y om
    all_goals try(have Z:=(oj hn_g1 hn_g4);(repeat' first|refine yA1 Z ?_|(refine yC2 Z (f5) ?_)|(refine yD2 Z (f5) ?_)|refine zW Z ?_|refine yP Z ?_|refine yN Z ?_|refine zC Z (fun hb=>?_) fun hb=>?_|refine zG Z (fun hb=>?_) fun hb=>?_|refine zD Z (fun hb=>?_) fun hb=>?_);all_goals clear Z)
    ·refine yT hC (oj hn_g1 hn_g4) ?_
     refine .one (.c (ler_errE (c:=grsC m) (hR2 _ sq ?_ (by decide)) (by decide)))
     unfold meC evI
     rw [if_pos hb]
    have h5:=hb
    refine aw_nd fun hnd=> ?_
    refine aw_callq f4 rfl rfl rfl (by refine yS (oj hn_g1 hn_g4) ?_;exact⟨.c (le_gst (pre:=[(g4,.cells 100 4 (ofL (grc ⟨nm,0,mb,fc⟩))),(g1,.cells 30 8 (ofL (mdc true m)))]) hoq hnd),.c (.refl _)⟩) ?_
    have J2:=oj hn_g1 hn_g4
    refine yS J2 ?_
    all_goals try(have Z:=J2;(repeat' first|refine yA1 Z ?_|refine zW Z ?_|refine yP Z ?_|refine yN Z ?_|refine zC Z (fun hb=>?_) fun hb=>?_|refine zG Z (fun hb=>?_) fun hb=>?_|refine zD Z (fun hb=>?_) fun hb=>?_);all_goals clear Z)
    ·refine yT hC J2 ?_
     refine .one (.c (ler_errE (c:=grsC m) (hR2 _ sq ?_ (by decide)) (by decide)))
     unfold meC evI
     rw [if_neg h5,if_pos hb]
    ·have hz:meC m j y sq=(0,sq++[y]):=by
      unfold meC evI
      rw [if_neg h5,if_neg (by simpa using hb)]
     have hq:=hqg _ hz rfl
     have hln:(sq++[y]).length=sq.length+1:=by rw [List.length_append];rfl
     refine aw_push (pre:=[(g4,.cells 100 4 (ofL (grc ⟨nm,0,mb,fc⟩))),(g1,.cells 30 8 (ofL (mdc true m)))]) rfl rfl rfl rfl rfl rfl rfl (zE J2) (zE J2) (by rfl) om om (zE J2) om (by exact hoq) (zE J2) (by rfl) (by rfl) (by first|rfl|simp only [Nat.mul_one,List.nil_append,List.cons_append]<;>rfl) (by unfold maxLen;omega) om (by exact strs_push rfl y) fun gb hn_gb=> ?_
     replace hn_gb:=Heap.ne_of hn_gb
     first|dsimp only [Heap.ne,gh] at hn_gb|dsimp only [Heap.ne] at hn_gb|skip
     refine yS (oj hn_g1 (oj hn_g4 hn_gb)) ?_
     all_goals try(have Z:=(oj hn_g1 (oj hn_g4 hn_gb));(repeat' first|refine yA1 Z ?_|refine zW Z ?_|refine yP Z ?_|refine yN Z ?_|refine zC Z (fun hb=>?_) fun hb=>?_|refine zG Z (fun hb=>?_) fun hb=>?_|refine zD Z (fun hb=>?_) fun hb=>?_);all_goals clear Z)
     refine aw_stop ⟨(j+1,sq++[y],some gb),?_⟩
     dsimp only
     simp only [hln]
     and_intros
     all_goals first|rfl|exact List.Sublist.refl _|exact List.sublist_cons_self _ _|exact True.intro|exact some_ne|exact hq|omega
   ·rename_i hj0
    have hF0:=frsS_fin hlq hj0
    refine yT hC (oj hn_g1 hn_g4) ?_
    refine .one (.c (ler_errE (c:=grsC m) (hR _ ms ?_ (by decide)) (by decide)))
    rw [hQ,hF0,if_neg (by simp),if_pos (by simpa using hb)]
   ·rename_i hj0
    have hF0:=frsS_fin hlq hj0
    have hz:grC m i ⟨nm,0,mb,fc⟩ ms=(0,sq):=by
     rw [hQ,hF0,if_neg (by simp),if_neg (by simpa using hb)]
    have hq:=hgo _ hz rfl
    refine aw_stop ⟨(i+1,sq,oq),?_⟩
    and_intros
    all_goals first|rfl|exact List.Sublist.refl _|exact List.sublist_cons_self _ _|exact True.intro|exact hoq|exact hq|(dsimp only;omega)
  by_cases k1:kd=1
  ·subst k1
   all_goals try(have Z:=(oj hn_g1 hn_g4);(repeat' first|refine yA1 Z ?_|(refine zg Z (f2) ?_)|refine zW Z ?_|refine yP Z ?_|refine yN Z ?_|refine zC Z (fun hb=>?_) fun hb=>?_|refine zG Z (fun hb=>?_) fun hb=>?_|refine zD Z (fun hb=>?_) fun hb=>?_);all_goals clear Z)
   ·refine yT hC (oj hn_g1 hn_g4) ?_
    refine .one (.c (ler_errE (c:=grsC m) (hR _ ms ?_ (by decide)) (by decide)))
    unfold grC
    repeat' split
    all_goals first|rfl|(exfalso;simp_all;done)|(exfalso;simp_all;omega)
   refine aw_dr 6 ty_mixed (by kernel_rfl) ?_
   all_goals try(have Z:=(oj hn_g1 hn_g4);(repeat' first|refine yA1 Z ?_|refine zW Z ?_|refine yP Z ?_|refine yN Z ?_|refine zC Z (fun hb=>?_) fun hb=>?_|refine zG Z (fun hb=>?_) fun hb=>?_|refine zD Z (fun hb=>?_) fun hb=>?_);all_goals clear Z)
   all_goals clear f1 f2
   ·refine yT hC (oj hn_g1 hn_g4) ?_
    refine .one (.c (ler_errE (c:=grsC m) (hR _ ms ?_ (by decide)) (by decide)))
    unfold grC
    repeat' split
    all_goals first|rfl|(exfalso;simp_all;done)|(exfalso;simp_all;omega)
   ·refine yT hC (oj hn_g1 hn_g4) ?_
    refine .one (.c (ler_errE (c:=grsC m) (hR _ ms ?_ (by decide)) (by decide)))
    unfold grC
    repeat' split
    all_goals first|rfl|(exfalso;simp_all;done)|(exfalso;simp_all;omega)
   ·refine yT hC (oj hn_g1 hn_g4) ?_
    refine .one (.c (ler_errE (c:=grsC m) (hR _ ms ?_ (by decide)) (by decide)))
    unfold grC
    repeat' split
    all_goals first|rfl|(exfalso;simp_all;done)|(exfalso;simp_all;omega)
   have hff:=hb
   generalize hF2:frsS (meC m) mb 0 ms=F2
   have hQ:grC m i ⟨nm,1,mb,fc⟩ ms=(if F2.1≠0 then F2 else if fc.all RD.prob=false then(3,ms) else(0,F2.2)):=by
    unfold grC
    dsimp only
    rw [hF2]
    rw [if_neg (by simpa using hn1),if_neg (by assumption),if_neg (by decide),if_neg (by simp;omega)]
   refine aw_lp (fun y:Nat×List BS×Option Nat=>[(1,.c (.optr g1 0)),(2,.c .nilI),(3,.c (gs y.2.2 1 y.2.1.length)),(5,.c (.optr g4 0)),(16,.c (grs true m.groups)),(17,.c (.int .i64 m.groups.length)),(18,.c (.int .i64 i)),(71,.c (strs true mb)),(72,.c (.int .i64 mb.length)),(73,.c (.int .i64 y.1))]) (fun y=>[(g4,.cells 100 4 (ofL (grc ⟨nm,1,mb,fc⟩))),(g1,.cells 30 8 (ofL (mdc true m)))]++gh y.2.2 9 y.2.1.length (strsF y.2.1)) (fun y=>y.1≤mb.length∧(y.2.2=none→y.2.1.length=0)∧y.2.1.length≤ms.length+y.1∧frsS (meC m) (mb.drop y.1) y.1 y.2.1=F2) (fun y=>mb.length-y.1) (0,ms,og) (zB (oj hn_g1 hn_g4)) zZ ⟨Nat.zero_le _,hog,by dsimp only;omega,hF2⟩ ?_
   rintro ⟨j,sq,oq⟩ ⟨hj,hoq,hsq,hlq⟩
   dsimp only at hj hoq hsq hlq⊢
   simp only [List.cons_append,List.nil_append]
   all_goals try(have Z:=(oj hn_g1 hn_g4);(repeat' first|refine yA1 Z ?_|(refine yC2 Z (f3) ?_)|(refine yD2 Z (f3) ?_)|refine zW Z ?_|refine yP Z ?_|refine yN Z ?_|refine zC Z (fun hb=>?_) fun hb=>?_|refine zG Z (fun hb=>?_) fun hb=>?_|refine zD Z (fun hb=>?_) fun hb=>?_);all_goals clear Z)
   ·have hj':=hb
    have hq2:=fun r=>frsS_ret (d:=([]:BS)) (r:=r) hlq hj'
    have hqg:=fun r=>frsS_go (d:=([]:BS)) (r:=r) hlq hj'
    clear hlq
    generalize hy:mb.getD j []=y at*
    have hR2:∀c s,meC m j y sq=(c,s)→c≠0→grsC m=c:=fun c s h1 h2=>by
     have a1:=hq2 _ h1 h2
     refine hR c s ?_ h2
     rw [hQ,a1]
     exact if_pos h2
    have f5:=event_fa m y hm.ev
    have f4:=scontF_fa sq y om
    all_goals try(have Z:=(oj hn_g1 hn_g4);(repeat' first|refine yA1 Z ?_|(refine yC2 Z (f5) ?_)|(refine yD2 Z (f5) ?_)|refine zW Z ?_|refine yP Z ?_|refine yN Z ?_|refine zC Z (fun hb=>?_) fun hb=>?_|refine zG Z (fun hb=>?_) fun hb=>?_|refine zD Z (fun hb=>?_) fun hb=>?_);all_goals clear Z)
    ·refine yT hC (oj hn_g1 hn_g4) ?_
     refine .one (.c (ler_errE (c:=grsC m) (hR2 _ sq ?_ (by decide)) (by decide)))
     unfold meC evI
     rw [if_pos hb]
    have h5:=hb
    refine aw_nd fun hnd=> ?_
    refine aw_callq f4 rfl rfl rfl (by refine yS (oj hn_g1 hn_g4) ?_;exact⟨.c (le_gst (pre:=[(g4,.cells 100 4 (ofL (grc ⟨nm,1,mb,fc⟩))),(g1,.cells 30 8 (ofL (mdc true m)))]) hoq hnd),.c (.refl _)⟩) ?_
    have J3:=oj hn_g1 hn_g4
    refine yS J3 ?_
    all_goals try(have Z:=J3;(repeat' first|refine yA1 Z ?_|refine zW Z ?_|refine yP Z ?_|refine yN Z ?_|refine zC Z (fun hb=>?_) fun hb=>?_|refine zG Z (fun hb=>?_) fun hb=>?_|refine zD Z (fun hb=>?_) fun hb=>?_);all_goals clear Z)
    ·refine yT hC J3 ?_
     refine .one (.c (ler_errE (c:=grsC m) (hR2 _ sq ?_ (by decide)) (by decide)))
     unfold meC evI
     rw [if_neg h5,if_pos hb]
    ·have hz:meC m j y sq=(0,sq++[y]):=by
      unfold meC evI
      rw [if_neg h5,if_neg (by simpa using hb)]
     have hq:=hqg _ hz rfl
     have hln:(sq++[y]).length=sq.length+1:=by rw [List.length_append];rfl
     refine aw_push (pre:=[(g4,.cells 100 4 (ofL (grc ⟨nm,1,mb,fc⟩))),(g1,.cells 30 8 (ofL (mdc true m)))]) rfl rfl rfl rfl rfl rfl rfl (zE J3) (zE J3) (by rfl) om om (zE J3) om (by exact hoq) (zE J3) (by rfl) (by rfl) (by first|rfl|simp only [Nat.mul_one,List.nil_append,List.cons_append]<;>rfl) (by unfold maxLen;omega) om (by exact strs_push rfl y) fun gb hn_gb=> ?_
     replace hn_gb:=Heap.ne_of hn_gb
     first|dsimp only [Heap.ne,gh] at hn_gb|dsimp only [Heap.ne] at hn_gb|skip
     refine yS (oj hn_g1 (oj hn_g4 hn_gb)) ?_
     all_goals try(have Z:=(oj hn_g1 (oj hn_g4 hn_gb));(repeat' first|refine yA1 Z ?_|refine zW Z ?_|refine yP Z ?_|refine yN Z ?_|refine zC Z (fun hb=>?_) fun hb=>?_|refine zG Z (fun hb=>?_) fun hb=>?_|refine zD Z (fun hb=>?_) fun hb=>?_);all_goals clear Z)
     refine aw_stop ⟨(j+1,sq++[y],some gb),?_⟩
     dsimp only
     simp only [hln]
     and_intros
     all_goals first|rfl|exact List.Sublist.refl _|exact List.sublist_cons_self _ _|exact True.intro|exact some_ne|exact hq|omega
   ·rename_i hj0
    have hF0:=frsS_fin hlq hj0
    refine yT hC (oj hn_g1 hn_g4) ?_
    refine .one (.c (ler_errE (c:=grsC m) (hR _ ms ?_ (by decide)) (by decide)))
    rw [hQ,hF0,if_neg (by simp),if_pos (by simpa using hb)]
   ·rename_i hj0
    have hF0:=frsS_fin hlq hj0
    have hz:grC m i ⟨nm,1,mb,fc⟩ ms=(0,sq):=by
     rw [hQ,hF0,if_neg (by simp),if_neg (by simpa using hb)]
    have hq:=hgo _ hz rfl
    refine aw_stop ⟨(i+1,sq,oq),?_⟩
    and_intros
    all_goals first|rfl|exact List.Sublist.refl _|exact List.sublist_cons_self _ _|exact True.intro|exact hoq|exact hq|(dsimp only;omega)
  ·all_goals try(have Z:=(oj hn_g1 hn_g4);(repeat' first|refine yA1 Z ?_|(refine zg Z (f2) ?_)|refine zW Z ?_|refine yP Z ?_|refine yN Z ?_|refine zC Z (fun hb=>?_) fun hb=>?_|refine zG Z (fun hb=>?_) fun hb=>?_|refine zD Z (fun hb=>?_) fun hb=>?_);all_goals clear Z)
   all_goals clear f1 f2
   all_goals first
    |(exfalso;omega)
    |(refine yT hC (oj hn_g1 hn_g4) ?_
      refine .one (.c (ler_errE (c:=grsC m) (hR _ ms ?_ (by decide)) (by decide)))
      unfold grC
      repeat' split
      all_goals first|rfl|(exfalso;simp_all;done)|(exfalso;simp_all;omega))
 ·have hF0:=frsS_fin hlp hb
  subst hF0
  refine yT hC hn_g1 ?_
  exact .one (.c (ler_err0 he2))
end Go.Proofs.YteocnikcjjonbaaGreat
namespace Go.PN
open Go.AI
def resK (m:MdD) (k:Nat) (n:BS):Nat:=if bAt n 0=64 then(pgI m (n.drop 1)+1).toNat else k
def resN (m:MdD) (n:BS):BS:=if bAt n 0=64 then(m.pages.getD (pgI m (n.drop 1)).toNat pg0).top else n
def resA (m:MdD) (k:Nat) (n:BS):Int×Int×Int:=if evI m n≥0 then(0,0,evI m n) else if hsI m n≥0 then(1,0,hsI m n) else(2,(k:Int)-1,gtI (gtsK m k) n)
def resP (m:MdD) (k:Nat) (n:BS):Int×Int×Int:=resA m (resK m k n) (resN m n)
abbrev thA (t:Int×Int×Int):AV:=.agg [.int .i64 t.1,.int .i64 t.2.1,.int .i64 t.2.2]
end Go.PN
namespace Go.Proofs.YteocnikcjjonbaaGreat
open Go.AI Go.PN
attribute [local irreducible] aw Fa Fh DrK
theorem resolve_fa (m:MdD) (k:Nat) (n:BS) (hk:k≤m.pages.length) (hm:MdOk m) (hw2:MdWf2 m) (h0:0<n.length) (hn:n.length≤1099511627776) (hpg:bAt n 0=64→0≤pgI m (n.drop 1)):Fa Tryz.prog 142 [.agg (mdc true m),.c (.int .i64 ((k:Int)-1)),.c (.str (sB n))] (thA (resP m k n)):=by
 have hpl:=hw2.pl
 refine fa_of_body Tryz.func142 rfl rfl (by simp [Tryz.ntmps142]) fun C hC=> ?_
 simp only [initS,Nat.reduceAdd]
 repeat' first|refine yA1 o0 ?_|refine zW o0 ?_|refine yP o0 ?_|refine yN o0 ?_|refine zC o0 (fun hb=>?_) fun hb=>?_|refine zG o0 (fun hb=>?_) fun hb=>?_|refine zD o0 (fun hb=>?_) fun hb=>?_
 refine xB fun g1 hn_g1=>?_
 repeat' first|refine yA1 hn_g1 ?_|refine zW hn_g1 ?_|refine yP hn_g1 ?_|refine yN hn_g1 ?_|refine zC hn_g1 (fun hb=>?_) fun hb=>?_|refine zG hn_g1 (fun hb=>?_) fun hb=>?_|refine zD hn_g1 (fun hb=>?_) fun hb=>?_
 refine yA hn_g1 fun g2 hn_g2=>?_
 all_goals try(have Z:=(oj hn_g1 hn_g2);(repeat' first|refine yA1 Z ?_|refine zW Z ?_|refine yP Z ?_|refine yN Z ?_|refine zC Z (fun hb=>?_) fun hb=>?_|refine zG Z (fun hb=>?_) fun hb=>?_|refine zD Z (fun hb=>?_) fun hb=>?_);all_goals clear Z)
 ·have h64:=hb
  obtain⟨q,hq⟩:∃q:Nat,pgI m (n.drop 1)=q:=⟨(pgI m (n.drop 1)).toNat,by have:=hpg h64;omega⟩
  have hql:q<m.pages.length:=by
   have:=fidx_lt (fun x:PgD=>x.name==n.drop 1) m.pages
   rw [show fidx (fun x:PgD=>x.name==n.drop 1) m.pages=(q:Int) from hq] at this
   omega
  have f1:=page_fa m (cutS n 1 n.length) hm.pg
  rw [cutS_drop,show fidx (fun x:PgD=>x.name==n.drop 1) m.pages=(q:Int) from hq,←cutS_drop] at f1
  have e1:resP m k n=resA m (q+1) (m.pages.getD q pg0).top:=by
   unfold resP resK resN
   rw [if_pos h64,if_pos h64,hq]
   rfl
  rw [e1]
  have hgl:=gtsK_len hw2 (q+1)
  have f4:=gatesOf_fa m (q+1) om hm.pg
  rw [show((q+1:Nat):Int)-1=q from by omega] at f4
  refine aw_dr 5 ty_mixed (by kernel_rfl) ?_
  all_goals try(have Z:=(oj hn_g1 hn_g2);(repeat' first|refine yA1 Z ?_|(refine yC2 Z (f1) ?_)|(refine yD2 Z (f1) ?_)|refine zW Z ?_|refine yP Z ?_|refine yN Z ?_|refine zC Z (fun hb=>?_) fun hb=>?_|refine zG Z (fun hb=>?_) fun hb=>?_|refine zD Z (fun hb=>?_) fun hb=>?_);all_goals clear Z)
  generalize hN:(m.pages.getD q pg0).top=N at*
  have f2:=event_fa m N hm.ev
  have f3:=house_fa m N hm.hs
  have f5:=gate_fa (gtsK m (q+1)) N om
  all_goals try(have Z:=(oj hn_g1 hn_g2);(repeat' first|refine yA1 Z ?_|(refine yC2 Z (f2) ?_)|(refine yD2 Z (f2) ?_)|(refine yC2 Z (f3) ?_)|(refine yD2 Z (f3) ?_)|(refine yC2 Z (f4) ?_)|(refine yD2 Z (f4) ?_)|(refine yC2 Z (f5) ?_)|(refine yD2 Z (f5) ?_)|refine zW Z ?_|refine yP Z ?_|refine yN Z ?_|refine zC Z (fun hb=>?_) fun hb=>?_|refine zG Z (fun hb=>?_) fun hb=>?_|refine zD Z (fun hb=>?_) fun hb=>?_);all_goals clear Z)
  ·refine yT hC (oj hn_g1 hn_g2) ?_
   rw [show resA m (q+1) N=(0,0,evI m N) from if_pos hb]
   exact .one (.agg ⟨.int _ _,.int _ _,.int _ _,trivial⟩)
  ·rename_i h1
   refine yT hC (oj hn_g1 hn_g2) ?_
   rw [show resA m (q+1) N=(1,0,hsI m N) from(if_neg h1).trans (if_pos hb)]
   exact .one (.agg ⟨.int _ _,.int _ _,.int _ _,trivial⟩)
  ·rename_i h1
   refine yT hC (oj hn_g1 hn_g2) ?_
   rw [show resA m (q+1) N=(2,(((q+1):Nat):Int)-1,gtI (gtsK m (q+1)) N) from(if_neg h1).trans (if_neg hb)]
   exact .one (.agg ⟨.int _ _,ler_int (by dsimp only;omega),.int _ _,trivial⟩)
 ·have e1:resP m k n=resA m k n:=by
   unfold resP resK resN
   rw [if_neg hb,if_neg hb]
  rw [e1]
  clear e1 hpg
  generalize n=N at*
  have hgl:=gtsK_len hw2 k
  have f4:=gatesOf_fa m k hk hm.pg
  have f2:=event_fa m N hm.ev
  have f3:=house_fa m N hm.hs
  have f5:=gate_fa (gtsK m k) N om
  all_goals try(have Z:=(oj hn_g1 hn_g2);(repeat' first|refine yA1 Z ?_|(refine yC2 Z (f2) ?_)|(refine yD2 Z (f2) ?_)|(refine yC2 Z (f3) ?_)|(refine yD2 Z (f3) ?_)|(refine yC2 Z (f4) ?_)|(refine yD2 Z (f4) ?_)|(refine yC2 Z (f5) ?_)|(refine yD2 Z (f5) ?_)|refine zW Z ?_|refine yP Z ?_|refine yN Z ?_|refine zC Z (fun hb=>?_) fun hb=>?_|refine zG Z (fun hb=>?_) fun hb=>?_|refine zD Z (fun hb=>?_) fun hb=>?_);all_goals clear Z)
  ·refine yT hC (oj hn_g1 hn_g2) ?_
   rw [show resA m k N=(0,0,evI m N) from if_pos hb]
   exact .one (.agg ⟨.int _ _,.int _ _,.int _ _,trivial⟩)
  ·rename_i h1
   refine yT hC (oj hn_g1 hn_g2) ?_
   rw [show resA m k N=(1,0,hsI m N) from(if_neg h1).trans (if_pos hb)]
   exact .one (.agg ⟨.int _ _,.int _ _,.int _ _,trivial⟩)
  ·rename_i h1
   refine yT hC (oj hn_g1 hn_g2) ?_
   rw [show resA m k N=(2,((k:Nat):Int)-1,gtI (gtsK m k) N) from(if_neg h1).trans (if_neg hb)]
   exact .one (.agg ⟨.int _ _,.int _ _,.int _ _,trivial⟩)
end Go.Proofs.YteocnikcjjonbaaGreat
namespace Go.AI
def kvSet {α:Type} [DecidableEq α] (a:α) (v:Value):List (α×Value)→List (α×Value)
 |[]=>[]
 |p::kv=>if a=p.1 then(p.1,v)::kv else p::kvSet a v kv
theorem modSpec {α:Type} [DecidableEq α] {K:α→Value} (a:α) (v:Value):∀(kv:List (α×Value)) (es:List MapEntry) (n i:Nat) (x:Value),es.map (fun e=>(e.key,e.val))=kv.map (fun p=>(K p.1,p.2))→fAsk a (kv.map (·.1)) es n=some (i,x)→∃j,i=n+j∧(es[j]?).map (·.key)=some (K a)∧(es.modify j (fun e=>{e with key:=K a,val:=v})).map (fun e=>(e.key,e.val))=(kvSet a v kv).map (fun p=>(K p.1,p.2))
 |[],[],_,_,_,_,h=>by cases h
 |[],_::_,_,_,_,h,_=>by simp at h
 |_::_,[],_,_,_,h,_=>by simp at h
 |p::kv,e::es,n,i,x,h,hf=>by
  simp only [List.map_cons,List.cons.injEq,Prod.mk.injEq] at h
  simp only [List.map_cons,fAsk] at hf
  split at hf
  ·rename_i ha
   injection hf with hf
   injection hf with h1 h2
   refine⟨0,h1.symm,?_,?_⟩
   ·simp [h.1.1,ha]
   ·simp only [kvSet,if_pos ha]
    simp [h.2,ha]
  ·rename_i ha
   obtain⟨j,hj,hk,hm⟩:=modSpec a v kv es (n+1) i x h.2 hf
   refine⟨j+1,by omega,by simpa using hk,?_⟩
   simp only [kvSet,if_neg ha]
   simp [hm,h.1.1,h.1.2]
section
variable {E : Env} {K : List It} {σ σ' : Sl} {h : Heap} {all rest : List Oper} {o : Oper}
theorem aw_mapSet {α:Type} [DecidableEq α] {Kf:α→Value} {t kt et g:TypeId} {kv:List (α×Value)} {x ky vl:Operand} {ck cv:AV} {a:α} {v:Value} (hop:o.op=.mapUpdate t x ky vl) (hdn:o.dst=none) (hw:wantA all σ o=some true)
  (ht:tMap E.P t=some (kt,et)) (hK:KeyOk E.P kt Kf) (hsb:Instr.sameBits 10000 (Kf a) (Kf a)=true) (hx:ev σ x=.c (.raw (.map (some g)))) (hg:h.get g=some (.gen (MapI Kf kv))) (hk:ev σ ky=ck) (hka:∀S w u,Rep S w ck u→u=Kf a) (hv:ev σ vl=cv) (hva:∀S w u,Rep S w cv u→u=v)
  (hold:(kvGet a kv).isSome=true) {h':Heap} (hh:h.set g (.gen (MapI Kf (kvSet a v kv)))=h') (k:aw E (.ops all rest::K) σ h'):aw E (.ops all (o::rest)::K) σ h:=by
 subst hh
 refine aw_step hw (fun ac w s=> ?_) k
 have h1:=ev_rep s x
 rw [hx] at h1
 have h1':ac.eval x=.map (some g):=h1
 have h2:=ev_rep s ky
 rw [hk] at h2
 have h2':=hka _ _ _ h2
 have h3:=ev_rep s vl
 rw [hv] at h3
 have h3':=hva _ _ _ h3
 obtain⟨ob,hb,es,c,rfl,hes⟩:=s.heap g _ (Heap.get_mem hg)
 have hkeys:es.toList.map (·.key)=(kv.map (·.1)).map Kf:=by
  have:=congrArg (List.map Prod.fst) hes
  rw [List.map_map,List.map_map] at this
  rw [List.map_map]
  exact this
 have hfind:=hK.find a (kv.map (·.1)) es.toList w hkeys
 have hget:=fAsk_get (K:=Kf) a kv es.toList 0 hes
 obtain⟨i,y,hsome⟩:∃i y,fAsk a (kv.map (·.1)) es.toList 0=some (i,y):=by
  cases hf:fAsk a (kv.map (·.1)) es.toList 0 with
  |none=>rw [hf] at hget;rw [←hget] at hold;cases hold
  |some p=>exact⟨p.1,p.2,rfl⟩
 obtain⟨j,hj,hkj,hmod⟩:=modSpec (K:=Kf) a v kv es.toList 0 i y hes hsome
 rw [Nat.zero_add] at hj
 subst hj
 have hgl:g<w.heap.size:=(Array.getElem?_eq_some_iff.1 hb).1
 let w':World:={w with heap:=w.heap.setIfInBounds g (.map (es.modify i fun e=>{e with key:=Kf a,val:=v}) c)}
 have hki:((es[i]?).map (·.key)).getD (Kf a)=Kf a:=by
  rw [←Array.getElem?_toList,hkj];rfl
 have hrun:(Instr.mapUpdate t (ac.eval x) (ac.eval ky) (ac.eval vl)).run E.P w=.ok () w':=by
  rw [h1',h2',h3']
  unfold Instr.mapUpdate
  simp only [Sem.run_bind,run_underlying (tMap_spec ht),Result.andThen_ok,runGet hb,hK.check,hfind,hsome,hki]
  unfold Instr.keyThatStays
  rw [if_pos hsb]
  simp only [Sem.run_pure,Result.andThen_ok,runSet _ hb]
  rfl
 refine⟨undef,w',.inr ⟨?_,rfl⟩,?_⟩
 ·simp only [execOp,hop,Sem.run_bind,hrun,Result.andThen_ok]
  rfl
 ·rw [hdn]
  have hfr:Fr (fun b=>b=g) w w':=by
   refine⟨rfl,rfl,rfl,by simp [w'],Nat.le_refl _,fun b _ hne=> ?_,fun g' m hh=> ?_⟩
   ·simp only [w'];rw [Array.getElem?_setIfInBounds_ne (fun e=>hne e.symm)]
   ·obtain⟨cs,ty,⟨fr,hc⟩,hs⟩:=hh
    refine⟨cs,ty,⟨fr,?_⟩,hs⟩
    have hne:g'≠g:=fun e=>by rw [e,hb] at hc;cases hc
    simp only [w']
    rw [Array.getElem?_setIfInBounds_ne (fun e=>hne e.symm)];exact hc
  refine s.setObj hg hfr ⟨_,by simp only [w'];rw [Array.getElem?_setIfInBounds_self_of_lt hgl],_,_,rfl,?_⟩
  rw [Array.toList_modify]
  exact hmod
end
end Go.AI
namespace Go.PN
open Go.AI
section
variable {α : Type} [DecidableEq α]
def stGet (a:α):List (α×Int)→Int
 |[]=>0
 |p::st=>if a=p.1 then p.2 else stGet a st
def stSet (a:α) (v:Int):List (α×Int)→List (α×Int)
 |[]=>[]
 |p::st=>if a=p.1 then(p.1,v)::st else p::stSet a v st
def goD (f:List (α×Int)→α→Bool×List (α×Int)):List α→List (α×Int)→Bool×List (α×Int)
 |[],st=>(false,st)
 |x::l,st=>if(f st x).1=true then f st x else goD f l (f st x).2
def walkD (leaf:α→Bool) (succ:α→List α):Nat→List (α×Int)→α→Bool×List (α×Int)
 |0,st,_=>(false,st)
 |n+1,st,t=>if leaf t=true then(false,st) else if stGet t st=1 then(true,st) else if stGet t st=2 then(false,st) else
  let r:=goD (walkD leaf succ n) (succ t) (st++[(t,1)])
  if r.1=true then r else(false,stSet t 2 r.2)
theorem stGet_set (a b:α) (v:Int):∀st:List (α×Int),stGet b (stSet a v st)=if b=a∧a∈st.map (·.1) then v else stGet b st
 |[]=>by simp [stSet,stGet]
 |p::st=>by
  have ih:=stGet_set a b v st
  unfold stSet
  by_cases h:a=p.1
  ·rw [if_pos h]
   show(if b=p.1 then v else stGet b st)=(if b=a∧a∈p.1::st.map (·.1) then v else(if b=p.1 then p.2 else stGet b st))
   by_cases hb:b=p.1
   ·rw [if_pos hb,if_pos ⟨hb.trans h.symm,by rw [h];exact List.mem_cons_self⟩]
   ·rw [if_neg hb,if_neg (fun z=>hb (z.1.trans h)),if_neg hb]
  ·rw [if_neg h]
   show(if b=p.1 then p.2 else stGet b (stSet a v st))=(if b=a∧a∈p.1::st.map (·.1) then v else(if b=p.1 then p.2 else stGet b st))
   by_cases hb:b=p.1
   ·rw [if_pos hb,if_neg (fun z=>h (z.1.symm.trans hb)),if_pos hb]
   ·rw [if_neg hb,if_neg hb,ih]
    have:(a∈p.1::st.map (·.1))↔a∈st.map (·.1):=by
     rw [List.mem_cons];exact⟨fun z=>z.elim (fun e=>absurd e h) id,.inr⟩
    simp only [this]
theorem stGet_app (a b:α) (v:Int):∀st:List (α×Int),a∉st.map (·.1)→stGet b (st++[(a,v)])=if b=a then v else stGet b st
 |[],_=>by simp [stGet]
 |p::st,h=>by
  have h1:a≠p.1:=fun e=>h (by rw [e];exact List.mem_cons_self)
  have ih:=stGet_app a b v st fun z=>h (List.mem_cons_of_mem _ z)
  show(if b=p.1 then p.2 else stGet b (st++[(a,v)]))=(if b=a then v else(if b=p.1 then p.2 else stGet b st))
  by_cases hb:b=p.1
  ·rw [if_pos hb,if_pos hb,if_neg (fun e=>h1 (e.symm.trans hb))]
  ·rw [if_neg hb,if_neg hb,ih]
def CycS (nodes:List α) (succ:α→List α):Prop:=∃S:List α,S≠[]∧∀x∈S,x∈nodes∧∃y∈S,y∈succ x
def pathS (succ:α→List α):List α→Prop
 |[]=>True
 |[_]=>True
 |a::b::l=>a∈succ b∧pathS succ (b::l)
omit [DecidableEq α] in
theorem path_cyc {succ:α→List α} {t:α} {l2:List α}:∀(l1:List α) (z:α),pathS succ (l1++t::l2)→(∀h,(l1++t::l2).head?=some h→z∈succ h)→∀x∈l1++[t],∃y∈z::(l1++[t]),y∈succ x
 |[],z,_,hz,x,hx=>by
  have:x=t:=by simpa using hx
  subst this
  exact⟨z,List.mem_cons_self,hz x rfl⟩
 |a::l1,z,hp,hz,x,hx=>by
  rcases List.mem_cons.1 hx with h|h
  ·subst h
   exact⟨z,List.mem_cons_self,hz x rfl⟩
  ·have hp':pathS succ (l1++t::l2)∧∀h,(l1++t::l2).head?=some h→a∈succ h:=by
    cases l1 with
    |nil=>
     cases l2 with
     |nil=>exact⟨trivial,fun h e=>by simp at e;subst e;exact hp.1⟩
     |cons c l2=>exact⟨hp.2,fun h e=>by simp at e;subst e;exact hp.1⟩
    |cons c l1=>exact⟨hp.2,fun h e=>by simp at e;subst e;exact hp.1⟩
   obtain⟨y,hy,hys⟩:=path_cyc l1 a hp'.1 hp'.2 x h
   exact⟨y,List.mem_cons_of_mem _ hy,hys⟩
structure DInv (leaf:α→Bool) (succ:α→List α) (nodes:List α) (st:List (α×Int)) (stk fin:List α):Prop where
 nd:(st.map (·.1)).Nodup
 sub:∀a∈st.map (·.1),a∈nodes
 key:∀a,a∈st.map (·.1)↔a∈stk∨a∈fin
 gray:∀a,stGet a st=1↔a∈stk
 black:∀a,stGet a st=2↔a∈fin
 path:pathS succ stk
 leafS:∀a∈stk,leaf a=false
 fd:fin.Nodup
 ord:∀l1 b l2,fin=l1++b::l2→∀x∈succ b,leaf x=true∨x∈l1
def DOut (leaf:α→Bool) (succ:α→List α) (nodes:List α) (st:List (α×Int)) (stk fin:List α) (r:Bool×List (α×Int)) (P:List α→Prop):Prop:=
 (r.1=true→CycS nodes succ)∧(r.1=false→∃fin',DInv leaf succ nodes r.2 stk fin'∧(∀a∈fin,a∈fin')∧st.length≤r.2.length∧P fin')
theorem go_ok {leaf:α→Bool} {succ:α→List α} {nodes stk:List α} {f:List (α×Int)→α→Bool×List (α×Int)} {k:Nat}
  (hf:∀st fin x,DInv leaf succ nodes st stk fin→k≤st.length→(leaf x=true∨x∈nodes)→(∀h,stk.head?=some h→x∈succ h)→DOut leaf succ nodes st stk fin (f st x) (fun fin'=>leaf x=true∨x∈fin')):
  ∀(l:List α) (st:List (α×Int)) (fin:List α),DInv leaf succ nodes st stk fin→k≤st.length→(∀x∈l,leaf x=true∨x∈nodes)→(∀x∈l,∀h,stk.head?=some h→x∈succ h)→DOut leaf succ nodes st stk fin (goD f l st) (fun fin'=>∀x∈l,leaf x=true∨x∈fin')
 |[],st,fin,hi,_,_,_=>⟨fun h=>(by cases h),fun _=>⟨fin,hi,fun _ h=>h,Nat.le_refl _,fun x hx=>(by cases hx)⟩⟩
 |x::l,st,fin,hi,hk,hl,hs=>by
  obtain⟨h1,h2⟩:=hf st fin x hi hk (hl x List.mem_cons_self) (hs x List.mem_cons_self)
  unfold goD
  by_cases hr:(f st x).1=true
  ·rw [if_pos hr]
   exact⟨h1,fun h=>by rw [hr] at h;cases h⟩
  ·rw [if_neg hr]
   obtain⟨fin1,i1,m1,l1,p1⟩:=h2 (by simpa using hr)
   obtain⟨g1,g2⟩:=go_ok hf l (f st x).2 fin1 i1 (Nat.le_trans hk l1) (fun y hy=>hl y (List.mem_cons_of_mem _ hy)) (fun y hy=>hs y (List.mem_cons_of_mem _ hy))
   refine⟨g1,fun h=> ?_⟩
   obtain⟨fin2,i2,m2,l2,p2⟩:=g2 h
   refine⟨fin2,i2,fun a ha=>m2 a (m1 a ha),Nat.le_trans l1 l2,fun y hy=> ?_⟩
   rcases List.mem_cons.1 hy with e|e
   ·subst e
    exact p1.elim .inl fun z=>.inr (m2 _ z)
   ·exact p2 y e
theorem nodup_len:∀{l n:List α},l.Nodup→(∀a∈l,a∈n)→l.length≤n.length
 |[],_,_,_=>Nat.zero_le _
 |a::l,n,hd,hs=>by
  have⟨h1,h2⟩:=List.nodup_cons.1 hd
  have ha:=hs a List.mem_cons_self
  have:=nodup_len (l:=l) (n:=n.erase a) h2 fun b hb=>(List.mem_erase_of_ne (fun e:b=a=>h1 (by rw [←e];exact hb))).2 (hs b (List.mem_cons_of_mem _ hb))
  rw [List.length_erase_of_mem ha] at this
  have hp:=List.length_pos_of_mem ha
  rw [List.length_cons]
  omega
theorem stSet_keys (a:α) (v:Int):∀st:List (α×Int),(stSet a v st).map (·.1)=st.map (·.1)
 |[]=>rfl
 |p::st=>by
  unfold stSet
  split
  ·rfl
  ·rw [List.map_cons,List.map_cons,stSet_keys a v st]
omit [DecidableEq α] in
theorem snoc_split {fin l1 l2:List α} {t b:α} (h:fin++[t]=l1++b::l2):(b=t∧l1=fin)∨∃l3,fin=l1++b::l3:=by
 rcases List.eq_nil_or_concat l2 with e|⟨l3,c,e⟩
 ·subst e
  have:=List.append_inj' h rfl
  exact .inl ⟨(List.cons.inj this.2).1.symm,this.1.symm⟩
 ·subst e
  have h':fin++[t]=(l1++b::l3)++[c]:=by rw [h];simp
  exact .inr ⟨l3,(List.append_inj' h' rfl).1⟩
theorem DInv.push {leaf:α→Bool} {succ:α→List α} {nodes:List α} {st:List (α×Int)} {stk fin:List α} {t:α} (hi:DInv leaf succ nodes st stk fin) (hl:¬leaf t=true) (htn:t∈nodes) (htk:t∉st.map (·.1)) (htF:t∉fin) (hh:∀h,stk.head?=some h→t∈succ h):DInv leaf succ nodes (st++[(t,1)]) (t::stk) fin:=by
 refine⟨?_,?_,?_,?_,?_,?_,?_,hi.fd,hi.ord⟩
 ·rw [List.map_append]
  exact List.nodup_append.2 ⟨hi.nd,by simp,fun a ha b hb e=>by simp at hb;exact htk (by rw [←hb,←e];exact ha)⟩
 ·intro a ha
  rw [List.map_append] at ha
  rcases List.mem_append.1 ha with h|h
  ·exact hi.sub a h
  ·rw [List.mem_singleton.1 h];exact htn
 ·intro a
  rw [List.map_append,List.mem_append,hi.key a,List.mem_cons]
  simp only [List.map_cons,List.map_nil,List.mem_singleton]
  exact⟨fun z=>z.elim (fun w=>w.elim (fun u=>.inl (.inr u)) .inr) fun w=>.inl (.inl w),fun z=>z.elim (fun w=>w.elim .inr fun u=>.inl (.inl u)) fun w=>.inl (.inr w)⟩
 ·intro a
  rw [stGet_app t a 1 st htk,List.mem_cons]
  by_cases e:a=t
  ·rw [if_pos e];exact⟨fun _=>.inl e,fun _=>rfl⟩
  ·rw [if_neg e,hi.gray a];exact⟨.inr,fun z=>z.resolve_left e⟩
 ·intro a
  rw [stGet_app t a 1 st htk]
  by_cases e:a=t
  ·rw [if_pos e];exact⟨fun z=>absurd z (by decide),fun z=>absurd (e▸z) htF⟩
  ·rw [if_neg e,hi.black a]
 ·cases stk with
  |nil=>trivial
  |cons b l=>exact⟨hh b rfl,hi.path⟩
 ·intro a ha
  rcases List.mem_cons.1 ha with h|h
  ·rw [h];simpa using hl
  ·exact hi.leafS a h
theorem walk_ok {leaf:α→Bool} {succ:α→List α} {nodes:List α} (hnl:∀t∈nodes,leaf t=false) (hcl:∀t∈nodes,∀x∈succ t,leaf x=true∨x∈nodes):∀(n:Nat) (st:List (α×Int)) (stk fin:List α) (t:α),DInv leaf succ nodes st stk fin→nodes.length<n+st.length→(leaf t=true∨t∈nodes)→(∀h,stk.head?=some h→t∈succ h)→DOut leaf succ nodes st stk fin (walkD leaf succ n st t) (fun fin'=>leaf t=true∨t∈fin')
 |0,st,stk,fin,t,hi,hn,_,_=>by
  have:=nodup_len hi.nd hi.sub
  rw [List.length_map] at this
  omega
 |n+1,st,stk,fin,t,hi,hn,ht,hh=>by
  unfold walkD
  by_cases hl:leaf t=true
  ·rw [if_pos hl]
   exact⟨fun h=>(by cases h),fun _=>⟨fin,hi,fun _ h=>h,Nat.le_refl _,.inl hl⟩⟩
  rw [if_neg hl]
  have htn:t∈nodes:=ht.resolve_left hl
  by_cases h1:stGet t st=1
  ·rw [if_pos h1]
   refine⟨fun _=> ?_,fun h=>(by cases h)⟩
   obtain⟨l1,l2,hs⟩:=List.append_of_mem ((hi.gray t).1 h1)
   have hp:=hi.path
   rw [hs] at hp hh
   have hc:=path_cyc l1 t hp hh
   refine⟨l1++[t],by simp,fun x hx=>⟨hi.sub x ((hi.key x).2 (.inl ?_)),?_⟩⟩
   ·rw [hs]
    rcases List.mem_append.1 hx with h|h
    ·exact List.mem_append_left _ h
    ·rw [List.mem_singleton.1 h];simp
   ·obtain⟨y,hy,hys⟩:=hc x hx
    refine⟨y,?_,hys⟩
    rcases List.mem_cons.1 hy with h|h
    ·rw [h];simp
    ·exact h
  rw [if_neg h1]
  by_cases h2:stGet t st=2
  ·rw [if_pos h2]
   exact⟨fun h=>(by cases h),fun _=>⟨fin,hi,fun _ h=>h,Nat.le_refl _,.inr ((hi.black t).1 h2)⟩⟩
  rw [if_neg h2]
  have htk:t∉st.map (·.1):=fun h=>((hi.key t).1 h).elim (fun z=>h1 ((hi.gray t).2 z)) fun z=>h2 ((hi.black t).2 z)
  have htS:t∉stk:=fun z=>h1 ((hi.gray t).2 z)
  have htF:t∉fin:=fun z=>h2 ((hi.black t).2 z)
  have hi2:=hi.push hl htn htk htF hh
  obtain⟨g1,g2⟩:=go_ok (f:=walkD leaf succ n) (k:=st.length+1) (stk:=t::stk) (nodes:=nodes) (fun st' fin' x i' hk' hx hs'=>walk_ok hnl hcl n st' (t::stk) fin' x i' om hx hs') (succ t) (st++[(t,1)]) fin hi2 (by rw [List.length_append];exact Nat.le_refl _) (hcl t htn) (fun x hx h e=>by simp at e;subst e;exact hx)
  dsimp only
  by_cases hr:(goD (walkD leaf succ n) (succ t) (st++[(t,1)])).1=true
  ·rw [if_pos hr]
   exact⟨g1,fun h=>by rw [hr] at h;cases h⟩
  rw [if_neg hr]
  obtain⟨fin1,i1,m1,l1,p1⟩:=g2 (by simpa using hr)
  generalize goD (walkD leaf succ n) (succ t) (st++[(t,1)])=r at*
  refine⟨fun h=>(by cases h),fun _=>⟨fin1++[t],?_,fun a ha=>List.mem_append_left _ (m1 a ha),?_,.inr (by simp)⟩⟩
  ·have htk1:t∈r.2.map (·.1):=(i1.key t).2 (.inl List.mem_cons_self)
   have ht1:stGet t r.2=1:=(i1.gray t).2 List.mem_cons_self
   have htF1:t∉fin1:=fun z=>by have:=(i1.black t).2 z;rw [ht1] at this;cases this
   refine⟨?_,?_,?_,?_,?_,?_,fun a ha=>i1.leafS a (List.mem_cons_of_mem _ ha),List.nodup_append.2 ⟨i1.fd,by simp,fun a ha b hb e=>by simp at hb;exact htF1 (by rw [←hb,←e];exact ha)⟩,?_⟩
   ·rw [stSet_keys];exact i1.nd
   ·rw [stSet_keys];exact i1.sub
   ·intro a
    rw [stSet_keys,i1.key a,List.mem_cons,List.mem_append,List.mem_singleton]
    exact⟨fun z=>z.elim (fun w=>w.elim (fun u=>.inr (.inr u)) .inl) fun w=>.inr (.inl w),fun z=>z.elim (fun w=>.inl (.inr w)) fun w=>w.elim .inr fun u=>.inl (.inl u)⟩
   ·intro a
    rw [stGet_set]
    by_cases e:a=t
    ·rw [if_pos ⟨e,htk1⟩];exact⟨fun z=>absurd z (by decide),fun z=>absurd (e▸z) htS⟩
    ·rw [if_neg (fun z=>e z.1),i1.gray a,List.mem_cons];exact⟨fun z=>z.resolve_left e,.inr⟩
   ·intro a
    rw [stGet_set,List.mem_append,List.mem_singleton]
    by_cases e:a=t
    ·rw [if_pos ⟨e,htk1⟩];exact⟨fun _=>.inr e,fun _=>rfl⟩
    ·rw [if_neg (fun z=>e z.1),i1.black a];exact⟨.inl,fun z=>z.resolve_right e⟩
   ·have hp:=i1.path
    cases stk with
    |nil=>trivial
    |cons b l=>exact hp.2
   ·intro a1 b a2 hs x hx
    rcases snoc_split hs with ⟨e1,e2⟩|⟨a3,e⟩
    ·subst e1 e2
     exact p1 x hx
    ·exact i1.ord a1 b a3 e x hx
  ·have:(stSet t 2 r.2).length=r.2.length:=by rw [←List.length_map (·.1),stSet_keys,List.length_map]
   rw [List.length_append] at l1
   dsimp only
   omega
end
end Go.PN
namespace Go.PN
open Go.AI
section
variable {α : Type} [DecidableEq α]
theorem dinv_nil {leaf:α→Bool} {succ:α→List α} {nodes:List α}:DInv leaf succ nodes [] [] []:=
 ⟨List.nodup_nil,fun _ h=>(by cases h),fun a=>(by simp),fun a=>(by simp [stGet]),fun a=>(by simp [stGet]),trivial,fun _ h=>(by cases h),List.nodup_nil,fun l1 b l2 h=>(by simp at h)⟩
end
end Go.PN
namespace Go.PN
open Go.AI
abbrev Th:=Int×Int×Int
def gtOf (m:MdD) (t:Th):GtD:=(gtsK m (t.2.1+1).toNat).getD t.2.2.toNat gt0
def leafT (t:Th):Bool:=decide (t.1≠2)
def nodesK (m:MdD) (k:Nat):List Th:=(List.range (gtsK m k).length).map fun(i:Nat)=>((2:Int),(k:Int)-1,(i:Int))
def nodesF (m:MdD) (k:Nat):Nat→List Th
 |0=>[]
 |n+1=>nodesK m k++nodesF m (k+1) n
def nodesT (m:MdD):List Th:=nodesF m 0 (m.pages.length+1)
theorem mem_nodesK {m:MdD} {k:Nat} {t:Th}:t∈nodesK m k↔∃i:Nat,i<(gtsK m k).length∧t=(2,(k:Int)-1,(i:Int)):=by
 unfold nodesK
 rw [List.mem_map]
 exact⟨fun⟨i,h1,h2⟩=>⟨i,List.mem_range.1 h1,h2.symm⟩,fun⟨i,h1,h2⟩=>⟨i,List.mem_range.2 h1,h2.symm⟩⟩
theorem mem_nodesF {m:MdD} {t:Th}:∀{n k:Nat},t∈nodesF m k n↔∃j i:Nat,k≤j∧j<k+n∧i<(gtsK m j).length∧t=(2,(j:Int)-1,(i:Int))
 |0,k=>⟨fun h=>(by cases h),fun⟨j,i,h1,h2,_⟩=>om⟩
 |n+1,k=>by
  show t∈nodesK m k++nodesF m (k+1) n↔_
  rw [List.mem_append,mem_nodesK,mem_nodesF]
  constructor
  ·rintro (⟨i,h1,h2⟩|⟨j,i,h1,h2,h3,h4⟩)
   ·exact⟨k,i,Nat.le_refl _,by omega,h1,h2⟩
   ·exact⟨j,i,by omega,by omega,h3,h4⟩
  ·rintro ⟨j,i,h1,h2,h3,h4⟩
   by_cases e:j=k
   ·subst e;exact .inl ⟨i,h3,h4⟩
   ·exact .inr ⟨j,i,by omega,by omega,h3,h4⟩
theorem mem_nodesT {m:MdD} {t:Th}:t∈nodesT m↔∃j i:Nat,j≤m.pages.length∧i<(gtsK m j).length∧t=(2,(j:Int)-1,(i:Int)):=by
 unfold nodesT
 rw [mem_nodesF]
 exact⟨fun⟨j,i,_,h2,h3⟩=>⟨j,i,by omega,h3⟩,fun⟨j,i,h2,h3⟩=>⟨j,i,by omega,by omega,h3⟩⟩
def sucT (m:MdD) (t:Th):List Th:=(gtOf m t).inputs.map (resP m (t.2.1+1).toNat)
def walkT (m:MdD):Nat→List (Th×Int)→Th→Bool×List (Th×Int):=walkD leafT (sucT m)
def cycB (m:MdD):Bool:=(goD (walkT m ((nodesT m).length+1)) (nodesT m) []).1
def InOk (m:MdD) (k:Nat) (n:BS):Prop:=0<n.length∧(bAt n 0=64→0≤pgI m (n.drop 1))∧(leafT (resP m k n)=true∨resP m k n∈nodesT m)
def InsOk (m:MdD):Prop:=∀k,k≤m.pages.length→∀i,i<(gtsK m k).length→∀n∈((gtsK m k).getD i gt0).inputs,InOk m k n
theorem leaf_nodes {m:MdD}:∀t∈nodesT m,leafT t=false:=fun t h=>by
 obtain⟨j,i,_,_,rfl⟩:=mem_nodesT.1 h
 rfl
theorem suc_nodes {m:MdD} (h:InsOk m):∀t∈nodesT m,∀x∈sucT m t,leafT x=true∨x∈nodesT m:=fun t ht x hx=>by
 obtain⟨j,i,h1,h2,rfl⟩:=mem_nodesT.1 ht
 have e:sucT m (2,(j:Int)-1,(i:Int))=((gtsK m j).getD i gt0).inputs.map (resP m j):=by
  unfold sucT gtOf
  dsimp only
  rw [show((j:Int)-1+1).toNat=j from by omega,Int.toNat_natCast]
 rw [e] at hx
 obtain⟨n,hn,rfl⟩:=List.mem_map.1 hx
 exact(h j h1 i h2 n hn).2.2
variable {α σ : Type}
theorem orC_0 {a b:Int}:orC a b=0↔a=0∧b=0:=by
 unfold orC
 split
 ·rename_i h;exact⟨fun e=>⟨h,e⟩,fun e=>e.2⟩
 ·rename_i h;exact⟨fun e=>absurd e h,fun e=>absurd e.1 h⟩
theorem frst_0 {f:Nat→α→Int} (d:α):∀{l:List α} {i:Nat},frst f l i=0→∀j,j<l.length→f (i+j) (l.getD j d)=0
 |x::l,i,h,j,hj=>by
  unfold frst at h
  split at h
  ·rename_i h0
   cases j with
   |zero=>simpa using h0
   |succ j=>
    have:=frst_0 d h j (by simpa using hj)
    rw [show i+(j+1)=i+1+j from by omega]
    simpa using this
  ·rename_i h0;exact absurd h h0
theorem frsS_0 {f:Nat→α→σ→Int×σ} (d:α):∀{l:List α} {i:Nat} {s:σ},(frsS f l i s).1=0→∀j,j<l.length→∃s,(f (i+j) (l.getD j d) s).1=0
 |x::l,i,s,h,j,hj=>by
  unfold frsS at h
  split at h
  ·rename_i h0
   cases j with
   |zero=>exact⟨s,by simpa using h0⟩
   |succ j=>
    obtain⟨s',h'⟩:=frsS_0 d h j (by simpa using hj)
    refine⟨s',?_⟩
    rw [show i+(j+1)=i+1+j from by omega]
    simpa using h'
  ·rename_i h0;exact absurd h h0
theorem frsN_0 {f:Nat→σ→Int×σ}:∀{n i:Nat} {s:σ},(frsN f n i s).1=0→∀j,j<n→∃s,(f (i+j) s).1=0
 |n+1,i,s,h,j,hj=>by
  unfold frsN at h
  split at h
  ·rename_i h0
   cases j with
   |zero=>exact⟨s,h0⟩
   |succ j=>
    obtain⟨s',h'⟩:=frsN_0 h j om
    refine⟨s',?_⟩
    rw [show i+(j+1)=i+1+j from by omega]
    exact h'
  ·rename_i h0;exact absurd h h0
theorem fidx_get {p:α→Bool} (d:α):∀{l:List α},0≤fidx p l→∃i:Nat,fidx p l=i∧i<l.length∧p (l.getD i d)=true
 |[],h=>absurd (show(0:Int)≤ -1 from h) (by decide)
 |x::l,h=>by
  unfold fidx at h⊢
  by_cases h0:p x=true
  ·rw [if_pos h0]
   exact⟨0,rfl,by simp,by simpa using h0⟩
  ·rw [if_neg h0] at h⊢
   by_cases h1:fidx p l<0
   ·rw [if_pos h1] at h;omega
   ·rw [if_neg h1]
    obtain⟨i,h2,h3,h4⟩:=fidx_get (p:=p) d (l:=l) om
    exact⟨i+1,by omega,by simpa using h3,by simpa using h4⟩
structure MdC (m:MdD):Prop where
 ev:∀i,i<m.events.length→nameOk (m.events.getD i ev0).name=true
 hs:∀i,i<m.houses.length→nameOk (m.houses.getD i hs0).name=true
 gt:∀k,k≤m.pages.length→∀i,i<(gtsK m k).length→gtC m k i ((gtsK m k).getD i gt0)=0
 inp:∀k,k≤m.pages.length→∀i,i<(gtsK m k).length→∀n∈((gtsK m k).getD i gt0).inputs,isInp m k n=true
 tp:∀k,k<m.pages.length→0≤gtI (m.pages.getD k pg0).gates (m.pages.getD k pg0).top∨0≤evI m (m.pages.getD k pg0).top
 top:isInp m 0 m.top=true
theorem mcode0_ok {m:MdD} (h:mcode0 m=0):MdC m:=by
 unfold mcode0 at h
 obtain⟨_,h⟩:=orC_0.1 h
 obtain⟨h1,h⟩:=orC_0.1 h
 obtain⟨_,h⟩:=orC_0.1 h
 obtain⟨h3,h⟩:=orC_0.1 h
 obtain⟨h4,h⟩:=orC_0.1 h
 obtain⟨h5,_⟩:=orC_0.1 h
 unfold evhC at h1
 split at h1
 ·cases h1
 obtain⟨h1,h2⟩:=orC_0.1 h1
 split at h2
 ·cases h2
 refine⟨fun i hi=> ?_,fun i hi=> ?_,fun k hk i hi=> ?_,fun k hk i hi n hn=> ?_,fun k hk=> ?_,?_⟩
 ·have:=frst_0 ev0 h1 i hi
  unfold evC at this
  split at this
  ·cases this
  ·rename_i e;simpa using e
 ·have:=frst_0 hs0 h2 i hi
  unfold hsC at this
  split at this
  ·cases this
  ·rename_i e;simpa using e
 ·obtain⟨_,hg⟩:=frsN_0 h3 k om
  rw [Nat.zero_add] at hg
  have:=frst_0 gt0 (show frst (gtC m k) (gtsK m k) 0=0 from hg) i hi
  rwa [Nat.zero_add] at this
 ·obtain⟨s,hg⟩:=frsN_0 h4 k om
  rw [Nat.zero_add] at hg
  unfold inP at hg
  split at hg
  ·rename_i e
   obtain⟨s2,h6⟩:=frsS_0 gt0 e i hi
   obtain⟨j,hj,rfl⟩:=List.getElem_of_mem hn
   obtain⟨s3,h7⟩:=frsS_0 ([]:BS) (show(frsS (inI m k ((gtsK m k).getD i gt0)) ((gtsK m k).getD i gt0).inputs 0 s2).1=0 from h6) j hj
   rw [Nat.zero_add,show((gtsK m k).getD i gt0).inputs.getD j []=((gtsK m k).getD i gt0).inputs[j] from by rw [List.getD_eq_getElem?_getD,List.getElem?_eq_getElem hj];rfl] at h7
   unfold inI at h7
   split at h7
   ·cases h7
   ·rename_i e;simpa using e
  ·rename_i e;exact absurd hg e
 ·obtain⟨s,hg⟩:=frsN_0 h4 (k+1) om
  rw [Nat.zero_add] at hg
  unfold inP at hg
  split at hg
  ·dsimp only [tpC] at hg
   split at hg
   ·cases hg
   ·rename_i e;omega
  ·rename_i e;exact absurd hg e
 ·split at h5
  ·assumption
  ·cases h5
theorem name_pos {s:BS} (h:nameOk s=true):0<s.length:=by
 unfold nameOk at h
 simp only [Bool.and_eq_true,decide_eq_true_eq] at h
 exact h.1.1.1
theorem resA_ok {m:MdD} {k:Nat} {n:BS} (hk:k≤m.pages.length) (h:0≤evI m n∨0≤hsI m n∨0≤gtI (gtsK m k) n):leafT (resA m k n)=true∨resA m k n∈nodesT m:=by
 unfold resA
 by_cases h1:evI m n≥0
 ·rw [if_pos h1];exact .inl rfl
 ·rw [if_neg h1]
  by_cases h2:hsI m n≥0
  ·rw [if_pos h2];exact .inl rfl
  ·rw [if_neg h2]
   have h3:0≤gtI (gtsK m k) n:=by omega
   obtain⟨i,h4,h5,_⟩:=fidx_get gt0 h3
   exact .inr (mem_nodesT.2 ⟨k,i,hk,h5,by rw [show gtI (gtsK m k) n=i from h4]⟩)
theorem InOk_of {m:MdD} (h:MdC m) {k:Nat} (hk:k≤m.pages.length) {n:BS} (hi:isInp m k n=true):InOk m k n:=by
 unfold isInp at hi
 by_cases h0:0<n.length∧bAt n 0=64
 ·rw [if_pos h0] at hi
  have hp:0≤pgI m (n.drop 1):=by simpa using hi
  obtain⟨q,h4,h5,_⟩:=fidx_get pg0 hp
  refine⟨h0.1,fun _=>hp,?_⟩
  unfold resP resK resN
  rw [if_pos h0.2,if_pos h0.2,show pgI m (n.drop 1)=q from h4,show((q:Int)+1).toNat=q+1 from by omega,Int.toNat_natCast]
  refine resA_ok om ?_
  rcases h.tp q h5 with e|e
  ·exact .inr (.inr e)
  ·exact .inl e
 ·rw [if_neg h0] at hi
  simp only [Bool.or_eq_true,decide_eq_true_eq] at hi
  have hp:0<n.length:=by
   cases n with
   |cons=>simp
   |nil=>
    exfalso
    rcases hi with (hi|hi)|hi
    ·obtain⟨i,_,h5,h6⟩:=fidx_get ev0 hi
     have:=name_pos (h.ev i h5)
     rw [show(m.events.getD i ev0).name=[] from by simpa using h6] at this
     cases this
    ·obtain⟨i,_,h5,h6⟩:=fidx_get hs0 hi
     have:=name_pos (h.hs i h5)
     rw [show(m.houses.getD i hs0).name=[] from by simpa using h6] at this
     cases this
    ·obtain⟨i,_,h5,h6⟩:=fidx_get gt0 hi
     have h7:=h.gt k hk i h5
     have e:((gtsK m k).getD i gt0).name=[]:=by simpa using h6
     unfold gtC at h7
     split at h7
     ·cases h7
     ·rename_i h8
      have:=name_pos (s:=((gtsK m k).getD i gt0).name) (by simpa using h8)
      rw [e] at this
      cases this
  have h64:¬bAt n 0=64:=fun e=>h0 ⟨hp,e⟩
  refine⟨hp,fun e=>absurd e h64,?_⟩
  unfold resP resK resN
  rw [if_neg h64,if_neg h64]
  refine resA_ok hk ?_
  rcases hi with (hi|hi)|hi
  ·exact .inl hi
  ·exact .inr (.inl hi)
  ·exact .inr (.inr hi)
theorem ins_ok {m:MdD} (h:MdC m):InsOk m:=fun k hk i hi n hn=>InOk_of h hk (h.inp k hk i hi n hn)
end Go.PN
namespace Go.PN
open Go.AI
def keyT (t:Th):Value:=keyZ [t.1,t.2.1,t.2.2]
theorem keyT_ok {P:Program} {kt:TypeId} (ht:tEqS P kt=some 3):KeyOk P kt keyT:=by
 have h:=keyZ_ok ht
 have hj:∀a b:Th,((⟨[a.1,a.2.1,a.2.2],rfl⟩:{l:List Int//l.length=3})=⟨[b.1,b.2.1,b.2.2],rfl⟩)↔a=b:=fun a b=>by
  obtain⟨a1,a2,a3⟩:=a
  obtain⟨b1,b2,b3⟩:=b
  simp
 refine⟨fun b a w=>h.check b ⟨[a.1,a.2.1,a.2.2],rfl⟩ w,fun a ks es w he=> ?_⟩
 have:=h.find ⟨[a.1,a.2.1,a.2.2],rfl⟩ (ks.map fun k=>⟨[k.1,k.2.1,k.2.2],rfl⟩) es w (by rw [he,List.map_map];rfl)
 have e:∀(ks:List Th) (es:List MapEntry) (i:Nat),fAsk (⟨[a.1,a.2.1,a.2.2],rfl⟩:{l:List Int//l.length=3}) (ks.map fun k=>⟨[k.1,k.2.1,k.2.2],rfl⟩) es i=fAsk a ks es i:=by
  intro ks
  induction ks with
  |nil=>intro es i;rfl
  |cons k ks ih=>
   intro es i
   cases es with
   |nil=>rfl
   |cons x es=>
    simp only [List.map_cons,fAsk,hj]
    rw [ih]
 rw [e] at this
 exact this
theorem keyT_bits (t:Th):Instr.sameBits 10000 (keyT t) (keyT t)=true:=by
 show Instr.sameBits (9999+1) (keyT t) (keyT t)=true
 unfold Instr.sameBits keyT keyZ
 simp [Instr.sameBits]
def kvT (st:List (Th×Int)):List (Th×Value):=st.map fun p=>(p.1,.int .i64 p.2)
theorem kvT_get (t:Th):∀st:List (Th×Int),(kvGet t (kvT st)).getD (.int .i64 0)=.int .i64 (stGet t st)
 |[]=>rfl
 |p::st=>by
  show(if t=p.1 then some (Value.int .i64 p.2) else kvGet t (kvT st)).getD (.int .i64 0)=Value.int .i64 (if t=p.1 then p.2 else stGet t st)
  split
  ·rfl
  ·exact kvT_get t st
theorem kvT_none {t:Th}:∀{st:List (Th×Int)},t∉st.map (·.1)→kvGet t (kvT st)=none
 |[],_=>rfl
 |p::st,h=>by
  show(if t=p.1 then some (Value.int .i64 p.2) else kvGet t (kvT st))=none
  rw [if_neg (fun e=>h (by rw [e];exact List.mem_cons_self))]
  exact kvT_none fun z=>h (List.mem_cons_of_mem _ z)
theorem kvT_some {t:Th}:∀{st:List (Th×Int)},t∈st.map (·.1)→(kvGet t (kvT st)).isSome=true
 |p::st,h=>by
  show(if t=p.1 then some (Value.int .i64 p.2) else kvGet t (kvT st)).isSome=true
  split
  ·rfl
  ·rename_i e
   exact kvT_some ((List.mem_cons.1 h).resolve_left e)
theorem kvT_set (t:Th) (v:Int):∀st:List (Th×Int),kvSet t (.int .i64 v) (kvT st)=kvT (stSet t v st)
 |[]=>rfl
 |p::st=>by
  show(if t=p.1 then _ else _)=kvT (if t=p.1 then _ else _)
  split
  ·rfl
  ·show _::kvSet t (.int .i64 v) (kvT st)=_::kvT (stSet t v st)
   rw [kvT_set t v st]
theorem kvT_app (st:List (Th×Int)) (t:Th) (v:Int):kvT st++[(t,.int .i64 v)]=kvT (st++[(t,v)]):=by
 unfold kvT;rw [List.map_append];rfl
theorem thA_rep {S:Bool→Nat→Prop} {w:World} {t:Th} {v:Value} (h:Rep S w (thA t) v):v=keyT t:=by
 obtain⟨cs,rfl,h⟩:=h
 match cs,h with
 |[a,b,c],⟨h1,h2,h3,_⟩=>
  have h1:a=_:=h1
  have h2:b=_:=h2
  have h3:c=_:=h3
  subst h1 h2 h3
  rfl
structure CyOk (m:MdD):Prop where
 ok:Go.Proofs.YteocnikcjjonbaaGreat.MdOk m
 w2:MdWf2 m
 ins:InsOk m
 len:∀k i j,(((gtsK m k).getD i gt0).inputs.getD j []).length≤1099511627776
end Go.PN
namespace Go.Proofs.YteocnikcjjonbaaGreat
open Go.AI Go.PN
attribute [local irreducible] aw Fa Fh DrK
theorem ty_thing:tMap Tryz.prog 159=some (162,3):=by kernel_rfl
theorem ty_thingK:tEqS Tryz.prog 162=some 3:=by kernel_rfl
theorem ty_int0:tZ1 Tryz.prog 3=some (.int .i64 0):=by kernel_rfl
abbrev fvN (f:FuncId):AV:=.c (.raw (.func (.func f) #[] #[]))
theorem walk_fg (m:MdD) (hc:CyOk m) (fE:FuncId) (hE:∀t:Th,Fa Tryz.prog fE [thA t] (.tup [])) (g:Nat):∀(n:Nat) (st:List (Th×Int)) (stk fin:List Th) (t:Th),DInv leafT (sucT m) (nodesT m) st stk fin→(nodesT m).length<n+st.length→(leafT t=true∨t∈nodesT m)→(∀h,stk.head?=some h→t∈sucT m h)→
  Fg Tryz.prog 102 g (.gen (MapI keyT (kvT st))) [.agg (mdc true m),thA t,.c (.raw (.map (some g))),fvN fE] (.c (.bool (walkT m n st t).1)) (.gen (MapI keyT (kvT (walkT m n st t).2))):=by
 intro n
 induction n with
 |zero=>
  intro st stk fin t hi hn _ _
  have:=nodup_len hi.nd hi.sub
  rw [List.length_map] at this
  omega
 |succ n ih=>
  intro st stk fin t hi hn ht hh
  have hE':=hE t
  unfold Fg
  by_cases hl:leafT t=true
  ·have ht2:t.1≠2:=by unfold leafT at hl;simpa using hl
   have hr:walkT m (n+1) st t=(false,st):=by
    unfold walkT walkD
    rw [if_pos hl]
   rw [hr]
   refine fh_of_body Tryz.func102 rfl rfl (by simp [Tryz.ntmps102]) fun C hC=> ?_
   simp only [initS,Nat.reduceAdd]
   repeat' first|refine yA1 o0 ?_|refine zW o0 ?_|refine yP o0 ?_|refine yN o0 ?_|refine zC o0 (fun hb=>?_) fun hb=>?_|refine zG o0 (fun hb=>?_) fun hb=>?_|refine zD o0 (fun hb=>?_) fun hb=>?_
   refine xB fun g4 hn_g4=>?_
   repeat' first|refine yA1 hn_g4 ?_|refine zW hn_g4 ?_|refine yP hn_g4 ?_|refine yN hn_g4 ?_|refine zC hn_g4 (fun hb=>?_) fun hb=>?_|refine zG hn_g4 (fun hb=>?_) fun hb=>?_|refine zD hn_g4 (fun hb=>?_) fun hb=>?_
   refine yB hn_g4 fun g5 hn_g5=>?_
   all_goals try(have Z:=(oj hn_g4 hn_g5);(repeat' first|refine yA1 Z ?_|refine zW Z ?_|refine yP Z ?_|refine yN Z ?_|refine zC Z (fun hb=>?_) fun hb=>?_|refine zG Z (fun hb=>?_) fun hb=>?_|refine zD Z (fun hb=>?_) fun hb=>?_);all_goals clear Z)
   ·refine aw_callqv hE' rfl rfl rfl (zE (oj hn_g4 hn_g5)) (zL (oj hn_g4 hn_g5)) ?_
    refine yS (oj hn_g4 hn_g5) ?_
    all_goals try(have Z:=(oj hn_g4 hn_g5);(repeat' first|refine yA1 Z ?_|refine zW Z ?_|refine yP Z ?_|refine yN Z ?_|refine zC Z (fun hb=>?_) fun hb=>?_|refine zG Z (fun hb=>?_) fun hb=>?_|refine zD Z (fun hb=>?_) fun hb=>?_);all_goals clear Z)
    refine aw_rethw (h':=[(g,.gen (MapI keyT (kvT st)))]) rfl (by first|exact List.Sublist.refl _|exact .cons _ (.refl _)|exact .cons _ (.cons _ (.refl _))|exact .cons _ (.cons _ (.cons _ (.refl _)))) fun R r=>?_;simp only[go_sem,hn_g4,hn_g5];refine r _ rfl ?_;clear r R
    exact⟨rfl,rfl⟩
   ·exfalso;exact ht2 hb
  have htn:t∈nodesT m:=ht.resolve_left hl
  have hsuc:∀x∈sucT m t,leafT x=true∨x∈nodesT m:=suc_nodes hc.ins t htn
  have hw:=walk_ok leaf_nodes (suc_nodes hc.ins) (n+1) st stk fin t hi hn ht hh
  obtain⟨k,i,hk,hil,he⟩:=mem_nodesT.1 htn
  have hgt:(gtsK m k).getD i gt0=gtOf m t:=by
   rw [he]
   unfold gtOf
   dsimp only
   rw [show((k:Int)-1+1).toNat=k from by omega,Int.toNat_natCast]
  have hkk:(t.2.1+1).toNat=k:=by rw [he];dsimp only;omega
  have hthA:thA t=.agg [.int .i64 2,.int .i64 ((k:Int)-1),.int .i64 (i:Int)]:=by rw [he]
  have hstep:walkT m (n+1) st t=(if stGet t st=1 then(true,st) else if stGet t st=2 then(false,st) else
   if(goD (walkT m n) (sucT m t) (st++[(t,1)])).1=true then goD (walkT m n) (sucT m t) (st++[(t,1)]) else(false,stSet t 2 (goD (walkT m n) (sucT m t) (st++[(t,1)])).2)):=by
   show walkD leafT (sucT m) (n+1) st t=_
   unfold walkD
   rw [if_neg hl]
   rfl
  rw [hstep]
  have hRe:∀{S:Bool→Nat→Prop} {w:World} {v:Value},Rep S w (.agg [.int .i64 2,.int .i64 ((k:Int)-1),.int .i64 (i:Int)]) v→v=keyT t:=fun h=>thA_rep (by rw [hthA];exact h)
  have hsl:sucT m t=(gtOf m t).inputs.map (resP m k):=by unfold sucT;rw [hkk]
  have hin:=hc.ins k hk i hil
  have hlen:=hc.len k i
  have hw2:=hc.w2
  have hil2:(gtOf m t).inputs.length≤1099511627776:=by rw [←hgt];exact(hw2.gt k i).2.2
  have hgk:=gtsK_len hw2 k
  rw [hthA] at hE'
  rw [hthA]
  refine fh_of_body Tryz.func102 rfl rfl (by simp [Tryz.ntmps102]) fun C hC=> ?_
  simp only [initS,Nat.reduceAdd]
  repeat' first|refine yA1 o0 ?_|refine zW o0 ?_|refine yP o0 ?_|refine yN o0 ?_|refine zC o0 (fun hb=>?_) fun hb=>?_|refine zG o0 (fun hb=>?_) fun hb=>?_|refine zD o0 (fun hb=>?_) fun hb=>?_
  refine xB fun g4 hn_g4=>?_
  repeat' first|refine yA1 hn_g4 ?_|refine zW hn_g4 ?_|refine yP hn_g4 ?_|refine yN hn_g4 ?_|refine zC hn_g4 (fun hb=>?_) fun hb=>?_|refine zG hn_g4 (fun hb=>?_) fun hb=>?_|refine zD hn_g4 (fun hb=>?_) fun hb=>?_
  refine yB hn_g4 fun g5 hn_g5=>?_
  all_goals try(have Z:=(oj hn_g4 hn_g5);(repeat' first|refine yA1 Z ?_|refine zW Z ?_|refine yP Z ?_|refine yN Z ?_|refine zC Z (fun hb=>?_) fun hb=>?_|refine zG Z (fun hb=>?_) fun hb=>?_|refine zD Z (fun hb=>?_) fun hb=>?_);all_goals clear Z)
  refine aw_lookup (a:=t) (kv:=kvT st) (Kf:=keyT) (z:=.int .i64 0) rfl rfl rfl ty_thing (keyT_ok ty_thingK) ty_int0 (zE (oj hn_g4 hn_g5)) (zE (oj hn_g4 hn_g5)) (zE (oj hn_g4 hn_g5)) (fun _ _ _ h=>hRe h) ?_
  rw [kvT_get]
  dsimp only [cstC]
  refine yS (oj hn_g4 hn_g5) ?_
  all_goals try(have Z:=(oj hn_g4 hn_g5);(repeat' first|refine yA1 Z ?_|refine zW Z ?_|refine yP Z ?_|refine yN Z ?_|refine zC Z (fun hb=>?_) fun hb=>?_|refine zG Z (fun hb=>?_) fun hb=>?_|refine zD Z (fun hb=>?_) fun hb=>?_);all_goals clear Z)
  ·refine aw_rethw (h':=[(g,.gen (MapI keyT (kvT st)))]) rfl (by first|exact List.Sublist.refl _|exact .cons _ (.refl _)|exact .cons _ (.cons _ (.refl _))|exact .cons _ (.cons _ (.cons _ (.refl _)))) fun R r=>?_;simp only[go_sem,hn_g4,hn_g5];refine r _ rfl ?_;clear r R
   rw [if_pos hb]
   exact⟨rfl,rfl⟩
  ·rename_i h1
   refine aw_rethw (h':=[(g,.gen (MapI keyT (kvT st)))]) rfl (by first|exact List.Sublist.refl _|exact .cons _ (.refl _)|exact .cons _ (.cons _ (.refl _))|exact .cons _ (.cons _ (.cons _ (.refl _)))) fun R r=>?_;simp only[go_sem,hn_g4,hn_g5];refine r _ rfl ?_;clear r R
   rw [if_neg h1,if_pos hb]
   exact⟨rfl,rfl⟩
  rename_i h1
  have h2:=hb
  rw [if_neg h1,if_neg h2]
  have htk:t∉st.map (·.1):=fun h=>((hi.key t).1 h).elim (fun z=>h1 ((hi.gray t).2 z)) fun z=>h2 ((hi.black t).2 z)
  refine aw_mapNew (a:=t) (kv:=kvT st) (Kf:=keyT) (v:=.int .i64 1) rfl rfl rfl ty_thing (keyT_ok ty_thingK) (zE (oj hn_g4 hn_g5)) (zE (oj hn_g4 hn_g5)) (zE (oj hn_g4 hn_g5)) (fun _ _ _ h=>hRe h) (cv:=.c (.int .i64 1)) (zE (oj hn_g4 hn_g5)) (fun _ _ _ h=>h) (kvT_none htk) (zE (oj hn_g4 hn_g5)) ?_
  rw [kvT_app]
  have J1:=oj hn_g4 hn_g5
  refine yS J1 ?_
  all_goals try(have Z:=J1;(repeat' first|refine yA1 Z ?_|refine zW Z ?_|refine yP Z ?_|refine yN Z ?_|refine zC Z (fun hb=>?_) fun hb=>?_|refine zG Z (fun hb=>?_) fun hb=>?_|refine zD Z (fun hb=>?_) fun hb=>?_);all_goals clear Z)
  refine aw_callqv hE' rfl rfl rfl (zE J1) (zL J1) ?_
  refine yS J1 ?_
  all_goals try(have Z:=J1;(repeat' first|refine yA1 Z ?_|refine zW Z ?_|refine yP Z ?_|refine yN Z ?_|refine zC Z (fun hb=>?_) fun hb=>?_|refine zG Z (fun hb=>?_) fun hb=>?_|refine zD Z (fun hb=>?_) fun hb=>?_);all_goals clear Z)
  have f4:=gatesOf_fa m k hk hc.ok.pg
  refine aw_dr 11 ty_mixed (by kernel_rfl) ?_
  all_goals try(have Z:=J1;(repeat' first|refine yA1 Z ?_|(refine yC2 Z (f4) ?_)|(refine yD2 Z (f4) ?_)|refine zW Z ?_|refine yP Z ?_|refine yN Z ?_|refine zC Z (fun hb=>?_) fun hb=>?_|refine zG Z (fun hb=>?_) fun hb=>?_|refine zD Z (fun hb=>?_) fun hb=>?_);all_goals clear Z)
  rw [hgt]
  have htF:t∉fin:=fun z=>h2 ((hi.black t).2 z)
  have hi0:=hi.push hl htn htk htF hh
  have hlen0:(st++[(t,1)]).length=st.length+1:=by rw [List.length_append];rfl
  generalize hR:goD (walkT m n) (sucT m t) (st++[(t,1)])=R
  rw [hgt] at hin hlen
  generalize hG:gtOf m t=G at*
  clear hw hstep hgt h1 h2 htk hE' J1
  refine aw_lp (fun x:Nat×List (Th×Int)×List Th=>[(2,.c (.raw (.map (some g)))),(3,fvN fE),(4,.c (.optr g4 0)),(5,.c (.optr g5 0)),(37,.c (strs true G.inputs)),(38,.c (.int .i64 G.inputs.length)),(39,.c (.int .i64 x.1))]) (fun x=>[(g5,.cells 162 3 (ofL [.int .i64 2,.int .i64 ((k:Int)-1),.int .i64 (i:Int)])),(g4,.cells 30 8 (ofL (mdc true m))),(g,.gen (MapI keyT (kvT x.2.1)))]) (fun x=>x.1≤G.inputs.length∧goD (walkT m n) ((sucT m t).drop x.1) x.2.1=R∧DInv leafT (sucT m) (nodesT m) x.2.1 (t::stk) x.2.2∧st.length+1≤x.2.1.length) (fun x=>G.inputs.length-x.1) (0,st++[(t,1)],fin) (zB (oj hn_g4 hn_g5)) zZ ⟨Nat.zero_le _,hR,hi0,by rw [hlen0];exact Nat.le_refl _⟩ ?_
  rintro ⟨j,st1,fin1⟩ ⟨hj,hgo,hi1,hl1⟩
  dsimp only at hj hgo hi1 hl1⊢
  all_goals try(have Z:=(oj hn_g4 hn_g5);(repeat' first|refine yA1 Z ?_|refine zW Z ?_|refine yP Z ?_|refine yN Z ?_|refine zC Z (fun hb=>?_) fun hb=>?_|refine zG Z (fun hb=>?_) fun hb=>?_|refine zD Z (fun hb=>?_) fun hb=>?_);all_goals clear Z)
  ·have hj':=hb
   have hmem:G.inputs.getD j []∈G.inputs:=by
    rw [List.getD_eq_getElem?_getD,List.getElem?_eq_getElem hj'];exact List.getElem_mem hj'
   obtain⟨n1,n2,n3⟩:=hin _ hmem
   have hnl:=hlen j
   have hx:(sucT m t).drop j=resP m k (G.inputs.getD j [])::(sucT m t).drop (j+1):=by
    rw [hsl,List.drop_eq_getElem_cons (by rw [List.length_map];exact hj'),List.getElem_map,List.getD_eq_getElem?_getD,List.getElem?_eq_getElem hj'];rfl
   rw [hx] at hgo
   have hxs:resP m k (G.inputs.getD j [])∈sucT m t:=by rw [hsl];exact List.mem_map_of_mem hmem
   generalize hN:G.inputs.getD j []=N at*
   have f5:=resolve_fa m k N hk hc.ok hw2 n1 hnl n2
   generalize resP m k N=X at*
   have f6:=ih st1 (t::stk) fin1 X hi1 om n3 (fun h e=>by simp at e;subst e;exact hxs)
   have ho:=walk_ok leaf_nodes (suc_nodes hc.ins) n st1 (t::stk) fin1 X hi1 om n3 (fun h e=>by simp at e;subst e;exact hxs)
   change DOut leafT (sucT m) (nodesT m) st1 (t::stk) fin1 (walkT m n st1 X) _ at ho
   have hgo2:(if(walkT m n st1 X).1=true then walkT m n st1 X else goD (walkT m n) ((sucT m t).drop (j+1)) (walkT m n st1 X).2)=R:=hgo
   clear hgo
   generalize hr:walkT m n st1 X=r at*
   refine aw_cw ([(g4,.cells 30 8 (ofL (mdc true m))),(g5,.cells 162 3 (ofL [.int .i64 2,.int .i64 ((k:Int)-1),.int .i64 (i:Int)]))]) [(0,0),(1,0),(2,0),(3,0),(4,0),(5,0),(6,0),(7,0),(8,1)] ty_mixed (by kernel_rfl) eI ?_
   have J2:=oj hn_g4 hn_g5
   refine yG J2 ?_
   refine cw_callq rfl f5 rfl rfl rfl (fun _ _=>(zL J2)) ?_
   refine ySG J2 ?_
   refine cw_cg rfl f6 rfl rfl rfl (zE J2) (zL J2) (by refine yS J2 ?_;exact has0_cons (List.mem_cons_of_mem _ (List.mem_cons_self ..)) (has0_cons (List.mem_cons_self ..) has0_nil)) ?_
   refine ySG J2 ?_
   all_goals try(have Z:=J2;(repeat' first|refine yA1 Z ?_|refine zW Z ?_|refine yP Z ?_|refine yN Z ?_|refine zC Z (fun hb=>?_) fun hb=>?_|refine zG Z (fun hb=>?_) fun hb=>?_|refine zD Z (fun hb=>?_) fun hb=>?_);all_goals clear Z)
   ·refine aw_rethw (h':=[(g,.gen (MapI keyT (kvT r.2)))]) rfl (by first|exact List.Sublist.refl _|exact .cons _ (.refl _)|exact .cons _ (.cons _ (.refl _))|exact .cons _ (.cons _ (.cons _ (.refl _)))) fun R r=>?_;simp only[go_sem,hn_g4,hn_g5];refine r _ rfl ?_;clear r R
    rw [if_pos hb] at hgo2
    rw [←hgo2,if_pos hb]
    exact⟨by rw [hb],rfl⟩
   ·have hrf:r.1=false:=hb
    rw [if_neg (by rw [hrf];decide)] at hgo2
    obtain⟨fin2,q1,_,q3,_⟩:=ho.2 hrf
    refine aw_stop ⟨(j+1,r.2,fin2),?_⟩
    and_intros
    all_goals first|rfl|exact List.Sublist.refl _|exact True.intro|exact hgo2|exact q1|(dsimp only;omega)
  ·have hge:(sucT m t).drop j=[]:=List.drop_of_length_le (by rw [hsl,List.length_map];omega)
   rw [hge] at hgo
   have hgo2:(false,st1)=R:=hgo
   subst hgo2
   have htk1:t∈st1.map (·.1):=(hi1.key t).2 (.inl List.mem_cons_self)
   refine aw_mapSet (a:=t) (kv:=kvT st1) (Kf:=keyT) (v:=.int .i64 2) rfl rfl rfl ty_thing (keyT_ok ty_thingK) (keyT_bits t) (zE (oj hn_g4 hn_g5)) (zE (oj hn_g4 hn_g5)) (zE (oj hn_g4 hn_g5)) (fun _ _ _ h=>hRe h) (cv:=.c (.int .i64 2)) (zE (oj hn_g4 hn_g5)) (fun _ _ _ h=>h) (kvT_some htk1) (zE (oj hn_g4 hn_g5)) ?_
   rw [kvT_set]
   refine yS (oj hn_g4 hn_g5) ?_
   all_goals try(have Z:=(oj hn_g4 hn_g5);(repeat' first|refine yA1 Z ?_|refine zW Z ?_|refine yP Z ?_|refine yN Z ?_|refine zC Z (fun hb=>?_) fun hb=>?_|refine zG Z (fun hb=>?_) fun hb=>?_|refine zD Z (fun hb=>?_) fun hb=>?_);all_goals clear Z)
   refine aw_rethw (h':=[(g,.gen (MapI keyT (kvT (stSet t 2 st1))))]) rfl (by first|exact List.Sublist.refl _|exact .cons _ (.refl _)|exact .cons _ (.cons _ (.refl _))|exact .cons _ (.cons _ (.cons _ (.refl _)))) fun R r=>?_;simp only[go_sem,hn_g4,hn_g5];refine r _ rfl ?_;clear r R
   exact⟨rfl,rfl⟩
end Go.Proofs.YteocnikcjjonbaaGreat
