/- Parts of one proof, laid by a program. -/
import Derived.Test.YteocnikcjjonbaaGreatG00
import Derived.Test.YteocnikcjjonbaaGreatG11
set_option linter.unusedSimpArgs false
set_option linter.unusedVariables false
set_option maxRecDepth 100000
set_option maxHeartbeats 12800000
namespace Go.PN
open Go.AI
def inputQ (l:BS):BS×Int:=if(splitS l).1≠0 then([],(splitS l).1) else let r:=inputR ⟨(splitS l).2,0⟩;if(endS r.2).e≠0 then([],(endS r.2).e) else(r.1,0)
def gateQ (l:BS):GtD×Int:=if(splitS l).1≠0 then(gt0,(splitS l).1) else let r:=(takeR ⟨(splitS l).2,0⟩ 0 kGate).2;let x:=if r.e=0 then gateR r else(gt0,r);if(endS x.2).e≠0 then(gt0,(endS x.2).e) else(x.1,0)
theorem inputQ_eq (l:BS):inputQ l=inputP l:=by
 unfold inputQ inputP
 rw [input_eq (s:=⟨(splitS l).2,0⟩) (splitS_ok l)]
theorem endS_ne {s:PS} (h:s.e≠0):endS s=s:=by unfold endS;rw [if_neg fun z=>h z.1]
theorem gateQ_eq (l:BS):gateQ l=gateP l:=by
 unfold gateQ gateP
 by_cases hs:(splitS l).1≠0
 ·rw [if_pos hs,if_pos hs]
 rw [if_neg hs,if_neg hs]
 dsimp only
 rw [exp_wd (s:=⟨(splitS l).2,0⟩) (splitS_ok l) (w:=kGate) rfl]
 have ok:TksOk (takeR ⟨(splitS l).2,0⟩ 0 kGate).2.l:=(splitS_ok l).suf ((rdr_tk 0 kGate).suf ⟨(splitS l).2,0⟩)
 generalize (takeR ⟨(splitS l).2,0⟩ 0 kGate).2=r at*
 by_cases e0:r.e=0
 ·rw [if_pos e0]
  obtain⟨h1,h2⟩:=agr_gate r ok e0
  by_cases e1:(gateS r).2.e=0
  ·obtain⟨h3,h4⟩:=h2 e1
   rw [show gateS r=gateR r from Prod.ext h4 h3]
  ·have e2:(gateR r).2.e≠0:=by rw [←h1];exact e1
   rw [endS_ne e1,endS_ne e2,if_pos e1,if_pos e2,h1]
 ·rw [if_neg e0,rdr_gate.stk r e0]
  rw [endS_ne e0,if_pos e0,if_pos e0]
theorem gt_ext {a b:GtD}:decide (a=b)=(a.name==b.name&&(a.kind==b.kind&&(a.k==b.k&&(decide (a.inputs=b.inputs)&&decide (a.dorm=b.dorm))))):=by
 rw [Bool.eq_iff_iff]
 simp only [decide_eq_true_eq,Bool.and_eq_true,beq_iff_eq]
 cases a;cases b;simp
theorem tlX_all {L:List TX} {s:PS} (h:L.map TX.t=s.l):tlX L s=L:=by
 have:=congrArg List.length h
 rw [List.length_map] at this
 unfold tlX
 rw [this,Nat.sub_self,List.drop_zero]
end Go.PN
namespace Go.Proofs.YteocnikcjjonbaaGreat
open Go.AI Go.PN
attribute [local irreducible] aw Fa Fh DrK
theorem sameGate_fa (a b:GtD) (ha:a.dorm.wf 68719476736) (h1:a.inputs.length≤1099511627776) (h2:b.inputs.length≤1099511627776):Fa Tryz.prog 24 [.agg (gtc a),.agg (gtc b)] (.c (.bool (decide (a=b)))):=by
 have f1:=texts_fa a.inputs b.inputs h1 h2
 have f2:=ratEq_fa a.dorm b.dorm ha
 rw [gt_ext]
 generalize decide (a.inputs=b.inputs)=p at*
 generalize decide (a.dorm=b.dorm)=q at*
 refine fa_of_body Tryz.func24 rfl rfl (by simp [Tryz.ntmps24]) fun C hC=> ?_
 simp only [initS,Nat.reduceAdd]
 repeat' first|refine yA1 o0 ?_|refine zW o0 ?_|refine yP o0 ?_|refine yN o0 ?_|refine zC o0 (fun hb=>?_) fun hb=>?_|refine zG o0 (fun hb=>?_) fun hb=>?_|refine zD o0 (fun hb=>?_) fun hb=>?_
 refine xB fun g2 hn_g2=>?_
 repeat' first|refine yA1 hn_g2 ?_|refine zW hn_g2 ?_|refine yP hn_g2 ?_|refine yN hn_g2 ?_|refine zC hn_g2 (fun hb=>?_) fun hb=>?_|refine zG hn_g2 (fun hb=>?_) fun hb=>?_|refine zD hn_g2 (fun hb=>?_) fun hb=>?_
 refine yB hn_g2 fun g3 hn_g3=>?_
 all_goals try(have Z:=(oj hn_g2 hn_g3);(repeat' first|refine yA1 Z ?_|(refine yC2 Z (f1) ?_)|(refine yD2 Z (f1) ?_)|(refine yC2 Z (f2) ?_)|(refine yD2 Z (f2) ?_)|refine zW Z ?_|refine yP Z ?_|refine yN Z ?_|refine zC Z (fun hb=>?_) fun hb=>?_|refine zG Z (fun hb=>?_) fun hb=>?_|refine zD Z (fun hb=>?_) fun hb=>?_);all_goals clear Z)
 all_goals
  refine yT hC (oj hn_g2 hn_g3) ?_
  refine .one (.c (ler_bool ?_))
  simp_all
theorem refInput_fa (l:BS) (hl:l.length≤1099511627776) (hn:(splitS l).2.length≤1048576) (hw:∀t∈(splitS l).2,t.text.length≤1099511627776):Fa Tryz.prog 23 [.c (.str (sB l))] (.tup [.c (.str (sB (inputQ l).1)),.c (.int .i64 (inputQ l).2)]):=by
 refine fa_of_body Tryz.func23 rfl rfl (by simp [Tryz.ntmps23]) fun C hC=> ?_
 simp only [initS,Nat.reduceAdd]
 repeat' first|refine yA1 o0 ?_|refine zW o0 ?_|refine yP o0 ?_|refine yN o0 ?_|refine zC o0 (fun hb=>?_) fun hb=>?_|refine zG o0 (fun hb=>?_) fun hb=>?_|refine zD o0 (fun hb=>?_) fun hb=>?_
 refine aw_callh (hc:=[]) (hr:=[]) (rsplit_fh l hl) rfl rfl rfl (.refl _) eL ?_
 rintro _ _ ⟨rfl,out,ho,rfl⟩ _
 simp only [List.nil_append]
 refine xS ?_
 have hs:(PS.mk (splitS l).2 0).l<:+out.map TX.t:=by rw [ho];exact List.suffix_refl _
 have hL:out.length≤1048576:=by rw [←List.length_map TX.t,ho];exact hn
 have hw':∀t∈out,t.t.text.length≤1099511627776:=fun t ht=>hw t.t (by rw [←ho];exact List.mem_map_of_mem ht)
 have e0:rv out ⟨(splitS l).2,0⟩=[txs true out,.int .i64 0]:=by
  show [txs true (tlX _ _),_]=_
  rw [tlX_all ho]
 have f1:=rinput_fa out ⟨(splitS l).2,0⟩ hs om hw'
 have f2:=rend_fa out (inputR ⟨(splitS l).2,0⟩).2 ((rdr_inputR.suf _).trans hs) om
 rw [e0] at f1
 unfold inputQ
 dsimp only
 generalize inputR ⟨(splitS l).2,0⟩=r at*
 obtain⟨t,s1⟩:=r
 dsimp only at*
 repeat' first|refine yA1 o0 ?_|(refine yC2 o0 (f1) ?_)|(refine yD2 o0 (f1) ?_)|refine zW o0 ?_|refine yP o0 ?_|refine yN o0 ?_|refine zC o0 (fun hb=>?_) fun hb=>?_|refine zG o0 (fun hb=>?_) fun hb=>?_|refine zD o0 (fun hb=>?_) fun hb=>?_
 ·rw [if_pos hb]
  refine xT hC ?_
  exact .tup ⟨.c (.str _),.c (.int _ _),trivial⟩
 rw [if_neg (by simpa using hb)]
 refine xA fun g6 hn_g6=>?_
 repeat' first|refine yA1 hn_g6 ?_|(refine yC2 hn_g6 (f2) ?_)|(refine yD2 hn_g6 (f2) ?_)|refine zW hn_g6 ?_|refine yP hn_g6 ?_|refine yN hn_g6 ?_|refine zC hn_g6 (fun hb=>?_) fun hb=>?_|refine zG hn_g6 (fun hb=>?_) fun hb=>?_|refine zD hn_g6 (fun hb=>?_) fun hb=>?_
 ·rw [if_pos hb]
  refine yT hC hn_g6 ?_
  exact .tup ⟨.c (.str _),.c (.int _ _),trivial⟩
 ·rw [if_neg (by simpa using hb)]
  refine yT hC hn_g6 ?_
  exact .tup ⟨.c (.str _),.c (.int _ _),trivial⟩
theorem refGate_fa (l:BS) (hl:l.length≤1099511627776) (hn:(splitS l).2.length≤1048576) (hw:∀t∈(splitS l).2,t.text.length≤1099511627776):Fa Tryz.prog 22 [.c (.str (sB l))] (.tup [.agg (gtc (gateQ l).1),.c (.int .i64 (gateQ l).2)]):=by
 refine fa_of_body Tryz.func22 rfl rfl (by simp [Tryz.ntmps22]) fun C hC=> ?_
 simp only [initS,Nat.reduceAdd]
 repeat' first|refine yA1 o0 ?_|refine zW o0 ?_|refine yP o0 ?_|refine yN o0 ?_|refine zC o0 (fun hb=>?_) fun hb=>?_|refine zG o0 (fun hb=>?_) fun hb=>?_|refine zD o0 (fun hb=>?_) fun hb=>?_
 refine xA fun g2 hn_g2=>?_
 repeat' first|refine yA1 hn_g2 ?_|refine zW hn_g2 ?_|refine yP hn_g2 ?_|refine yN hn_g2 ?_|refine zC hn_g2 (fun hb=>?_) fun hb=>?_|refine zG hn_g2 (fun hb=>?_) fun hb=>?_|refine zD hn_g2 (fun hb=>?_) fun hb=>?_
 refine aw_callh (hc:=[]) (hr:=[(g2,.cells 65 7 (ofL [.str (sB []),.int .i64 0,.int .i64 0,.nils,.bool false,.nils,.nils]))]) (rsplit_fh l hl) rfl rfl rfl (.refl _) (zL hn_g2) ?_
 rintro _ _ ⟨rfl,out,ho,rfl⟩ _
 simp only [List.nil_append]
 refine yS hn_g2 ?_
 have hs:(PS.mk (splitS l).2 0).l<:+out.map TX.t:=by rw [ho];exact List.suffix_refl _
 have hL:out.length≤1048576:=by rw [←List.length_map TX.t,ho];exact hn
 have hw':∀t∈out,t.t.text.length≤1099511627776:=fun t ht=>hw t.t (by rw [←ho];exact List.mem_map_of_mem ht)
 have e0:rv out ⟨(splitS l).2,0⟩=[txs true out,.int .i64 0]:=by
  show [txs true (tlX _ _),_]=_
  rw [tlX_all ho]
 have f1:=rtake_fa out ⟨(splitS l).2,0⟩ 0 kGate hs om
 have hs1:=takeR_suf hs 0 kGate
 rw [e0] at f1
 unfold gateQ
 dsimp only
 generalize takeR ⟨(splitS l).2,0⟩ 0 kGate=r at*
 obtain⟨t,s1⟩:=r
 dsimp only at*
 have f3:=rend_fa out s1 hs1 om
 have f4:=rgate_fa out s1 hs1 om hw'
 have f5:=rend_fa out (gateR s1).2 ((rdr_gateR.suf _).trans hs1) om
 generalize gateR s1=G at*
 obtain⟨G,s2⟩:=G
 dsimp only at*
 repeat' first|refine yA1 hn_g2 ?_|(refine yC2 hn_g2 (f1) ?_)|(refine yD2 hn_g2 (f1) ?_)|refine zW hn_g2 ?_|refine yP hn_g2 ?_|refine yN hn_g2 ?_|refine zC hn_g2 (fun hb=>?_) fun hb=>?_|refine zG hn_g2 (fun hb=>?_) fun hb=>?_|refine zD hn_g2 (fun hb=>?_) fun hb=>?_
 ·rw [if_pos hb]
  refine yT hC hn_g2 ?_
  exact .tup ⟨.agg lerl_gt0,.c (.int _ _),trivial⟩
 rw [if_neg (by simpa using hb)]
 refine yA hn_g2 fun g6 hn_g6=>?_
 all_goals try(have Z:=(oj hn_g2 hn_g6);(repeat' first|refine yA1 Z ?_|refine zW Z ?_|refine yP Z ?_|refine yN Z ?_|refine zC Z (fun hb=>?_) fun hb=>?_|refine zG Z (fun hb=>?_) fun hb=>?_|refine zD Z (fun hb=>?_) fun hb=>?_);all_goals clear Z)
 refine yA (oj hn_g2 hn_g6) fun g8 hn_g8=>?_
 all_goals try(have Z:=(oj hn_g2 (oj hn_g6 hn_g8));(repeat' first|refine yA1 Z ?_|(refine yC2 Z (f4) ?_)|(refine yD2 Z (f4) ?_)|(refine yC2 Z (f5) ?_)|(refine yD2 Z (f5) ?_)|(refine yC2 Z (f3) ?_)|(refine yD2 Z (f3) ?_)|refine zW Z ?_|refine yP Z ?_|refine yN Z ?_|refine zC Z (fun hb=>?_) fun hb=>?_|refine zG Z (fun hb=>?_) fun hb=>?_|refine zD Z (fun hb=>?_) fun hb=>?_);all_goals clear Z)
 ·rename_i h0
  rw [if_pos h0]
  dsimp only
  rw [if_pos hb]
  refine yT hC (oj hn_g2 (oj hn_g6 hn_g8)) ?_
  exact .tup ⟨.agg lerl_gt0,.c (.int _ _),trivial⟩
 ·rename_i h0
  rw [if_pos h0]
  dsimp only
  rw [if_neg (by simpa using hb)]
  refine yT hC (oj hn_g2 (oj hn_g6 hn_g8)) ?_
  exact .tup ⟨.agg ⟨.str _,.int _ _,.int _ _,ler_strs,.bool _,ler_ws,ler_ws,trivial⟩,.c (.int _ _),trivial⟩
 ·rename_i h0
  rw [if_neg h0]
  dsimp only
  rw [if_pos hb]
  refine yT hC (oj hn_g2 (oj hn_g6 hn_g8)) ?_
  exact .tup ⟨.agg lerl_gt0,.c (.int _ _),trivial⟩
 ·rename_i h0
  rw [if_neg h0]
  dsimp only
  rw [if_neg (by simpa using hb)]
  refine yT hC (oj hn_g2 (oj hn_g6 hn_g8)) ?_
  exact .tup ⟨.agg lerl_gt0,.c (.int _ _),trivial⟩
end Go.Proofs.YteocnikcjjonbaaGreat
namespace Go.PN
open Go.AI
theorem gateP_o (l:BS):GtO (gateP l).1:=by
 unfold gateP
 dsimp only
 split
 ·exact gt0_o
 split
 ·exact gt0_o
 ·refine SzN.bnd (Q:=GtO) SzN.unit (rdr_exp kGate) (fun _ _=>sz_gate) ⟨(splitS l).2,0⟩ (fun t ht=>Nat.le_trans (splitS_txt l t ht) (by decide)) ?_
  have:=splitS_len l
  show(if(0:Int)=0 then(splitS l).2.length+1 else 0)≤NG
  rw [if_pos rfl]
  show _≤1048576
  omega
end Go.PN
namespace Go.Proofs.YteocnikcjjonbaaGreat
open Go.AI Go.PN
attribute [local irreducible] aw Fa Fh DrK
theorem lawPGates_fa (l:BS) (hl:l.length≤1048576):Fa Tryz.prog 8 [.c (.str (sB l))] (.c (.bool true)):=by
 have f0:=awake23_fa
 have hn:(splitS l).2.length≤1048576:=Nat.le_trans (splitS_len l) (by decide)
 have hw:∀t∈(splitS l).2,t.text.length≤1099511627776:=fun t ht=>Nat.le_trans (splitS_txt l t ht) (by decide)
 have f1:=pg_fa l om
 have f2:=pinput_fa l om hn hw
 have f3:=refGate_fa l om hn hw
 have f4:=refInput_fa l om hn hw
 rw [gateQ_eq] at f3
 rw [inputQ_eq] at f4
 have ho:=gateP_o l
 have f5:=sameGate_fa (gateP l).1 (gateP l).1 (ho.2.1.mono (by decide)) (Nat.le_trans ho.2.2.1 (by decide)) (Nat.le_trans ho.2.2.1 (by decide))
 rw [decide_eq_true rfl] at f5
 generalize gateP l=G at*
 generalize inputP l=I at*
 obtain⟨g,c⟩:=G
 obtain⟨i,d⟩:=I
 dsimp only at*
 have f6:=num_fa c
 have f7:=num_fa d
 refine fa_of_body Tryz.func8 rfl rfl (by simp [Tryz.ntmps8]) fun C hC=> ?_
 simp only [initS,Nat.reduceAdd]
 repeat' first|refine yA1 o0 ?_|(refine yC2 o0 (f0) ?_)|(refine yD2 o0 (f0) ?_)|refine zW o0 ?_|refine yP o0 ?_|refine yN o0 ?_|refine zC o0 (fun hb=>?_) fun hb=>?_|refine zG o0 (fun hb=>?_) fun hb=>?_|refine zD o0 (fun hb=>?_) fun hb=>?_
 ·repeat' first|refine yA1 o0 ?_|(refine yC2 o0 (f0) ?_)|(refine yD2 o0 (f0) ?_)|refine zW o0 ?_|refine yP o0 ?_|refine yN o0 ?_|refine zC o0 (fun hb=>?_) fun hb=>?_|refine zG o0 (fun hb=>?_) fun hb=>?_|refine zD o0 (fun hb=>?_) fun hb=>?_
  refine xT hC ?_
  exact .one (.c (.bool _))
 repeat' first|refine yA1 o0 ?_|(refine yC2 o0 (f1) ?_)|(refine yD2 o0 (f1) ?_)|refine zW o0 ?_|refine yP o0 ?_|refine yN o0 ?_|refine zC o0 (fun hb=>?_) fun hb=>?_|refine zG o0 (fun hb=>?_) fun hb=>?_|refine zD o0 (fun hb=>?_) fun hb=>?_
 refine xA fun g3 hn_g3=>?_
 repeat' first|refine yA1 hn_g3 ?_|(refine yC2 hn_g3 (f2) ?_)|(refine yD2 hn_g3 (f2) ?_)|(refine yC2 hn_g3 (f3) ?_)|(refine yD2 hn_g3 (f3) ?_)|refine zW hn_g3 ?_|refine yP hn_g3 ?_|refine yN hn_g3 ?_|refine zC hn_g3 (fun hb=>?_) fun hb=>?_|refine zG hn_g3 (fun hb=>?_) fun hb=>?_|refine zD hn_g3 (fun hb=>?_) fun hb=>?_
 refine yA hn_g3 fun g7 hn_g7=>?_
 all_goals try(have Z:=(oj hn_g3 hn_g7);(repeat' first|refine yA1 Z ?_|(refine yC2 Z (f4) ?_)|(refine yD2 Z (f4) ?_)|(refine yC2 Z (f5) ?_)|(refine yD2 Z (f5) ?_)|(refine yC2 Z (f6) ?_)|(refine yD2 Z (f6) ?_)|(refine yC2 Z (f7) ?_)|(refine yD2 Z (f7) ?_)|refine zW Z ?_|refine yP Z ?_|refine yN Z ?_|refine zC Z (fun hb=>?_) fun hb=>?_|refine zG Z (fun hb=>?_) fun hb=>?_|refine zD Z (fun hb=>?_) fun hb=>?_);all_goals clear Z)
 all_goals
  refine yT hC (oj hn_g3 hn_g7) ?_
  refine .one (.c (ler_bool ?_))
  simp_all
end Go.Proofs.YteocnikcjjonbaaGreat
