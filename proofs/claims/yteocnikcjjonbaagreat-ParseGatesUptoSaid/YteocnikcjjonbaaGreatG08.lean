/- Parts of one proof, laid by a program. -/
import Derived.Test.YteocnikcjjonbaaGreatG00
import Derived.Test.YteocnikcjjonbaaGreatG07
set_option linter.unusedSimpArgs false
set_option linter.unusedVariables false
set_option maxRecDepth 100000
set_option maxHeartbeats 12800000
namespace Go.PN
open Go.AI
structure RAt (L:List TX) (s:PS) (a:Nat):Prop where
 le:a≤L.length
 nil:¬a<L.length→s.l=[]
 cons:a<L.length→∃l,s.l=(L.getD a tx0).t::l∧L.length-l.length=a+1
theorem rat {L:List TX} {s:PS} (hs:s.l<:+L.map TX.t):RAt L s (L.length-s.l.length):=by
 have hl:=hs.length_le
 rw [List.length_map] at hl
 refine⟨by omega,fun h=>List.length_eq_zero_iff.1 om,fun h=> ?_⟩
 cases hc:s.l with
 |nil=>rw [hc] at h;simp at h
 |cons t l=>
  rw [hc] at hl hs
  rw [List.length_cons] at hl
  refine⟨l,?_,by rw [List.length_cons];omega⟩
  obtain⟨p,hp⟩:=hs
  have hpl:p.length=L.length-(t::l).length:=by
   have:=congrArg List.length hp
   rw [List.length_append,List.length_map] at this
   omega
  have hlt:p.length<L.length:=by rw [List.length_cons] at hpl;omega
  have hg:(L.map TX.t)[p.length]?=some t:=by rw [←hp,List.getElem?_append_right (Nat.le_refl _)];simp
  rw [List.getElem?_map,List.getElem?_eq_getElem hlt] at hg
  rw [←hpl,List.getD_eq_getElem?_getD,List.getElem?_eq_getElem hlt]
  simp only [Option.map_some,Option.some.injEq] at hg
  rw [Option.getD_some,hg]
end Go.PN
namespace Go.Proofs.YteocnikcjjonbaaGreat
open Go.AI Go.PN
abbrev rdA (L:List TX) (a:Nat) (e:Int):AObj:=.cells 82 3 (ofL [txs true L,.int .i64 a,errA e])
abbrev rdO (L:List TX) (s:PS):AObj:=rdA L (L.length-s.l.length) s.e
attribute [local irreducible] aw Fa Fh DrK
theorem is_fg (g:Nat) (L:List TX) (s:PS) (w:BS) (hs:s.l<:+L.map TX.t) (hL:L.length≤1099511627776):Fg Tryz.prog 29 g (rdO L s) [.c (.optr g 0),.c (.str (sB w))] (.c (.bool (isS s w))) (rdO L s):=by
 have h:=rat hs
 generalize ha:L.length-s.l.length=a at h
 have hle:=h.le
 unfold Fg
 rw [show rdO L s=rdA L a s.e from by unfold rdO;rw [ha]]
 refine fh_of_body Tryz.func29 rfl rfl (by simp [Tryz.ntmps29]) fun C hC=> ?_
 simp only [initS,Nat.reduceAdd]
 repeat' first|refine yA1 o0 ?_|refine zW o0 ?_|refine yP o0 ?_|refine yN o0 ?_|refine zC o0 (fun hb=>?_) fun hb=>?_|refine zG o0 (fun hb=>?_) fun hb=>?_|refine zD o0 (fun hb=>?_) fun hb=>?_
 refine aw_dr 47 ty_mixed (by kernel_rfl) ?_
 repeat' first|refine yA1 o0 ?_|refine zW o0 ?_|refine yP o0 ?_|refine yN o0 ?_|refine zC o0 (fun hb=>?_) fun hb=>?_|refine zG o0 (fun hb=>?_) fun hb=>?_|refine zD o0 (fun hb=>?_) fun hb=>?_
 all_goals
  refine xU ?_
  refine⟨?_,rfl⟩
 ·rename_i h0 h1
  obtain⟨l',hl,_⟩:=h.cons h1
  rw [is_cons h0 hl,bne_iff_ne.2 hb,Bool.true_and]
 ·rename_i h0 h1
  obtain⟨l',hl,_⟩:=h.cons h1
  rw [is_cons h0 hl,hb];rfl
 ·rw [is_nil (h.nil hb)]
 ·rw [show isS s w=false from by unfold isS;simp [hb]]
theorem kind_fg (g:Nat) (L:List TX) (s:PS) (k:Nat) (hs:s.l<:+L.map TX.t) (hL:L.length≤1099511627776):Fg Tryz.prog 62 g (rdO L s) [.c (.optr g 0),.c (.int .i64 k)] (.c (.bool (kindS s k))) (rdO L s):=by
 have h:=rat hs
 generalize ha:L.length-s.l.length=a at h
 have hle:=h.le
 unfold Fg
 rw [show rdO L s=rdA L a s.e from by unfold rdO;rw [ha]]
 refine fh_of_body Tryz.func62 rfl rfl (by simp [Tryz.ntmps62]) fun C hC=> ?_
 simp only [initS,Nat.reduceAdd]
 repeat' first|refine yA1 o0 ?_|refine zW o0 ?_|refine yP o0 ?_|refine yN o0 ?_|refine zC o0 (fun hb=>?_) fun hb=>?_|refine zG o0 (fun hb=>?_) fun hb=>?_|refine zD o0 (fun hb=>?_) fun hb=>?_
 refine aw_dr 33 ty_mixed (by kernel_rfl) ?_
 repeat' first|refine yA1 o0 ?_|refine zW o0 ?_|refine yP o0 ?_|refine yN o0 ?_|refine zC o0 (fun hb=>?_) fun hb=>?_|refine zG o0 (fun hb=>?_) fun hb=>?_|refine zD o0 (fun hb=>?_) fun hb=>?_
 all_goals
  refine xU ?_
  refine⟨?_,rfl⟩
 ·rename_i h0
  obtain⟨l',hl,_⟩:=h.cons hb
  rw [kind_cons h0 hl]
 ·rw [kind_nil (h.nil hb)]
 ·rw [show kindS s k=false from by unfold kindS;simp [hb]]
theorem errA_ne {c:Int} (h:c≠0):errA c=.ifc 51 (.int .i64 c):=by unfold errA errC;rw [if_neg h]
theorem fail_fg (g:Nat) (L:List TX) (s:PS) (c:Int) (hc:c≠0):Fg Tryz.prog 68 g (rdO L s) [.c (.optr g 0),.c (.ifc 51 (.int .i64 c))] (.tup []) (rdO L (failS c s)):=by
 generalize ha:L.length-s.l.length=a
 unfold Fg
 rw [show rdO L s=rdA L a s.e from by unfold rdO;rw [ha]]
 refine fh_of_body Tryz.func68 rfl rfl (by simp [Tryz.ntmps68]) fun C hC=> ?_
 simp only [initS,Nat.reduceAdd]
 repeat' first|refine yA1 o0 ?_|refine zW o0 ?_|refine yP o0 ?_|refine yN o0 ?_|refine zC o0 (fun hb=>?_) fun hb=>?_|refine zG o0 (fun hb=>?_) fun hb=>?_|refine zD o0 (fun hb=>?_) fun hb=>?_
 ·refine xV ?_
  refine⟨rfl,?_⟩
  unfold failS
  rw [if_pos hb]
  show _=[(g,AObj.cells 82 3 (ofL [txs true L,.int .i64 (L.length-s.l.length:Nat),errA c]))]
  rw [ha,errA_ne hc]
 ·refine xV ?_
  refine⟨rfl,?_⟩
  unfold failS
  rw [if_neg hb,←ha]
theorem ha_of {L:List TX} {s:PS} {a:Nat} (ha:L.length-s.l.length=a):rdO L s=rdA L a s.e:=by unfold rdO;rw [ha]
theorem take_fg (g:Nat) (L:List TX) (s:PS) (m:Bool) (hs:s.l<:+L.map TX.t) (hL:L.length≤1099511627776):Fg Tryz.prog 61 g (rdO L s) [.c (.optr g 0),.c (.bool m)] (.c (.str (sB (takeS m s).1))) (rdO L (takeS m s).2):=by
 have h:=rat hs
 have f1:=fail_fg g L s 20 (by decide)
 have f2:=fail_fg g L s 2 (by decide)
 generalize ha:L.length-s.l.length=a at h
 have hle:=h.le
 unfold Fg
 rw [ha_of ha]
 rw [ha_of ha] at f1 f2
 refine fh_of_body Tryz.func61 rfl rfl (by simp [Tryz.ntmps61]) fun C hC=> ?_
 simp only [initS,Nat.reduceAdd]
 repeat' first|refine yA1 o0 ?_|(refine zg o0 (f1) ?_)|(refine zg o0 (f2) ?_)|refine zW o0 ?_|refine yP o0 ?_|refine yN o0 ?_|refine zC o0 (fun hb=>?_) fun hb=>?_|refine zG o0 (fun hb=>?_) fun hb=>?_|refine zD o0 (fun hb=>?_) fun hb=>?_
 ·have h0:s.e≠0:=by simpa using hb
  have ht:takeS m s=([],s):=by unfold takeS;rw [if_neg h0]
  refine xU ?_
  rw [ht,←ha_of ha]
  exact⟨rfl,rfl⟩
 have h0:s.e=0:=by simpa using hb
 refine aw_dr 11 ty_mixed (by kernel_rfl) ?_
 repeat' first|refine yA1 o0 ?_|(refine zg o0 (f1) ?_)|(refine zg o0 (f2) ?_)|refine zW o0 ?_|refine yP o0 ?_|refine yN o0 ?_|refine zC o0 (fun hb=>?_) fun hb=>?_|refine zG o0 (fun hb=>?_) fun hb=>?_|refine zD o0 (fun hb=>?_) fun hb=>?_
 ·have hl:s.l=[]:=h.nil om
  have ht:takeS m s=([],⟨[],20⟩):=take_nil h0 hl
  refine xU ?_
  rw [ht]
  refine⟨rfl,?_⟩
  unfold failS
  rw [if_pos h0,hl]
 ·rename_i h1
  have hm:m=false:=by simpa using hb
  obtain⟨l',hl,hl'⟩:=h.cons om
  have ht:=take_cons (m:=m) h0 hl
  rw [hm] at ht
  refine xU ?_
  rw [hm,ht]
  refine⟨rfl,?_⟩
  unfold failS
  rw [if_pos h0,hl];rfl
 ·rename_i h1
  have hm:m=true:=by simpa using hb
  obtain⟨l',hl,hl'⟩:=h.cons om
  have ht:=take_cons (m:=m) h0 hl
  rw [hm] at ht
  have e1:((a:Int)+1-1).toNat=a:=by omega
  refine aw_dr 13 ty_mixed (by kernel_rfl) ?_
  repeat' first|refine yA1 e1 ?_|refine zW e1 ?_|refine yP e1 ?_|refine yN e1 ?_|refine zC e1 (fun hb=>?_) fun hb=>?_|refine zG e1 (fun hb=>?_) fun hb=>?_|refine zD e1 (fun hb=>?_) fun hb=>?_
  refine yU e1 ?_
  rw [hm,ht]
  refine⟨rfl,?_⟩
  show _=[(g,AObj.cells 82 3 (ofL [txs true L,.int .i64 (L.length-l'.length:Nat),errA 0]))]
  rw [hl',h0];rfl
end Go.Proofs.YteocnikcjjonbaaGreat
namespace Go.Proofs.YteocnikcjjonbaaGreat
open Go.AI Go.PN
attribute [local irreducible] aw Fa Fh DrK
theorem expect_fg (g:Nat) (L:List TX) (s:PS) (w:BS) (hs:s.l<:+L.map TX.t) (hL:L.length≤1099511627776):Fg Tryz.prog 27 g (rdO L s) [.c (.optr g 0),.c (.str (sB w))] (.tup []) (rdO L (expS w s)):=by
 have f1:=is_fg g L s w hs hL
 have f2:=take_fg g L s (isS s w) hs hL
 unfold Fg
 refine fh_of_body Tryz.func27 rfl rfl (by simp [Tryz.ntmps27]) fun C hC=> ?_
 simp only [initS,Nat.reduceAdd]
 repeat' first|refine yA1 o0 ?_|(refine zg o0 (f1) ?_)|(refine zg o0 (f2) ?_)|refine zW o0 ?_|refine yP o0 ?_|refine yN o0 ?_|refine zC o0 (fun hb=>?_) fun hb=>?_|refine zG o0 (fun hb=>?_) fun hb=>?_|refine zD o0 (fun hb=>?_) fun hb=>?_
 refine xV ?_
 exact⟨rfl,rfl⟩
theorem word_fg (g:Nat) (L:List TX) (s:PS) (hs:s.l<:+L.map TX.t) (hL:L.length≤1099511627776):Fg Tryz.prog 28 g (rdO L s) [.c (.optr g 0)] (.c (.str (sB (wordS s).1))) (rdO L (wordS s).2):=by
 have f1:=kind_fg g L s 0 hs hL
 have f2:=take_fg g L s (kindS s 0) hs hL
 unfold Fg
 refine fh_of_body Tryz.func28 rfl rfl (by simp [Tryz.ntmps28]) fun C hC=> ?_
 simp only [initS,Nat.reduceAdd]
 repeat' first|refine yA1 o0 ?_|(refine zg o0 (f1) ?_)|(refine zg o0 (f2) ?_)|refine zW o0 ?_|refine yP o0 ?_|refine yN o0 ?_|refine zC o0 (fun hb=>?_) fun hb=>?_|refine zG o0 (fun hb=>?_) fun hb=>?_|refine zD o0 (fun hb=>?_) fun hb=>?_
 refine xU ?_
 exact⟨rfl,rfl⟩
theorem input_fg (g:Nat) (L:List TX) (s:PS) (hs:s.l<:+L.map TX.t) (hL:L.length≤1099511627776) (hw:∀t∈L,t.t.text.length≤1099511627776):Fg Tryz.prog 31 g (rdO L s) [.c (.optr g 0)] (.c (.str (sB (inputS s).1))) (rdO L (inputS s).2):=by
 have f1:=is_fg g L s kAt hs hL
 have f2:=expect_fg g L s kAt hs hL
 have f3:=word_fg g L s hs hL
 have f4:=word_fg g L (expS kAt s) (((rdr_exp kAt).suf s).trans hs) hL
 have hlen:(wordS (expS kAt s)).1.length≤1099511627776:=by
  unfold wordS takeS
  split
  ·split
   ·simp
   ·rename_i t l hl
    split
    ·have hm:t∈L.map TX.t:=(((rdr_exp kAt).suf s).trans hs).subset (by show t∈(expS kAt s).l;rw [hl];exact List.mem_cons_self)
     obtain⟨x,hx,rfl⟩:=List.mem_map.1 hm
     exact hw x hx
    ·simp
  ·simp
 unfold Fg
 unfold inputS
 refine fh_of_body Tryz.func31 rfl rfl (by simp [Tryz.ntmps31]) fun C hC=> ?_
 simp only [initS,Nat.reduceAdd]
 repeat' first|refine yA1 o0 ?_|(refine zg o0 (f1) ?_)|(refine zg o0 (f2) ?_)|(refine zg o0 (f3) ?_)|(refine zg o0 (f4) ?_)|refine zW o0 ?_|refine yP o0 ?_|refine yN o0 ?_|refine zC o0 (fun hb=>?_) fun hb=>?_|refine zG o0 (fun hb=>?_) fun hb=>?_|refine zD o0 (fun hb=>?_) fun hb=>?_
 ·refine xU ?_
  rw [if_pos hb]
  exact⟨rfl,rfl⟩
 ·refine xU ?_
  rw [if_neg (by rw [hb];decide)]
  exact⟨rfl,rfl⟩
theorem gkind_fa (w:BS):Fa Tryz.prog 106 [.c (.str (sB w))] (.tup [.c (.int .i64 ((gkind w).getD 0)),.c (.bool (gkind w).isSome)]):=by
 unfold gkind
 refine fa_of_body Tryz.func106 rfl rfl (by simp [Tryz.ntmps106]) fun C hC=> ?_
 simp only [initS,Nat.reduceAdd]
 repeat' first|refine yA1 o0 ?_|refine zW o0 ?_|refine yP o0 ?_|refine yN o0 ?_|refine zC o0 (fun hb=>?_) fun hb=>?_|refine zG o0 (fun hb=>?_) fun hb=>?_|refine zD o0 (fun hb=>?_) fun hb=>?_
 all_goals
  refine xT hC ?_
  refine .tup ⟨.c (ler_int ?_),.c (ler_bool ?_),trivial⟩
  all_goals simp_all
theorem number_fg (g:Nat) (L:List TX) (s:PS) (hs:s.l<:+L.map TX.t) (hL:L.length≤1099511627776) (hw:∀t∈L,t.t.text.length≤1099511627776):Fg Tryz.prog 108 g (rdO L s) [.c (.optr g 0)] (.agg (rdc (numS s).1)) (rdO L (numS s).2):=by
 have f1:=kind_fg g L s 1 hs hL
 have f2:=take_fg g L s (kindS s 1) hs hL
 have hlen:(takeS (kindS s 1) s).1.length≤1099511627776:=by
  unfold takeS
  split
  ·split
   ·simp
   ·rename_i t l hl
    split
    ·have hm:t∈L.map TX.t:=hs.subset (by rw [hl];exact List.mem_cons_self)
     obtain⟨x,hx,rfl⟩:=List.mem_map.1 hm
     exact hw x hx
    ·simp
  ·simp
 have f3:=tvalue_fa (takeS (kindS s 1) s).1 hlen
 unfold Fg
 unfold numS
 dsimp only
 generalize hr:takeS (kindS s 1) s=r at*
 obtain⟨t,s1⟩:=r
 dsimp only at*
 refine fh_of_body Tryz.func108 rfl rfl (by simp [Tryz.ntmps108]) fun C hC=> ?_
 simp only [initS,Nat.reduceAdd]
 repeat' first|refine yA1 o0 ?_|refine zW o0 ?_|refine yP o0 ?_|refine yN o0 ?_|refine zC o0 (fun hb=>?_) fun hb=>?_|refine zG o0 (fun hb=>?_) fun hb=>?_|refine zD o0 (fun hb=>?_) fun hb=>?_
 refine xA fun g2 hn_g2=>?_
 repeat' first|refine yA1 hn_g2 ?_|(refine zg hn_g2 (f1) ?_)|(refine zg hn_g2 (f2) ?_)|(refine yC2 hn_g2 (f3) ?_)|(refine yD2 hn_g2 (f3) ?_)|refine zW hn_g2 ?_|refine yP hn_g2 ?_|refine yN hn_g2 ?_|refine zC hn_g2 (fun hb=>?_) fun hb=>?_|refine zG hn_g2 (fun hb=>?_) fun hb=>?_|refine zD hn_g2 (fun hb=>?_) fun hb=>?_
 ·have h0:s1.e≠0:=by simpa using hb
  refine aw_convR (f':=ofL (rdc rd0)) zero_cells ?_
  refine aw_rethw (h':=[(g,rdO L s1)]) rfl (by first|exact List.Sublist.refl _|exact .cons _ (.refl _)|exact .cons _ (.cons _ (.refl _))|exact .cons _ (.cons _ (.cons _ (.refl _)))) fun R r=>?_;simp only[go_sem,hn_g2];refine r _ rfl ?_;clear r R
  rw [if_neg h0]
  exact⟨rfl,rfl⟩
 have h0:s1.e=0:=by simpa using hb
 refine yA hn_g2 fun g4 hn_g4=>?_
 all_goals try(have Z:=(oj hn_g2 hn_g4);(repeat' first|refine yA1 Z ?_|refine zW Z ?_|refine yP Z ?_|refine yN Z ?_|refine zC Z (fun hb=>?_) fun hb=>?_|refine zG Z (fun hb=>?_) fun hb=>?_|refine zD Z (fun hb=>?_) fun hb=>?_);all_goals clear Z)
 ·have hv:valC t≠0:=by simpa using hb
  have f4:=fail_fg g L s1 (valC t) hv
  rw [←errA_ne hv] at f4
  all_goals try(have Z:=(oj hn_g2 hn_g4);(repeat' first|refine yA1 Z ?_|(refine zg Z (f4) ?_)|refine zW Z ?_|refine yP Z ?_|refine yN Z ?_|refine zC Z (fun hb=>?_) fun hb=>?_|refine zG Z (fun hb=>?_) fun hb=>?_|refine zD Z (fun hb=>?_) fun hb=>?_);all_goals clear Z)
  refine aw_rethw (h':=[(g,rdO L (failS (valC t) s1))]) rfl (by first|exact List.Sublist.refl _|exact .cons _ (.refl _)|exact .cons _ (.cons _ (.refl _))|exact .cons _ (.cons _ (.cons _ (.refl _)))) fun R r=>?_;simp only[go_sem,hn_g2,hn_g4];refine r _ rfl ?_;clear r R
  rw [if_pos h0,if_neg hv]
  unfold failS
  rw [if_pos h0]
  exact⟨rfl,rfl⟩
 ·have hv:valC t=0:=by simpa using hb
  refine aw_rethw (h':=[(g,rdO L s1)]) rfl (by first|exact List.Sublist.refl _|exact .cons _ (.refl _)|exact .cons _ (.cons _ (.refl _))|exact .cons _ (.cons _ (.cons _ (.refl _)))) fun R r=>?_;simp only[go_sem,hn_g2,hn_g4];refine r _ rfl ?_;clear r R
  rw [if_pos h0,if_pos hv]
  exact⟨rfl,rfl⟩
end Go.Proofs.YteocnikcjjonbaaGreat
namespace Go.PN
open Go.AI
theorem wdA (n:Nat):(words n).getD 0 0=n%4294967296:=by
 by_cases h:n=0
 ·subst h;rw [words_zero];rfl
 ·rw [words_cons om];rfl
theorem wdB (n:Nat):(words n).getD 1 0=n/4294967296%4294967296:=by
 by_cases h:n=0
 ·subst h;rw [words_zero];rfl
 ·rw [words_cons om]
  show(words (n/4294967296)).getD 0 0=_
  exact wdA _
theorem RD.q_nd {r:RD} {L:Nat} (hw:r.wf L):r.q.den=r.pd∧r.q.num=sgn r.ps r.pn:=by
 have hd:=RD.pd_ne hw
 have hg:(sgn r.ps r.pn).natAbs.gcd r.pd=1:=by
  rw [sgn_abs]
  unfold RD.pn RD.pd
  cases hs:r.some with
  |true=>simp only [if_true];exact(RD.some_spec hw hs).2.2.2.2
  |false=>simp
 obtain⟨h1,h2⟩:=mkRat_nd (n:=sgn r.ps r.pn) hd
 rw [hg] at h1 h2
 exact⟨by unfold RD.q sq;rw [h2];simp,by unfold RD.q sq;rw [h1];simp⟩
end Go.PN
namespace Go.Proofs.YteocnikcjjonbaaGreat
open Go.AI Go.PN
attribute [local irreducible] aw Fa Fh DrK
theorem bits63 (n:Nat):decide (bitlen n>63)= !decide (n<9223372036854775808):=by
 by_cases h:n<9223372036854775808
 ·have:=bitlen_lt (x:=n) (k:=63) om
  rw [decide_eq_true h,decide_eq_false om];rfl
 ·have h1:=bitlen_div (x:=n) (k:=63) om
  have h2:bitlen (n/2^63)≠0:=fun e=>by
   have:=bitlen_zero.1 e
   omega
  rw [decide_eq_false h,decide_eq_true om];rfl
theorem join63 {n:Nat} (h:n<9223372036854775808):wrapZ .i64 (orZ .u64 ((n%4294967296:Nat):Int) (shlZ .u64 ((n/4294967296%4294967296:Nat):Int) 32))=(n:Int):=by
 rw [shl_u64_32 _ om,or_u64_join' _ _ om om]
 rw [wrapZ_eq,wrap_inRange (by simp only [inRange];omega)]
 omega
theorem nint_fa (n:Nat) (hn:(words n).length≤68719476736):Fa Tryz.prog 161 [.c (ws false (words n))] (.tup [.c (.int .i64 (if n<9223372036854775808 then n else 0)),.c (.bool (decide (n<9223372036854775808)))]):=by
 have h1:=bitsW n hn
 have h2:=word_fa (words n) 0 (words_lt _)
 have h3:=word_fa (words n) 1 (words_lt _)
 rw [wdA] at h2
 rw [wdB] at h3
 have hb:=bits63 n
 by_cases h:n<9223372036854775808
 ·have hj:=join63 h
  rw [if_pos h,decide_eq_true h]
  rw [decide_eq_true h] at hb
  refine fa_of_body Tryz.func161 rfl rfl (by simp [Tryz.ntmps161]) fun C hC=> ?_
  simp only [initS,Nat.reduceAdd]
  all_goals try(have Z:=(oj hb hj);(repeat' first|refine yA1 Z ?_|(refine yC2 Z (h1) ?_)|(refine yD2 Z (h1) ?_)|(refine yC2 Z (h2) ?_)|(refine yD2 Z (h2) ?_)|(refine yC2 Z (h3) ?_)|(refine yD2 Z (h3) ?_)|refine zW Z ?_|refine yP Z ?_|refine yN Z ?_|refine zC Z (fun hb=>?_) fun hb=>?_|refine zG Z (fun hb=>?_) fun hb=>?_|refine zD Z (fun hb=>?_) fun hb=>?_);all_goals clear Z)
  refine yT hC (oj hb hj) ?_
  exact .tup ⟨.c (.int _ _),.c (.bool _),trivial⟩
 ·rw [if_neg h,decide_eq_false h]
  rw [decide_eq_false h] at hb
  refine fa_of_body Tryz.func161 rfl rfl (by simp [Tryz.ntmps161]) fun C hC=> ?_
  simp only [initS,Nat.reduceAdd]
  repeat' first|refine yA1 hb ?_|(refine yC2 hb (h1) ?_)|(refine yD2 hb (h1) ?_)|(refine yC2 hb (h2) ?_)|(refine yD2 hb (h2) ?_)|(refine yC2 hb (h3) ?_)|(refine yD2 hb (h3) ?_)|refine zW hb ?_|refine yP hb ?_|refine yN hb ?_|refine zC hb (fun hb=>?_) fun hb=>?_|refine zG hb (fun hb=>?_) fun hb=>?_|refine zD hb (fun hb=>?_) fun hb=>?_
  refine yT hC hb ?_
  exact .tup ⟨.c (.int _ _),.c (.bool _),trivial⟩
theorem qint_fa (n:Nat) (hn:(words n).length≤68719476736):Fa Tryz.prog 169 [.c (ws false (words n))] (.tup [.c (.int .i64 (if n<9223372036854775808 then n else 0)),.c (.bool (decide (n<9223372036854775808)))]):=by
 have h1:=qbits_fa (words n) (words_lt _) hn
 rw [val_words] at h1
 have h2:=qword_fa (words n) 0 (words_lt _)
 have h3:=qword_fa (words n) 1 (words_lt _)
 rw [wdA] at h2
 rw [wdB] at h3
 have hb:=bits63 n
 by_cases h:n<9223372036854775808
 ·have hj:=join63 h
  rw [if_pos h,decide_eq_true h]
  rw [decide_eq_true h] at hb
  refine fa_of_body Tryz.func169 rfl rfl (by simp [Tryz.ntmps169]) fun C hC=> ?_
  simp only [initS,Nat.reduceAdd]
  all_goals try(have Z:=(oj hb hj);(repeat' first|refine yA1 Z ?_|(refine yC2 Z (h1) ?_)|(refine yD2 Z (h1) ?_)|(refine yC2 Z (h2) ?_)|(refine yD2 Z (h2) ?_)|(refine yC2 Z (h3) ?_)|(refine yD2 Z (h3) ?_)|refine zW Z ?_|refine yP Z ?_|refine yN Z ?_|refine zC Z (fun hb=>?_) fun hb=>?_|refine zG Z (fun hb=>?_) fun hb=>?_|refine zD Z (fun hb=>?_) fun hb=>?_);all_goals clear Z)
  refine yT hC (oj hb hj) ?_
  exact .tup ⟨.c (.int _ _),.c (.bool _),trivial⟩
 ·rw [if_neg h,decide_eq_false h]
  rw [decide_eq_false h] at hb
  refine fa_of_body Tryz.func169 rfl rfl (by simp [Tryz.ntmps169]) fun C hC=> ?_
  simp only [initS,Nat.reduceAdd]
  repeat' first|refine yA1 hb ?_|(refine yC2 hb (h1) ?_)|(refine yD2 hb (h1) ?_)|(refine yC2 hb (h2) ?_)|(refine yD2 hb (h2) ?_)|(refine yC2 hb (h3) ?_)|(refine yD2 hb (h3) ?_)|refine zW hb ?_|refine yP hb ?_|refine yN hb ?_|refine zC hb (fun hb=>?_) fun hb=>?_|refine zG hb (fun hb=>?_) fun hb=>?_|refine zD hb (fun hb=>?_) fun hb=>?_
  refine yT hC hb ?_
  exact .tup ⟨.c (.int _ _),.c (.bool _),trivial⟩
theorem cmpN_eq0 (a b:Nat):cmpN a b=0↔a=b:=by unfold cmpN;split<;>(try split)<;>omega
theorem intQ_of {r:RD} {L:Nat} (hw:r.wf L):intQ r.q=if r.pd=1∧ -9223372036854775808≤sgn r.ps r.pn∧sgn r.ps r.pn≤9223372036854775807 then some (sgn r.ps r.pn) else none:=by
 obtain⟨h1,h2⟩:=RD.q_nd hw
 unfold intQ
 rw [h1,h2]
theorem rint_fa (r:RD) (hw:r.wf 1073741824):Fa Tryz.prog 143 [.agg (rdc r)] (.tup [.c (.int .i64 ((intQ r.q).getD 0)),.c (.bool (intQ r.q).isSome)]):=by
 obtain⟨l1,l2⟩:=RD.p_len hw om
 rw [intQ_of hw]
 have h1:=rparts_fa r hw
 have h2:=one_fa
 have h3:=cmpW r.pd 1 om (by rw [words_one];simp)
 rw [words_one] at h3
 have h4:=rsize_fa (-9223372036854775808) om om
 have h5:=cmpW r.pn 9223372036854775808 om (Nat.le_trans (words_small om) om)
 have h6:=nint_fa r.pn om
 have hn:∀n:Nat,n<9223372036854775808→wrapZ .i64 (0-(n:Int))= -(n:Int):=fun n hn=>int_neg om om
 unfold partsAV at h1
 generalize r.pd=d at*
 generalize r.pn=n at*
 generalize r.ps=p at*
 refine fa_of_body Tryz.func143 rfl rfl (by simp [Tryz.ntmps143]) fun C hC=> ?_
 simp only [initS,Nat.reduceAdd]
 repeat' first|refine yA1 o0 ?_|refine zW o0 ?_|refine yP o0 ?_|refine yN o0 ?_|refine zC o0 (fun hb=>?_) fun hb=>?_|refine zG o0 (fun hb=>?_) fun hb=>?_|refine zD o0 (fun hb=>?_) fun hb=>?_
 refine xB fun g1 hn_g1=>?_
 repeat' first|refine yA1 hn_g1 ?_|(refine yC2 hn_g1 (h1) ?_)|(refine yD2 hn_g1 (h1) ?_)|(refine yC2 hn_g1 (h2) ?_)|(refine yD2 hn_g1 (h2) ?_)|(refine yC2 hn_g1 (h3) ?_)|(refine yD2 hn_g1 (h3) ?_)|(refine yC2 hn_g1 (h4) ?_)|(refine yD2 hn_g1 (h4) ?_)|(refine yC2 hn_g1 (h5) ?_)|(refine yD2 hn_g1 (h5) ?_)|(refine yC2 hn_g1 (h6) ?_)|(refine yD2 hn_g1 (h6) ?_)|refine zW hn_g1 ?_|refine yP hn_g1 ?_|refine yN hn_g1 ?_|refine zC hn_g1 (fun hb=>?_) fun hb=>?_|refine zG hn_g1 (fun hb=>?_) fun hb=>?_|refine zD hn_g1 (fun hb=>?_) fun hb=>?_
 all_goals
  refine yT hC hn_g1 ?_
  clear h1 h2 h3 h4 h5 h6
  refine .tup ⟨.c (ler_int ?_),.c (ler_bool ?_),trivial⟩
  all_goals
   simp only [ne_eq,cmpN_eq0] at*
   first
    |(exfalso;simp_all;done)
    |(try subst_vars
      try simp only [Bool.not_eq_true',Bool.not_eq_false',decide_eq_false_iff_not,decide_eq_true_eq] at*
      unfold sgn
      try rw [hn _ (by split<;>omega)]
      (repeat' split)<;>simp_all<;>omega)
end Go.Proofs.YteocnikcjjonbaaGreat
namespace Go.PN
open Go.AI
theorem natB_fit {s:BS} (hd:∀i,i<s.length→isDig (bAt s i)=true):fits (natB s:Rat) (s.length+1):=by have:=natB_fits hd (Nat.le_refl s.length);rwa [List.take_length] at this
theorem val_fits {s:BS} (h:valC s=0):fits (valQ s) 500:=by
 unfold valC at h
 split at h
 ·cases h
 ·rename_i h100
  split at h
  ·cases h
  ·rename_i hn
   have hn:isNum s=true:=by simpa using hn
   obtain⟨hf,h0⟩:=num_form hn
   unfold valQ
   by_cases hsl:idxB 47 s<s.length
   ·rw [if_pos hsl]
    have hz:natB (s.drop (idxB 47 s+1))≠0:=fun e=>by rw [if_pos ⟨hsl,e⟩] at h;cases h
    cases hf with
    |all hh=>have:=(ix_all hh).1;omega
    |two e he hm h1 h2=>
     rcases hm with hm|hm
     ·have:=(ix_point he hm h1 h2).1;omega
     ·rw [ix_slash he hm h1] at hz⊢
      have f1:=natB_fit (dig_take h1)
      have f2:=natB_fit (dig_drop h2)
      exact fits_mono (fits_div f1 f2 (by simpa using hz)) (by rw [List.length_take,List.length_drop];omega)
   ·rw [if_neg hsl]
    have key:(∀i,i<(s.take (idxB 46 s)++s.drop (idxB 46 s+1)).length→isDig (bAt (s.take (idxB 46 s)++s.drop (idxB 46 s+1)) i)=true):=by
     have app:∀(a b:BS),(∀i,i<a.length→isDig (bAt a i)=true)→(∀i,i<b.length→isDig (bAt b i)=true)→∀i,i<(a++b).length→isDig (bAt (a++b) i)=true:=fun a b hda hdb i hi=>by
      by_cases h:i<a.length
      ·have:=hda i h
       unfold bAt at this⊢
       rw [List.getD_eq_getElem?_getD] at this⊢
       rwa [List.getElem?_append_left h]
      ·have:=hdb (i-a.length) (by rw [List.length_append] at hi;omega)
       unfold bAt at this⊢
       rw [List.getD_eq_getElem?_getD] at this⊢
       rwa [List.getElem?_append_right om]
     cases hf with
     |all hh=>
      rw [(ix_all hh).2,List.take_length,List.drop_of_length_le om]
      exact app _ _ hh fun i hi=>absurd hi (by simp)
     |two e he hm h1 h2=>
      rcases hm with hm|hm
      ·rw [(ix_point he hm h1 h2).2];exact app _ _ (dig_take h1) (dig_drop h2)
      ·have:=ix_slash he hm h1;omega
    have f1:=natB_fit key
    have f2:fits ((10^(s.drop (idxB 46 s+1)).length:Nat):Rat) ((s.drop (idxB 46 s+1)).length+1):=nat_fits (pow10_lt _) om
    exact fits_mono (fits_div f1 f2 (pow10_ne _)) (by rw [List.length_append,List.length_take,List.length_drop];omega)
theorem valR_wf (s:BS):(valR s).wf 500:=by
 unfold valR
 split
 ·rename_i h;exact rd_wf (val_fits h)
 ·exact⟨fun x hx=>(by cases hx),fun x hx=>(by cases hx),Nat.zero_le _,Nat.zero_le _⟩
theorem numS_wf (s:PS):(numS s).1.wf 500:=by
 unfold numS
 dsimp only
 split
 ·exact valR_wf _
 ·exact⟨fun x hx=>(by cases hx),fun x hx=>(by cases hx),Nat.zero_le _,Nat.zero_le _⟩
end Go.PN
namespace Go.Proofs.YteocnikcjjonbaaGreat
open Go.AI Go.PN
attribute [local irreducible] aw Fa Fh DrK
theorem whole_fg (g:Nat) (L:List TX) (s:PS) (hs:s.l<:+L.map TX.t) (hL:L.length≤1099511627776) (hw:∀t∈L,t.t.text.length≤1099511627776):Fg Tryz.prog 107 g (rdO L s) [.c (.optr g 0)] (.c (.int .i64 (wholeS s).1)) (rdO L (wholeS s).2):=by
 have f1:=number_fg g L s hs hL hw
 have f2:=rint_fa (numS s).1 (wf_mono (numS_wf s) om)
 unfold Fg
 unfold wholeS
 dsimp only
 generalize hr:numS s=r at*
 obtain⟨q,s1⟩:=r
 dsimp only at*
 have f3:=fail_fg g L s1 3 (by decide)
 generalize hi:intQ q.q=o at*
 cases o with
 |none=>
  simp only [Option.isSome_none,Option.getD_none] at f2
  refine fh_of_body Tryz.func107 rfl rfl (by simp [Tryz.ntmps107]) fun C hC=> ?_
  simp only [initS,Nat.reduceAdd]
  repeat' first|refine yA1 o0 ?_|(refine zg o0 (f1) ?_)|refine zW o0 ?_|refine yP o0 ?_|refine yN o0 ?_|refine zC o0 (fun hb=>?_) fun hb=>?_|refine zG o0 (fun hb=>?_) fun hb=>?_|refine zD o0 (fun hb=>?_) fun hb=>?_
  refine xA fun g3 hn_g3=>?_
  repeat' first|refine yA1 hn_g3 ?_|(refine yC2 hn_g3 (f2) ?_)|(refine yD2 hn_g3 (f2) ?_)|(refine zg hn_g3 (f3) ?_)|refine zW hn_g3 ?_|refine yP hn_g3 ?_|refine yN hn_g3 ?_|refine zC hn_g3 (fun hb=>?_) fun hb=>?_|refine zG hn_g3 (fun hb=>?_) fun hb=>?_|refine zD hn_g3 (fun hb=>?_) fun hb=>?_
  ·have h0:s1.e≠0:=by simpa using hb
   refine aw_rethw (h':=[(g,rdO L s1)]) rfl (by first|exact List.Sublist.refl _|exact .cons _ (.refl _)|exact .cons _ (.cons _ (.refl _))|exact .cons _ (.cons _ (.cons _ (.refl _)))) fun R r=>?_;simp only[go_sem,hn_g3];refine r _ rfl ?_;clear r R
   rw [if_neg h0]
   exact⟨rfl,rfl⟩
  ·have h0:s1.e=0:=by simpa using hb
   refine aw_rethw (h':=[(g,rdO L (failS 3 s1))]) rfl (by first|exact List.Sublist.refl _|exact .cons _ (.refl _)|exact .cons _ (.cons _ (.refl _))|exact .cons _ (.cons _ (.cons _ (.refl _)))) fun R r=>?_;simp only[go_sem,hn_g3];refine r _ rfl ?_;clear r R
   rw [if_pos h0]
   unfold failS
   rw [if_pos h0]
   exact⟨rfl,rfl⟩
 |some n=>
  simp only [Option.isSome_some,Option.getD_some] at f2
  refine fh_of_body Tryz.func107 rfl rfl (by simp [Tryz.ntmps107]) fun C hC=> ?_
  simp only [initS,Nat.reduceAdd]
  repeat' first|refine yA1 o0 ?_|(refine zg o0 (f1) ?_)|refine zW o0 ?_|refine yP o0 ?_|refine yN o0 ?_|refine zC o0 (fun hb=>?_) fun hb=>?_|refine zG o0 (fun hb=>?_) fun hb=>?_|refine zD o0 (fun hb=>?_) fun hb=>?_
  refine xA fun g3 hn_g3=>?_
  repeat' first|refine yA1 hn_g3 ?_|(refine yC2 hn_g3 (f2) ?_)|(refine yD2 hn_g3 (f2) ?_)|(refine zg hn_g3 (f3) ?_)|refine zW hn_g3 ?_|refine yP hn_g3 ?_|refine yN hn_g3 ?_|refine zC hn_g3 (fun hb=>?_) fun hb=>?_|refine zG hn_g3 (fun hb=>?_) fun hb=>?_|refine zD hn_g3 (fun hb=>?_) fun hb=>?_
  ·have h0:s1.e≠0:=by simpa using hb
   refine aw_rethw (h':=[(g,rdO L s1)]) rfl (by first|exact List.Sublist.refl _|exact .cons _ (.refl _)|exact .cons _ (.cons _ (.refl _))|exact .cons _ (.cons _ (.cons _ (.refl _)))) fun R r=>?_;simp only[go_sem,hn_g3];refine r _ rfl ?_;clear r R
   rw [if_neg h0]
   exact⟨rfl,rfl⟩
  ·rename_i hb0
   have h0:s1.e=0:=by simpa using hb0
   have hn:n<0:=hb
   refine aw_rethw (h':=[(g,rdO L (failS 3 s1))]) rfl (by first|exact List.Sublist.refl _|exact .cons _ (.refl _)|exact .cons _ (.cons _ (.refl _))|exact .cons _ (.cons _ (.cons _ (.refl _)))) fun R r=>?_;simp only[go_sem,hn_g3];refine r _ rfl ?_;clear r R
   rw [if_pos h0]
   try dsimp only
   unfold failS
   rw [if_pos h0,if_neg om]
   exact⟨rfl,rfl⟩
  ·rename_i hb0 hb1
   have h0:s1.e=0:=by simpa using hb0
   have hn:n>1073741824:=hb
   refine aw_rethw (h':=[(g,rdO L (failS 3 s1))]) rfl (by first|exact List.Sublist.refl _|exact .cons _ (.refl _)|exact .cons _ (.cons _ (.refl _))|exact .cons _ (.cons _ (.cons _ (.refl _)))) fun R r=>?_;simp only[go_sem,hn_g3];refine r _ rfl ?_;clear r R
   rw [if_pos h0]
   try dsimp only
   unfold failS
   rw [if_pos h0,if_neg om]
   exact⟨rfl,rfl⟩
  ·rename_i hb0 hb1
   have h0:s1.e=0:=by simpa using hb0
   have h1:¬n<0:=hb1
   have h2:¬n>1073741824:=hb
   refine aw_rethw (h':=[(g,rdO L s1)]) rfl (by first|exact List.Sublist.refl _|exact .cons _ (.refl _)|exact .cons _ (.cons _ (.refl _))|exact .cons _ (.cons _ (.cons _ (.refl _)))) fun R r=>?_;simp only[go_sem,hn_g3];refine r _ rfl ?_;clear r R
   rw [if_pos h0]
   try dsimp only
   rw [if_pos om]
   exact⟨rfl,rfl⟩
theorem house_fg (g:Nat) (L:List TX) (s:PS) (hs:s.l<:+L.map TX.t) (hL:L.length≤1099511627776):Fg Tryz.prog 64 g (rdO L s) [.c (.optr g 0)] (.agg (hsc (houseS s).1)) (rdO L (houseS s).2):=by
 have f1:=word_fg g L s hs hL
 unfold houseS
 dsimp only
 have hs1:=(rdr_word.suf s).trans hs
 generalize hr:wordS s=r at*
 obtain⟨nm,s1⟩:=r
 dsimp only at*
 have f2:=is_fg g L s1 kOn hs1 hL
 have f3:=is_fg g L s1 kOff hs1 hL
 have f4:=take_fg g L s1 (isS s1 kOn||isS s1 kOff) hs1 hL
 have hs2:=((rdr_take fun s=>isS s kOn||isS s kOff).suf s1).trans hs1
 try dsimp only at hs2
 cases h1:isS s1 kOn with
 |true=>
  rw [h1] at f2 f4 hs2
  rw [Bool.true_or] at f4 hs2
  rw [Bool.true_or]
  generalize takeS true s1=r at*
  obtain⟨t,s2⟩:=r
  dsimp only at*
  have f6:=expect_fg g L s2 kSemi hs2 hL
  unfold Fg
  refine fh_of_body Tryz.func64 rfl rfl (by simp [Tryz.ntmps64]) fun C hC=> ?_
  simp only [initS,Nat.reduceAdd]
  repeat' first|refine yA1 o0 ?_|refine zW o0 ?_|refine yP o0 ?_|refine yN o0 ?_|refine zC o0 (fun hb=>?_) fun hb=>?_|refine zG o0 (fun hb=>?_) fun hb=>?_|refine zD o0 (fun hb=>?_) fun hb=>?_
  refine xA fun g2 hn_g2=>?_
  repeat' first|refine yA1 hn_g2 ?_|(refine zg hn_g2 (f1) ?_)|refine zW hn_g2 ?_|refine yP hn_g2 ?_|refine yN hn_g2 ?_|refine zC hn_g2 (fun hb=>?_) fun hb=>?_|refine zG hn_g2 (fun hb=>?_) fun hb=>?_|refine zD hn_g2 (fun hb=>?_) fun hb=>?_
  refine yA hn_g2 fun g3 hn_g3=>?_
  all_goals try(have Z:=(oj hn_g2 hn_g3);(repeat' first|refine yA1 Z ?_|(refine zg Z (f2) ?_)|(refine zg Z (f3) ?_)|(refine zg Z (f4) ?_)|(refine zg Z (f6) ?_)|refine zW Z ?_|refine yP Z ?_|refine yN Z ?_|refine zC Z (fun hb=>?_) fun hb=>?_|refine zG Z (fun hb=>?_) fun hb=>?_|refine zD Z (fun hb=>?_) fun hb=>?_);all_goals clear Z)
  refine aw_rethw (h':=[(g,rdO L (expS kSemi s2))]) rfl (by first|exact List.Sublist.refl _|exact .cons _ (.refl _)|exact .cons _ (.cons _ (.refl _))|exact .cons _ (.cons _ (.cons _ (.refl _)))) fun R r=>?_;simp only[go_sem,hn_g2,hn_g3];refine r _ rfl ?_;clear r R
  exact⟨rfl,rfl⟩
 |false=>
  rw [h1] at f2 f4 hs2
  rw [Bool.false_or] at f4 hs2
  rw [Bool.false_or]
  generalize takeS (isS s1 kOff) s1=r at*
  obtain⟨t,s2⟩:=r
  dsimp only at*
  have f6:=expect_fg g L s2 kSemi hs2 hL
  unfold Fg
  refine fh_of_body Tryz.func64 rfl rfl (by simp [Tryz.ntmps64]) fun C hC=> ?_
  simp only [initS,Nat.reduceAdd]
  repeat' first|refine yA1 o0 ?_|refine zW o0 ?_|refine yP o0 ?_|refine yN o0 ?_|refine zC o0 (fun hb=>?_) fun hb=>?_|refine zG o0 (fun hb=>?_) fun hb=>?_|refine zD o0 (fun hb=>?_) fun hb=>?_
  refine xA fun g2 hn_g2=>?_
  repeat' first|refine yA1 hn_g2 ?_|(refine zg hn_g2 (f1) ?_)|refine zW hn_g2 ?_|refine yP hn_g2 ?_|refine yN hn_g2 ?_|refine zC hn_g2 (fun hb=>?_) fun hb=>?_|refine zG hn_g2 (fun hb=>?_) fun hb=>?_|refine zD hn_g2 (fun hb=>?_) fun hb=>?_
  refine yA hn_g2 fun g3 hn_g3=>?_
  all_goals try(have Z:=(oj hn_g2 hn_g3);(repeat' first|refine yA1 Z ?_|(refine zg Z (f2) ?_)|(refine zg Z (f3) ?_)|(refine zg Z (f4) ?_)|(refine zg Z (f6) ?_)|refine zW Z ?_|refine yP Z ?_|refine yN Z ?_|refine zC Z (fun hb=>?_) fun hb=>?_|refine zG Z (fun hb=>?_) fun hb=>?_|refine zD Z (fun hb=>?_) fun hb=>?_);all_goals clear Z)
  refine aw_rethw (h':=[(g,rdO L (expS kSemi s2))]) rfl (by first|exact List.Sublist.refl _|exact .cons _ (.refl _)|exact .cons _ (.cons _ (.refl _))|exact .cons _ (.cons _ (.cons _ (.refl _)))) fun R r=>?_;simp only[go_sem,hn_g2,hn_g3];refine r _ rfl ?_;clear r R
  exact⟨rfl,rfl⟩
end Go.Proofs.YteocnikcjjonbaaGreat
namespace Go.AI
section
variable {E : Env} {K : List It} {l : List Oper} {FP FP' : Heap} {σ σ' : Sl} {h : Heap} {o : Oper} {i m : Nat} {cs : List (Nat × Nat)}
theorem cw_buildSlice {t e size bytes len:Nat} {xs:List Operand} {cells:List CV} (ho:l[i]?=some o) (hop:o.op=.buildSlice t len (enumO 0 xs).toArray) (hw:wantA l σ o=some true) (hd:dstOk E.N o.dst=true) (ht:tElem E.P t=some (e,size,bytes))
  (hz:(tZero E.P e).isSome=true) (hl:xs.length=len) (hsm:len*size≤16777216) (hlm:len≤16777216) (hx:∀x∈xs,(ev σ x).flat=true∧(ev σ x).cells.all CV.solid=true∧(ev σ x).cells.length=size) (hc:(xs.map (ev σ)).flatMap AV.cells=cells) (hops:∀x∈xs,x∈o.op.operands) (hFP:Has0 FP' h)
  (k:∀g,g∉h.keys→CW E l K FP' cs (σ.setO o.dst (.c (.osl g size 0 len))) ((g,.cells e (len*size) (ofL cells))::h)) (hm:m=2∨m=1∧FP'=FP:=by first|exact .inl rfl|exact .inr ⟨rfl,rfl⟩):CW E l K FP ((i,m)::cs) σ h:=by
 refine .pin ho hm (R:=fun r h2=>∃g,g∉h.keys∧r=.c (.osl g size 0 len)∧h2=(g,.cells e (len*size) (ofL cells))::h) (fun σ' K hs=> ?_) ?_ ?_
 ·have he:∀x∈xs,ev σ' x=ev σ x:=fun x hxx=>ev_same (hops x hxx) hs
  exact aw_buildSlice hop ((want_same hs).trans hw) hd ht hz hl hsm hlm (fun x hxx=>by rw [he x hxx];exact hx x hxx) (by rw [List.map_congr_left he];exact hc) fun g hg=>aw_ops_nil (aw_stop ⟨_,⟨g,hg,rfl,rfl⟩,rfl⟩)
 ·rintro r h2 ⟨g,_,_,rfl⟩;exact fun p hp=>List.mem_cons_of_mem _ (hFP p hp)
 ·rintro r h2 ⟨g,hg,rfl,rfl⟩;exact k g hg
theorem cw_push {t e size bytes n d1 s gt:Nat} {z:List CV} {og:Option Nat} {f f':Nat→CV} {pre:Heap} {v:AV} (ho:l[i]?=some o) (hop2:o.op=.call {callee:=.builtin .append,args:= #[.tmp s,.tmp d1],argTypes:= #[t,t]})
  (hg2:o.guard=none) (hd2:dstOk E.N o.dst=true)
  (ht:tElem E.P t=some (e,size,bytes)) (hz:tZero E.P e=some z) (hzl:z.length=size) (hs0:0<size) (hsz:size≤16777216)
  (hevs:ev σ (.tmp s)=.c (gs og size n)) (hev1:ev σ (.tmp d1)=.c (.osl gt size 0 1)) (hog:og=none→n=0) (hok:okPart v=true) (hvl:v.cells.length=size) (hh:h=(gt,.cells e (1*size) (ofL v.cells))::(pre++gh og e (n*size) f))
  (h63:n+1≤maxLen) (hby:(n+1)*bytes≤140737488355328) (hf:∀j,j<(n+1)*size→appF f (n*size) (ofL v.cells) j=f' j) (hFP:Has0 FP' ((gt,.cells e (1*size) (ofL v.cells))::pre))
  (k:∀g',g'∉Heap.keys ((gt,.cells e (1*size) (ofL v.cells))::pre)→CW E l K FP' cs (σ.setO o.dst (.c (gs (some g') size (n+1)))) ((gt,.cells e (1*size) (ofL v.cells))::(pre++gh (some g') e ((n+1)*size) f')))
  (hm:m=2∨m=1∧FP'=FP:=by first|exact .inl rfl|exact .inr ⟨rfl,rfl⟩):CW E l K FP ((i,m)::cs) σ h:=by
 subst hh
 obtain⟨ok1,ok2⟩:=okPart_spec hok
 refine .pin ho hm (R:=fun r h2=>∃g',g'∉Heap.keys ((gt,.cells e (1*size) (ofL v.cells))::pre)∧r=.c (gs (some g') size (n+1))∧h2=(gt,.cells e (1*size) (ofL v.cells))::(pre++gh (some g') e ((n+1)*size) f')) (fun σ' K hs=> ?_) ?_ ?_
 ·have hw2:∀σ2,wantA l σ2 o=some true:=fun σ2=>by unfold wantA;rw [hg2]
  have hevs':ev σ' (.tmp s)=.c (gs og size n):=(ev_same (by rw [hop2];simp [Op.operands,Call.operands]) hs).trans hevs
  have hev1':ev σ' (.tmp d1)=.c (.osl gt size 0 1):=(ev_same (by rw [hop2];simp [Op.operands,Call.operands]) hs).trans hev1
  have hsrc:∀h0:Heap,Src ((gt,.cells e (1*size) (ofL v.cells))::h0) size (.osl gt size 0 1) 1 (ofL v.cells):=fun h0=>by
   refine .osl (f':=ofL v.cells) (m:=1*size) (ty:=e) (by simp [Heap.get]) om (fun j _=>by rw [Nat.zero_add])
  cases og with
  |none=>
   have hn0:n=0:=hog rfl
   subst hn0
   refine aw_appendN (cx:=.osl gt size 0 1) (k:=1) (f2:=ofL v.cells) hop2 (hw2 _) hd2 ht hz hzl hs0 hevs' hev1' (hsrc _) om om om fun g' hg'=> ?_
   refine aw_conv1 (f':=f') (fun j hj=> ?_) ?_
   ·have:=hf j om
    rw [←this];simp [appF]
   ·have hnew:g'∉Heap.keys ((gt,.cells e (1*size) (ofL v.cells))::pre):=fun hm=>hg' (by simpa [gh] using hm)
    refine aw_perm (h':=(gt,.cells e (1*size) (ofL v.cells))::(pre++[(g',.cells e (1*size) f')])) ?_ ?_
    ·have:(pre++gh none e (0*size) f)=pre:=by simp [gh]
     rw [this]
     refine(List.Perm.swap _ _ _).trans (List.Perm.cons _ ?_)
     exact(List.perm_append_singleton _ _).symm
    ·exact aw_ops_nil (aw_stop ⟨_,⟨g',hnew,rfl,by simp [gh]⟩,rfl⟩)
  |some g=>
   refine aw_nd fun hnd=> ?_
   have hnp:g∉pre.keys:=fun hm=>by
    simp only [Heap.keys,gh,List.map_cons,List.map_append,List.map_nil,List.nodup_cons] at hnd
    have:=(List.nodup_append.1 hnd.2).2.2 g hm g (by simp)
    exact this rfl
   have hgtg:gt≠g:=fun e=>by
    subst e
    simp [Heap.keys,gh] at hnd
   refine aw_append (cx:=.osl gt size 0 1) (k:=1) (f2:=ofL v.cells) (g:=g) (m:=n*size) (f:=f) (h2:=(gt,.cells e (1*size) (ofL v.cells))::pre) hop2 (hw2 _) hd2 ht hz hzl hs0 hevs' ?_ (Nat.le_refl _) hev1' (hsrc _) ?_ om h63 hby ?_ fun g' hg'=> ?_
   ·show Heap.get ((gt,_)::(pre++[(g,_)])) g=_
    simp only [Heap.get,if_neg hgtg]
    exact Heap.get_app hnp
   ·intro j hj
    have hjl:j<v.cells.length:=by omega
    rw [ofL_get v.cells j v.cells[j] (List.getElem?_eq_getElem hjl)]
    exact List.all_eq_true.1 ok2 _ (List.getElem_mem hjl)
   ·show Heap.del ((gt,_)::(pre++[(g,_)])) g=_
    rw [Heap.del_ne hgtg,Heap.del_app hnp]
   ·refine aw_conv1 (f':=f') hf ?_
    refine aw_perm (h':=(gt,.cells e (1*size) (ofL v.cells))::(pre++[(g',.cells e ((n+1)*size) f')])) ?_ ?_
    ·refine(List.Perm.swap _ _ _).trans (List.Perm.cons _ ?_)
     exact(List.perm_append_singleton _ _).symm
    ·exact aw_ops_nil (aw_stop ⟨_,⟨g',hg',rfl,rfl⟩,rfl⟩)
 ·rintro r h2 ⟨g',_,_,rfl⟩
  intro p hp
  rcases List.mem_cons.1 (hFP p hp) with e|hm
  ·exact e▸List.mem_cons_self ..
  ·exact List.mem_cons_of_mem _ (List.mem_append_left _ hm)
 ·rintro r h2 ⟨g',hg,rfl,rfl⟩;exact k g' hg
end
end Go.AI
namespace Go.AI
section
variable {E : Env} {K : List It} {l : List Oper} {FP : Heap} {σ σ' : Sl} {h : Heap} {o : Oper} {i : Nat} {cs : List (Nat × Nat)}
theorem cw_cg {f:FuncId} {xs:List Operand} {ts:Array TypeId} {g:Nat} {ob ob':AObj} {args:List AV} {r:AV} (ho:l[i]?=some o) (hf:Fg E.P f g ob args r ob') (hop:o.op=.call {callee:=.value (.func f),args:=xs.toArray,argTypes:=ts}) (hw:wantA l σ o=some true) (hd:dstOk E.N o.dst=true)
  (hg:h.get g=some ob) (le:LeA [] (xs.map (ev σ)) args) (hFP:Has0 FP (h.set g ob')) (k:CW E l K FP cs (σ.setO o.dst r) (h.set g ob')):CW E l K FP ((i,1)::cs) σ h:=by
 refine cw_callh (hc:=[(g,ob)]) (hr:=h.del g) ho hf hop hw hd (Heap.get_perm hg) le ?_ ?_ (hm:=.inr ⟨rfl,rfl⟩)
 ·rintro _ _ ⟨rfl,rfl⟩
  exact fun p hp=>(Heap.set_perm (ob':=ob') hg).mem_iff.1 (hFP p hp)
 ·rintro _ _ ⟨rfl,rfl⟩ _
  exact cw_perm (Heap.set_perm hg).symm k
end
end Go.AI
namespace Go.PN
open Go.AI
theorem kd_true {s:PS} {L:List TX} (hs:s.l<:+L.map TX.t) (h:kindS s 0=true):s.e=0∧L.length-s.l.length<L.length∧(L.getD (L.length-s.l.length) tx0).t.text=hdT s:=by
 have hr:=rat hs
 unfold kindS at h
 simp only [Bool.and_eq_true,decide_eq_true_eq] at h
 refine⟨h.1,?_⟩
 by_cases hl:L.length-s.l.length<L.length
 ·obtain⟨l,h1,_⟩:=hr.cons hl
  refine⟨hl,?_⟩
  have h2:hdT s=(L.getD (L.length-s.l.length) tx0).t.text:=hd_cons h1
  rw [h2]
 ·have:=hr.nil hl
  rw [this] at h
  simp at h
def gtV (k:Option Int) (s:PS):Int×PS:=if k=some 2 then wholeS s else(0,s)
def gtD (k:Option Int) (s:PS):RD×PS:=if k=some 7 then numS (gtV k s).2 else(rd0,(gtV k s).2)
theorem gtD_suf (k:Option Int) (s:PS):(gtD k s).2.l<:+s.l:=by
 have h1:(gtV k s).2.l<:+s.l:=by
  unfold gtV;split
  ·exact rdr_whole.suf s
  ·exact List.suffix_refl _
 unfold gtD;split
 ·exact(rdr_num.suf _).trans h1
 ·exact h1
theorem suf_word {L:List TX} {s:PS} (hs:s.l<:+L.map TX.t):(wordS s).2.l<:+L.map TX.t:=(rdr_word.suf s).trans hs
end Go.PN
namespace Go.AI
open Go.PN
theorem strs_push {xs:List BS} {n:Nat} (hn:xs.length=n) (t:BS):∀j,j<(n+1)*1→appF (strsF xs) (n*1) (ofL (stc t)) j=strsF (xs++[t]) j:=lf_push (s:=1) (c:=stc) (d:=([]:BS)) hn t (by decide)
end Go.AI
namespace Go.Proofs.YteocnikcjjonbaaGreat
open Go.AI Go.PN
theorem conv_gate {a b c:CV}:∀j,j<7→∀(S:Bool→Nat→Prop) w u,RepC S w (ofL [a,b,c,.nils,.bool false,.nils,.nils] j) u→RepC S w (ofL ([a,b,c,.nils]++rdc rd0) j) u:=fun j hj S w u hr=>by
 match j,hj with
 |0,_=>exact hr
 |1,_=>exact hr
 |2,_=>exact hr
 |3,_=>exact hr
 |4,_=>exact hr
 |5,_=>exact repC_nil hr
 |6,_=>exact repC_nil hr
attribute [local irreducible] aw Fa Fh DrK
theorem gate_fg (g:Nat) (L:List TX) (s:PS) (hs:s.l<:+L.map TX.t) (hL:L.length≤1048576) (hw:∀t∈L,t.t.text.length≤1099511627776):Fg Tryz.prog 58 g (rdO L s) [.c (.optr g 0)] (.agg (gtc (gateS s).1)) (rdO L (gateS s).2):=by
 have f1:=word_fg g L s hs om
 have hs1:=suf_word hs
 rw [gateS_eq]
 unfold PN.bnd
 generalize wordS s=r at*
 obtain⟨nm,s1⟩:=r
 dsimp only at*
 have f2:=kind_fg g L s1 0 hs1 om
 have f3:=take_fg g L s1 (kdS s1).isSome hs1 om
 have hs2:=(rdr_gk.suf s1).trans hs1
 have hg1:(gkS s1).1=kdS s1:=rfl
 have hg2:(gkS s1).2=(takeS (kdS s1).isSome s1).2:=rfl
 rw [hg1]
 rw [←hg2] at f3
 generalize (gkS s1).2=s2 at*
 generalize (takeS (kdS s1).isSome s1).1=tw at*
 unfold Fg
 refine fh_of_body Tryz.func58 rfl rfl (by simp [Tryz.ntmps58]) fun C hC=> ?_
 simp only [initS,Nat.reduceAdd]
 apply wa1
 apply wa6
 refine xA fun g2 hn_g2=>?_
 refine yH hn_g2 ?_
 apply wa1
 apply wa6
 refine yH hn_g2 ?_
 refine aw_cg f1 rfl rfl rfl (zE hn_g2) (zL2 o0) ?_
 refine yS hn_g2 ?_
 refine yH hn_g2 ?_
 refine yA hn_g2 fun g3 hn_g3=>?_
 have J1:=oj hn_g2 hn_g3
 refine yW J1 ?_
 refine yS J1 ?_
 refine yH J1 ?_
 apply wa1
 apply wa6
 refine yH J1 ?_
 apply wa1
 refine aw_cut (fun _:Unit=>[(0,.c (.optr g 0)),(2,.c (.optr g2 0)),(3,.c (.optr g3 0)),(4,.c (.bool (kdS s1).isSome))]) (fun _=>[(g3,.cells 65 7 (ofL [.str (sB nm),.int .i64 ((kdS s1).getD 0),.int .i64 0,.nils,.bool false,.nils,.nils])),(g2,.cells 65 7 (ofL [.str (sB []),.int .i64 0,.int .i64 0,.nils,.bool false,.nils,.nils])),(g,rdO L s1)]) (fun _=>1=1) ?_ ?_
 ·all_goals try(have Z:=J1;(repeat' first|refine yA1 Z ?_|(refine zg Z (f2) ?_)|refine zW Z ?_|refine yP Z ?_|refine yN Z ?_|refine zC Z (fun hb=>?_) fun hb=>?_|refine zG Z (fun hb=>?_) fun hb=>?_|refine zD Z (fun hb=>?_) fun hb=>?_);all_goals clear Z)
  ·obtain⟨h0,h1,h2⟩:=kd_true hs1 hb
   have hk:kdS s1=gkind (hdT s1):=by unfold kdS;rw [if_pos hb]
   have hgk:=gkind_fa (hdT s1)
   rw [←hk] at hgk
   refine aw_cw ([(g3,.cells 65 7 (ofL [.str (sB nm),.int .i64 0,.int .i64 0,.nils,.bool false,.nils,.nils])),(g,rdO L s1)]) [(0,0),(1,0),(2,0),(3,0),(4,0),(5,0),(6,0),(7,0),(8,0),(9,0),(10,0),(11,0),(12,0),(13,0),(15,0),(14,3),(16,2),(17,0)] ty_mixed (by kernel_rfl) eI ?_
   have J2:=oj hn_g2 (oj hn_g3 h2)
   refine yG J2 ?_
   refine cw_callq rfl hgk rfl rfl rfl (fun _ _=>(zL J2)) ?_
   refine ySG J2 ?_
   iterate 1 (refine wc3 rfl rfl fun R r=> ?_;simp only [go_sem,hn_g2,hn_g3,h2];with_reducible show R (some _);with_reducible refine r _ _ ?_;clear r R)
   have J3:=oj hn_g2 (oj hn_g3 h2)
   refine yS J3 ?_
   refine cw_store (FP':=[]) rfl rfl rfl rfl rfl (zE J3) (zE J3) (zE J3) (zE J3) (fun _ e=>by cases e) rfl rfl (show 2≤7 from by omega) rfl has0_nil ?_
   refine ySG J3 ?_
   refine aw_stop ⟨(),?_⟩
   and_intros<;>first|rfl|exact List.Sublist.refl _|exact True.intro
  ·have hk:kdS s1=none:=by unfold kdS;rw [if_neg (by rw [hb];decide)]
   rw [hk]
   refine aw_stop ⟨(),?_⟩
   and_intros<;>first|rfl|exact List.Sublist.refl _|exact True.intro
 rintro _ _
 apply wa1
 apply wa6
 have J4:=oj hn_g2 hn_g3
 refine yH J4 ?_
 refine aw_cg f3 rfl rfl rfl (zE J4) (zL2 o0) ?_
 refine yS J4 ?_
 refine yH J4 ?_
 apply wa1
 refine aw_cut (fun _:Unit=>[(0,.c (.optr g 0)),(2,.c (.optr g2 0)),(3,.c (.optr g3 0))]) (fun _=>[(g3,.cells 65 7 (ofL ([.str (sB nm),.int .i64 ((kdS s1).getD 0),.int .i64 (gtV (kdS s1) s2).1,.nils]++rdc (gtD (kdS s1) s2).1))),(g2,.cells 65 7 (ofL [.str (sB []),.int .i64 0,.int .i64 0,.nils,.bool false,.nils,.nils])),(g,rdO L (gtD (kdS s1) s2).2)]) (fun _=>1=1) ?_ ?_
 ·have f4:=whole_fg g L s2 hs2 om hw
  have f5:=number_fg g L s2 hs2 om hw
  by_cases k2:kdS s1=some 2
  ·have hv:gtV (kdS s1) s2=wholeS s2:=by unfold gtV;rw [if_pos k2]
   have hd:gtD (kdS s1) s2=(rd0,(wholeS s2).2):=by unfold gtD;rw [if_neg (by rw [k2];decide),hv]
   rw [hv,hd,k2]
   all_goals try(have Z:=J4;(repeat' first|refine yA1 Z ?_|(refine zg Z (f4) ?_)|refine zW Z ?_|refine yP Z ?_|refine yN Z ?_|refine zC Z (fun hb=>?_) fun hb=>?_|refine zG Z (fun hb=>?_) fun hb=>?_|refine zD Z (fun hb=>?_) fun hb=>?_);all_goals clear Z)
   refine aw_convR (f':=ofL ([.str (sB nm),.int .i64 2,.int .i64 (wholeS s2).1,.nils]++rdc rd0)) conv_gate ?_
   refine aw_stop ⟨(),?_⟩
   and_intros<;>first|rfl|exact List.Sublist.refl _|exact True.intro
  by_cases k7:kdS s1=some 7
  ·have hv:gtV (kdS s1) s2=(0,s2):=by unfold gtV;rw [if_neg k2]
   have hd:gtD (kdS s1) s2=numS s2:=by unfold gtD;rw [if_pos k7,hv]
   rw [hv,hd,k7]
   all_goals try(have Z:=J4;(repeat' first|refine yA1 Z ?_|(refine zg Z (f5) ?_)|refine zW Z ?_|refine yP Z ?_|refine yN Z ?_|refine zC Z (fun hb=>?_) fun hb=>?_|refine zG Z (fun hb=>?_) fun hb=>?_|refine zD Z (fun hb=>?_) fun hb=>?_);all_goals clear Z)
   refine aw_stop ⟨(),?_⟩
   and_intros<;>first|rfl|exact List.Sublist.refl _|exact True.intro
  ·have hv:gtV (kdS s1) s2=(0,s2):=by unfold gtV;rw [if_neg k2]
   have hd:gtD (kdS s1) s2=(rd0,s2):=by unfold gtD;rw [if_neg k7,hv]
   have n2:((kdS s1).getD 0==(2:Int))=false:=by
    cases hk:kdS s1 with
    |none=>rfl
    |some v=>simp only [Option.getD_some];rw [beq_eq_false_iff_ne];intro e;exact k2 (by rw [hk,e])
   have n7:((kdS s1).getD 0==(7:Int))=false:=by
    cases hk:kdS s1 with
    |none=>rfl
    |some v=>simp only [Option.getD_some];rw [beq_eq_false_iff_ne];intro e;exact k7 (by rw [hk,e])
   rw [hv,hd]
   all_goals try(have Z:=(oj hn_g2 (oj hn_g3 (oj n2 n7)));(repeat' first|refine yA1 Z ?_|refine zW Z ?_|refine yP Z ?_|refine yN Z ?_|refine zC Z (fun hb=>?_) fun hb=>?_|refine zG Z (fun hb=>?_) fun hb=>?_|refine zD Z (fun hb=>?_) fun hb=>?_);all_goals clear Z)
   refine aw_convR (f':=ofL ([.str (sB nm),.int .i64 ((kdS s1).getD 0),.int .i64 0,.nils]++rdc rd0)) conv_gate ?_
   refine aw_stop ⟨(),?_⟩
   and_intros<;>first|rfl|exact List.Sublist.refl _|exact True.intro
 rintro _ _
 have hs3:(gtD (kdS s1) s2).2.l<:+L.map TX.t:=(gtD_suf _ _).trans hs2
 have hsp:gtK nm (kdS s1) s2=(⟨nm,(kdS s1).getD 0,(gtV (kdS s1) s2).1,(insS (gtD (kdS s1) s2).2).1,(gtD (kdS s1) s2).1⟩,(insS (gtD (kdS s1) s2).2).2):=rfl
 rw [hsp]
 generalize gtV (kdS s1) s2=v at*
 generalize gtD (kdS s1) s2=d at*
 generalize (kdS s1).getD 0=kd at*
 obtain⟨d,s3⟩:=d
 obtain⟨v,s3'⟩:=v
 dsimp only at*
 clear f1 f2 f3 hg1 hg2 hs2 hs1 J4
 unfold insS
 dsimp only
 generalize hF:lpS (fun s=> !isS s kSemi) inB [] s3=F at*
 apply wa1
 refine aw_cut (fun _:Nat×Option Nat=>[(0,.c (.optr g 0)),(2,.c (.optr g2 0)),(3,.c (.optr g3 0))]) (fun x=>[(g3,.cells 65 7 (ofL ([.str (sB nm),.int .i64 kd,.int .i64 v,gs x.2 1 x.1]++rdc d))),(g2,.cells 65 7 (ofL [.str (sB []),.int .i64 0,.int .i64 0,.nils,.bool false,.nils,.nils])),(g,rdO L F.2)]++gh x.2 9 x.1 (strsF F.1)) (fun x=>F.1.length=x.1∧(x.2=none→x.1=0)) ?_ ?_
 ·apply wa2
  refine aw_lp (fun _:PS×List BS×Nat×Option Nat=>[(0,.c (.optr g 0)),(2,.c (.optr g2 0)),(3,.c (.optr g3 0))]) (fun x=>[(g3,.cells 65 7 (ofL ([.str (sB nm),.int .i64 kd,.int .i64 v,gs x.2.2.2 1 x.2.2.1]++rdc d))),(g2,.cells 65 7 (ofL [.str (sB []),.int .i64 0,.int .i64 0,.nils,.bool false,.nils,.nils])),(g,rdO L x.1)]++gh x.2.2.2 9 x.2.2.1 (strsF x.2.1))
   (fun x=>x.1.l<:+L.map TX.t∧x.2.1.length=x.2.2.1∧(x.2.2.2=none→x.2.2.1=0)∧x.2.2.1+mS x.1≤1048577∧lpS (fun s=> !isS s kSemi) inB x.2.1 x.1=F) (fun x=>mS x.1) (s3,[],0,none) (zB (oj hn_g2 hn_g3)) zZ ⟨hs3,rfl,fun _=>rfl,?_,hF⟩ ?_
  ·have:=hs3.length_le
   rw [List.length_map] at this
   dsimp only
   unfold mS
   split<;>omega
  rintro ⟨sx,xs,n,og⟩ ⟨hsx,hn,hog,hm,hlp⟩
  dsimp only at hsx hn hog hm hlp⊢
  have f2:=is_fg g L sx kSemi hsx om
  have f4:=input_fg g L sx hsx om hw
  all_goals try(have Z:=(oj hn_g2 hn_g3);(repeat' first|refine yA1 Z ?_|(refine zg Z (f2) ?_)|refine zW Z ?_|refine yP Z ?_|refine yN Z ?_|refine zC Z (fun hb=>?_) fun hb=>?_|refine zG Z (fun hb=>?_) fun hb=>?_|refine zD Z (fun hb=>?_) fun hb=>?_);all_goals clear Z)
  ·rename_i h0
   have hc:(!isS sx kSemi)=true:=hb
   have hst:=lpS_step (c:=fun s=> !isS s kSemi) (b:=inB) (a:=xs) (fun a s h _=>con_inB a s h) h0 hc
   have hlt:=con_inB xs sx h0
   rw [hst] at hlp
   have hsy:(inB xs sx).2.l<:+L.map TX.t:=((rdr_inB xs).suf sx).trans hsx
   have e1:(inB xs sx).1=xs++[(inputS sx).1]:=rfl
   have e2:(inB xs sx).2=(inputS sx).2:=rfl
   rw [e2] at hlt hsy
   rw [e1,e2] at hlp
   generalize inputS sx=y at*
   obtain⟨t,sy⟩:=y
   dsimp only at*
   refine aw_cw ([(g3,.cells 65 7 (ofL (.str (sB nm)::.int .i64 kd::.int .i64 v::gs og 1 n::rdc d)))]) [(0,0),(1,0),(2,0),(3,1),(4,1),(5,1),(6,0),(7,2)] ty_mixed (by kernel_rfl) eI ?_
   have J5:=oj hn_g2 hn_g3
   refine yG J5 ?_
   refine cw_cg rfl f4 rfl rfl rfl (zE J5) (zL J5) (by refine yS J5 ?_;exact has0_cons (List.mem_cons_self ..) has0_nil) ?_
   refine ySG J5 ?_
   refine cw_buildSlice (xs:=[.tmp 54]) (cells:=[.str (sB t)]) rfl rfl rfl rfl (zE J5) (by refine yS J5 ?_;rfl) rfl om om (by intro x hx;simp only [List.mem_singleton] at hx;subst hx;exact⟨rfl,rfl,rfl⟩) rfl (by simp [Op.operands]) (has0_cons (List.mem_cons_self ..) has0_nil) (fun ga hn_ga=> ?_) (hm:=.inr ⟨rfl,rfl⟩)
   refine yS J5 ?_
   refine cw_push (pre:=[(g3,.cells 65 7 (ofL (.str (sB nm)::.int .i64 kd::.int .i64 v::gs og 1 n::rdc d))),(g2,.cells 65 7 (ofL [.str (sB []),.int .i64 0,.int .i64 0,.nils,.bool false,.nils,.nils])),(g,rdO L sy)]) (og:=og) (n:=n) (s:=52) (d1:=55) (gt:=ga) (v:=.c (.str (sB t))) rfl rfl rfl rfl (zE J5) (zE J5) (by rfl) om om (zE J5) (zE J5) hog (by rfl) (by rfl) (by simp only [Nat.mul_one,List.cons_append,List.nil_append];rfl) (by unfold maxLen;omega) om (strs_push hn t) (has0_skip (has0_cons (List.mem_cons_self ..) has0_nil)) (fun gb hn_gb=> ?_) (hm:=.inr ⟨rfl,rfl⟩)
   replace hn_ga:=Heap.ne_of hn_ga
   simp only [Heap.ne] at hn_ga
   have J6:=oj hn_g2 (oj hn_g3 hn_ga)
   refine ySG J6 ?_
   refine cw_store (FP':=[]) rfl rfl rfl rfl rfl (zE J6) (zE J6) (zE J6) (zE J6) (fun _ e=>by cases e) rfl rfl (show 4≤7 from by omega) rfl has0_nil ?_
   refine ySG J6 ?_
   refine aw_stop ⟨(sy,xs++[t],n+1,some gb),?_⟩
   refine⟨hlt,?_⟩
   and_intros
   all_goals first|rfl|exact List.Sublist.cons _ (List.Sublist.refl _)|exact True.intro|exact hsy|exact some_ne|exact hlp|(dsimp only;rw [List.length_append,hn];rfl)|(dsimp only;omega)
  ·have hc:¬(sx.e=0∧(!isS sx kSemi)=true):=fun z=>by rw [hb] at z;exact absurd z.2 (by decide)
   rw [lpS_end hc] at hlp
   subst hlp
   refine aw_stop ⟨(n,og),?_⟩
   and_intros<;>first|rfl|exact List.Sublist.refl _|exact True.intro|exact hn|exact hog
  ·have hc:¬(sx.e=0∧(!isS sx kSemi)=true):=fun z=>hb z.1
   rw [lpS_end hc] at hlp
   subst hlp
   refine aw_stop ⟨(n,og),?_⟩
   and_intros<;>first|rfl|exact List.Sublist.refl _|exact True.intro|exact hn|exact hog
 rintro ⟨n,og⟩ ⟨hn,hog⟩
 dsimp only at hn hog⊢
 have hs4:F.2.l<:+L.map TX.t:=by
  rw [←hF];exact((rdr_lp rdr_inB []).suf s3).trans hs3
 have f6:=expect_fg g L F.2 kSemi hs4 om
 subst hn
 refine aw_nd fun hnd=> ?_
 have hog2:∀q,og=some q→¬C.own0 q:=fun q hq hown=>by
  subst hq
  have:q=g:=by simpa [Heap.keys] using (hC q).1 hown
  subst this
  simp [Heap.keys,gh] at hnd
 refine aw_perm (h':=(g3,.cells 65 7 (ofL (.str (sB nm)::.int .i64 kd::.int .i64 v::gs og 1 F.1.length::rdc d)))::(gh og 9 (F.1.length*1) (strsF F.1)++[(g2,.cells 65 7 (ofL [.str (sB []),.int .i64 0,.int .i64 0,.nils,.bool false,.nils,.nils])),(g,rdO L F.2)])) (by rw [Nat.mul_one];exact .cons _ (List.perm_append_comm (l₁:=[(g2,.cells 65 7 (ofL [.str (sB []),.int .i64 0,.int .i64 0,.nils,.bool false,.nils,.nils])),(g,rdO L F.2)]))) ?_
 refine aw_frzG (j0:=3) (n:=F.1.length) (s:=1) (f':=ofL (.str (sB nm)::.int .i64 kd::.int .i64 v::strs true F.1::rdc d)) rfl rfl (fun j hj hj3=>by
  match j,hj,hj3 with
  |0,_,_=>rfl
  |1,_,_=>rfl
  |2,_,_=>rfl
  |4,_,_=>rfl
  |5,_,_=>rfl
  |6,_,_=>rfl) hog hog2 ?_
 all_goals try(have Z:=(oj hn_g2 hn_g3);(repeat' first|refine yA1 Z ?_|(refine zg Z (f6) ?_)|refine zW Z ?_|refine yP Z ?_|refine yN Z ?_|refine zC Z (fun hb=>?_) fun hb=>?_|refine zG Z (fun hb=>?_) fun hb=>?_|refine zD Z (fun hb=>?_) fun hb=>?_);all_goals clear Z)
 refine aw_rethw (h':=[(g,rdO L (expS kSemi F.2))]) rfl (by first|exact List.Sublist.refl _|exact .cons _ (.refl _)|exact .cons _ (.cons _ (.refl _))|exact .cons _ (.cons _ (.cons _ (.refl _)))) fun R r=>?_;simp only[go_sem,hn_g2,hn_g3];refine r _ rfl ?_;clear r R
 exact⟨rfl,rfl⟩
end Go.Proofs.YteocnikcjjonbaaGreat
namespace Go.AI
open Go.PN
theorem gts_push {xs:List GtD} {n:Nat} (hn:xs.length=n) (t:GtD):∀j,j<(n+1)*7→appF (gtsF xs) (n*7) (ofL (gtc t)) j=gtsF (xs++[t]) j:=lf_push (s:=7) (c:=gtc) (d:=(gt0:GtD)) hn t (by decide)
end Go.AI
namespace Go.Proofs.YteocnikcjjonbaaGreat
open Go.AI Go.PN
attribute [local irreducible] aw Fa Fh DrK
theorem page_fg (g:Nat) (L:List TX) (s:PS) (hs:s.l<:+L.map TX.t) (hL:L.length≤1048576) (hw:∀t∈L,t.t.text.length≤1099511627776):Fg Tryz.prog 65 g (rdO L s) [.c (.optr g 0)] (.agg (pgc (pageS s).1)) (rdO L (pageS s).2):=by
 have f1:=word_fg g L s hs om
 have hs1:=suf_word hs
 unfold pageS
 dsimp only
 generalize wordS s=r at*
 obtain⟨nm,s1⟩:=r
 dsimp only at*
 have f2:=expect_fg g L s1 kTop hs1 om
 have hs2:(expS kTop s1).l<:+L.map TX.t:=((rdr_exp kTop).suf s1).trans hs1
 generalize expS kTop s1=s2 at*
 have f3:=input_fg g L s2 hs2 om hw
 have hs3:=(rdr_input.suf s2).trans hs2
 generalize inputS s2=r at*
 obtain⟨tp,s3⟩:=r
 dsimp only at*
 have f4:=expect_fg g L s3 kOpen hs3 om
 have hs4:(expS kOpen s3).l<:+L.map TX.t:=((rdr_exp kOpen).suf s3).trans hs3
 generalize expS kOpen s3=s4 at*
 generalize hF:lpS (fun s=> !isS s kClose) pgB [] s4=F at*
 unfold Fg
 refine fh_of_body Tryz.func65 rfl rfl (by simp [Tryz.ntmps65]) fun C hC=> ?_
 simp only [initS,Nat.reduceAdd]
 repeat' first|refine yA1 o0 ?_|refine zW o0 ?_|refine yP o0 ?_|refine yN o0 ?_|refine zC o0 (fun hb=>?_) fun hb=>?_|refine zG o0 (fun hb=>?_) fun hb=>?_|refine zD o0 (fun hb=>?_) fun hb=>?_
 refine xA fun g2 hn_g2=>?_
 repeat' first|refine yA1 hn_g2 ?_|(refine zg hn_g2 (f1) ?_)|refine zW hn_g2 ?_|refine yP hn_g2 ?_|refine yN hn_g2 ?_|refine zC hn_g2 (fun hb=>?_) fun hb=>?_|refine zG hn_g2 (fun hb=>?_) fun hb=>?_|refine zD hn_g2 (fun hb=>?_) fun hb=>?_
 refine yA hn_g2 fun g3 hn_g3=>?_
 all_goals try(have Z:=(oj hn_g2 hn_g3);(repeat' first|refine yA1 Z ?_|(refine zg Z (f2) ?_)|(refine zg Z (f3) ?_)|refine zW Z ?_|refine yP Z ?_|refine yN Z ?_|refine zC Z (fun hb=>?_) fun hb=>?_|refine zG Z (fun hb=>?_) fun hb=>?_|refine zD Z (fun hb=>?_) fun hb=>?_);all_goals clear Z)
 refine aw_cg f4 rfl rfl rfl (zE (oj hn_g2 hn_g3)) (zL2 o0) ?_
 have J1:=oj hn_g2 hn_g3
 refine yS J1 ?_
 refine yH J1 ?_
 apply wa1
 refine aw_cut (fun _:Nat×Option Nat=>[(0,.c (.optr g 0)),(2,.c (.optr g2 0)),(3,.c (.optr g3 0))]) (fun x=>[(g3,.cells 128 3 (ofL [.str (sB nm),.str (sB tp),gs x.2 7 x.1])),(g2,.cells 128 3 (ofL [.str (sB []),.str (sB []),.nils])),(g,rdO L F.2)]++gh x.2 65 (x.1*7) (gtsF F.1)) (fun x=>F.1.length=x.1∧(x.2=none→x.1=0)) ?_ ?_
 ·apply wa2
  refine aw_lp (fun _:PS×List GtD×Nat×Option Nat=>[(0,.c (.optr g 0)),(2,.c (.optr g2 0)),(3,.c (.optr g3 0))]) (fun x=>[(g3,.cells 128 3 (ofL [.str (sB nm),.str (sB tp),gs x.2.2.2 7 x.2.2.1])),(g2,.cells 128 3 (ofL [.str (sB []),.str (sB []),.nils])),(g,rdO L x.1)]++gh x.2.2.2 65 (x.2.2.1*7) (gtsF x.2.1))
   (fun x=>x.1.l<:+L.map TX.t∧x.2.1.length=x.2.2.1∧(x.2.2.2=none→x.2.2.1=0)∧x.2.2.1+mS x.1≤1048577∧lpS (fun s=> !isS s kClose) pgB x.2.1 x.1=F) (fun x=>mS x.1) (s4,[],0,none) (zB J1) zZ ⟨hs4,rfl,fun _=>rfl,?_,hF⟩ ?_
  ·have:=hs4.length_le
   rw [List.length_map] at this
   dsimp only
   unfold mS
   split<;>omega
  rintro ⟨sx,xs,n,og⟩ ⟨hsx,hn,hog,hm,hlp⟩
  dsimp only at hsx hn hog hm hlp⊢
  have f5:=is_fg g L sx kClose hsx om
  have f6:=expect_fg g L sx kGate hsx om
  have hsw:(expS kGate sx).l<:+L.map TX.t:=((rdr_exp kGate).suf sx).trans hsx
  have f7:=gate_fg g L (expS kGate sx) hsw hL hw
  all_goals try(have Z:=J1;(repeat' first|refine yA1 Z ?_|(refine zg Z (f5) ?_)|(refine zg Z (f6) ?_)|refine zW Z ?_|refine yP Z ?_|refine yN Z ?_|refine zC Z (fun hb=>?_) fun hb=>?_|refine zG Z (fun hb=>?_) fun hb=>?_|refine zD Z (fun hb=>?_) fun hb=>?_);all_goals clear Z)
  ·rename_i h0
   have hc:(!isS sx kClose)=true:=hb
   have hst:=lpS_step (c:=fun s=> !isS s kClose) (b:=pgB) (a:=xs) (fun a s h _=>con_pgB a s h) h0 hc
   have hlt:=con_pgB xs sx h0
   rw [hst] at hlp
   have hsy:(pgB xs sx).2.l<:+L.map TX.t:=((rdr_pgB xs).suf sx).trans hsx
   have e1:(pgB xs sx).1=xs++[(gateS (expS kGate sx)).1]:=rfl
   have e2:(pgB xs sx).2=(gateS (expS kGate sx)).2:=rfl
   rw [e2] at hlt hsy
   rw [e1,e2] at hlp
   generalize gateS (expS kGate sx)=y at*
   obtain⟨t,sy⟩:=y
   dsimp only at*
   refine aw_cw ([(g3,.cells 128 3 (ofL [.str (sB nm),.str (sB tp),gs og 7 n]))]) [(0,0),(1,0),(2,0),(3,1),(4,1),(5,1),(6,0),(7,2)] ty_mixed (by kernel_rfl) eI ?_
   refine yG J1 ?_
   refine cw_cg rfl f7 rfl rfl rfl (zE J1) (zL J1) (by refine yS J1 ?_;exact has0_cons (List.mem_cons_self ..) has0_nil) ?_
   refine ySG J1 ?_
   refine cw_buildSlice (xs:=[.tmp 29]) (cells:=gtc t) rfl rfl rfl rfl (zE J1) (by refine yS J1 ?_;rfl) rfl om om (by intro x hx;simp only [List.mem_singleton] at hx;subst hx;exact⟨rfl,rfl,rfl⟩) rfl (by simp [Op.operands]) (has0_cons (List.mem_cons_self ..) has0_nil) (fun ga hn_ga=> ?_) (hm:=.inr ⟨rfl,rfl⟩)
   refine yS J1 ?_
   refine cw_push (pre:=[(g3,.cells 128 3 (ofL [.str (sB nm),.str (sB tp),gs og 7 n])),(g2,.cells 128 3 (ofL [.str (sB []),.str (sB []),.nils])),(g,rdO L sy)]) (og:=og) (n:=n) (s:=27) (d1:=30) (gt:=ga) (v:=.agg (gtc t)) rfl rfl rfl rfl (zE J1) (zE J1) (by rfl) om om (zE J1) (zE J1) hog (by rfl) (by rfl) (by simp only [Nat.mul_one,List.cons_append,List.nil_append];rfl) (by unfold maxLen;omega) om (gts_push hn t) (has0_skip (has0_cons (List.mem_cons_self ..) has0_nil)) (fun gb hn_gb=> ?_) (hm:=.inr ⟨rfl,rfl⟩)
   replace hn_ga:=Heap.ne_of hn_ga
   simp only [Heap.ne] at hn_ga
   have J2:=oj hn_g2 (oj hn_g3 hn_ga)
   refine ySG J2 ?_
   refine cw_store (FP':=[]) rfl rfl rfl rfl rfl (zE J2) (zE J2) (zE J2) (zE J2) (fun _ e=>by cases e) rfl rfl (show 3≤3 from by omega) rfl has0_nil ?_
   refine ySG J2 ?_
   refine aw_stop ⟨(sy,xs++[t],n+1,some gb),?_⟩
   refine⟨hlt,?_⟩
   and_intros
   all_goals first|rfl|exact List.Sublist.cons _ (List.Sublist.refl _)|exact True.intro|exact hsy|exact some_ne|exact hlp|(dsimp only;rw [List.length_append,hn];rfl)|(dsimp only;omega)
  ·have hc:¬(sx.e=0∧(!isS sx kClose)=true):=fun z=>by rw [hb] at z;exact absurd z.2 (by decide)
   rw [lpS_end hc] at hlp
   subst hlp
   refine aw_stop ⟨(n,og),?_⟩
   and_intros<;>first|rfl|exact List.Sublist.refl _|exact True.intro|exact hn|exact hog
  ·have hc:¬(sx.e=0∧(!isS sx kClose)=true):=fun z=>hb z.1
   rw [lpS_end hc] at hlp
   subst hlp
   refine aw_stop ⟨(n,og),?_⟩
   and_intros<;>first|rfl|exact List.Sublist.refl _|exact True.intro|exact hn|exact hog
 rintro ⟨n,og⟩ ⟨hn,hog⟩
 dsimp only at hn hog⊢
 have hs5:F.2.l<:+L.map TX.t:=by
  rw [←hF];exact((rdr_lp rdr_pgB []).suf s4).trans hs4
 have f6:=expect_fg g L F.2 kClose hs5 om
 subst hn
 refine aw_nd fun hnd=> ?_
 have hog2:∀q,og=some q→¬C.own0 q:=fun q hq hown=>by
  subst hq
  have:q=g:=by simpa [Heap.keys] using (hC q).1 hown
  subst this
  simp [Heap.keys,gh] at hnd
 refine aw_perm (h':=(g3,.cells 128 3 (ofL [.str (sB nm),.str (sB tp),gs og 7 F.1.length]))::(gh og 65 (F.1.length*7) (gtsF F.1)++[(g2,.cells 128 3 (ofL [.str (sB []),.str (sB []),.nils])),(g,rdO L F.2)])) (.cons _ (List.perm_append_comm (l₁:=[(g2,.cells 128 3 (ofL [.str (sB []),.str (sB []),.nils])),(g,rdO L F.2)]))) ?_
 refine aw_frzG (j0:=2) (n:=F.1.length) (s:=7) (f':=ofL [.str (sB nm),.str (sB tp),gts true F.1]) rfl rfl (fun j hj hj3=>by
  match j,hj,hj3 with
  |0,_,_=>rfl
  |1,_,_=>rfl
  |j+2,h1,h2=>exact absurd (show j+2=2 from by omega) h2) hog hog2 ?_
 all_goals try(have Z:=J1;(repeat' first|refine yA1 Z ?_|(refine zg Z (f6) ?_)|refine zW Z ?_|refine yP Z ?_|refine yN Z ?_|refine zC Z (fun hb=>?_) fun hb=>?_|refine zG Z (fun hb=>?_) fun hb=>?_|refine zD Z (fun hb=>?_) fun hb=>?_);all_goals clear Z)
 refine aw_rethw (h':=[(g,rdO L (expS kClose F.2))]) rfl (by first|exact List.Sublist.refl _|exact .cons _ (.refl _)|exact .cons _ (.cons _ (.refl _))|exact .cons _ (.cons _ (.cons _ (.refl _)))) fun R r=>?_;simp only[go_sem,hn_g2,hn_g3];refine r _ rfl ?_;clear r R
 exact⟨rfl,rfl⟩
end Go.Proofs.YteocnikcjjonbaaGreat
namespace Go.PN
open Go.AI
theorem kindS_e {s:PS} {k:Nat} (h:kindS s k=true):s.e=0:=by
 unfold kindS at h
 simp only [Bool.and_eq_true,decide_eq_true_eq] at h
 exact h.1
end Go.PN
namespace Go.Proofs.YteocnikcjjonbaaGreat
open Go.AI Go.PN
theorem rats_push' {xs:List RD} {n:Nat} (hn:xs.length=n) (t:RD):∀j,j<(n+1)*3→appF (ratsF xs) (n*3) (ofL (rdc t)) j=ratsF (xs++[t]) j:=lf_push (s:=3) (c:=fun r:RD=>[CV.bool r.neg,ws true r.num,ws true r.den]) (d:=rd0) hn t (by decide)
attribute [local irreducible] aw Fa Fh DrK
theorem group_fg (g:Nat) (L:List TX) (s:PS) (hs:s.l<:+L.map TX.t) (hL:L.length≤1048576) (hw:∀t∈L,t.t.text.length≤1099511627776):Fg Tryz.prog 66 g (rdO L s) [.c (.optr g 0)] (.agg (grc (groupS s).1)) (rdO L (groupS s).2):=by
 have f1:=word_fg g L s hs om
 have hs1:=suf_word hs
 unfold groupS
 dsimp only
 generalize wordS s=r at*
 obtain⟨nm,s1⟩:=r
 dsimp only at*
 have f2:=is_fg g L s1 kBeta hs1 om
 have f3:=is_fg g L s1 kGreek hs1 om
 have f4:=take_fg g L s1 (isS s1 kBeta||isS s1 kGreek) hs1 om
 have hs2:=((rdr_take fun s=>isS s kBeta||isS s kGreek).suf s1).trans hs1
 try dsimp only at hs2
 generalize hr:takeS (isS s1 kBeta||isS s1 kGreek) s1=r at*
 obtain⟨tw,s2⟩:=r
 dsimp only at*
 generalize hkd:(if(tw==kGreek)=true then(1:Int) else 0)=kd
 generalize hF:lpS (fun s=>kindS s 1) facB [] s2=F at*
 unfold Fg
 refine fh_of_body Tryz.func66 rfl rfl (by simp [Tryz.ntmps66]) fun C hC=> ?_
 simp only [initS,Nat.reduceAdd]
 apply wa1
 apply wa6
 refine xA fun g2 hn_g2=>?_
 refine yH hn_g2 ?_
 apply wa1
 apply wa6
 refine yH hn_g2 ?_
 refine aw_cg f1 rfl rfl rfl (zE hn_g2) (zL2 o0) ?_
 refine yS hn_g2 ?_
 refine yH hn_g2 ?_
 refine yA hn_g2 fun g3 hn_g3=>?_
 have J1:=oj hn_g2 hn_g3
 refine yW J1 ?_
 refine yS J1 ?_
 refine yH J1 ?_
 apply wa1
 refine aw_cut (fun _:Unit=>[(0,.c (.optr g 0)),(2,.c (.optr g2 0)),(3,.c (.optr g3 0))]) (fun _=>[(g3,.cells 100 4 (ofL [.str (sB nm),.int .i64 kd,.nils,.nils])),(g2,.cells 100 4 (ofL [.str (sB []),.int .i64 0,.nils,.nils])),(g,rdO L s2)]) (fun _=>1=1) ?_ ?_
 ·cases h1:isS s1 kBeta with
  |true=>
   rw [h1] at f2 f4
   rw [Bool.true_or] at f4
   all_goals try(have Z:=J1;(repeat' first|refine yA1 Z ?_|(refine zg Z (f2) ?_)|(refine zg Z (f3) ?_)|(refine zg Z (f4) ?_)|refine zW Z ?_|refine yP Z ?_|refine yN Z ?_|refine zC Z (fun hb=>?_) fun hb=>?_|refine zG Z (fun hb=>?_) fun hb=>?_|refine zD Z (fun hb=>?_) fun hb=>?_);all_goals clear Z)
   all_goals
    refine aw_stop ⟨(),?_⟩
    rw [←hkd]
    simp only [hb,beq_self_eq_true,if_true,if_false,beq_iff_eq]
    and_intros<;>first|rfl|exact List.Sublist.refl _|exact True.intro
  |false=>
   rw [h1] at f2 f4
   rw [Bool.false_or] at f4
   all_goals try(have Z:=J1;(repeat' first|refine yA1 Z ?_|(refine zg Z (f2) ?_)|(refine zg Z (f3) ?_)|(refine zg Z (f4) ?_)|refine zW Z ?_|refine yP Z ?_|refine yN Z ?_|refine zC Z (fun hb=>?_) fun hb=>?_|refine zG Z (fun hb=>?_) fun hb=>?_|refine zD Z (fun hb=>?_) fun hb=>?_);all_goals clear Z)
   all_goals
    refine aw_stop ⟨(),?_⟩
    rw [←hkd]
    simp only [hb,beq_self_eq_true,if_true,if_false,beq_iff_eq]
    and_intros<;>first|rfl|exact List.Sublist.refl _|exact True.intro
 rintro _ _
 clear f1 f2 f3 f4 J1
 apply wa1
 refine aw_cut (fun _:Nat×Option Nat=>[(0,.c (.optr g 0)),(2,.c (.optr g2 0)),(3,.c (.optr g3 0))]) (fun x=>[(g3,.cells 100 4 (ofL [.str (sB nm),.int .i64 kd,.nils,gs x.2 3 x.1])),(g2,.cells 100 4 (ofL [.str (sB []),.int .i64 0,.nils,.nils])),(g,rdO L F.2)]++gh x.2 59 (x.1*3) (ratsF F.1)) (fun x=>F.1.length=x.1∧(x.2=none→x.1=0)) ?_ ?_
 ·apply wa2
  refine aw_lp (fun _:PS×List RD×Nat×Option Nat=>[(0,.c (.optr g 0)),(2,.c (.optr g2 0)),(3,.c (.optr g3 0))]) (fun x=>[(g3,.cells 100 4 (ofL [.str (sB nm),.int .i64 kd,.nils,gs x.2.2.2 3 x.2.2.1])),(g2,.cells 100 4 (ofL [.str (sB []),.int .i64 0,.nils,.nils])),(g,rdO L x.1)]++gh x.2.2.2 59 (x.2.2.1*3) (ratsF x.2.1))
   (fun x=>x.1.l<:+L.map TX.t∧x.2.1.length=x.2.2.1∧(x.2.2.2=none→x.2.2.1=0)∧x.2.2.1+mS x.1≤1048577∧lpS (fun s=>kindS s 1) facB x.2.1 x.1=F) (fun x=>mS x.1) (s2,[],0,none) (zB (oj hn_g2 hn_g3)) zZ ⟨hs2,rfl,fun _=>rfl,?_,hF⟩ ?_
  ·have:=(hs2).length_le
   rw [List.length_map] at this
   dsimp only
   unfold mS
   split<;>omega
  rintro ⟨sx,xs,n,og⟩ ⟨hsx,hn,hog,hm,hlp⟩
  dsimp only at hsx hn hog hm hlp⊢
  have f5:=kind_fg g L sx 1 hsx om
  have f7:=number_fg g L sx hsx om hw
  all_goals try(have Z:=(oj hn_g2 hn_g3);(repeat' first|refine yA1 Z ?_|(refine zg Z (f5) ?_)|refine zW Z ?_|refine yP Z ?_|refine yN Z ?_|refine zC Z (fun hb=>?_) fun hb=>?_|refine zG Z (fun hb=>?_) fun hb=>?_|refine zD Z (fun hb=>?_) fun hb=>?_);all_goals clear Z)
  ·have h0:sx.e=0:=(kindS_e hb)
   have hc:(fun s=>kindS s 1) sx=true:=hb
   have hst:=lpS_step (c:=fun s=>kindS s 1) (b:=facB) (a:=xs) (fun a s h _=>con_facB a s h) h0 hc
   have hlt:=con_facB xs sx h0
   rw [hst] at hlp
   have hsy:(facB xs sx).2.l<:+L.map TX.t:=((rdr_facB xs).suf sx).trans hsx
   have e1:(facB xs sx).1=xs++[(numS sx).1]:=rfl
   have e2:(facB xs sx).2=(numS sx).2:=rfl
   rw [e2] at hlt hsy
   rw [e1,e2] at hlp
   generalize numS sx=y at*
   obtain⟨t,sy⟩:=y
   dsimp only at*
   refine aw_cw ([(g3,.cells 100 4 (ofL [.str (sB nm),.int .i64 kd,.nils,gs og 3 n]))]) [(0,0),(1,0),(2,0),(3,1),(4,1),(5,1),(6,0),(7,2)] ty_mixed (by kernel_rfl) eI ?_
   have J2:=oj hn_g2 hn_g3
   refine yG J2 ?_
   refine cw_cg rfl f7 rfl rfl rfl (zE J2) (zL J2) (by refine yS J2 ?_;exact has0_cons (List.mem_cons_self ..) has0_nil) ?_
   refine ySG J2 ?_
   refine cw_buildSlice (xs:=[.tmp 22]) (cells:=rdc t) rfl rfl rfl rfl (zE J2) (by refine yS J2 ?_;rfl) rfl om om (by intro x hx;simp only [List.mem_singleton] at hx;subst hx;exact⟨rfl,rfl,rfl⟩) rfl (by simp [Op.operands]) (has0_cons (List.mem_cons_self ..) has0_nil) (fun ga hn_ga=> ?_) (hm:=.inr ⟨rfl,rfl⟩)
   refine yS J2 ?_
   refine cw_push (pre:=[(g3,.cells 100 4 (ofL [.str (sB nm),.int .i64 kd,.nils,gs og 3 n])),(g2,.cells 100 4 (ofL [.str (sB []),.int .i64 0,.nils,.nils])),(g,rdO L sy)]) (og:=og) (n:=n) (s:=20) (d1:=23) (gt:=ga) (v:=.agg (rdc t)) rfl rfl rfl rfl (zE J2) (zE J2) (by rfl) om om (zE J2) (zE J2) hog (by rfl) (by rfl) (by simp only [Nat.mul_one,List.cons_append,List.nil_append];rfl) (by unfold maxLen;omega) om (rats_push' hn t) (has0_skip (has0_cons (List.mem_cons_self ..) has0_nil)) (fun gb hn_gb=> ?_) (hm:=.inr ⟨rfl,rfl⟩)
   replace hn_ga:=Heap.ne_of hn_ga
   simp only [Heap.ne] at hn_ga
   have J3:=oj hn_g2 (oj hn_g3 hn_ga)
   refine ySG J3 ?_
   refine cw_store (FP':=[]) rfl rfl rfl rfl rfl (zE J3) (zE J3) (zE J3) (zE J3) (fun _ e=>by cases e) rfl rfl (show 4≤4 from by omega) rfl has0_nil ?_
   refine ySG J3 ?_
   refine aw_stop ⟨(sy,xs++[t],n+1,some gb),?_⟩
   refine⟨hlt,?_⟩
   and_intros
   all_goals first|rfl|exact List.Sublist.cons _ (List.Sublist.refl _)|exact True.intro|exact hsy|exact some_ne|exact hlp|(dsimp only;rw [List.length_append,hn];rfl)|(dsimp only;omega)
  ·have hc:¬(sx.e=0∧(fun s=>kindS s 1) sx=true):=fun z=>by rw [show(fun s=>kindS s 1) sx=false from hb] at z;exact absurd z.2 (by decide)
   rw [lpS_end hc] at hlp
   subst hlp
   refine aw_stop ⟨(n,og),?_⟩
   and_intros<;>first|rfl|exact List.Sublist.refl _|exact True.intro|exact hn|exact hog
 rintro ⟨n,og⟩ ⟨hn,hog⟩
 dsimp only at hn hog⊢
 have hs5:F.2.l<:+L.map TX.t:=by
  rw [←hF];exact((rdr_lp rdr_facB []).suf s2).trans (hs2)
 subst hn
 refine aw_nd fun hnd=> ?_
 have hog2:∀q,og=some q→¬C.own0 q:=fun q hq hown=>by
  subst hq
  have:q=g:=by simpa [Heap.keys] using (hC q).1 hown
  subst this
  simp [Heap.keys,gh] at hnd
 refine aw_perm (h':=(g3,.cells 100 4 (ofL [.str (sB nm),.int .i64 kd,.nils,gs og 3 F.1.length]))::(gh og 59 (F.1.length*3) (ratsF F.1)++[(g2,.cells 100 4 (ofL [.str (sB []),.int .i64 0,.nils,.nils])),(g,rdO L F.2)])) (by exact .cons _ (List.perm_append_comm (l₁:=[(g2,.cells 100 4 (ofL [.str (sB []),.int .i64 0,.nils,.nils])),(g,rdO L F.2)]))) ?_
 refine aw_frzG (j0:=3) (n:=F.1.length) (s:=3) (f':=ofL [.str (sB nm),.int .i64 kd,.nils,.row true 3 F.1.length (ratsF F.1)]) rfl rfl (fun j hj hj3=>by
  match j,hj,hj3 with
  |0,_,_=>rfl
  |1,_,_=>rfl
  |2,_,_=>rfl
  |j+3,h1,h2=>exact absurd (show j+3=3 from by omega) h2) hog hog2 ?_
 obtain⟨fs,s3⟩:=F
 dsimp only at hs5⊢
 have f6:=expect_fg g L s3 kColon hs5 om
 have hs4:(expS kColon s3).l<:+L.map TX.t:=((rdr_exp kColon).suf s3).trans hs5
 generalize expS kColon s3=s4 at*
 generalize hF':lpS (fun s=>kindS s 0) memB [] s4=F
 clear hF hs5 hog2 hnd hog
 have hF:=hF'
 apply wa1
 apply wa6
 have J4:=oj hn_g2 hn_g3
 refine yH J4 ?_
 refine aw_cg f6 rfl rfl rfl (zE J4) (zL2 o0) ?_
 refine yS J4 ?_
 refine yH J4 ?_
 apply wa1
 refine aw_cut (fun _:Nat×Option Nat=>[(0,.c (.optr g 0)),(2,.c (.optr g2 0)),(3,.c (.optr g3 0))]) (fun x=>[(g3,.cells 100 4 (ofL [.str (sB nm),.int .i64 kd,gs x.2 1 x.1,.row true 3 fs.length (ratsF fs)])),(g2,.cells 100 4 (ofL [.str (sB []),.int .i64 0,.nils,.nils])),(g,rdO L F.2)]++gh x.2 9 (x.1*1) (strsF F.1)) (fun x=>F.1.length=x.1∧(x.2=none→x.1=0)) ?_ ?_
 ·apply wa2
  refine aw_lp (fun _:PS×List BS×Nat×Option Nat=>[(0,.c (.optr g 0)),(2,.c (.optr g2 0)),(3,.c (.optr g3 0))]) (fun x=>[(g3,.cells 100 4 (ofL [.str (sB nm),.int .i64 kd,gs x.2.2.2 1 x.2.2.1,.row true 3 fs.length (ratsF fs)])),(g2,.cells 100 4 (ofL [.str (sB []),.int .i64 0,.nils,.nils])),(g,rdO L x.1)]++gh x.2.2.2 9 (x.2.2.1*1) (strsF x.2.1))
   (fun x=>x.1.l<:+L.map TX.t∧x.2.1.length=x.2.2.1∧(x.2.2.2=none→x.2.2.1=0)∧x.2.2.1+mS x.1≤1048577∧lpS (fun s=>kindS s 0) memB x.2.1 x.1=F) (fun x=>mS x.1) (s4,[],0,none) (zB J4) zZ ⟨hs4,rfl,fun _=>rfl,?_,hF⟩ ?_
  ·have:=(hs4).length_le
   rw [List.length_map] at this
   dsimp only
   unfold mS
   split<;>omega
  rintro ⟨sx,xs,n,og⟩ ⟨hsx,hn,hog,hm,hlp⟩
  dsimp only at hsx hn hog hm hlp⊢
  have f5:=kind_fg g L sx 0 hsx om
  have f7:=word_fg g L sx hsx om
  all_goals try(have Z:=J4;(repeat' first|refine yA1 Z ?_|(refine zg Z (f5) ?_)|refine zW Z ?_|refine yP Z ?_|refine yN Z ?_|refine zC Z (fun hb=>?_) fun hb=>?_|refine zG Z (fun hb=>?_) fun hb=>?_|refine zD Z (fun hb=>?_) fun hb=>?_);all_goals clear Z)
  ·have h0:sx.e=0:=(kindS_e hb)
   have hc:(fun s=>kindS s 0) sx=true:=hb
   have hst:=lpS_step (c:=fun s=>kindS s 0) (b:=memB) (a:=xs) (fun a s h _=>con_memB a s h) h0 hc
   have hlt:=con_memB xs sx h0
   rw [hst] at hlp
   have hsy:(memB xs sx).2.l<:+L.map TX.t:=((rdr_memB xs).suf sx).trans hsx
   have e1:(memB xs sx).1=xs++[(wordS sx).1]:=rfl
   have e2:(memB xs sx).2=(wordS sx).2:=rfl
   rw [e2] at hlt hsy
   rw [e1,e2] at hlp
   generalize wordS sx=y at*
   obtain⟨t,sy⟩:=y
   dsimp only at*
   refine aw_cw ([(g3,.cells 100 4 (ofL [.str (sB nm),.int .i64 kd,gs og 1 n,.row true 3 fs.length (ratsF fs)]))]) [(0,0),(1,0),(2,0),(3,1),(4,1),(5,1),(6,0),(7,2)] ty_mixed (by kernel_rfl) eI ?_
   refine yG J4 ?_
   refine cw_cg rfl f7 rfl rfl rfl (zE J4) (zL J4) (by refine yS J4 ?_;exact has0_cons (List.mem_cons_self ..) has0_nil) ?_
   refine ySG J4 ?_
   refine cw_buildSlice (xs:=[.tmp 33]) (cells:=[.str (sB t)]) rfl rfl rfl rfl (zE J4) (by refine yS J4 ?_;rfl) rfl om om (by intro x hx;simp only [List.mem_singleton] at hx;subst hx;exact⟨rfl,rfl,rfl⟩) rfl (by simp [Op.operands]) (has0_cons (List.mem_cons_self ..) has0_nil) (fun ga hn_ga=> ?_) (hm:=.inr ⟨rfl,rfl⟩)
   refine yS J4 ?_
   refine cw_push (pre:=[(g3,.cells 100 4 (ofL [.str (sB nm),.int .i64 kd,gs og 1 n,.row true 3 fs.length (ratsF fs)])),(g2,.cells 100 4 (ofL [.str (sB []),.int .i64 0,.nils,.nils])),(g,rdO L sy)]) (og:=og) (n:=n) (s:=31) (d1:=34) (gt:=ga) (v:=.c (.str (sB t))) rfl rfl rfl rfl (zE J4) (zE J4) (by rfl) om om (zE J4) (zE J4) hog (by rfl) (by rfl) (by simp only [Nat.mul_one,List.cons_append,List.nil_append];rfl) (by unfold maxLen;omega) om (strs_push hn t) (has0_skip (has0_cons (List.mem_cons_self ..) has0_nil)) (fun gb hn_gb=> ?_) (hm:=.inr ⟨rfl,rfl⟩)
   replace hn_ga:=Heap.ne_of hn_ga
   simp only [Heap.ne] at hn_ga
   have J5:=oj hn_g2 (oj hn_g3 hn_ga)
   refine ySG J5 ?_
   refine cw_store (FP':=[]) rfl rfl rfl rfl rfl (zE J5) (zE J5) (zE J5) (zE J5) (fun _ e=>by cases e) rfl rfl (show 3≤4 from by omega) rfl has0_nil ?_
   refine ySG J5 ?_
   refine aw_stop ⟨(sy,xs++[t],n+1,some gb),?_⟩
   refine⟨hlt,?_⟩
   and_intros
   all_goals first|rfl|exact List.Sublist.cons _ (List.Sublist.refl _)|exact True.intro|exact hsy|exact some_ne|exact hlp|(dsimp only;rw [List.length_append,hn];rfl)|(dsimp only;omega)
  ·have hc:¬(sx.e=0∧(fun s=>kindS s 0) sx=true):=fun z=>by rw [show(fun s=>kindS s 0) sx=false from hb] at z;exact absurd z.2 (by decide)
   rw [lpS_end hc] at hlp
   subst hlp
   refine aw_stop ⟨(n,og),?_⟩
   and_intros<;>first|rfl|exact List.Sublist.refl _|exact True.intro|exact hn|exact hog
 rintro ⟨n,og⟩ ⟨hn,hog⟩
 dsimp only at hn hog⊢
 have hs5:F.2.l<:+L.map TX.t:=by
  rw [←hF];exact((rdr_lp rdr_memB []).suf s4).trans (hs4)
 subst hn
 refine aw_nd fun hnd=> ?_
 have hog2:∀q,og=some q→¬C.own0 q:=fun q hq hown=>by
  subst hq
  have:q=g:=by simpa [Heap.keys] using (hC q).1 hown
  subst this
  simp [Heap.keys,gh] at hnd
 refine aw_perm (h':=(g3,.cells 100 4 (ofL [.str (sB nm),.int .i64 kd,gs og 1 F.1.length,.row true 3 fs.length (ratsF fs)]))::(gh og 9 (F.1.length*1) (strsF F.1)++[(g2,.cells 100 4 (ofL [.str (sB []),.int .i64 0,.nils,.nils])),(g,rdO L F.2)])) (by rw [Nat.mul_one];exact .cons _ (List.perm_append_comm (l₁:=[(g2,.cells 100 4 (ofL [.str (sB []),.int .i64 0,.nils,.nils])),(g,rdO L F.2)]))) ?_
 refine aw_frzG (j0:=2) (n:=F.1.length) (s:=1) (f':=ofL [.str (sB nm),.int .i64 kd,.row true 1 F.1.length (strsF F.1),.row true 3 fs.length (ratsF fs)]) rfl rfl (fun j hj hj3=>by
  match j,hj,hj3 with
  |0,_,_=>rfl
  |1,_,_=>rfl
  |3,_,_=>rfl) hog hog2 ?_
 have f8:=expect_fg g L F.2 kSemi hs5 om
 all_goals try(have Z:=J4;(repeat' first|refine yA1 Z ?_|(refine zg Z (f8) ?_)|refine zW Z ?_|refine yP Z ?_|refine yN Z ?_|refine zC Z (fun hb=>?_) fun hb=>?_|refine zG Z (fun hb=>?_) fun hb=>?_|refine zD Z (fun hb=>?_) fun hb=>?_);all_goals clear Z)
 refine aw_rethw (h':=[(g,rdO L (expS kSemi F.2))]) rfl (by first|exact List.Sublist.refl _|exact .cons _ (.refl _)|exact .cons _ (.cons _ (.refl _))|exact .cons _ (.cons _ (.cons _ (.refl _)))) fun R r=>?_;simp only[go_sem,hn_g2,hn_g3];refine r _ rfl ?_;clear r R
 exact⟨rfl,rfl⟩
end Go.Proofs.YteocnikcjjonbaaGreat
namespace Go.AI
open Go.PN
theorem vls_push {xs:List VlD} {n:Nat} (hn:xs.length=n) (t:VlD):∀j,j<(n+1)*4→appF (vlsF xs) (n*4) (ofL (vlc t)) j=vlsF (xs++[t]) j:=lf_push (s:=4) (c:=vlc) (d:=(vl0:VlD)) hn t (by decide)
end Go.AI
namespace Go.Proofs.YteocnikcjjonbaaGreat
open Go.AI Go.PN
attribute [local irreducible] aw Fa Fh DrK
theorem phase_fg (g:Nat) (L:List TX) (s:PS) (hs:s.l<:+L.map TX.t) (hL:L.length≤1048576) (hw:∀t∈L,t.t.text.length≤1099511627776):Fg Tryz.prog 67 g (rdO L s) [.c (.optr g 0)] (.agg (phc (phaseS s).1)) (rdO L (phaseS s).2):=by
 have f1:=word_fg g L s hs om
 have hs1:=suf_word hs
 unfold phaseS
 dsimp only
 generalize wordS s=r at*
 obtain⟨nm,s1⟩:=r
 dsimp only at*
 have f2:=expect_fg g L s1 kTop hs1 om
 have hs2:(expS kTop s1).l<:+L.map TX.t:=((rdr_exp kTop).suf s1).trans hs1
 generalize expS kTop s1=s2 at*
 have f3:=input_fg g L s2 hs2 om hw
 have hs3:=(rdr_input.suf s2).trans hs2
 generalize inputS s2=r at*
 obtain⟨tp,s3⟩:=r
 dsimp only at*
 have f4:=expect_fg g L s3 kOpen hs3 om
 have hs4:(expS kOpen s3).l<:+L.map TX.t:=((rdr_exp kOpen).suf s3).trans hs3
 generalize expS kOpen s3=s4 at*
 generalize hF:lpS (fun s=> !isS s kClose) vlB [] s4=F at*
 unfold Fg
 refine fh_of_body Tryz.func67 rfl rfl (by simp [Tryz.ntmps67]) fun C hC=> ?_
 simp only [initS,Nat.reduceAdd]
 repeat' first|refine yA1 o0 ?_|refine zW o0 ?_|refine yP o0 ?_|refine yN o0 ?_|refine zC o0 (fun hb=>?_) fun hb=>?_|refine zG o0 (fun hb=>?_) fun hb=>?_|refine zD o0 (fun hb=>?_) fun hb=>?_
 refine xA fun g2 hn_g2=>?_
 repeat' first|refine yA1 hn_g2 ?_|(refine zg hn_g2 (f1) ?_)|refine zW hn_g2 ?_|refine yP hn_g2 ?_|refine yN hn_g2 ?_|refine zC hn_g2 (fun hb=>?_) fun hb=>?_|refine zG hn_g2 (fun hb=>?_) fun hb=>?_|refine zD hn_g2 (fun hb=>?_) fun hb=>?_
 refine yA hn_g2 fun g3 hn_g3=>?_
 all_goals try(have Z:=(oj hn_g2 hn_g3);(repeat' first|refine yA1 Z ?_|(refine zg Z (f2) ?_)|(refine zg Z (f3) ?_)|refine zW Z ?_|refine yP Z ?_|refine yN Z ?_|refine zC Z (fun hb=>?_) fun hb=>?_|refine zG Z (fun hb=>?_) fun hb=>?_|refine zD Z (fun hb=>?_) fun hb=>?_);all_goals clear Z)
 refine aw_cg f4 rfl rfl rfl (zE (oj hn_g2 hn_g3)) (zL2 o0) ?_
 have J1:=oj hn_g2 hn_g3
 refine yS J1 ?_
 refine yH J1 ?_
 apply wa1
 refine aw_cut (fun _:Nat×Option Nat=>[(0,.c (.optr g 0)),(2,.c (.optr g2 0)),(3,.c (.optr g3 0))]) (fun x=>[(g3,.cells 104 3 (ofL [.str (sB nm),.str (sB tp),gs x.2 4 x.1])),(g2,.cells 104 3 (ofL [.str (sB []),.str (sB []),.nils])),(g,rdO L F.2)]++gh x.2 106 (x.1*4) (vlsF F.1)) (fun x=>F.1.length=x.1∧(x.2=none→x.1=0)) ?_ ?_
 ·apply wa2
  refine aw_lp (fun _:PS×List VlD×Nat×Option Nat=>[(0,.c (.optr g 0)),(2,.c (.optr g2 0)),(3,.c (.optr g3 0))]) (fun x=>[(g3,.cells 104 3 (ofL [.str (sB nm),.str (sB tp),gs x.2.2.2 4 x.2.2.1])),(g2,.cells 104 3 (ofL [.str (sB []),.str (sB []),.nils])),(g,rdO L x.1)]++gh x.2.2.2 106 (x.2.2.1*4) (vlsF x.2.1))
   (fun x=>x.1.l<:+L.map TX.t∧x.2.1.length=x.2.2.1∧(x.2.2.2=none→x.2.2.1=0)∧x.2.2.1+mS x.1≤1048577∧lpS (fun s=> !isS s kClose) vlB x.2.1 x.1=F) (fun x=>mS x.1) (s4,[],0,none) (zB J1) zZ ⟨hs4,rfl,fun _=>rfl,?_,hF⟩ ?_
  ·have:=(hs4).length_le
   rw [List.length_map] at this
   dsimp only
   unfold mS
   split<;>omega
  rintro ⟨sx,xs,n,og⟩ ⟨hsx,hn,hog,hm,hlp⟩
  dsimp only at hsx hn hog hm hlp⊢
  have f5:=is_fg g L sx kClose hsx om
  have f7:=word_fg g L sx hsx om
  all_goals try(have Z:=J1;(repeat' first|refine yA1 Z ?_|(refine zg Z (f5) ?_)|refine zW Z ?_|refine yP Z ?_|refine yN Z ?_|refine zC Z (fun hb=>?_) fun hb=>?_|refine zG Z (fun hb=>?_) fun hb=>?_|refine zD Z (fun hb=>?_) fun hb=>?_);all_goals clear Z)
  ·rename_i h0
   have hc:(fun s=> !isS s kClose) sx=true:=hb
   have hst:=lpS_step (c:=fun s=> !isS s kClose) (b:=vlB) (a:=xs) (fun a s h _=>con_vlB a s h) h0 hc
   have hlt:=con_vlB xs sx h0
   rw [hst] at hlp
   have hsy:(vlB xs sx).2.l<:+L.map TX.t:=((rdr_vlB xs).suf sx).trans hsx
   have e1:(vlB xs sx).1=xs++[⟨(wordS sx).1,(numS (wordS sx).2).1⟩]:=rfl
   have e2:(vlB xs sx).2=expS kSemi (numS (wordS sx).2).2:=rfl
   rw [e2] at hlt hsy
   rw [e1,e2] at hlp
   have hsa:=suf_word hsx
   generalize wordS sx=y at*
   obtain⟨w,sa⟩:=y
   dsimp only at*
   have f8:=number_fg g L sa hsa om hw
   have hsb:=(rdr_num.suf sa).trans hsa
   generalize numS sa=y at*
   obtain⟨q,sb⟩:=y
   dsimp only at*
   have f9:=expect_fg g L sb kSemi hsb om
   generalize expS kSemi sb=sy at*
   all_goals try(have Z:=J1;(repeat' first|refine yA1 Z ?_|(refine zg Z (f7) ?_)|refine zW Z ?_|refine yP Z ?_|refine yN Z ?_|refine zC Z (fun hb=>?_) fun hb=>?_|refine zG Z (fun hb=>?_) fun hb=>?_|refine zD Z (fun hb=>?_) fun hb=>?_);all_goals clear Z)
   refine yA J1 fun g4 hn_g4=>?_
   all_goals try(have Z:=(oj hn_g2 (oj hn_g3 hn_g4));(repeat' first|refine yA1 Z ?_|(refine zg Z (f8) ?_)|(refine zg Z (f9) ?_)|refine zW Z ?_|refine yP Z ?_|refine yN Z ?_|refine zC Z (fun hb=>?_) fun hb=>?_|refine zG Z (fun hb=>?_) fun hb=>?_|refine zD Z (fun hb=>?_) fun hb=>?_);all_goals clear Z)
   refine aw_push (pre:=[(g4,.cells 106 4 (ofL (vlc ⟨w,q⟩))),(g3,.cells 104 3 (ofL [.str (sB nm),.str (sB tp),gs og 4 n])),(g2,.cells 104 3 (ofL [.str (sB []),.str (sB []),.nils])),(g,rdO L sy)]) rfl rfl rfl rfl rfl rfl rfl (zE (oj hn_g2 (oj hn_g3 hn_g4))) (zE (oj hn_g2 (oj hn_g3 hn_g4))) (by rfl) om om (zE (oj hn_g2 (oj hn_g3 hn_g4))) om (by exact hog) (zE (oj hn_g2 (oj hn_g3 hn_g4))) (by rfl) (by rfl) (by first|rfl|simp only [Nat.mul_one,List.nil_append,List.cons_append]<;>rfl) (by unfold maxLen;omega) om (by exact vls_push hn ⟨w,q⟩) fun gb hn_gb=> ?_
   replace hn_gb:=Heap.ne_of hn_gb
   first|dsimp only [Heap.ne,gh] at hn_gb|dsimp only [Heap.ne] at hn_gb|skip
   have J2:=oj hn_g2 (oj hn_g3 (oj hn_g4 hn_gb))
   refine yS J2 ?_
   all_goals try(have Z:=J2;(repeat' first|refine yA1 Z ?_|refine zW Z ?_|refine yP Z ?_|refine yN Z ?_|refine zC Z (fun hb=>?_) fun hb=>?_|refine zG Z (fun hb=>?_) fun hb=>?_|refine zD Z (fun hb=>?_) fun hb=>?_);all_goals clear Z)
   refine aw_stop ⟨(sy,xs++[⟨w,q⟩],n+1,some gb),?_⟩
   refine⟨hlt,?_⟩
   and_intros
   all_goals first|rfl|exact List.Sublist.cons _ (List.Sublist.refl _)|exact True.intro|exact hsy|exact some_ne|exact hlp|(dsimp only;rw [List.length_append,hn];rfl)|(dsimp only;omega)
  ·have hc:¬(sx.e=0∧(fun s=> !isS s kClose) sx=true):=fun z=>by rw [show(fun s=> !isS s kClose) sx=false from hb] at z;exact absurd z.2 (by decide)
   rw [lpS_end hc] at hlp
   subst hlp
   refine aw_stop ⟨(n,og),?_⟩
   and_intros<;>first|rfl|exact List.Sublist.refl _|exact True.intro|exact hn|exact hog
  ·have hc:¬(sx.e=0∧(fun s=> !isS s kClose) sx=true):=fun z=>hb z.1
   rw [lpS_end hc] at hlp
   subst hlp
   refine aw_stop ⟨(n,og),?_⟩
   and_intros<;>first|rfl|exact List.Sublist.refl _|exact True.intro|exact hn|exact hog
 rintro ⟨n,og⟩ ⟨hn,hog⟩
 dsimp only at hn hog⊢
 have hs5:F.2.l<:+L.map TX.t:=by
  rw [←hF];exact((rdr_lp rdr_vlB []).suf s4).trans (hs4)
 subst hn
 refine aw_nd fun hnd=> ?_
 have hog2:∀q,og=some q→¬C.own0 q:=fun q hq hown=>by
  subst hq
  have:q=g:=by simpa [Heap.keys] using (hC q).1 hown
  subst this
  simp [Heap.keys,gh] at hnd
 refine aw_perm (h':=(g3,.cells 104 3 (ofL [.str (sB nm),.str (sB tp),gs og 4 F.1.length]))::(gh og 106 (F.1.length*4) (vlsF F.1)++[(g2,.cells 104 3 (ofL [.str (sB []),.str (sB []),.nils])),(g,rdO L F.2)])) (by exact .cons _ (List.perm_append_comm (l₁:=[(g2,.cells 104 3 (ofL [.str (sB []),.str (sB []),.nils])),(g,rdO L F.2)]))) ?_
 refine aw_frzG (j0:=2) (n:=F.1.length) (s:=4) (f':=ofL [.str (sB nm),.str (sB tp),.row true 4 F.1.length (vlsF F.1)]) rfl rfl (fun j hj hj3=>by
  match j,hj,hj3 with
  |0,_,_=>rfl
  |1,_,_=>rfl
  |j+2,h1,h2=>exact absurd (show j+2=2 from by omega) h2) hog hog2 ?_
 have f6:=expect_fg g L F.2 kClose hs5 om
 all_goals try(have Z:=J1;(repeat' first|refine yA1 Z ?_|(refine zg Z (f6) ?_)|refine zW Z ?_|refine yP Z ?_|refine yN Z ?_|refine zC Z (fun hb=>?_) fun hb=>?_|refine zG Z (fun hb=>?_) fun hb=>?_|refine zD Z (fun hb=>?_) fun hb=>?_);all_goals clear Z)
 refine aw_rethw (h':=[(g,rdO L (expS kClose F.2))]) rfl (by first|exact List.Sublist.refl _|exact .cons _ (.refl _)|exact .cons _ (.cons _ (.refl _))|exact .cons _ (.cons _ (.cons _ (.refl _)))) fun R r=>?_;simp only[go_sem,hn_g2,hn_g3];refine r _ rfl ?_;clear r R
 exact⟨rfl,rfl⟩
end Go.Proofs.YteocnikcjjonbaaGreat
namespace Go.AI
open Go.PN
theorem sb_beq (a b:BS):(sB a==sB b)=decide (a=b):=by
 show((sB a).data==(sB b).data)=_
 rw [Bool.eq_iff_iff];simp
section
variable {P : Program}
def keyS (l:BS):Value:=.string (sB l)
theorem keyS_ok {kt:TypeId} (ht:P.underlying kt=some .string):KeyOk P kt keyS:=by
 refine⟨fun b a w=> ?_,fun a ks es w h=> ?_⟩
 ·unfold Instr.checkKey keyS
  simp only [Sem.run_bind,run_underlying ht,Result.andThen_ok]
  rfl
 ·unfold Instr.findKey
  simp only [Sem.run_bind,run_underlying ht,Result.andThen_ok]
  have hn:∀(ks:List BS) (es:List MapEntry) (i:Nat),es.map (·.key)=ks.map keyS→Instr.findNow .string (keyS a) es i=some (fAsk a ks es i):=by
   intro ks
   induction ks with
   |nil=>
    intro es i h
    cases es with
    |nil=>rfl
    |cons e es=>simp at h
   |cons k ks ih=>
    intro es i h
    cases es with
    |nil=>simp at h
    |cons e es=>
     simp only [List.map_cons,List.cons.injEq] at h
     simp only [Instr.findNow,fAsk,h.1,keyS,Instr.sameNow]
     rw [show((⟨a.toArray⟩:ByteArray)==(⟨k.toArray⟩:ByteArray))=decide (a=k) from sb_beq a k]
     by_cases hk:a=k
     ·rw [decide_eq_true hk,if_pos hk]
     ·rw [decide_eq_false hk,if_neg hk]
      exact ih es (i+1) h.2
  rw [hn ks es 0 h]
  rfl
end
section
variable {E : Env} {K : List It} {σ σ' : Sl} {h : Heap} {all rest : List Oper} {o : Oper}
theorem Calm.lookup1 {l:List Oper} {α:Type} [DecidableEq α] {Kf:α→Value} {t kt et g:TypeId} {kv:List (α×Value)} {x ky:Operand} {ck:AV} {a:α} {z:Value} (hop:o.op=.lookup t x ky false) (hw:wantA l σ o=some true) (hd:dstOk E.N o.dst=true)
  (ht:tMap E.P t=some (kt,et)) (hK:KeyOk E.P kt Kf) (hz:tZ1 E.P et=some z) (hx:ev σ x=.c (.raw (.map (some g)))) (hg:h.get g=some (.gen (MapI Kf kv))) (hk:ev σ ky=ck) (hka:∀S w v,Rep S w ck v→v=Kf a):
  Calm E h l σ o (.c (cstC ((kvGet a kv).getD z))):=by
 refine⟨hd,fun σ' ac w Q hs s=> ?_⟩
 rw [if_pos (s.wanted ((want_same hs).trans hw))]
 have h1:=ev_rep s x
 rw [ev_same (by rw [hop];simp [Op.operands]) hs,hx] at h1
 have h1':ac.eval x=.map (some g):=h1
 have h2:=ev_rep s ky
 rw [ev_same (by rw [hop];simp [Op.operands]) hs,hk] at h2
 have h2':=hka _ _ _ h2
 obtain⟨ob,hb,es,c,rfl,hes⟩:=s.heap g _ (Heap.get_mem hg)
 have hkeys:es.toList.map (·.key)=(kv.map (·.1)).map Kf:=by
  have:=congrArg (List.map Prod.fst) hes
  rw [List.map_map,List.map_map] at this
  rw [List.map_map]
  exact this
 have hfind:=hK.find a (kv.map (·.1)) es.toList w hkeys
 have hget:=fAsk_get (K:=Kf) a kv es.toList 0 hes
 have hlk:(Instr.lookup t (ac.eval x) (ac.eval ky) false).run E.P w=.ok ((kvGet a kv).getD z) w:=by
  rw [h1',h2']
  unfold Instr.lookup
  simp only [Sem.run_bind,run_underlying (tMap_spec ht),Result.andThen_ok,runGet hb,Sem.run_pure,hK.check,hfind]
  rw [←hget]
  cases hf:fAsk a (kv.map (·.1)) es.toList 0 with
  |none=>simp [tZ1_run hz]
  |some p=>obtain⟨i,v⟩:=p;simp
 have hrun:(execOp ac.eval o).run E.P w=.ok (.value ((kvGet a kv).getD z)) w:=by
  simp only [execOp,hop,Sem.run_bind,hlk,Result.andThen_ok]
  rfl
 unfold Oper.wp
 rw [hrun]
 exact s.put hd (cstC_rep _ _ _)
theorem drk_lookup1 {l:List Oper} {n:Nat} {α:Type} [DecidableEq α] {Kf:α→Value} {t kt et g:TypeId} {kv:List (α×Value)} {x ky:Operand} {ck:AV} {a:α} {z:Value} (hop:o.op=.lookup t x ky false) (hw:wantA l σ o=some true) (hd:dstOk E.N o.dst=true)
 (ht:tMap E.P t=some (kt,et)) (hK:KeyOk E.P kt Kf) (hz:tZ1 E.P et=some z) (hx:ev σ x=.c (.raw (.map (some g)))) (hg:h.get g=some (.gen (MapI Kf kv))) (hk:ev σ ky=ck) (hka:∀S w v,Rep S w ck v→v=Kf a)
 (k:DrK E h l K n rest (σ.setO o.dst (.c (cstC ((kvGet a kv).getD z))))):DrK E h l K (n+1) (o::rest) σ:=drk_cons (Calm.lookup1 hop hw hd ht hK hz hx hg hk hka) k
end
end Go.AI
namespace Go.PN
open Go.AI
def svL (seen:List BS):List (BS×Value):=seen.reverse.map fun k=>(k,.bool true)
theorem svL_cons (k:BS) (seen:List BS):svL (k::seen)=svL seen++[(k,.bool true)]:=by unfold svL;simp
theorem kvGet_app (a:BS):∀(l:List (BS×Value)) (k:BS) (v:Value),kvGet a (l++[(k,v)])=(match kvGet a l with|some x=>some x|none=>if a=k then some v else none)
 |[],k,v=>rfl
 |p::l,k,v=>by
  show(if a=p.1 then some p.2 else kvGet a (l++[(k,v)]))=(match (if a=p.1 then some p.2 else kvGet a l) with|some x=>some x|none=>_)
  by_cases h:a=p.1
  ·rw [if_pos h,if_pos h]
  ·rw [if_neg h,if_neg h];exact kvGet_app a l k v
theorem svL_get (a:BS):∀seen:List BS,kvGet a (svL seen)=if seen.contains a then some (.bool true) else none
 |[]=>rfl
 |k::seen=>by
  rw [svL_cons,kvGet_app,svL_get a seen,List.contains_cons]
  by_cases h:seen.contains a=true
  ·rw [if_pos h,h];simp
  ·have h':seen.contains a=false:=by simpa using h
   rw [h']
   by_cases e:a=k
   ·subst e;simp
   ·have:(a==k)=false:=by simpa using e
    rw [this];simp [e]
theorem is_tok {s:PS} {w:BS} (h:isS s w=true):s.e=0∧∃t l,s.l=t::l∧t.kind≠1∧t.text=w:=by
 unfold isS at h
 simp only [Bool.and_eq_true,decide_eq_true_eq] at h
 refine⟨h.1,?_⟩
 cases hl:s.l with
 |nil=>rw [hl] at h;simp at h
 |cons t l=>
  rw [hl] at h
  simp at h
  exact⟨t,l,rfl,h.2.1,h.2.2⟩
theorem evB_p {s:PS} {t:TK} {l':List TK} (seen:List BS) (x:EvD) (e0:s.e=0) (hl:s.l=t::l') (hk:t.kind≠1) (ht:t.text=kP):evB (seen,x) s=if seen.contains kP=true then((seen,x),failS 6 s) else((kP::seen,{x with p:=(numS ⟨l',0⟩).1}),(numS ⟨l',0⟩).2):=by
 have hi:∀w,isS s w=(t.text==w):=fun w=>by rw [is_cons e0 hl,bne_iff_ne.2 hk,Bool.true_and]
 unfold evB
 rw [hi,hi,hi,hi,hd_cons hl,ht]
 dsimp only
 rw [take_cons e0 hl,ht]
 rfl
theorem evB_fail {s:PS} {t:TK} {l':List TK} (seen:List BS) (x:EvD) (e0:s.e=0) (hl:s.l=t::l') (hk:t.kind≠1) (ht:t.text=kFail):evB (seen,x) s=if seen.contains kFail=true then((seen,x),failS 6 s) else((kFail::seen,{x with fail:=(numS ⟨l',0⟩).1}),(numS ⟨l',0⟩).2):=by
 have hi:∀w,isS s w=(t.text==w):=fun w=>by rw [is_cons e0 hl,bne_iff_ne.2 hk,Bool.true_and]
 unfold evB
 rw [hi,hi,hi,hi,hd_cons hl,ht]
 dsimp only
 rw [take_cons e0 hl,ht]
 rfl
theorem evB_rep {s:PS} {t:TK} {l':List TK} (seen:List BS) (x:EvD) (e0:s.e=0) (hl:s.l=t::l') (hk:t.kind≠1) (ht:t.text=kRepair):evB (seen,x) s=if seen.contains kRepair=true then((seen,x),failS 6 s) else((kRepair::seen,{x with rep:=(numS ⟨l',0⟩).1}),(numS ⟨l',0⟩).2):=by
 have hi:∀w,isS s w=(t.text==w):=fun w=>by rw [is_cons e0 hl,bne_iff_ne.2 hk,Bool.true_and]
 unfold evB
 rw [hi,hi,hi,hi,hd_cons hl,ht]
 dsimp only
 rw [take_cons e0 hl,ht]
 rfl
theorem evB_cost {s:PS} {t:TK} {l':List TK} (seen:List BS) (x:EvD) (e0:s.e=0) (hl:s.l=t::l') (hk:t.kind≠1) (ht:t.text=kCost):evB (seen,x) s=if seen.contains kCost=true then((seen,x),failS 6 s) else((kCost::seen,{x with cost:=(wholeS ⟨l',0⟩).1}),(wholeS ⟨l',0⟩).2):=by
 have hi:∀w,isS s w=(t.text==w):=fun w=>by rw [is_cons e0 hl,bne_iff_ne.2 hk,Bool.true_and]
 unfold evB
 rw [hi,hi,hi,hi,hd_cons hl,ht]
 dsimp only
 rw [take_cons e0 hl,ht]
 rfl
theorem evB_no {s:PS} (seen:List BS) (x:EvD) (h0:isS s kP=false) (h1:isS s kFail=false) (h2:isS s kRepair=false) (h3:isS s kCost=false):evB (seen,x) s=((((takeS false s).1::seen,x),(takeS false s).2)):=by
 unfold evB
 rw [h0,h1,h2,h3]
 have ht:(takeS false s).1=[]:=by
  unfold takeS
  split
  ·split<;>rfl
  ·rfl
 dsimp only
 rw [show(false||false||false||false)=false from rfl,ht]
 rfl
theorem take_f (s:PS) (e0:s.e=0):(takeS false s).1=[]∧(takeS false s).2.e≠0:=by
 cases hl:s.l with
 |nil=>rw [take_nil e0 hl];exact⟨rfl,by simp⟩
 |cons t l=>rw [take_cons e0 hl];exact⟨rfl,by simp⟩
end Go.PN
namespace Go.Proofs.YteocnikcjjonbaaGreat
open Go.AI Go.PN
theorem conv_ev {a:CV}:∀j,j<11→∀(S:Bool→Nat→Prop) w u,RepC S w (ofL [a,.bool false,.nils,.nils,.bool false,.nils,.nils,.bool false,.nils,.nils,.int .i64 0] j) u→RepC S w (ofL ([a]++rdc rd0++rdc rd0++rdc rd0++[.int .i64 0]) j) u:=fun j hj S w u hr=>by
 match j,hj with
 |0,_=>exact hr
 |1,_=>exact hr
 |2,_=>exact repC_nil hr
 |3,_=>exact repC_nil hr
 |4,_=>exact hr
 |5,_=>exact repC_nil hr
 |6,_=>exact repC_nil hr
 |7,_=>exact hr
 |8,_=>exact repC_nil hr
 |9,_=>exact repC_nil hr
 |10,_=>exact hr
attribute [local irreducible] aw Fa Fh DrK
theorem event_fg (g:Nat) (L:List TX) (s:PS) (hs:s.l<:+L.map TX.t) (hL:L.length≤1048576) (hw:∀t∈L,t.t.text.length≤1099511627776):Fg Tryz.prog 63 g (rdO L s) [.c (.optr g 0)] (.agg (evc (eventS s).1)) (rdO L (eventS s).2):=by
 have f1:=word_fg g L s hs om
 have hs1:=suf_word hs
 unfold eventS
 dsimp only
 generalize wordS s=r at*
 obtain⟨nm,s1⟩:=r
 dsimp only at*
 generalize hF:lpS (fun s=> !isS s kSemi) evB ([],{ev0 with name:=nm}) s1=F at*
 have hsF:F.2.l<:+L.map TX.t:=by rw [←hF];exact((rdr_lp rdr_evB _).suf s1).trans hs1
 have f8:=expect_fg g L F.2 kSemi hsF om
 unfold Fg
 refine fh_of_body Tryz.func63 rfl rfl (by simp [Tryz.ntmps63]) fun C hC=> ?_
 simp only [initS,Nat.reduceAdd]
 apply wa1
 apply wa6
 refine xA fun g2 hn_g2=>?_
 refine yH hn_g2 ?_
 apply wa1
 apply wa6
 refine yH hn_g2 ?_
 refine aw_cg f1 rfl rfl rfl (zE hn_g2) (zL2 o0) ?_
 refine yS hn_g2 ?_
 refine yH hn_g2 ?_
 refine yA hn_g2 fun g3 hn_g3=>?_
 have J1:=oj hn_g2 hn_g3
 refine yW J1 ?_
 refine yS J1 ?_
 refine yH J1 ?_
 refine aw_convR (f':=ofL (evc {ev0 with name:=nm})) conv_ev ?_
 apply wa1
 apply wa6
 refine aw_makeMap (Kf:=keyS) rfl rfl rfl fun gm hn_gm=> ?_
 replace hn_gm:=Heap.ne_of hn_gm
 simp only [Heap.ne] at hn_gm
 have J2:=oj hn_g2 (oj hn_g3 hn_gm)
 refine yS J2 ?_
 refine yH J2 ?_
 apply wa1
 refine aw_cut (fun _:Unit=>[(0,.c (.optr g 0)),(2,.c (.optr g2 0)),(3,.c (.optr g3 0))]) (fun _=>[(g3,.cells 61 11 (ofL (evc F.1.2))),(g2,.cells 61 11 (ofL [.str (sB []),.bool false,.nils,.nils,.bool false,.nils,.nils,.bool false,.nils,.nils,.int .i64 0])),(g,rdO L F.2)]) (fun _=>1=1) ?_ ?_
 ·apply wa2
  refine aw_lp (fun _:PS×List BS×EvD=>[(0,.c (.optr g 0)),(2,.c (.optr g2 0)),(3,.c (.optr g3 0)),(4,.c (.raw (.map (some gm))))]) (fun x=>[(gm,.gen (MapI keyS (svL x.2.1))),(g3,.cells 61 11 (ofL (evc x.2.2))),(g2,.cells 61 11 (ofL [.str (sB []),.bool false,.nils,.nils,.bool false,.nils,.nils,.bool false,.nils,.nils,.int .i64 0])),(g,rdO L x.1)])
   (fun x=>x.1.l<:+L.map TX.t∧(x.1.e=0→x.2.1.contains []=false)∧lpS (fun s=> !isS s kSemi) evB (x.2.1,x.2.2) x.1=F) (fun x=>mS x.1) (s1,[],{ev0 with name:=nm}) (zB J2) zZ ⟨hs1,fun _=>rfl,hF⟩ ?_
  rintro ⟨sx,seen,x⟩ ⟨hsx,hne,hlp⟩
  dsimp only at hsx hne hlp⊢
  have i0:=is_fg g L sx kSemi hsx om
  have i1:=is_fg g L sx kP hsx om
  have i2:=is_fg g L sx kFail hsx om
  have i3:=is_fg g L sx kRepair hsx om
  have i4:=is_fg g L sx kCost hsx om
  have hr:=rat hsx
  have hcon:=con_evB (seen,x) sx
  have hsuf:=((rdr_evB (seen,x)).suf sx).trans hsx
  have hst:=fun h0 hc=>lpS_step (c:=fun s=> !isS s kSemi) (b:=evB) (a:=(seen,x)) (s:=sx) (fun a s h _=>con_evB a s h) h0 hc
  all_goals try(have Z:=J2;(repeat' first|refine yA1 Z ?_|(refine zg Z (i0) ?_)|(refine zg Z (i1) ?_)|(refine zg Z (i2) ?_)|(refine zg Z (i3) ?_)|(refine zg Z (i4) ?_)|refine zW Z ?_|refine yP Z ?_|refine yN Z ?_|refine zC Z (fun hb=>?_) fun hb=>?_|refine zG Z (fun hb=>?_) fun hb=>?_|refine zD Z (fun hb=>?_) fun hb=>?_);all_goals clear Z)
  ·rename_i h0 hc
   obtain⟨_,t,l',hl,hk,ht⟩:=is_tok hb
   have hB:=evB_p seen x h0 hl hk ht
   have hat:L.length-sx.l.length<L.length:=Classical.byContradiction fun h=>by have:=hr.nil h;rw [this] at hl;cases hl
   obtain⟨l2,hl2,hl3⟩:=hr.cons hat
   have htx:(L.getD (L.length-sx.l.length) tx0).t.text=kP:=by
    have hx:=(List.cons.inj (hl.symm.trans hl2)).1
    rw [←hx];exact ht
   have hsl:l'<:+L.map TX.t:=(show l'<:+sx.l from by rw [hl];exact List.suffix_cons t l').trans hsx
   have hcon':=hcon h0
   have hst':=hst h0 hc
   have q0:(kP==kP)=true:=rfl
   have q1:(kP==kFail)=false:=rfl
   have q2:(kP==kRepair)=false:=rfl
   have q3:(kP==kCost)=false:=rfl
   refine aw_dr 16 ty_mixed (by kernel_rfl) ?_
   all_goals try(have Z:=(oj hn_g2 (oj hn_g3 (oj hn_gm (oj htx (oj q0 (oj q1 (oj q2 q3)))))));(repeat' first|refine yA1 Z ?_|refine zW Z ?_|refine yP Z ?_|refine yN Z ?_|refine zC Z (fun hb=>?_) fun hb=>?_|refine zG Z (fun hb=>?_) fun hb=>?_|refine zD Z (fun hb=>?_) fun hb=>?_);all_goals clear Z)
   refine drk_lookup1 (a:=kP) (kv:=svL seen) (Kf:=keyS) (z:=.bool false) rfl rfl rfl (kt:=9) (et:=4) (by kernel_rfl) (keyS_ok (by kernel_rfl)) (by kernel_rfl) (zE (oj hn_g2 (oj hn_g3 (oj hn_gm (oj htx (oj q0 (oj q1 (oj q2 q3)))))))) (zE (oj hn_g2 (oj hn_g3 (oj hn_gm (oj htx (oj q0 (oj q1 (oj q2 q3)))))))) (ck:=.c (.str (sB kP))) (zE (oj hn_g2 (oj hn_g3 (oj hn_gm (oj htx (oj q0 (oj q1 (oj q2 q3)))))))) (fun _ _ _ h=>h) ?_
   rw [svL_get]
   by_cases hcs:seen.contains kP=true
   ·rw [if_pos hcs] at hB⊢
    have f6:=fail_fg g L sx 6 (by decide)
    all_goals try(have Z:=(oj hn_g2 (oj hn_g3 (oj hn_gm (oj htx (oj q0 (oj q1 (oj q2 q3)))))));(repeat' first|refine yA1 Z ?_|(refine zg Z (f6) ?_)|refine zW Z ?_|refine yP Z ?_|refine yN Z ?_|refine zC Z (fun hb=>?_) fun hb=>?_|refine zG Z (fun hb=>?_) fun hb=>?_|refine zD Z (fun hb=>?_) fun hb=>?_);all_goals clear Z)
    rw [hst',hB,lpS_end (fun z=>by have:=z.1;unfold failS at this;rw [if_pos h0] at this;exact absurd this (by simp))] at hlp
    subst hlp
    refine aw_stop ⟨(),?_⟩
    and_intros<;>first|rfl|exact List.Sublist.cons _ (List.Sublist.refl _)|exact True.intro
   ·rw [if_neg hcs] at hB⊢
    have hcs':seen.contains kP=false:=by simpa using hcs
    have f6:=take_fg g L sx true hsx om
    rw [take_cons h0 hl,if_pos rfl,ht] at f6
    dsimp only at f6
    have f7:=number_fg g L ⟨l',0⟩ hsl om hw
    all_goals try(have Z:=(oj hn_g2 (oj hn_g3 (oj hn_gm (oj htx (oj q0 (oj q1 (oj q2 q3)))))));(repeat' first|refine yA1 Z ?_|(refine zg Z (f6) ?_)|refine zW Z ?_|refine yP Z ?_|refine yN Z ?_|refine zC Z (fun hb=>?_) fun hb=>?_|refine zG Z (fun hb=>?_) fun hb=>?_|refine zD Z (fun hb=>?_) fun hb=>?_);all_goals clear Z)
    refine aw_mapNew (a:=kP) (kv:=svL seen) (Kf:=keyS) (v:=.bool true) rfl rfl rfl (kt:=9) (et:=4) (by kernel_rfl) (keyS_ok (by kernel_rfl)) (zE (oj hn_g2 (oj hn_g3 (oj hn_gm (oj htx (oj q0 (oj q1 (oj q2 q3)))))))) (zE (oj hn_g2 (oj hn_g3 (oj hn_gm (oj htx (oj q0 (oj q1 (oj q2 q3)))))))) (ck:=.c (.str (sB kP))) (zE (oj hn_g2 (oj hn_g3 (oj hn_gm (oj htx (oj q0 (oj q1 (oj q2 q3)))))))) (fun _ _ _ h=>h) (cv:=.c (.bool true)) (zE (oj hn_g2 (oj hn_g3 (oj hn_gm (oj htx (oj q0 (oj q1 (oj q2 q3)))))))) (fun _ _ _ h=>h) (by rw [svL_get,hcs'];rfl) rfl ?_
    rw [←svL_cons]
    all_goals try(have Z:=(oj hn_g2 (oj hn_g3 (oj hn_gm (oj htx (oj q0 (oj q1 (oj q2 q3)))))));(repeat' first|refine yA1 Z ?_|(refine zg Z (f7) ?_)|refine zW Z ?_|refine yP Z ?_|refine yN Z ?_|refine zC Z (fun hb=>?_) fun hb=>?_|refine zG Z (fun hb=>?_) fun hb=>?_|refine zD Z (fun hb=>?_) fun hb=>?_);all_goals clear Z)
    rw [hB] at hcon' hsuf
    rw [hst',hB] at hlp
    refine aw_stop ⟨((numS ⟨l',0⟩).2,kP::seen,{x with p:=(numS ⟨l',0⟩).1}),?_⟩
    refine⟨hcon',?_⟩
    and_intros
    all_goals first|rfl|exact List.Sublist.refl _|exact True.intro|exact hsuf|exact hlp|exact fun _=>by dsimp only;rw [List.contains_cons,hne h0];rfl
  ·rename_i h0 hc n0
   obtain⟨_,t,l',hl,hk,ht⟩:=is_tok hb
   have hB:=evB_fail seen x h0 hl hk ht
   have hat:L.length-sx.l.length<L.length:=Classical.byContradiction fun h=>by have:=hr.nil h;rw [this] at hl;cases hl
   obtain⟨l2,hl2,hl3⟩:=hr.cons hat
   have htx:(L.getD (L.length-sx.l.length) tx0).t.text=kFail:=by
    have hx:=(List.cons.inj (hl.symm.trans hl2)).1
    rw [←hx];exact ht
   have hsl:l'<:+L.map TX.t:=(show l'<:+sx.l from by rw [hl];exact List.suffix_cons t l').trans hsx
   have hcon':=hcon h0
   have hst':=hst h0 hc
   have q0:(kFail==kP)=false:=rfl
   have q1:(kFail==kFail)=true:=rfl
   have q2:(kFail==kRepair)=false:=rfl
   have q3:(kFail==kCost)=false:=rfl
   refine aw_dr 16 ty_mixed (by kernel_rfl) ?_
   all_goals try(have Z:=(oj hn_g2 (oj hn_g3 (oj hn_gm (oj htx (oj q0 (oj q1 (oj q2 q3)))))));(repeat' first|refine yA1 Z ?_|refine zW Z ?_|refine yP Z ?_|refine yN Z ?_|refine zC Z (fun hb=>?_) fun hb=>?_|refine zG Z (fun hb=>?_) fun hb=>?_|refine zD Z (fun hb=>?_) fun hb=>?_);all_goals clear Z)
   refine drk_lookup1 (a:=kFail) (kv:=svL seen) (Kf:=keyS) (z:=.bool false) rfl rfl rfl (kt:=9) (et:=4) (by kernel_rfl) (keyS_ok (by kernel_rfl)) (by kernel_rfl) (zE (oj hn_g2 (oj hn_g3 (oj hn_gm (oj htx (oj q0 (oj q1 (oj q2 q3)))))))) (zE (oj hn_g2 (oj hn_g3 (oj hn_gm (oj htx (oj q0 (oj q1 (oj q2 q3)))))))) (ck:=.c (.str (sB kFail))) (zE (oj hn_g2 (oj hn_g3 (oj hn_gm (oj htx (oj q0 (oj q1 (oj q2 q3)))))))) (fun _ _ _ h=>h) ?_
   rw [svL_get]
   by_cases hcs:seen.contains kFail=true
   ·rw [if_pos hcs] at hB⊢
    have f6:=fail_fg g L sx 6 (by decide)
    all_goals try(have Z:=(oj hn_g2 (oj hn_g3 (oj hn_gm (oj htx (oj q0 (oj q1 (oj q2 q3)))))));(repeat' first|refine yA1 Z ?_|(refine zg Z (f6) ?_)|refine zW Z ?_|refine yP Z ?_|refine yN Z ?_|refine zC Z (fun hb=>?_) fun hb=>?_|refine zG Z (fun hb=>?_) fun hb=>?_|refine zD Z (fun hb=>?_) fun hb=>?_);all_goals clear Z)
    rw [hst',hB,lpS_end (fun z=>by have:=z.1;unfold failS at this;rw [if_pos h0] at this;exact absurd this (by simp))] at hlp
    subst hlp
    refine aw_stop ⟨(),?_⟩
    and_intros<;>first|rfl|exact List.Sublist.cons _ (List.Sublist.refl _)|exact True.intro
   ·rw [if_neg hcs] at hB⊢
    have hcs':seen.contains kFail=false:=by simpa using hcs
    have f6:=take_fg g L sx true hsx om
    rw [take_cons h0 hl,if_pos rfl,ht] at f6
    dsimp only at f6
    have f7:=number_fg g L ⟨l',0⟩ hsl om hw
    all_goals try(have Z:=(oj hn_g2 (oj hn_g3 (oj hn_gm (oj htx (oj q0 (oj q1 (oj q2 q3)))))));(repeat' first|refine yA1 Z ?_|(refine zg Z (f6) ?_)|refine zW Z ?_|refine yP Z ?_|refine yN Z ?_|refine zC Z (fun hb=>?_) fun hb=>?_|refine zG Z (fun hb=>?_) fun hb=>?_|refine zD Z (fun hb=>?_) fun hb=>?_);all_goals clear Z)
    refine aw_mapNew (a:=kFail) (kv:=svL seen) (Kf:=keyS) (v:=.bool true) rfl rfl rfl (kt:=9) (et:=4) (by kernel_rfl) (keyS_ok (by kernel_rfl)) (zE (oj hn_g2 (oj hn_g3 (oj hn_gm (oj htx (oj q0 (oj q1 (oj q2 q3)))))))) (zE (oj hn_g2 (oj hn_g3 (oj hn_gm (oj htx (oj q0 (oj q1 (oj q2 q3)))))))) (ck:=.c (.str (sB kFail))) (zE (oj hn_g2 (oj hn_g3 (oj hn_gm (oj htx (oj q0 (oj q1 (oj q2 q3)))))))) (fun _ _ _ h=>h) (cv:=.c (.bool true)) (zE (oj hn_g2 (oj hn_g3 (oj hn_gm (oj htx (oj q0 (oj q1 (oj q2 q3)))))))) (fun _ _ _ h=>h) (by rw [svL_get,hcs'];rfl) rfl ?_
    rw [←svL_cons]
    all_goals try(have Z:=(oj hn_g2 (oj hn_g3 (oj hn_gm (oj htx (oj q0 (oj q1 (oj q2 q3)))))));(repeat' first|refine yA1 Z ?_|(refine zg Z (f7) ?_)|refine zW Z ?_|refine yP Z ?_|refine yN Z ?_|refine zC Z (fun hb=>?_) fun hb=>?_|refine zG Z (fun hb=>?_) fun hb=>?_|refine zD Z (fun hb=>?_) fun hb=>?_);all_goals clear Z)
    rw [hB] at hcon' hsuf
    rw [hst',hB] at hlp
    refine aw_stop ⟨((numS ⟨l',0⟩).2,kFail::seen,{x with fail:=(numS ⟨l',0⟩).1}),?_⟩
    refine⟨hcon',?_⟩
    and_intros
    all_goals first|rfl|exact List.Sublist.refl _|exact True.intro|exact hsuf|exact hlp|exact fun _=>by dsimp only;rw [List.contains_cons,hne h0];rfl
  ·rename_i h0 hc n0 n1
   obtain⟨_,t,l',hl,hk,ht⟩:=is_tok hb
   have hB:=evB_rep seen x h0 hl hk ht
   have hat:L.length-sx.l.length<L.length:=Classical.byContradiction fun h=>by have:=hr.nil h;rw [this] at hl;cases hl
   obtain⟨l2,hl2,hl3⟩:=hr.cons hat
   have htx:(L.getD (L.length-sx.l.length) tx0).t.text=kRepair:=by
    have hx:=(List.cons.inj (hl.symm.trans hl2)).1
    rw [←hx];exact ht
   have hsl:l'<:+L.map TX.t:=(show l'<:+sx.l from by rw [hl];exact List.suffix_cons t l').trans hsx
   have hcon':=hcon h0
   have hst':=hst h0 hc
   have q0:(kRepair==kP)=false:=rfl
   have q1:(kRepair==kFail)=false:=rfl
   have q2:(kRepair==kRepair)=true:=rfl
   have q3:(kRepair==kCost)=false:=rfl
   refine aw_dr 16 ty_mixed (by kernel_rfl) ?_
   all_goals try(have Z:=(oj hn_g2 (oj hn_g3 (oj hn_gm (oj htx (oj q0 (oj q1 (oj q2 q3)))))));(repeat' first|refine yA1 Z ?_|refine zW Z ?_|refine yP Z ?_|refine yN Z ?_|refine zC Z (fun hb=>?_) fun hb=>?_|refine zG Z (fun hb=>?_) fun hb=>?_|refine zD Z (fun hb=>?_) fun hb=>?_);all_goals clear Z)
   refine drk_lookup1 (a:=kRepair) (kv:=svL seen) (Kf:=keyS) (z:=.bool false) rfl rfl rfl (kt:=9) (et:=4) (by kernel_rfl) (keyS_ok (by kernel_rfl)) (by kernel_rfl) (zE (oj hn_g2 (oj hn_g3 (oj hn_gm (oj htx (oj q0 (oj q1 (oj q2 q3)))))))) (zE (oj hn_g2 (oj hn_g3 (oj hn_gm (oj htx (oj q0 (oj q1 (oj q2 q3)))))))) (ck:=.c (.str (sB kRepair))) (zE (oj hn_g2 (oj hn_g3 (oj hn_gm (oj htx (oj q0 (oj q1 (oj q2 q3)))))))) (fun _ _ _ h=>h) ?_
   rw [svL_get]
   by_cases hcs:seen.contains kRepair=true
   ·rw [if_pos hcs] at hB⊢
    have f6:=fail_fg g L sx 6 (by decide)
    all_goals try(have Z:=(oj hn_g2 (oj hn_g3 (oj hn_gm (oj htx (oj q0 (oj q1 (oj q2 q3)))))));(repeat' first|refine yA1 Z ?_|(refine zg Z (f6) ?_)|refine zW Z ?_|refine yP Z ?_|refine yN Z ?_|refine zC Z (fun hb=>?_) fun hb=>?_|refine zG Z (fun hb=>?_) fun hb=>?_|refine zD Z (fun hb=>?_) fun hb=>?_);all_goals clear Z)
    rw [hst',hB,lpS_end (fun z=>by have:=z.1;unfold failS at this;rw [if_pos h0] at this;exact absurd this (by simp))] at hlp
    subst hlp
    refine aw_stop ⟨(),?_⟩
    and_intros<;>first|rfl|exact List.Sublist.cons _ (List.Sublist.refl _)|exact True.intro
   ·rw [if_neg hcs] at hB⊢
    have hcs':seen.contains kRepair=false:=by simpa using hcs
    have f6:=take_fg g L sx true hsx om
    rw [take_cons h0 hl,if_pos rfl,ht] at f6
    dsimp only at f6
    have f7:=number_fg g L ⟨l',0⟩ hsl om hw
    all_goals try(have Z:=(oj hn_g2 (oj hn_g3 (oj hn_gm (oj htx (oj q0 (oj q1 (oj q2 q3)))))));(repeat' first|refine yA1 Z ?_|(refine zg Z (f6) ?_)|refine zW Z ?_|refine yP Z ?_|refine yN Z ?_|refine zC Z (fun hb=>?_) fun hb=>?_|refine zG Z (fun hb=>?_) fun hb=>?_|refine zD Z (fun hb=>?_) fun hb=>?_);all_goals clear Z)
    refine aw_mapNew (a:=kRepair) (kv:=svL seen) (Kf:=keyS) (v:=.bool true) rfl rfl rfl (kt:=9) (et:=4) (by kernel_rfl) (keyS_ok (by kernel_rfl)) (zE (oj hn_g2 (oj hn_g3 (oj hn_gm (oj htx (oj q0 (oj q1 (oj q2 q3)))))))) (zE (oj hn_g2 (oj hn_g3 (oj hn_gm (oj htx (oj q0 (oj q1 (oj q2 q3)))))))) (ck:=.c (.str (sB kRepair))) (zE (oj hn_g2 (oj hn_g3 (oj hn_gm (oj htx (oj q0 (oj q1 (oj q2 q3)))))))) (fun _ _ _ h=>h) (cv:=.c (.bool true)) (zE (oj hn_g2 (oj hn_g3 (oj hn_gm (oj htx (oj q0 (oj q1 (oj q2 q3)))))))) (fun _ _ _ h=>h) (by rw [svL_get,hcs'];rfl) rfl ?_
    rw [←svL_cons]
    all_goals try(have Z:=(oj hn_g2 (oj hn_g3 (oj hn_gm (oj htx (oj q0 (oj q1 (oj q2 q3)))))));(repeat' first|refine yA1 Z ?_|(refine zg Z (f7) ?_)|refine zW Z ?_|refine yP Z ?_|refine yN Z ?_|refine zC Z (fun hb=>?_) fun hb=>?_|refine zG Z (fun hb=>?_) fun hb=>?_|refine zD Z (fun hb=>?_) fun hb=>?_);all_goals clear Z)
    rw [hB] at hcon' hsuf
    rw [hst',hB] at hlp
    refine aw_stop ⟨((numS ⟨l',0⟩).2,kRepair::seen,{x with rep:=(numS ⟨l',0⟩).1}),?_⟩
    refine⟨hcon',?_⟩
    and_intros
    all_goals first|rfl|exact List.Sublist.refl _|exact True.intro|exact hsuf|exact hlp|exact fun _=>by dsimp only;rw [List.contains_cons,hne h0];rfl
  ·rename_i h0 hc n0 n1
   have n2:=hb
   cases hb:isS sx kCost with
   |true=>
    obtain⟨_,t,l',hl,hk,ht⟩:=is_tok hb
    have hB:=evB_cost seen x h0 hl hk ht
    have hat:L.length-sx.l.length<L.length:=Classical.byContradiction fun h=>by have:=hr.nil h;rw [this] at hl;cases hl
    obtain⟨l2,hl2,hl3⟩:=hr.cons hat
    have htx:(L.getD (L.length-sx.l.length) tx0).t.text=kCost:=by
     have hx:=(List.cons.inj (hl.symm.trans hl2)).1
     rw [←hx];exact ht
    have hsl:l'<:+L.map TX.t:=(show l'<:+sx.l from by rw [hl];exact List.suffix_cons t l').trans hsx
    have hcon':=hcon h0
    have hst':=hst h0 hc
    have q0:(kCost==kP)=false:=rfl
    have q1:(kCost==kFail)=false:=rfl
    have q2:(kCost==kRepair)=false:=rfl
    have q3:(kCost==kCost)=true:=rfl
    refine aw_dr 16 ty_mixed (by kernel_rfl) ?_
    all_goals try(have Z:=(oj hn_g2 (oj hn_g3 (oj hn_gm (oj htx (oj q0 (oj q1 (oj q2 q3)))))));(repeat' first|refine yA1 Z ?_|refine zW Z ?_|refine yP Z ?_|refine yN Z ?_|refine zC Z (fun hb=>?_) fun hb=>?_|refine zG Z (fun hb=>?_) fun hb=>?_|refine zD Z (fun hb=>?_) fun hb=>?_);all_goals clear Z)
    refine drk_lookup1 (a:=kCost) (kv:=svL seen) (Kf:=keyS) (z:=.bool false) rfl rfl rfl (kt:=9) (et:=4) (by kernel_rfl) (keyS_ok (by kernel_rfl)) (by kernel_rfl) (zE (oj hn_g2 (oj hn_g3 (oj hn_gm (oj htx (oj q0 (oj q1 (oj q2 q3)))))))) (zE (oj hn_g2 (oj hn_g3 (oj hn_gm (oj htx (oj q0 (oj q1 (oj q2 q3)))))))) (ck:=.c (.str (sB kCost))) (zE (oj hn_g2 (oj hn_g3 (oj hn_gm (oj htx (oj q0 (oj q1 (oj q2 q3)))))))) (fun _ _ _ h=>h) ?_
    rw [svL_get]
    by_cases hcs:seen.contains kCost=true
    ·rw [if_pos hcs] at hB⊢
     have f6:=fail_fg g L sx 6 (by decide)
     all_goals try(have Z:=(oj hn_g2 (oj hn_g3 (oj hn_gm (oj htx (oj q0 (oj q1 (oj q2 q3)))))));(repeat' first|refine yA1 Z ?_|(refine zg Z (f6) ?_)|refine zW Z ?_|refine yP Z ?_|refine yN Z ?_|refine zC Z (fun hb=>?_) fun hb=>?_|refine zG Z (fun hb=>?_) fun hb=>?_|refine zD Z (fun hb=>?_) fun hb=>?_);all_goals clear Z)
     rw [hst',hB,lpS_end (fun z=>by have:=z.1;unfold failS at this;rw [if_pos h0] at this;exact absurd this (by simp))] at hlp
     subst hlp
     refine aw_stop ⟨(),?_⟩
     and_intros<;>first|rfl|exact List.Sublist.cons _ (List.Sublist.refl _)|exact True.intro
    ·rw [if_neg hcs] at hB⊢
     have hcs':seen.contains kCost=false:=by simpa using hcs
     have f6:=take_fg g L sx true hsx om
     rw [take_cons h0 hl,if_pos rfl,ht] at f6
     dsimp only at f6
     have f7:=whole_fg g L ⟨l',0⟩ hsl om hw
     all_goals try(have Z:=(oj hn_g2 (oj hn_g3 (oj hn_gm (oj htx (oj q0 (oj q1 (oj q2 q3)))))));(repeat' first|refine yA1 Z ?_|(refine zg Z (f6) ?_)|refine zW Z ?_|refine yP Z ?_|refine yN Z ?_|refine zC Z (fun hb=>?_) fun hb=>?_|refine zG Z (fun hb=>?_) fun hb=>?_|refine zD Z (fun hb=>?_) fun hb=>?_);all_goals clear Z)
     refine aw_mapNew (a:=kCost) (kv:=svL seen) (Kf:=keyS) (v:=.bool true) rfl rfl rfl (kt:=9) (et:=4) (by kernel_rfl) (keyS_ok (by kernel_rfl)) (zE (oj hn_g2 (oj hn_g3 (oj hn_gm (oj htx (oj q0 (oj q1 (oj q2 q3)))))))) (zE (oj hn_g2 (oj hn_g3 (oj hn_gm (oj htx (oj q0 (oj q1 (oj q2 q3)))))))) (ck:=.c (.str (sB kCost))) (zE (oj hn_g2 (oj hn_g3 (oj hn_gm (oj htx (oj q0 (oj q1 (oj q2 q3)))))))) (fun _ _ _ h=>h) (cv:=.c (.bool true)) (zE (oj hn_g2 (oj hn_g3 (oj hn_gm (oj htx (oj q0 (oj q1 (oj q2 q3)))))))) (fun _ _ _ h=>h) (by rw [svL_get,hcs'];rfl) rfl ?_
     rw [←svL_cons]
     all_goals try(have Z:=(oj hn_g2 (oj hn_g3 (oj hn_gm (oj htx (oj q0 (oj q1 (oj q2 q3)))))));(repeat' first|refine yA1 Z ?_|(refine zg Z (f7) ?_)|refine zW Z ?_|refine yP Z ?_|refine yN Z ?_|refine zC Z (fun hb=>?_) fun hb=>?_|refine zG Z (fun hb=>?_) fun hb=>?_|refine zD Z (fun hb=>?_) fun hb=>?_);all_goals clear Z)
     rw [hB] at hcon' hsuf
     rw [hst',hB] at hlp
     refine aw_stop ⟨((wholeS ⟨l',0⟩).2,kCost::seen,{x with cost:=(wholeS ⟨l',0⟩).1}),?_⟩
     refine⟨hcon',?_⟩
     and_intros
     all_goals first|rfl|exact List.Sublist.refl _|exact True.intro|exact hsuf|exact hlp|exact fun _=>by dsimp only;rw [List.contains_cons,hne h0];rfl
   |false=>
    have hB:=evB_no seen x n0 n1 n2 hb
    obtain⟨ht1,ht2⟩:=take_f sx h0
    have hcon':=hcon h0
    have hst':=hst h0 hc
    have f6:=take_fg g L sx false hsx om
    rw [ht1] at f6 hB
    have q0:(([]:BS)==kP)=false:=rfl
    have q1:(([]:BS)==kFail)=false:=rfl
    have q2:(([]:BS)==kRepair)=false:=rfl
    have q3:(([]:BS)==kCost)=false:=rfl
    refine aw_dr 16 ty_mixed (by kernel_rfl) ?_
    all_goals try(have Z:=(oj hn_g2 (oj hn_g3 (oj hn_gm (oj q0 (oj q1 (oj q2 q3))))));(repeat' first|refine yA1 Z ?_|(refine zg Z (f6) ?_)|refine zW Z ?_|refine yP Z ?_|refine yN Z ?_|refine zC Z (fun hb=>?_) fun hb=>?_|refine zG Z (fun hb=>?_) fun hb=>?_|refine zD Z (fun hb=>?_) fun hb=>?_);all_goals clear Z)
    refine aw_mapNew (a:=([]:BS)) (kv:=svL seen) (Kf:=keyS) (v:=.bool true) rfl rfl rfl (kt:=9) (et:=4) (by kernel_rfl) (keyS_ok (by kernel_rfl)) (zE (oj hn_g2 (oj hn_g3 (oj hn_gm (oj q0 (oj q1 (oj q2 q3))))))) (zE (oj hn_g2 (oj hn_g3 (oj hn_gm (oj q0 (oj q1 (oj q2 q3))))))) (ck:=.c (.str (sB []))) (zE (oj hn_g2 (oj hn_g3 (oj hn_gm (oj q0 (oj q1 (oj q2 q3))))))) (fun _ _ _ h=>h) (cv:=.c (.bool true)) (zE (oj hn_g2 (oj hn_g3 (oj hn_gm (oj q0 (oj q1 (oj q2 q3))))))) (fun _ _ _ h=>h) (by rw [svL_get,hne h0];rfl) rfl ?_
    rw [←svL_cons]
    have J3:=oj hn_g2 (oj hn_g3 (oj hn_gm (oj q0 (oj q1 (oj q2 q3)))))
    refine yS J3 ?_
    all_goals try(have Z:=J3;(repeat' first|refine yA1 Z ?_|refine zW Z ?_|refine yP Z ?_|refine yN Z ?_|refine zC Z (fun hb=>?_) fun hb=>?_|refine zG Z (fun hb=>?_) fun hb=>?_|refine zD Z (fun hb=>?_) fun hb=>?_);all_goals clear Z)
    rw [hB] at hcon' hsuf
    rw [hst',hB] at hlp
    refine aw_stop ⟨((takeS false sx).2,[]::seen,x),?_⟩
    refine⟨hcon',?_⟩
    and_intros
    all_goals first|rfl|exact List.Sublist.refl _|exact True.intro|exact hsuf|exact hlp|exact fun z=>absurd z ht2
  ·have hc:¬(sx.e=0∧(fun s=> !isS s kSemi) sx=true):=fun z=>by rw [show(fun s=> !isS s kSemi) sx=false from hb] at z;exact absurd z.2 (by decide)
   rw [lpS_end hc] at hlp
   subst hlp
   refine aw_stop ⟨(),?_⟩
   and_intros<;>first|rfl|exact List.Sublist.cons _ (List.Sublist.refl _)|exact True.intro
  ·have hc:¬(sx.e=0∧(fun s=> !isS s kSemi) sx=true):=fun z=>hb z.1
   rw [lpS_end hc] at hlp
   subst hlp
   refine aw_stop ⟨(),?_⟩
   and_intros<;>first|rfl|exact List.Sublist.cons _ (List.Sublist.refl _)|exact True.intro
 rintro _ _
 all_goals try(have Z:=J2;(repeat' first|refine yA1 Z ?_|(refine zg Z (f8) ?_)|refine zW Z ?_|refine yP Z ?_|refine yN Z ?_|refine zC Z (fun hb=>?_) fun hb=>?_|refine zG Z (fun hb=>?_) fun hb=>?_|refine zD Z (fun hb=>?_) fun hb=>?_);all_goals clear Z)
 refine aw_rethw (h':=[(g,rdO L (expS kSemi F.2))]) rfl (by first|exact List.Sublist.refl _|exact .cons _ (.refl _)|exact .cons _ (.cons _ (.refl _))|exact .cons _ (.cons _ (.cons _ (.refl _)))) fun R r=>?_;simp only[go_sem,hn_g2,hn_g3,hn_gm];refine r _ rfl ?_;clear r R
 exact⟨rfl,rfl⟩
end Go.Proofs.YteocnikcjjonbaaGreat
