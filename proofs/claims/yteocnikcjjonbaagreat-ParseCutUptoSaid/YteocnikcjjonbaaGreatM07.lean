/- Parts of one proof, laid by a program. -/
import Derived.Test.YteocnikcjjonbaaGreatM00
import Derived.Test.YteocnikcjjonbaaGreatM06
set_option linter.unusedSimpArgs false
set_option linter.unusedVariables false
set_option maxRecDepth 100000
set_option maxHeartbeats 12800000
namespace Go.PN
open Go.AI
theorem natB_fit {s:BS} (hd:∀i,i<s.length→isDig (bAt s i)=true):fits (natB s:Rat) (s.length+1):=by have:=natB_fits hd (Nat.le_refl s.length);rwa [List.take_length] at this
theorem val_fits {s:BS} (h:valC s=0):fits (valQ s) 500:=by
 unfold valC at h
 split at h
 ·cases h
 ·rename_i h100
  split at h
  ·cases h
  ·rename_i hn
   have hn:isNum s=true:=by simpa using hn
   obtain⟨hf,h0⟩:=num_form hn
   unfold valQ
   by_cases hsl:idxB 47 s<s.length
   ·rw [if_pos hsl]
    have hz:natB (s.drop (idxB 47 s+1))≠0:=fun e=>by rw [if_pos ⟨hsl,e⟩] at h;cases h
    cases hf with
    |all hh=>have:=(ix_all hh).1;omega
    |two e he hm h1 h2=>
     rcases hm with hm|hm
     ·have:=(ix_point he hm h1 h2).1;omega
     ·rw [ix_slash he hm h1] at hz⊢
      have f1:=natB_fit (dig_take h1)
      have f2:=natB_fit (dig_drop h2)
      exact fits_mono (fits_div f1 f2 (by simpa using hz)) (by rw [List.length_take,List.length_drop];omega)
   ·rw [if_neg hsl]
    have key:(∀i,i<(s.take (idxB 46 s)++s.drop (idxB 46 s+1)).length→isDig (bAt (s.take (idxB 46 s)++s.drop (idxB 46 s+1)) i)=true):=by
     have app:∀(a b:BS),(∀i,i<a.length→isDig (bAt a i)=true)→(∀i,i<b.length→isDig (bAt b i)=true)→∀i,i<(a++b).length→isDig (bAt (a++b) i)=true:=fun a b hda hdb i hi=>by
      by_cases h:i<a.length
      ·have:=hda i h
       unfold bAt at this⊢
       rw [List.getD_eq_getElem?_getD] at this⊢
       rwa [List.getElem?_append_left h]
      ·have:=hdb (i-a.length) (by rw [List.length_append] at hi;omega)
       unfold bAt at this⊢
       rw [List.getD_eq_getElem?_getD] at this⊢
       rwa [List.getElem?_append_right om]
     cases hf with
     |all hh=>
      rw [(ix_all hh).2,List.take_length,List.drop_of_length_le om]
      exact app _ _ hh fun i hi=>absurd hi (by simp)
     |two e he hm h1 h2=>
      rcases hm with hm|hm
      ·rw [(ix_point he hm h1 h2).2];exact app _ _ (dig_take h1) (dig_drop h2)
      ·have:=ix_slash he hm h1;omega
    have f1:=natB_fit key
    have f2:fits ((10^(s.drop (idxB 46 s+1)).length:Nat):Rat) ((s.drop (idxB 46 s+1)).length+1):=nat_fits (pow10_lt _) om
    exact fits_mono (fits_div f1 f2 (pow10_ne _)) (by rw [List.length_append,List.length_take,List.length_drop];omega)
theorem valR_wf (s:BS):(valR s).wf 500:=by
 unfold valR
 split
 ·rename_i h;exact rd_wf (val_fits h)
 ·exact⟨fun x hx=>(by cases hx),fun x hx=>(by cases hx),Nat.zero_le _,Nat.zero_le _⟩
theorem numS_wf (s:PS):(numS s).1.wf 500:=by
 unfold numS
 dsimp only
 split
 ·exact valR_wf _
 ·exact⟨fun x hx=>(by cases hx),fun x hx=>(by cases hx),Nat.zero_le _,Nat.zero_le _⟩
end Go.PN
namespace Go.Proofs.YteocnikcjjonbaaGreat
open Go.AI Go.PN
attribute [local irreducible] aw Fa Fh DrK
theorem whole_fg (g:Nat) (L:List TX) (s:PS) (hs:s.l<:+L.map TX.t) (hL:L.length≤1099511627776) (hw:∀t∈L,t.t.text.length≤1099511627776):Fg Tryz.prog 107 g (rdO L s) [.c (.optr g 0)] (.c (.int .i64 (wholeS s).1)) (rdO L (wholeS s).2):=by
 have f1:=number_fg g L s hs hL hw
 have f2:=rint_fa (numS s).1 (wf_mono (numS_wf s) om)
 unfold Fg
 unfold wholeS
 dsimp only
 generalize hr:numS s=r at*
 obtain⟨q,s1⟩:=r
 dsimp only at*
 have f3:=fail_fg g L s1 3 (by decide)
 generalize hi:intQ q.q=o at*
 cases o with
 |none=>
  simp only [Option.isSome_none,Option.getD_none] at f2
  refine fh_of_body Tryz.func107 rfl rfl (by simp [Tryz.ntmps107]) fun C hC=> ?_
  simp only [initS,Nat.reduceAdd]
  repeat' first|refine yA1 o0 ?_|(refine aw_cg (f1) rfl rfl rfl eE (zL2 o0) ?_;refine xS ?_)|(refine xW ?_;refine xS ?_)|refine xP ?_|refine xN ?_|refine aw_cd eE (fun hb=>?_) (fun hb=>?_)|refine aw_ce eE (fun hb=>?_) (fun hb=>?_)|refine aw_cn eE (fun hb=>?_) (fun hb=>?_)|(refine xF (fun hb=>?_) (fun hb=>?_)<;>fail_if_success (cases hb;done))|(refine aw_gsd rfl rfl eE (fun hb=>?_) (fun hb=>?_)<;>refine xS ?_)|(refine aw_gse rfl rfl eE (fun hb=>?_) (fun hb=>?_)<;>refine xS ?_)|(refine aw_gsn rfl rfl eE (fun hb=>?_) (fun hb=>?_)<;>refine xS ?_)|(refine aw_gs rfl rfl eE (fun hb=>?_) (fun hb=>?_)<;>fail_if_success (cases hb;done)<;>refine xS ?_)|(refine drk_gsd rfl rfl eE (fun hb=>?_) (fun hb=>?_)<;>refine xS ?_)|(refine drk_gse rfl rfl eE (fun hb=>?_) (fun hb=>?_)<;>refine xS ?_)|(refine drk_gsn rfl rfl eE (fun hb=>?_) (fun hb=>?_)<;>refine xS ?_)|(refine drk_gs rfl rfl eE (fun hb=>?_) (fun hb=>?_)<;>fail_if_success (cases hb;done)<;>refine xS ?_)
  refine xA fun g3 hn_g3=>?_
  repeat' first|refine yA1 hn_g3 ?_|(refine yC2 hn_g3 (f2) ?_)|(refine yD2 hn_g3 (f2) ?_)|(refine aw_cg (f3) rfl rfl rfl (zE hn_g3) (zL2 hn_g3) ?_;refine yS hn_g3 ?_)|(refine yW hn_g3 ?_;refine yS hn_g3 ?_)|refine yP hn_g3 ?_|refine yN hn_g3 ?_|refine aw_cd (zE hn_g3) (fun hb=>?_) (fun hb=>?_)|refine aw_ce (zE hn_g3) (fun hb=>?_) (fun hb=>?_)|refine aw_cn (zE hn_g3) (fun hb=>?_) (fun hb=>?_)|(refine yF hn_g3 (fun hb=>?_) (fun hb=>?_)<;>fail_if_success (cases hb;done))|(refine aw_gsd rfl rfl (zE hn_g3) (fun hb=>?_) (fun hb=>?_)<;>refine yS hn_g3 ?_)|(refine aw_gse rfl rfl (zE hn_g3) (fun hb=>?_) (fun hb=>?_)<;>refine yS hn_g3 ?_)|(refine aw_gsn rfl rfl (zE hn_g3) (fun hb=>?_) (fun hb=>?_)<;>refine yS hn_g3 ?_)|(refine aw_gs rfl rfl (zE hn_g3) (fun hb=>?_) (fun hb=>?_)<;>fail_if_success (cases hb;done)<;>refine yS hn_g3 ?_)|(refine drk_gsd rfl rfl (zE hn_g3) (fun hb=>?_) (fun hb=>?_)<;>refine yS hn_g3 ?_)|(refine drk_gse rfl rfl (zE hn_g3) (fun hb=>?_) (fun hb=>?_)<;>refine yS hn_g3 ?_)|(refine drk_gsn rfl rfl (zE hn_g3) (fun hb=>?_) (fun hb=>?_)<;>refine yS hn_g3 ?_)|(refine drk_gs rfl rfl (zE hn_g3) (fun hb=>?_) (fun hb=>?_)<;>fail_if_success (cases hb;done)<;>refine yS hn_g3 ?_)
  ·have h0:s1.e≠0:=by simpa using hb
   refine aw_rethw (h':=[(g,rdO L s1)]) rfl (by first|exact List.Sublist.refl _|exact .cons _ (.refl _)|exact .cons _ (.cons _ (.refl _))|exact .cons _ (.cons _ (.cons _ (.refl _)))) fun R r=>?_;simp only[go_sem,hn_g3];refine r _ rfl ?_;clear r R
   rw [if_neg h0]
   exact⟨rfl,rfl⟩
  ·have h0:s1.e=0:=by simpa using hb
   refine aw_rethw (h':=[(g,rdO L (failS 3 s1))]) rfl (by first|exact List.Sublist.refl _|exact .cons _ (.refl _)|exact .cons _ (.cons _ (.refl _))|exact .cons _ (.cons _ (.cons _ (.refl _)))) fun R r=>?_;simp only[go_sem,hn_g3];refine r _ rfl ?_;clear r R
   rw [if_pos h0]
   unfold failS
   rw [if_pos h0]
   exact⟨rfl,rfl⟩
 |some n=>
  simp only [Option.isSome_some,Option.getD_some] at f2
  refine fh_of_body Tryz.func107 rfl rfl (by simp [Tryz.ntmps107]) fun C hC=> ?_
  simp only [initS,Nat.reduceAdd]
  repeat' first|refine yA1 o0 ?_|(refine aw_cg (f1) rfl rfl rfl eE (zL2 o0) ?_;refine xS ?_)|(refine xW ?_;refine xS ?_)|refine xP ?_|refine xN ?_|refine aw_cd eE (fun hb=>?_) (fun hb=>?_)|refine aw_ce eE (fun hb=>?_) (fun hb=>?_)|refine aw_cn eE (fun hb=>?_) (fun hb=>?_)|(refine xF (fun hb=>?_) (fun hb=>?_)<;>fail_if_success (cases hb;done))|(refine aw_gsd rfl rfl eE (fun hb=>?_) (fun hb=>?_)<;>refine xS ?_)|(refine aw_gse rfl rfl eE (fun hb=>?_) (fun hb=>?_)<;>refine xS ?_)|(refine aw_gsn rfl rfl eE (fun hb=>?_) (fun hb=>?_)<;>refine xS ?_)|(refine aw_gs rfl rfl eE (fun hb=>?_) (fun hb=>?_)<;>fail_if_success (cases hb;done)<;>refine xS ?_)|(refine drk_gsd rfl rfl eE (fun hb=>?_) (fun hb=>?_)<;>refine xS ?_)|(refine drk_gse rfl rfl eE (fun hb=>?_) (fun hb=>?_)<;>refine xS ?_)|(refine drk_gsn rfl rfl eE (fun hb=>?_) (fun hb=>?_)<;>refine xS ?_)|(refine drk_gs rfl rfl eE (fun hb=>?_) (fun hb=>?_)<;>fail_if_success (cases hb;done)<;>refine xS ?_)
  refine xA fun g3 hn_g3=>?_
  repeat' first|refine yA1 hn_g3 ?_|(refine yC2 hn_g3 (f2) ?_)|(refine yD2 hn_g3 (f2) ?_)|(refine aw_cg (f3) rfl rfl rfl (zE hn_g3) (zL2 hn_g3) ?_;refine yS hn_g3 ?_)|(refine yW hn_g3 ?_;refine yS hn_g3 ?_)|refine yP hn_g3 ?_|refine yN hn_g3 ?_|refine aw_cd (zE hn_g3) (fun hb=>?_) (fun hb=>?_)|refine aw_ce (zE hn_g3) (fun hb=>?_) (fun hb=>?_)|refine aw_cn (zE hn_g3) (fun hb=>?_) (fun hb=>?_)|(refine yF hn_g3 (fun hb=>?_) (fun hb=>?_)<;>fail_if_success (cases hb;done))|(refine aw_gsd rfl rfl (zE hn_g3) (fun hb=>?_) (fun hb=>?_)<;>refine yS hn_g3 ?_)|(refine aw_gse rfl rfl (zE hn_g3) (fun hb=>?_) (fun hb=>?_)<;>refine yS hn_g3 ?_)|(refine aw_gsn rfl rfl (zE hn_g3) (fun hb=>?_) (fun hb=>?_)<;>refine yS hn_g3 ?_)|(refine aw_gs rfl rfl (zE hn_g3) (fun hb=>?_) (fun hb=>?_)<;>fail_if_success (cases hb;done)<;>refine yS hn_g3 ?_)|(refine drk_gsd rfl rfl (zE hn_g3) (fun hb=>?_) (fun hb=>?_)<;>refine yS hn_g3 ?_)|(refine drk_gse rfl rfl (zE hn_g3) (fun hb=>?_) (fun hb=>?_)<;>refine yS hn_g3 ?_)|(refine drk_gsn rfl rfl (zE hn_g3) (fun hb=>?_) (fun hb=>?_)<;>refine yS hn_g3 ?_)|(refine drk_gs rfl rfl (zE hn_g3) (fun hb=>?_) (fun hb=>?_)<;>fail_if_success (cases hb;done)<;>refine yS hn_g3 ?_)
  ·have h0:s1.e≠0:=by simpa using hb
   refine aw_rethw (h':=[(g,rdO L s1)]) rfl (by first|exact List.Sublist.refl _|exact .cons _ (.refl _)|exact .cons _ (.cons _ (.refl _))|exact .cons _ (.cons _ (.cons _ (.refl _)))) fun R r=>?_;simp only[go_sem,hn_g3];refine r _ rfl ?_;clear r R
   rw [if_neg h0]
   exact⟨rfl,rfl⟩
  ·rename_i hb0
   have h0:s1.e=0:=by simpa using hb0
   have hn:n<0:=hb
   refine aw_rethw (h':=[(g,rdO L (failS 3 s1))]) rfl (by first|exact List.Sublist.refl _|exact .cons _ (.refl _)|exact .cons _ (.cons _ (.refl _))|exact .cons _ (.cons _ (.cons _ (.refl _)))) fun R r=>?_;simp only[go_sem,hn_g3];refine r _ rfl ?_;clear r R
   rw [if_pos h0]
   try dsimp only
   unfold failS
   rw [if_pos h0,if_neg om]
   exact⟨rfl,rfl⟩
  ·rename_i hb0 hb1
   have h0:s1.e=0:=by simpa using hb0
   have hn:n>1073741824:=hb
   refine aw_rethw (h':=[(g,rdO L (failS 3 s1))]) rfl (by first|exact List.Sublist.refl _|exact .cons _ (.refl _)|exact .cons _ (.cons _ (.refl _))|exact .cons _ (.cons _ (.cons _ (.refl _)))) fun R r=>?_;simp only[go_sem,hn_g3];refine r _ rfl ?_;clear r R
   rw [if_pos h0]
   try dsimp only
   unfold failS
   rw [if_pos h0,if_neg om]
   exact⟨rfl,rfl⟩
  ·rename_i hb0 hb1
   have h0:s1.e=0:=by simpa using hb0
   have h1:¬n<0:=hb1
   have h2:¬n>1073741824:=hb
   refine aw_rethw (h':=[(g,rdO L s1)]) rfl (by first|exact List.Sublist.refl _|exact .cons _ (.refl _)|exact .cons _ (.cons _ (.refl _))|exact .cons _ (.cons _ (.cons _ (.refl _)))) fun R r=>?_;simp only[go_sem,hn_g3];refine r _ rfl ?_;clear r R
   rw [if_pos h0]
   try dsimp only
   rw [if_pos om]
   exact⟨rfl,rfl⟩
theorem house_fg (g:Nat) (L:List TX) (s:PS) (hs:s.l<:+L.map TX.t) (hL:L.length≤1099511627776):Fg Tryz.prog 64 g (rdO L s) [.c (.optr g 0)] (.agg (hsc (houseS s).1)) (rdO L (houseS s).2):=by
 have f1:=word_fg g L s hs hL
 unfold houseS
 dsimp only
 have hs1:=(rdr_word.suf s).trans hs
 generalize hr:wordS s=r at*
 obtain⟨nm,s1⟩:=r
 dsimp only at*
 have f2:=is_fg g L s1 kOn hs1 hL
 have f3:=is_fg g L s1 kOff hs1 hL
 have f4:=take_fg g L s1 (isS s1 kOn||isS s1 kOff) hs1 hL
 have hs2:=((rdr_take fun s=>isS s kOn||isS s kOff).suf s1).trans hs1
 try dsimp only at hs2
 cases h1:isS s1 kOn with
 |true=>
  rw [h1] at f2 f4 hs2
  rw [Bool.true_or] at f4 hs2
  rw [Bool.true_or]
  generalize takeS true s1=r at*
  obtain⟨t,s2⟩:=r
  dsimp only at*
  have f6:=expect_fg g L s2 kSemi hs2 hL
  unfold Fg
  refine fh_of_body Tryz.func64 rfl rfl (by simp [Tryz.ntmps64]) fun C hC=> ?_
  simp only [initS,Nat.reduceAdd]
  repeat' first|refine yA1 o0 ?_|(refine xW ?_;refine xS ?_)|refine xP ?_|refine xN ?_|refine aw_cd eE (fun hb=>?_) (fun hb=>?_)|refine aw_ce eE (fun hb=>?_) (fun hb=>?_)|refine aw_cn eE (fun hb=>?_) (fun hb=>?_)|(refine xF (fun hb=>?_) (fun hb=>?_)<;>fail_if_success (cases hb;done))|(refine aw_gsd rfl rfl eE (fun hb=>?_) (fun hb=>?_)<;>refine xS ?_)|(refine aw_gse rfl rfl eE (fun hb=>?_) (fun hb=>?_)<;>refine xS ?_)|(refine aw_gsn rfl rfl eE (fun hb=>?_) (fun hb=>?_)<;>refine xS ?_)|(refine aw_gs rfl rfl eE (fun hb=>?_) (fun hb=>?_)<;>fail_if_success (cases hb;done)<;>refine xS ?_)|(refine drk_gsd rfl rfl eE (fun hb=>?_) (fun hb=>?_)<;>refine xS ?_)|(refine drk_gse rfl rfl eE (fun hb=>?_) (fun hb=>?_)<;>refine xS ?_)|(refine drk_gsn rfl rfl eE (fun hb=>?_) (fun hb=>?_)<;>refine xS ?_)|(refine drk_gs rfl rfl eE (fun hb=>?_) (fun hb=>?_)<;>fail_if_success (cases hb;done)<;>refine xS ?_)
  refine xA fun g2 hn_g2=>?_
  repeat' first|refine yA1 hn_g2 ?_|(refine aw_cg (f1) rfl rfl rfl (zE hn_g2) (zL2 hn_g2) ?_;refine yS hn_g2 ?_)|(refine yW hn_g2 ?_;refine yS hn_g2 ?_)|refine yP hn_g2 ?_|refine yN hn_g2 ?_|refine aw_cd (zE hn_g2) (fun hb=>?_) (fun hb=>?_)|refine aw_ce (zE hn_g2) (fun hb=>?_) (fun hb=>?_)|refine aw_cn (zE hn_g2) (fun hb=>?_) (fun hb=>?_)|(refine yF hn_g2 (fun hb=>?_) (fun hb=>?_)<;>fail_if_success (cases hb;done))|(refine aw_gsd rfl rfl (zE hn_g2) (fun hb=>?_) (fun hb=>?_)<;>refine yS hn_g2 ?_)|(refine aw_gse rfl rfl (zE hn_g2) (fun hb=>?_) (fun hb=>?_)<;>refine yS hn_g2 ?_)|(refine aw_gsn rfl rfl (zE hn_g2) (fun hb=>?_) (fun hb=>?_)<;>refine yS hn_g2 ?_)|(refine aw_gs rfl rfl (zE hn_g2) (fun hb=>?_) (fun hb=>?_)<;>fail_if_success (cases hb;done)<;>refine yS hn_g2 ?_)|(refine drk_gsd rfl rfl (zE hn_g2) (fun hb=>?_) (fun hb=>?_)<;>refine yS hn_g2 ?_)|(refine drk_gse rfl rfl (zE hn_g2) (fun hb=>?_) (fun hb=>?_)<;>refine yS hn_g2 ?_)|(refine drk_gsn rfl rfl (zE hn_g2) (fun hb=>?_) (fun hb=>?_)<;>refine yS hn_g2 ?_)|(refine drk_gs rfl rfl (zE hn_g2) (fun hb=>?_) (fun hb=>?_)<;>fail_if_success (cases hb;done)<;>refine yS hn_g2 ?_)
  refine yA hn_g2 fun g3 hn_g3=>?_
  repeat' first|refine yA1 (oj hn_g2 hn_g3) ?_|(refine aw_cg (f2) rfl rfl rfl (zE (oj hn_g2 hn_g3)) (zL2 (oj hn_g2 hn_g3)) ?_;refine yS (oj hn_g2 hn_g3) ?_)|(refine aw_cg (f3) rfl rfl rfl (zE (oj hn_g2 hn_g3)) (zL2 (oj hn_g2 hn_g3)) ?_;refine yS (oj hn_g2 hn_g3) ?_)|(refine aw_cg (f4) rfl rfl rfl (zE (oj hn_g2 hn_g3)) (zL2 (oj hn_g2 hn_g3)) ?_;refine yS (oj hn_g2 hn_g3) ?_)|(refine aw_cg (f6) rfl rfl rfl (zE (oj hn_g2 hn_g3)) (zL2 (oj hn_g2 hn_g3)) ?_;refine yS (oj hn_g2 hn_g3) ?_)|(refine yW (oj hn_g2 hn_g3) ?_;refine yS (oj hn_g2 hn_g3) ?_)|refine yP (oj hn_g2 hn_g3) ?_|refine yN (oj hn_g2 hn_g3) ?_|refine aw_cd (zE (oj hn_g2 hn_g3)) (fun hb=>?_) (fun hb=>?_)|refine aw_ce (zE (oj hn_g2 hn_g3)) (fun hb=>?_) (fun hb=>?_)|refine aw_cn (zE (oj hn_g2 hn_g3)) (fun hb=>?_) (fun hb=>?_)|(refine yF (oj hn_g2 hn_g3) (fun hb=>?_) (fun hb=>?_)<;>fail_if_success (cases hb;done))|(refine aw_gsd rfl rfl (zE (oj hn_g2 hn_g3)) (fun hb=>?_) (fun hb=>?_)<;>refine yS (oj hn_g2 hn_g3) ?_)|(refine aw_gse rfl rfl (zE (oj hn_g2 hn_g3)) (fun hb=>?_) (fun hb=>?_)<;>refine yS (oj hn_g2 hn_g3) ?_)|(refine aw_gsn rfl rfl (zE (oj hn_g2 hn_g3)) (fun hb=>?_) (fun hb=>?_)<;>refine yS (oj hn_g2 hn_g3) ?_)|(refine aw_gs rfl rfl (zE (oj hn_g2 hn_g3)) (fun hb=>?_) (fun hb=>?_)<;>fail_if_success (cases hb;done)<;>refine yS (oj hn_g2 hn_g3) ?_)|(refine drk_gsd rfl rfl (zE (oj hn_g2 hn_g3)) (fun hb=>?_) (fun hb=>?_)<;>refine yS (oj hn_g2 hn_g3) ?_)|(refine drk_gse rfl rfl (zE (oj hn_g2 hn_g3)) (fun hb=>?_) (fun hb=>?_)<;>refine yS (oj hn_g2 hn_g3) ?_)|(refine drk_gsn rfl rfl (zE (oj hn_g2 hn_g3)) (fun hb=>?_) (fun hb=>?_)<;>refine yS (oj hn_g2 hn_g3) ?_)|(refine drk_gs rfl rfl (zE (oj hn_g2 hn_g3)) (fun hb=>?_) (fun hb=>?_)<;>fail_if_success (cases hb;done)<;>refine yS (oj hn_g2 hn_g3) ?_)
  refine aw_rethw (h':=[(g,rdO L (expS kSemi s2))]) rfl (by first|exact List.Sublist.refl _|exact .cons _ (.refl _)|exact .cons _ (.cons _ (.refl _))|exact .cons _ (.cons _ (.cons _ (.refl _)))) fun R r=>?_;simp only[go_sem,hn_g2,hn_g3];refine r _ rfl ?_;clear r R
  exact⟨rfl,rfl⟩
 |false=>
  rw [h1] at f2 f4 hs2
  rw [Bool.false_or] at f4 hs2
  rw [Bool.false_or]
  generalize takeS (isS s1 kOff) s1=r at*
  obtain⟨t,s2⟩:=r
  dsimp only at*
  have f6:=expect_fg g L s2 kSemi hs2 hL
  unfold Fg
  refine fh_of_body Tryz.func64 rfl rfl (by simp [Tryz.ntmps64]) fun C hC=> ?_
  simp only [initS,Nat.reduceAdd]
  repeat' first|refine yA1 o0 ?_|(refine xW ?_;refine xS ?_)|refine xP ?_|refine xN ?_|refine aw_cd eE (fun hb=>?_) (fun hb=>?_)|refine aw_ce eE (fun hb=>?_) (fun hb=>?_)|refine aw_cn eE (fun hb=>?_) (fun hb=>?_)|(refine xF (fun hb=>?_) (fun hb=>?_)<;>fail_if_success (cases hb;done))|(refine aw_gsd rfl rfl eE (fun hb=>?_) (fun hb=>?_)<;>refine xS ?_)|(refine aw_gse rfl rfl eE (fun hb=>?_) (fun hb=>?_)<;>refine xS ?_)|(refine aw_gsn rfl rfl eE (fun hb=>?_) (fun hb=>?_)<;>refine xS ?_)|(refine aw_gs rfl rfl eE (fun hb=>?_) (fun hb=>?_)<;>fail_if_success (cases hb;done)<;>refine xS ?_)|(refine drk_gsd rfl rfl eE (fun hb=>?_) (fun hb=>?_)<;>refine xS ?_)|(refine drk_gse rfl rfl eE (fun hb=>?_) (fun hb=>?_)<;>refine xS ?_)|(refine drk_gsn rfl rfl eE (fun hb=>?_) (fun hb=>?_)<;>refine xS ?_)|(refine drk_gs rfl rfl eE (fun hb=>?_) (fun hb=>?_)<;>fail_if_success (cases hb;done)<;>refine xS ?_)
  refine xA fun g2 hn_g2=>?_
  repeat' first|refine yA1 hn_g2 ?_|(refine aw_cg (f1) rfl rfl rfl (zE hn_g2) (zL2 hn_g2) ?_;refine yS hn_g2 ?_)|(refine yW hn_g2 ?_;refine yS hn_g2 ?_)|refine yP hn_g2 ?_|refine yN hn_g2 ?_|refine aw_cd (zE hn_g2) (fun hb=>?_) (fun hb=>?_)|refine aw_ce (zE hn_g2) (fun hb=>?_) (fun hb=>?_)|refine aw_cn (zE hn_g2) (fun hb=>?_) (fun hb=>?_)|(refine yF hn_g2 (fun hb=>?_) (fun hb=>?_)<;>fail_if_success (cases hb;done))|(refine aw_gsd rfl rfl (zE hn_g2) (fun hb=>?_) (fun hb=>?_)<;>refine yS hn_g2 ?_)|(refine aw_gse rfl rfl (zE hn_g2) (fun hb=>?_) (fun hb=>?_)<;>refine yS hn_g2 ?_)|(refine aw_gsn rfl rfl (zE hn_g2) (fun hb=>?_) (fun hb=>?_)<;>refine yS hn_g2 ?_)|(refine aw_gs rfl rfl (zE hn_g2) (fun hb=>?_) (fun hb=>?_)<;>fail_if_success (cases hb;done)<;>refine yS hn_g2 ?_)|(refine drk_gsd rfl rfl (zE hn_g2) (fun hb=>?_) (fun hb=>?_)<;>refine yS hn_g2 ?_)|(refine drk_gse rfl rfl (zE hn_g2) (fun hb=>?_) (fun hb=>?_)<;>refine yS hn_g2 ?_)|(refine drk_gsn rfl rfl (zE hn_g2) (fun hb=>?_) (fun hb=>?_)<;>refine yS hn_g2 ?_)|(refine drk_gs rfl rfl (zE hn_g2) (fun hb=>?_) (fun hb=>?_)<;>fail_if_success (cases hb;done)<;>refine yS hn_g2 ?_)
  refine yA hn_g2 fun g3 hn_g3=>?_
  repeat' first|refine yA1 (oj hn_g2 hn_g3) ?_|(refine aw_cg (f2) rfl rfl rfl (zE (oj hn_g2 hn_g3)) (zL2 (oj hn_g2 hn_g3)) ?_;refine yS (oj hn_g2 hn_g3) ?_)|(refine aw_cg (f3) rfl rfl rfl (zE (oj hn_g2 hn_g3)) (zL2 (oj hn_g2 hn_g3)) ?_;refine yS (oj hn_g2 hn_g3) ?_)|(refine aw_cg (f4) rfl rfl rfl (zE (oj hn_g2 hn_g3)) (zL2 (oj hn_g2 hn_g3)) ?_;refine yS (oj hn_g2 hn_g3) ?_)|(refine aw_cg (f6) rfl rfl rfl (zE (oj hn_g2 hn_g3)) (zL2 (oj hn_g2 hn_g3)) ?_;refine yS (oj hn_g2 hn_g3) ?_)|(refine yW (oj hn_g2 hn_g3) ?_;refine yS (oj hn_g2 hn_g3) ?_)|refine yP (oj hn_g2 hn_g3) ?_|refine yN (oj hn_g2 hn_g3) ?_|refine aw_cd (zE (oj hn_g2 hn_g3)) (fun hb=>?_) (fun hb=>?_)|refine aw_ce (zE (oj hn_g2 hn_g3)) (fun hb=>?_) (fun hb=>?_)|refine aw_cn (zE (oj hn_g2 hn_g3)) (fun hb=>?_) (fun hb=>?_)|(refine yF (oj hn_g2 hn_g3) (fun hb=>?_) (fun hb=>?_)<;>fail_if_success (cases hb;done))|(refine aw_gsd rfl rfl (zE (oj hn_g2 hn_g3)) (fun hb=>?_) (fun hb=>?_)<;>refine yS (oj hn_g2 hn_g3) ?_)|(refine aw_gse rfl rfl (zE (oj hn_g2 hn_g3)) (fun hb=>?_) (fun hb=>?_)<;>refine yS (oj hn_g2 hn_g3) ?_)|(refine aw_gsn rfl rfl (zE (oj hn_g2 hn_g3)) (fun hb=>?_) (fun hb=>?_)<;>refine yS (oj hn_g2 hn_g3) ?_)|(refine aw_gs rfl rfl (zE (oj hn_g2 hn_g3)) (fun hb=>?_) (fun hb=>?_)<;>fail_if_success (cases hb;done)<;>refine yS (oj hn_g2 hn_g3) ?_)|(refine drk_gsd rfl rfl (zE (oj hn_g2 hn_g3)) (fun hb=>?_) (fun hb=>?_)<;>refine yS (oj hn_g2 hn_g3) ?_)|(refine drk_gse rfl rfl (zE (oj hn_g2 hn_g3)) (fun hb=>?_) (fun hb=>?_)<;>refine yS (oj hn_g2 hn_g3) ?_)|(refine drk_gsn rfl rfl (zE (oj hn_g2 hn_g3)) (fun hb=>?_) (fun hb=>?_)<;>refine yS (oj hn_g2 hn_g3) ?_)|(refine drk_gs rfl rfl (zE (oj hn_g2 hn_g3)) (fun hb=>?_) (fun hb=>?_)<;>fail_if_success (cases hb;done)<;>refine yS (oj hn_g2 hn_g3) ?_)
  refine aw_rethw (h':=[(g,rdO L (expS kSemi s2))]) rfl (by first|exact List.Sublist.refl _|exact .cons _ (.refl _)|exact .cons _ (.cons _ (.refl _))|exact .cons _ (.cons _ (.cons _ (.refl _)))) fun R r=>?_;simp only[go_sem,hn_g2,hn_g3];refine r _ rfl ?_;clear r R
  exact⟨rfl,rfl⟩
end Go.Proofs.YteocnikcjjonbaaGreat
namespace Go.AI
section
variable {E : Env} {K : List It} {l : List Oper} {FP FP' : Heap} {σ σ' : Sl} {h : Heap} {o : Oper} {i m : Nat} {cs : List (Nat × Nat)}
theorem cw_buildSlice {t e size bytes len:Nat} {xs:List Operand} {cells:List CV} (ho:l[i]?=some o) (hop:o.op=.buildSlice t len (enumO 0 xs).toArray) (hw:wantA l σ o=some true) (hd:dstOk E.N o.dst=true) (ht:tElem E.P t=some (e,size,bytes))
  (hz:(tZero E.P e).isSome=true) (hl:xs.length=len) (hsm:len*size≤16777216) (hlm:len≤16777216) (hx:∀x∈xs,(ev σ x).flat=true∧(ev σ x).cells.all CV.solid=true∧(ev σ x).cells.length=size) (hc:(xs.map (ev σ)).flatMap AV.cells=cells) (hops:∀x∈xs,x∈o.op.operands) (hFP:Has0 FP' h)
  (k:∀g,g∉h.keys→CW E l K FP' cs (σ.setO o.dst (.c (.osl g size 0 len))) ((g,.cells e (len*size) (ofL cells))::h)) (hm:m=2∨m=1∧FP'=FP:=by first|exact .inl rfl|exact .inr ⟨rfl,rfl⟩):CW E l K FP ((i,m)::cs) σ h:=by
 refine .pin ho hm (R:=fun r h2=>∃g,g∉h.keys∧r=.c (.osl g size 0 len)∧h2=(g,.cells e (len*size) (ofL cells))::h) (fun σ' K hs=> ?_) ?_ ?_
 ·have he:∀x∈xs,ev σ' x=ev σ x:=fun x hxx=>ev_same (hops x hxx) hs
  exact aw_buildSlice hop ((want_same hs).trans hw) hd ht hz hl hsm hlm (fun x hxx=>by rw [he x hxx];exact hx x hxx) (by rw [List.map_congr_left he];exact hc) fun g hg=>aw_ops_nil (aw_stop ⟨_,⟨g,hg,rfl,rfl⟩,rfl⟩)
 ·rintro r h2 ⟨g,_,_,rfl⟩;exact fun p hp=>List.mem_cons_of_mem _ (hFP p hp)
 ·rintro r h2 ⟨g,hg,rfl,rfl⟩;exact k g hg
theorem cw_push {t e size bytes n d1 s gt:Nat} {z:List CV} {og:Option Nat} {f f':Nat→CV} {pre:Heap} {v:AV} (ho:l[i]?=some o) (hop2:o.op=.call {callee:=.builtin .append,args:= #[.tmp s,.tmp d1],argTypes:= #[t,t]})
  (hg2:o.guard=none) (hd2:dstOk E.N o.dst=true)
  (ht:tElem E.P t=some (e,size,bytes)) (hz:tZero E.P e=some z) (hzl:z.length=size) (hs0:0<size) (hsz:size≤16777216)
  (hevs:ev σ (.tmp s)=.c (gs og size n)) (hev1:ev σ (.tmp d1)=.c (.osl gt size 0 1)) (hog:og=none→n=0) (hok:okPart v=true) (hvl:v.cells.length=size) (hh:h=(gt,.cells e (1*size) (ofL v.cells))::(pre++gh og e (n*size) f))
  (h63:n+1≤maxLen) (hby:(n+1)*bytes≤140737488355328) (hf:∀j,j<(n+1)*size→appF f (n*size) (ofL v.cells) j=f' j) (hFP:Has0 FP' ((gt,.cells e (1*size) (ofL v.cells))::pre))
  (k:∀g',g'∉Heap.keys ((gt,.cells e (1*size) (ofL v.cells))::pre)→CW E l K FP' cs (σ.setO o.dst (.c (gs (some g') size (n+1)))) ((gt,.cells e (1*size) (ofL v.cells))::(pre++gh (some g') e ((n+1)*size) f')))
  (hm:m=2∨m=1∧FP'=FP:=by first|exact .inl rfl|exact .inr ⟨rfl,rfl⟩):CW E l K FP ((i,m)::cs) σ h:=by
 subst hh
 obtain⟨ok1,ok2⟩:=okPart_spec hok
 refine .pin ho hm (R:=fun r h2=>∃g',g'∉Heap.keys ((gt,.cells e (1*size) (ofL v.cells))::pre)∧r=.c (gs (some g') size (n+1))∧h2=(gt,.cells e (1*size) (ofL v.cells))::(pre++gh (some g') e ((n+1)*size) f')) (fun σ' K hs=> ?_) ?_ ?_
 ·have hw2:∀σ2,wantA l σ2 o=some true:=fun σ2=>by unfold wantA;rw [hg2]
  have hevs':ev σ' (.tmp s)=.c (gs og size n):=(ev_same (by rw [hop2];simp [Op.operands,Call.operands]) hs).trans hevs
  have hev1':ev σ' (.tmp d1)=.c (.osl gt size 0 1):=(ev_same (by rw [hop2];simp [Op.operands,Call.operands]) hs).trans hev1
  have hsrc:∀h0:Heap,Src ((gt,.cells e (1*size) (ofL v.cells))::h0) size (.osl gt size 0 1) 1 (ofL v.cells):=fun h0=>by
   refine .osl (f':=ofL v.cells) (m:=1*size) (ty:=e) (by simp [Heap.get]) om (fun j _=>by rw [Nat.zero_add])
  cases og with
  |none=>
   have hn0:n=0:=hog rfl
   subst hn0
   refine aw_appendN (cx:=.osl gt size 0 1) (k:=1) (f2:=ofL v.cells) hop2 (hw2 _) hd2 ht hz hzl hs0 hevs' hev1' (hsrc _) om om om fun g' hg'=> ?_
   refine aw_conv1 (f':=f') (fun j hj=> ?_) ?_
   ·have:=hf j om
    rw [←this];simp [appF]
   ·have hnew:g'∉Heap.keys ((gt,.cells e (1*size) (ofL v.cells))::pre):=fun hm=>hg' (by simpa [gh] using hm)
    refine aw_perm (h':=(gt,.cells e (1*size) (ofL v.cells))::(pre++[(g',.cells e (1*size) f')])) ?_ ?_
    ·have:(pre++gh none e (0*size) f)=pre:=by simp [gh]
     rw [this]
     refine(List.Perm.swap _ _ _).trans (List.Perm.cons _ ?_)
     exact(List.perm_append_singleton _ _).symm
    ·exact aw_ops_nil (aw_stop ⟨_,⟨g',hnew,rfl,by simp [gh]⟩,rfl⟩)
  |some g=>
   refine aw_nd fun hnd=> ?_
   have hnp:g∉pre.keys:=fun hm=>by
    simp only [Heap.keys,gh,List.map_cons,List.map_append,List.map_nil,List.nodup_cons] at hnd
    have:=(List.nodup_append.1 hnd.2).2.2 g hm g (by simp)
    exact this rfl
   have hgtg:gt≠g:=fun e=>by
    subst e
    simp [Heap.keys,gh] at hnd
   refine aw_append (cx:=.osl gt size 0 1) (k:=1) (f2:=ofL v.cells) (g:=g) (m:=n*size) (f:=f) (h2:=(gt,.cells e (1*size) (ofL v.cells))::pre) hop2 (hw2 _) hd2 ht hz hzl hs0 hevs' ?_ (Nat.le_refl _) hev1' (hsrc _) ?_ om h63 hby ?_ fun g' hg'=> ?_
   ·show Heap.get ((gt,_)::(pre++[(g,_)])) g=_
    simp only [Heap.get,if_neg hgtg]
    exact Heap.get_app hnp
   ·intro j hj
    have hjl:j<v.cells.length:=by omega
    rw [ofL_get v.cells j v.cells[j] (List.getElem?_eq_getElem hjl)]
    exact List.all_eq_true.1 ok2 _ (List.getElem_mem hjl)
   ·show Heap.del ((gt,_)::(pre++[(g,_)])) g=_
    rw [Heap.del_ne hgtg,Heap.del_app hnp]
   ·refine aw_conv1 (f':=f') hf ?_
    refine aw_perm (h':=(gt,.cells e (1*size) (ofL v.cells))::(pre++[(g',.cells e ((n+1)*size) f')])) ?_ ?_
    ·refine(List.Perm.swap _ _ _).trans (List.Perm.cons _ ?_)
     exact(List.perm_append_singleton _ _).symm
    ·exact aw_ops_nil (aw_stop ⟨_,⟨g',hg',rfl,rfl⟩,rfl⟩)
 ·rintro r h2 ⟨g',_,_,rfl⟩
  intro p hp
  rcases List.mem_cons.1 (hFP p hp) with e|hm
  ·exact e▸List.mem_cons_self ..
  ·exact List.mem_cons_of_mem _ (List.mem_append_left _ hm)
 ·rintro r h2 ⟨g',hg,rfl,rfl⟩;exact k g' hg
end
end Go.AI
namespace Go.AI
section
variable {E : Env} {K : List It} {l : List Oper} {FP : Heap} {σ σ' : Sl} {h : Heap} {o : Oper} {i : Nat} {cs : List (Nat × Nat)}
theorem cw_cg {f:FuncId} {xs:List Operand} {ts:Array TypeId} {g:Nat} {ob ob':AObj} {args:List AV} {r:AV} (ho:l[i]?=some o) (hf:Fg E.P f g ob args r ob') (hop:o.op=.call {callee:=.value (.func f),args:=xs.toArray,argTypes:=ts}) (hw:wantA l σ o=some true) (hd:dstOk E.N o.dst=true)
  (hg:h.get g=some ob) (le:LeA [] (xs.map (ev σ)) args) (hFP:Has0 FP (h.set g ob')) (k:CW E l K FP cs (σ.setO o.dst r) (h.set g ob')):CW E l K FP ((i,1)::cs) σ h:=by
 refine cw_callh (hc:=[(g,ob)]) (hr:=h.del g) ho hf hop hw hd (Heap.get_perm hg) le ?_ ?_ (hm:=.inr ⟨rfl,rfl⟩)
 ·rintro _ _ ⟨rfl,rfl⟩
  exact fun p hp=>(Heap.set_perm (ob':=ob') hg).mem_iff.1 (hFP p hp)
 ·rintro _ _ ⟨rfl,rfl⟩ _
  exact cw_perm (Heap.set_perm hg).symm k
end
end Go.AI
namespace Go.PN
open Go.AI
theorem kd_true {s:PS} {L:List TX} (hs:s.l<:+L.map TX.t) (h:kindS s 0=true):s.e=0∧L.length-s.l.length<L.length∧(L.getD (L.length-s.l.length) tx0).t.text=hdT s:=by
 have hr:=rat hs
 unfold kindS at h
 simp only [Bool.and_eq_true,decide_eq_true_eq] at h
 refine⟨h.1,?_⟩
 by_cases hl:L.length-s.l.length<L.length
 ·obtain⟨l,h1,_⟩:=hr.cons hl
  refine⟨hl,?_⟩
  have h2:hdT s=(L.getD (L.length-s.l.length) tx0).t.text:=hd_cons h1
  rw [h2]
 ·have:=hr.nil hl
  rw [this] at h
  simp at h
def gtV (k:Option Int) (s:PS):Int×PS:=if k=some 2 then wholeS s else(0,s)
def gtD (k:Option Int) (s:PS):RD×PS:=if k=some 7 then numS (gtV k s).2 else(rd0,(gtV k s).2)
theorem gtD_suf (k:Option Int) (s:PS):(gtD k s).2.l<:+s.l:=by
 have h1:(gtV k s).2.l<:+s.l:=by
  unfold gtV;split
  ·exact rdr_whole.suf s
  ·exact List.suffix_refl _
 unfold gtD;split
 ·exact(rdr_num.suf _).trans h1
 ·exact h1
theorem suf_word {L:List TX} {s:PS} (hs:s.l<:+L.map TX.t):(wordS s).2.l<:+L.map TX.t:=(rdr_word.suf s).trans hs
end Go.PN
namespace Go.AI
open Go.PN
theorem strs_push {xs:List BS} {n:Nat} (hn:xs.length=n) (t:BS):∀j,j<(n+1)*1→appF (strsF xs) (n*1) (ofL (stc t)) j=strsF (xs++[t]) j:=lf_push (s:=1) (c:=stc) (d:=([]:BS)) hn t (by decide)
end Go.AI
namespace Go.Proofs.YteocnikcjjonbaaGreat
open Go.AI Go.PN
theorem conv_gate {a b c:CV}:∀j,j<7→∀(S:Bool→Nat→Prop) w u,RepC S w (ofL [a,b,c,.nils,.bool false,.nils,.nils] j) u→RepC S w (ofL ([a,b,c,.nils]++rdc rd0) j) u:=fun j hj S w u hr=>by
 match j,hj with
 |0,_=>exact hr
 |1,_=>exact hr
 |2,_=>exact hr
 |3,_=>exact hr
 |4,_=>exact hr
 |5,_=>exact repC_nil hr
 |6,_=>exact repC_nil hr
attribute [local irreducible] aw Fa Fh DrK
theorem gate_fg (g:Nat) (L:List TX) (s:PS) (hs:s.l<:+L.map TX.t) (hL:L.length≤1048576) (hw:∀t∈L,t.t.text.length≤1099511627776):Fg Tryz.prog 58 g (rdO L s) [.c (.optr g 0)] (.agg (gtc (gateS s).1)) (rdO L (gateS s).2):=by
 have f1:=word_fg g L s hs om
 have hs1:=suf_word hs
 rw [gateS_eq]
 unfold PN.bnd
 generalize wordS s=r at*
 obtain⟨nm,s1⟩:=r
 dsimp only at*
 have f2:=kind_fg g L s1 0 hs1 om
 have f3:=take_fg g L s1 (kdS s1).isSome hs1 om
 have hs2:=(rdr_gk.suf s1).trans hs1
 have hg1:(gkS s1).1=kdS s1:=rfl
 have hg2:(gkS s1).2=(takeS (kdS s1).isSome s1).2:=rfl
 rw [hg1]
 rw [←hg2] at f3
 generalize (gkS s1).2=s2 at*
 generalize (takeS (kdS s1).isSome s1).1=tw at*
 unfold Fg
 refine fh_of_body Tryz.func58 rfl rfl (by simp [Tryz.ntmps58]) fun C hC=> ?_
 simp only [initS,Nat.reduceAdd]
 apply wa1
 apply wa6
 refine xA fun g2 hn_g2=>?_
 refine yH hn_g2 ?_
 apply wa1
 apply wa6
 refine yH hn_g2 ?_
 refine aw_cg f1 rfl rfl rfl (zE hn_g2) (zL2 o0) ?_
 refine yS hn_g2 ?_
 refine yH hn_g2 ?_
 refine yA hn_g2 fun g3 hn_g3=>?_
 have J1:=oj hn_g2 hn_g3
 refine yW J1 ?_
 refine yS J1 ?_
 refine yH J1 ?_
 apply wa1
 apply wa6
 refine yH J1 ?_
 apply wa1
 refine aw_cut (fun _:Unit=>[(0,.c (.optr g 0)),(2,.c (.optr g2 0)),(3,.c (.optr g3 0)),(4,.c (.bool (kdS s1).isSome))]) (fun _=>[(g3,.cells 65 7 (ofL [.str (sB nm),.int .i64 ((kdS s1).getD 0),.int .i64 0,.nils,.bool false,.nils,.nils])),(g2,.cells 65 7 (ofL [.str (sB []),.int .i64 0,.int .i64 0,.nils,.bool false,.nils,.nils])),(g,rdO L s1)]) (fun _=>1=1) ?_ ?_
 ·repeat' first|refine yA1 J1 ?_|(refine aw_cg (f2) rfl rfl rfl (zE J1) (zL2 J1) ?_;refine yS J1 ?_)|(refine yW J1 ?_;refine yS J1 ?_)|refine yP J1 ?_|refine yN J1 ?_|refine aw_cd (zE J1) (fun hb=>?_) (fun hb=>?_)|refine aw_ce (zE J1) (fun hb=>?_) (fun hb=>?_)|refine aw_cn (zE J1) (fun hb=>?_) (fun hb=>?_)|(refine yF J1 (fun hb=>?_) (fun hb=>?_)<;>fail_if_success (cases hb;done))|(refine aw_gsd rfl rfl (zE J1) (fun hb=>?_) (fun hb=>?_)<;>refine yS J1 ?_)|(refine aw_gse rfl rfl (zE J1) (fun hb=>?_) (fun hb=>?_)<;>refine yS J1 ?_)|(refine aw_gsn rfl rfl (zE J1) (fun hb=>?_) (fun hb=>?_)<;>refine yS J1 ?_)|(refine aw_gs rfl rfl (zE J1) (fun hb=>?_) (fun hb=>?_)<;>fail_if_success (cases hb;done)<;>refine yS J1 ?_)|(refine drk_gsd rfl rfl (zE J1) (fun hb=>?_) (fun hb=>?_)<;>refine yS J1 ?_)|(refine drk_gse rfl rfl (zE J1) (fun hb=>?_) (fun hb=>?_)<;>refine yS J1 ?_)|(refine drk_gsn rfl rfl (zE J1) (fun hb=>?_) (fun hb=>?_)<;>refine yS J1 ?_)|(refine drk_gs rfl rfl (zE J1) (fun hb=>?_) (fun hb=>?_)<;>fail_if_success (cases hb;done)<;>refine yS J1 ?_)
  ·obtain⟨h0,h1,h2⟩:=kd_true hs1 hb
   have hk:kdS s1=gkind (hdT s1):=by unfold kdS;rw [if_pos hb]
   have hgk:=gkind_fa (hdT s1)
   rw [←hk] at hgk
   refine aw_cw ([(g3,.cells 65 7 (ofL [.str (sB nm),.int .i64 0,.int .i64 0,.nils,.bool false,.nils,.nils])),(g,rdO L s1)]) [(0,0),(1,0),(2,0),(3,0),(4,0),(5,0),(6,0),(7,0),(8,0),(9,0),(10,0),(11,0),(12,0),(13,0),(15,0),(14,3),(16,2),(17,0)] ty_mixed (by kernel_rfl) eI ?_
   have J2:=oj hn_g2 (oj hn_g3 h2)
   refine yG J2 ?_
   refine cw_callq rfl hgk rfl rfl rfl (fun _ _=>(zL J2)) ?_
   refine ySG J2 ?_
   iterate 1 (refine wc3 rfl rfl fun R r=> ?_;simp only [go_sem,hn_g2,hn_g3,h2];with_reducible show R (some _);with_reducible refine r _ _ ?_;clear r R)
   have J3:=oj hn_g2 (oj hn_g3 h2)
   refine yS J3 ?_
   refine cw_store (FP':=[]) rfl rfl rfl rfl rfl (zE J3) (zE J3) (zE J3) (zE J3) (fun _ e=>by cases e) rfl rfl (show 2≤7 from by omega) rfl has0_nil ?_
   refine ySG J3 ?_
   refine aw_stop ⟨(),?_⟩
   and_intros<;>first|rfl|exact List.Sublist.refl _|exact True.intro
  ·have hk:kdS s1=none:=by unfold kdS;rw [if_neg (by rw [hb];decide)]
   rw [hk]
   refine aw_stop ⟨(),?_⟩
   and_intros<;>first|rfl|exact List.Sublist.refl _|exact True.intro
 rintro _ _
 apply wa1
 apply wa6
 have J4:=oj hn_g2 hn_g3
 refine yH J4 ?_
 refine aw_cg f3 rfl rfl rfl (zE J4) (zL2 o0) ?_
 refine yS J4 ?_
 refine yH J4 ?_
 apply wa1
 refine aw_cut (fun _:Unit=>[(0,.c (.optr g 0)),(2,.c (.optr g2 0)),(3,.c (.optr g3 0))]) (fun _=>[(g3,.cells 65 7 (ofL ([.str (sB nm),.int .i64 ((kdS s1).getD 0),.int .i64 (gtV (kdS s1) s2).1,.nils]++rdc (gtD (kdS s1) s2).1))),(g2,.cells 65 7 (ofL [.str (sB []),.int .i64 0,.int .i64 0,.nils,.bool false,.nils,.nils])),(g,rdO L (gtD (kdS s1) s2).2)]) (fun _=>1=1) ?_ ?_
 ·have f4:=whole_fg g L s2 hs2 om hw
  have f5:=number_fg g L s2 hs2 om hw
  by_cases k2:kdS s1=some 2
  ·have hv:gtV (kdS s1) s2=wholeS s2:=by unfold gtV;rw [if_pos k2]
   have hd:gtD (kdS s1) s2=(rd0,(wholeS s2).2):=by unfold gtD;rw [if_neg (by rw [k2];decide),hv]
   rw [hv,hd,k2]
   repeat' first|refine yA1 J4 ?_|(refine aw_cg (f4) rfl rfl rfl (zE J4) (zL2 J4) ?_;refine yS J4 ?_)|(refine yW J4 ?_;refine yS J4 ?_)|refine yP J4 ?_|refine yN J4 ?_|refine aw_cd (zE J4) (fun hb=>?_) (fun hb=>?_)|refine aw_ce (zE J4) (fun hb=>?_) (fun hb=>?_)|refine aw_cn (zE J4) (fun hb=>?_) (fun hb=>?_)|(refine yF J4 (fun hb=>?_) (fun hb=>?_)<;>fail_if_success (cases hb;done))|(refine aw_gsd rfl rfl (zE J4) (fun hb=>?_) (fun hb=>?_)<;>refine yS J4 ?_)|(refine aw_gse rfl rfl (zE J4) (fun hb=>?_) (fun hb=>?_)<;>refine yS J4 ?_)|(refine aw_gsn rfl rfl (zE J4) (fun hb=>?_) (fun hb=>?_)<;>refine yS J4 ?_)|(refine aw_gs rfl rfl (zE J4) (fun hb=>?_) (fun hb=>?_)<;>fail_if_success (cases hb;done)<;>refine yS J4 ?_)|(refine drk_gsd rfl rfl (zE J4) (fun hb=>?_) (fun hb=>?_)<;>refine yS J4 ?_)|(refine drk_gse rfl rfl (zE J4) (fun hb=>?_) (fun hb=>?_)<;>refine yS J4 ?_)|(refine drk_gsn rfl rfl (zE J4) (fun hb=>?_) (fun hb=>?_)<;>refine yS J4 ?_)|(refine drk_gs rfl rfl (zE J4) (fun hb=>?_) (fun hb=>?_)<;>fail_if_success (cases hb;done)<;>refine yS J4 ?_)
   refine aw_convR (f':=ofL ([.str (sB nm),.int .i64 2,.int .i64 (wholeS s2).1,.nils]++rdc rd0)) conv_gate ?_
   refine aw_stop ⟨(),?_⟩
   and_intros<;>first|rfl|exact List.Sublist.refl _|exact True.intro
  by_cases k7:kdS s1=some 7
  ·have hv:gtV (kdS s1) s2=(0,s2):=by unfold gtV;rw [if_neg k2]
   have hd:gtD (kdS s1) s2=numS s2:=by unfold gtD;rw [if_pos k7,hv]
   rw [hv,hd,k7]
   repeat' first|refine yA1 J4 ?_|(refine aw_cg (f5) rfl rfl rfl (zE J4) (zL2 J4) ?_;refine yS J4 ?_)|(refine yW J4 ?_;refine yS J4 ?_)|refine yP J4 ?_|refine yN J4 ?_|refine aw_cd (zE J4) (fun hb=>?_) (fun hb=>?_)|refine aw_ce (zE J4) (fun hb=>?_) (fun hb=>?_)|refine aw_cn (zE J4) (fun hb=>?_) (fun hb=>?_)|(refine yF J4 (fun hb=>?_) (fun hb=>?_)<;>fail_if_success (cases hb;done))|(refine aw_gsd rfl rfl (zE J4) (fun hb=>?_) (fun hb=>?_)<;>refine yS J4 ?_)|(refine aw_gse rfl rfl (zE J4) (fun hb=>?_) (fun hb=>?_)<;>refine yS J4 ?_)|(refine aw_gsn rfl rfl (zE J4) (fun hb=>?_) (fun hb=>?_)<;>refine yS J4 ?_)|(refine aw_gs rfl rfl (zE J4) (fun hb=>?_) (fun hb=>?_)<;>fail_if_success (cases hb;done)<;>refine yS J4 ?_)|(refine drk_gsd rfl rfl (zE J4) (fun hb=>?_) (fun hb=>?_)<;>refine yS J4 ?_)|(refine drk_gse rfl rfl (zE J4) (fun hb=>?_) (fun hb=>?_)<;>refine yS J4 ?_)|(refine drk_gsn rfl rfl (zE J4) (fun hb=>?_) (fun hb=>?_)<;>refine yS J4 ?_)|(refine drk_gs rfl rfl (zE J4) (fun hb=>?_) (fun hb=>?_)<;>fail_if_success (cases hb;done)<;>refine yS J4 ?_)
   refine aw_stop ⟨(),?_⟩
   and_intros<;>first|rfl|exact List.Sublist.refl _|exact True.intro
  ·have hv:gtV (kdS s1) s2=(0,s2):=by unfold gtV;rw [if_neg k2]
   have hd:gtD (kdS s1) s2=(rd0,s2):=by unfold gtD;rw [if_neg k7,hv]
   have n2:((kdS s1).getD 0==(2:Int))=false:=by
    cases hk:kdS s1 with
    |none=>rfl
    |some v=>simp only [Option.getD_some];rw [beq_eq_false_iff_ne];intro e;exact k2 (by rw [hk,e])
   have n7:((kdS s1).getD 0==(7:Int))=false:=by
    cases hk:kdS s1 with
    |none=>rfl
    |some v=>simp only [Option.getD_some];rw [beq_eq_false_iff_ne];intro e;exact k7 (by rw [hk,e])
   rw [hv,hd]
   repeat' first|refine yA1 (oj hn_g2 (oj hn_g3 (oj n2 n7))) ?_|(refine yW (oj hn_g2 (oj hn_g3 (oj n2 n7))) ?_;refine yS (oj hn_g2 (oj hn_g3 (oj n2 n7))) ?_)|refine yP (oj hn_g2 (oj hn_g3 (oj n2 n7))) ?_|refine yN (oj hn_g2 (oj hn_g3 (oj n2 n7))) ?_|refine aw_cd (zE (oj hn_g2 (oj hn_g3 (oj n2 n7)))) (fun hb=>?_) (fun hb=>?_)|refine aw_ce (zE (oj hn_g2 (oj hn_g3 (oj n2 n7)))) (fun hb=>?_) (fun hb=>?_)|refine aw_cn (zE (oj hn_g2 (oj hn_g3 (oj n2 n7)))) (fun hb=>?_) (fun hb=>?_)|(refine yF (oj hn_g2 (oj hn_g3 (oj n2 n7))) (fun hb=>?_) (fun hb=>?_)<;>fail_if_success (cases hb;done))|(refine aw_gsd rfl rfl (zE (oj hn_g2 (oj hn_g3 (oj n2 n7)))) (fun hb=>?_) (fun hb=>?_)<;>refine yS (oj hn_g2 (oj hn_g3 (oj n2 n7))) ?_)|(refine aw_gse rfl rfl (zE (oj hn_g2 (oj hn_g3 (oj n2 n7)))) (fun hb=>?_) (fun hb=>?_)<;>refine yS (oj hn_g2 (oj hn_g3 (oj n2 n7))) ?_)|(refine aw_gsn rfl rfl (zE (oj hn_g2 (oj hn_g3 (oj n2 n7)))) (fun hb=>?_) (fun hb=>?_)<;>refine yS (oj hn_g2 (oj hn_g3 (oj n2 n7))) ?_)|(refine aw_gs rfl rfl (zE (oj hn_g2 (oj hn_g3 (oj n2 n7)))) (fun hb=>?_) (fun hb=>?_)<;>fail_if_success (cases hb;done)<;>refine yS (oj hn_g2 (oj hn_g3 (oj n2 n7))) ?_)|(refine drk_gsd rfl rfl (zE (oj hn_g2 (oj hn_g3 (oj n2 n7)))) (fun hb=>?_) (fun hb=>?_)<;>refine yS (oj hn_g2 (oj hn_g3 (oj n2 n7))) ?_)|(refine drk_gse rfl rfl (zE (oj hn_g2 (oj hn_g3 (oj n2 n7)))) (fun hb=>?_) (fun hb=>?_)<;>refine yS (oj hn_g2 (oj hn_g3 (oj n2 n7))) ?_)|(refine drk_gsn rfl rfl (zE (oj hn_g2 (oj hn_g3 (oj n2 n7)))) (fun hb=>?_) (fun hb=>?_)<;>refine yS (oj hn_g2 (oj hn_g3 (oj n2 n7))) ?_)|(refine drk_gs rfl rfl (zE (oj hn_g2 (oj hn_g3 (oj n2 n7)))) (fun hb=>?_) (fun hb=>?_)<;>fail_if_success (cases hb;done)<;>refine yS (oj hn_g2 (oj hn_g3 (oj n2 n7))) ?_)
   refine aw_convR (f':=ofL ([.str (sB nm),.int .i64 ((kdS s1).getD 0),.int .i64 0,.nils]++rdc rd0)) conv_gate ?_
   refine aw_stop ⟨(),?_⟩
   and_intros<;>first|rfl|exact List.Sublist.refl _|exact True.intro
 rintro _ _
 have hs3:(gtD (kdS s1) s2).2.l<:+L.map TX.t:=(gtD_suf _ _).trans hs2
 have hsp:gtK nm (kdS s1) s2=(⟨nm,(kdS s1).getD 0,(gtV (kdS s1) s2).1,(insS (gtD (kdS s1) s2).2).1,(gtD (kdS s1) s2).1⟩,(insS (gtD (kdS s1) s2).2).2):=rfl
 rw [hsp]
 generalize gtV (kdS s1) s2=v at*
 generalize gtD (kdS s1) s2=d at*
 generalize (kdS s1).getD 0=kd at*
 obtain⟨d,s3⟩:=d
 obtain⟨v,s3'⟩:=v
 dsimp only at*
 clear f1 f2 f3 hg1 hg2 hs2 hs1 J4
 unfold insS
 dsimp only
 generalize hF:lpS (fun s=> !isS s kSemi) inB [] s3=F at*
 apply wa1
 refine aw_cut (fun _:Nat×Option Nat=>[(0,.c (.optr g 0)),(2,.c (.optr g2 0)),(3,.c (.optr g3 0))]) (fun x=>[(g3,.cells 65 7 (ofL ([.str (sB nm),.int .i64 kd,.int .i64 v,gs x.2 1 x.1]++rdc d))),(g2,.cells 65 7 (ofL [.str (sB []),.int .i64 0,.int .i64 0,.nils,.bool false,.nils,.nils])),(g,rdO L F.2)]++gh x.2 9 x.1 (strsF F.1)) (fun x=>F.1.length=x.1∧(x.2=none→x.1=0)) ?_ ?_
 ·apply wa2
  refine aw_lp (fun _:PS×List BS×Nat×Option Nat=>[(0,.c (.optr g 0)),(2,.c (.optr g2 0)),(3,.c (.optr g3 0))]) (fun x=>[(g3,.cells 65 7 (ofL ([.str (sB nm),.int .i64 kd,.int .i64 v,gs x.2.2.2 1 x.2.2.1]++rdc d))),(g2,.cells 65 7 (ofL [.str (sB []),.int .i64 0,.int .i64 0,.nils,.bool false,.nils,.nils])),(g,rdO L x.1)]++gh x.2.2.2 9 x.2.2.1 (strsF x.2.1))
   (fun x=>x.1.l<:+L.map TX.t∧x.2.1.length=x.2.2.1∧(x.2.2.2=none→x.2.2.1=0)∧x.2.2.1+mS x.1≤1048577∧lpS (fun s=> !isS s kSemi) inB x.2.1 x.1=F) (fun x=>mS x.1) (s3,[],0,none) (zB (oj hn_g2 hn_g3)) zZ ⟨hs3,rfl,fun _=>rfl,?_,hF⟩ ?_
  ·have:=hs3.length_le
   rw [List.length_map] at this
   dsimp only
   unfold mS
   split<;>omega
  rintro ⟨sx,xs,n,og⟩ ⟨hsx,hn,hog,hm,hlp⟩
  dsimp only at hsx hn hog hm hlp⊢
  have f2:=is_fg g L sx kSemi hsx om
  have f4:=input_fg g L sx hsx om hw
  repeat' first|refine yA1 (oj hn_g2 hn_g3) ?_|(refine aw_cg (f2) rfl rfl rfl (zE (oj hn_g2 hn_g3)) (zL2 (oj hn_g2 hn_g3)) ?_;refine yS (oj hn_g2 hn_g3) ?_)|(refine yW (oj hn_g2 hn_g3) ?_;refine yS (oj hn_g2 hn_g3) ?_)|refine yP (oj hn_g2 hn_g3) ?_|refine yN (oj hn_g2 hn_g3) ?_|refine aw_cd (zE (oj hn_g2 hn_g3)) (fun hb=>?_) (fun hb=>?_)|refine aw_ce (zE (oj hn_g2 hn_g3)) (fun hb=>?_) (fun hb=>?_)|refine aw_cn (zE (oj hn_g2 hn_g3)) (fun hb=>?_) (fun hb=>?_)|(refine yF (oj hn_g2 hn_g3) (fun hb=>?_) (fun hb=>?_)<;>fail_if_success (cases hb;done))|(refine aw_gsd rfl rfl (zE (oj hn_g2 hn_g3)) (fun hb=>?_) (fun hb=>?_)<;>refine yS (oj hn_g2 hn_g3) ?_)|(refine aw_gse rfl rfl (zE (oj hn_g2 hn_g3)) (fun hb=>?_) (fun hb=>?_)<;>refine yS (oj hn_g2 hn_g3) ?_)|(refine aw_gsn rfl rfl (zE (oj hn_g2 hn_g3)) (fun hb=>?_) (fun hb=>?_)<;>refine yS (oj hn_g2 hn_g3) ?_)|(refine aw_gs rfl rfl (zE (oj hn_g2 hn_g3)) (fun hb=>?_) (fun hb=>?_)<;>fail_if_success (cases hb;done)<;>refine yS (oj hn_g2 hn_g3) ?_)|(refine drk_gsd rfl rfl (zE (oj hn_g2 hn_g3)) (fun hb=>?_) (fun hb=>?_)<;>refine yS (oj hn_g2 hn_g3) ?_)|(refine drk_gse rfl rfl (zE (oj hn_g2 hn_g3)) (fun hb=>?_) (fun hb=>?_)<;>refine yS (oj hn_g2 hn_g3) ?_)|(refine drk_gsn rfl rfl (zE (oj hn_g2 hn_g3)) (fun hb=>?_) (fun hb=>?_)<;>refine yS (oj hn_g2 hn_g3) ?_)|(refine drk_gs rfl rfl (zE (oj hn_g2 hn_g3)) (fun hb=>?_) (fun hb=>?_)<;>fail_if_success (cases hb;done)<;>refine yS (oj hn_g2 hn_g3) ?_)
  ·rename_i h0
   have hc:(!isS sx kSemi)=true:=hb
   have hst:=lpS_step (c:=fun s=> !isS s kSemi) (b:=inB) (a:=xs) (fun a s h _=>con_inB a s h) h0 hc
   have hlt:=con_inB xs sx h0
   rw [hst] at hlp
   have hsy:(inB xs sx).2.l<:+L.map TX.t:=((rdr_inB xs).suf sx).trans hsx
   have e1:(inB xs sx).1=xs++[(inputS sx).1]:=rfl
   have e2:(inB xs sx).2=(inputS sx).2:=rfl
   rw [e2] at hlt hsy
   rw [e1,e2] at hlp
   generalize inputS sx=y at*
   obtain⟨t,sy⟩:=y
   dsimp only at*
   refine aw_cw ([(g3,.cells 65 7 (ofL (.str (sB nm)::.int .i64 kd::.int .i64 v::gs og 1 n::rdc d)))]) [(0,0),(1,0),(2,0),(3,1),(4,1),(5,1),(6,0),(7,2)] ty_mixed (by kernel_rfl) eI ?_
   have J5:=oj hn_g2 hn_g3
   refine yG J5 ?_
   refine cw_cg rfl f4 rfl rfl rfl (zE J5) (zL J5) (by refine yS J5 ?_;exact has0_cons (List.mem_cons_self ..) has0_nil) ?_
   refine ySG J5 ?_
   refine cw_buildSlice (xs:=[.tmp 54]) (cells:=[.str (sB t)]) rfl rfl rfl rfl (zE J5) (by refine yS J5 ?_;rfl) rfl om om (by intro x hx;simp only [List.mem_singleton] at hx;subst hx;exact⟨rfl,rfl,rfl⟩) rfl (by simp [Op.operands]) (has0_cons (List.mem_cons_self ..) has0_nil) (fun ga hn_ga=> ?_) (hm:=.inr ⟨rfl,rfl⟩)
   refine yS J5 ?_
   refine cw_push (pre:=[(g3,.cells 65 7 (ofL (.str (sB nm)::.int .i64 kd::.int .i64 v::gs og 1 n::rdc d))),(g2,.cells 65 7 (ofL [.str (sB []),.int .i64 0,.int .i64 0,.nils,.bool false,.nils,.nils])),(g,rdO L sy)]) (og:=og) (n:=n) (s:=52) (d1:=55) (gt:=ga) (v:=.c (.str (sB t))) rfl rfl rfl rfl (zE J5) (zE J5) (by rfl) om om (zE J5) (zE J5) hog (by rfl) (by rfl) (by simp only [Nat.mul_one,List.cons_append,List.nil_append];rfl) (by unfold maxLen;omega) om (strs_push hn t) (has0_skip (has0_cons (List.mem_cons_self ..) has0_nil)) (fun gb hn_gb=> ?_) (hm:=.inr ⟨rfl,rfl⟩)
   replace hn_ga:=Heap.ne_of hn_ga
   simp only [Heap.ne] at hn_ga
   have J6:=oj hn_g2 (oj hn_g3 hn_ga)
   refine ySG J6 ?_
   refine cw_store (FP':=[]) rfl rfl rfl rfl rfl (zE J6) (zE J6) (zE J6) (zE J6) (fun _ e=>by cases e) rfl rfl (show 4≤7 from by omega) rfl has0_nil ?_
   refine ySG J6 ?_
   refine aw_stop ⟨(sy,xs++[t],n+1,some gb),?_⟩
   refine⟨hlt,?_⟩
   and_intros
   all_goals first|rfl|exact List.Sublist.cons _ (List.Sublist.refl _)|exact True.intro|exact hsy|exact some_ne|exact hlp|(dsimp only;rw [List.length_append,hn];rfl)|(dsimp only;omega)
  ·have hc:¬(sx.e=0∧(!isS sx kSemi)=true):=fun z=>by rw [hb] at z;exact absurd z.2 (by decide)
   rw [lpS_end hc] at hlp
   subst hlp
   refine aw_stop ⟨(n,og),?_⟩
   and_intros<;>first|rfl|exact List.Sublist.refl _|exact True.intro|exact hn|exact hog
  ·have hc:¬(sx.e=0∧(!isS sx kSemi)=true):=fun z=>hb z.1
   rw [lpS_end hc] at hlp
   subst hlp
   refine aw_stop ⟨(n,og),?_⟩
   and_intros<;>first|rfl|exact List.Sublist.refl _|exact True.intro|exact hn|exact hog
 rintro ⟨n,og⟩ ⟨hn,hog⟩
 dsimp only at hn hog⊢
 have hs4:F.2.l<:+L.map TX.t:=by
  rw [←hF];exact((rdr_lp rdr_inB []).suf s3).trans hs3
 have f6:=expect_fg g L F.2 kSemi hs4 om
 subst hn
 refine aw_nd fun hnd=> ?_
 have hog2:∀q,og=some q→¬C.own0 q:=fun q hq hown=>by
  subst hq
  have:q=g:=by simpa [Heap.keys] using (hC q).1 hown
  subst this
  simp [Heap.keys,gh] at hnd
 refine aw_perm (h':=(g3,.cells 65 7 (ofL (.str (sB nm)::.int .i64 kd::.int .i64 v::gs og 1 F.1.length::rdc d)))::(gh og 9 (F.1.length*1) (strsF F.1)++[(g2,.cells 65 7 (ofL [.str (sB []),.int .i64 0,.int .i64 0,.nils,.bool false,.nils,.nils])),(g,rdO L F.2)])) (by rw [Nat.mul_one];exact .cons _ (List.perm_append_comm (l₁:=[(g2,.cells 65 7 (ofL [.str (sB []),.int .i64 0,.int .i64 0,.nils,.bool false,.nils,.nils])),(g,rdO L F.2)]))) ?_
 refine aw_frzG (j0:=3) (n:=F.1.length) (s:=1) (f':=ofL (.str (sB nm)::.int .i64 kd::.int .i64 v::strs true F.1::rdc d)) rfl rfl (fun j hj hj3=>by
  match j,hj,hj3 with
  |0,_,_=>rfl
  |1,_,_=>rfl
  |2,_,_=>rfl
  |4,_,_=>rfl
  |5,_,_=>rfl
  |6,_,_=>rfl) hog hog2 ?_
 repeat' first|refine yA1 (oj hn_g2 hn_g3) ?_|(refine aw_cg (f6) rfl rfl rfl (zE (oj hn_g2 hn_g3)) (zL2 (oj hn_g2 hn_g3)) ?_;refine yS (oj hn_g2 hn_g3) ?_)|(refine yW (oj hn_g2 hn_g3) ?_;refine yS (oj hn_g2 hn_g3) ?_)|refine yP (oj hn_g2 hn_g3) ?_|refine yN (oj hn_g2 hn_g3) ?_|refine aw_cd (zE (oj hn_g2 hn_g3)) (fun hb=>?_) (fun hb=>?_)|refine aw_ce (zE (oj hn_g2 hn_g3)) (fun hb=>?_) (fun hb=>?_)|refine aw_cn (zE (oj hn_g2 hn_g3)) (fun hb=>?_) (fun hb=>?_)|(refine yF (oj hn_g2 hn_g3) (fun hb=>?_) (fun hb=>?_)<;>fail_if_success (cases hb;done))|(refine aw_gsd rfl rfl (zE (oj hn_g2 hn_g3)) (fun hb=>?_) (fun hb=>?_)<;>refine yS (oj hn_g2 hn_g3) ?_)|(refine aw_gse rfl rfl (zE (oj hn_g2 hn_g3)) (fun hb=>?_) (fun hb=>?_)<;>refine yS (oj hn_g2 hn_g3) ?_)|(refine aw_gsn rfl rfl (zE (oj hn_g2 hn_g3)) (fun hb=>?_) (fun hb=>?_)<;>refine yS (oj hn_g2 hn_g3) ?_)|(refine aw_gs rfl rfl (zE (oj hn_g2 hn_g3)) (fun hb=>?_) (fun hb=>?_)<;>fail_if_success (cases hb;done)<;>refine yS (oj hn_g2 hn_g3) ?_)|(refine drk_gsd rfl rfl (zE (oj hn_g2 hn_g3)) (fun hb=>?_) (fun hb=>?_)<;>refine yS (oj hn_g2 hn_g3) ?_)|(refine drk_gse rfl rfl (zE (oj hn_g2 hn_g3)) (fun hb=>?_) (fun hb=>?_)<;>refine yS (oj hn_g2 hn_g3) ?_)|(refine drk_gsn rfl rfl (zE (oj hn_g2 hn_g3)) (fun hb=>?_) (fun hb=>?_)<;>refine yS (oj hn_g2 hn_g3) ?_)|(refine drk_gs rfl rfl (zE (oj hn_g2 hn_g3)) (fun hb=>?_) (fun hb=>?_)<;>fail_if_success (cases hb;done)<;>refine yS (oj hn_g2 hn_g3) ?_)
 refine aw_rethw (h':=[(g,rdO L (expS kSemi F.2))]) rfl (by first|exact List.Sublist.refl _|exact .cons _ (.refl _)|exact .cons _ (.cons _ (.refl _))|exact .cons _ (.cons _ (.cons _ (.refl _)))) fun R r=>?_;simp only[go_sem,hn_g2,hn_g3];refine r _ rfl ?_;clear r R
 exact⟨rfl,rfl⟩
end Go.Proofs.YteocnikcjjonbaaGreat
namespace Go.AI
open Go.PN
theorem gts_push {xs:List GtD} {n:Nat} (hn:xs.length=n) (t:GtD):∀j,j<(n+1)*7→appF (gtsF xs) (n*7) (ofL (gtc t)) j=gtsF (xs++[t]) j:=lf_push (s:=7) (c:=gtc) (d:=(gt0:GtD)) hn t (by decide)
end Go.AI
namespace Go.Proofs.YteocnikcjjonbaaGreat
open Go.AI Go.PN
attribute [local irreducible] aw Fa Fh DrK
theorem page_fg (g:Nat) (L:List TX) (s:PS) (hs:s.l<:+L.map TX.t) (hL:L.length≤1048576) (hw:∀t∈L,t.t.text.length≤1099511627776):Fg Tryz.prog 65 g (rdO L s) [.c (.optr g 0)] (.agg (pgc (pageS s).1)) (rdO L (pageS s).2):=by
 have f1:=word_fg g L s hs om
 have hs1:=suf_word hs
 unfold pageS
 dsimp only
 generalize wordS s=r at*
 obtain⟨nm,s1⟩:=r
 dsimp only at*
 have f2:=expect_fg g L s1 kTop hs1 om
 have hs2:(expS kTop s1).l<:+L.map TX.t:=((rdr_exp kTop).suf s1).trans hs1
 generalize expS kTop s1=s2 at*
 have f3:=input_fg g L s2 hs2 om hw
 have hs3:=(rdr_input.suf s2).trans hs2
 generalize inputS s2=r at*
 obtain⟨tp,s3⟩:=r
 dsimp only at*
 have f4:=expect_fg g L s3 kOpen hs3 om
 have hs4:(expS kOpen s3).l<:+L.map TX.t:=((rdr_exp kOpen).suf s3).trans hs3
 generalize expS kOpen s3=s4 at*
 generalize hF:lpS (fun s=> !isS s kClose) pgB [] s4=F at*
 unfold Fg
 refine fh_of_body Tryz.func65 rfl rfl (by simp [Tryz.ntmps65]) fun C hC=> ?_
 simp only [initS,Nat.reduceAdd]
 repeat' first|refine yA1 o0 ?_|(refine xW ?_;refine xS ?_)|refine xP ?_|refine xN ?_|refine aw_cd eE (fun hb=>?_) (fun hb=>?_)|refine aw_ce eE (fun hb=>?_) (fun hb=>?_)|refine aw_cn eE (fun hb=>?_) (fun hb=>?_)|(refine xF (fun hb=>?_) (fun hb=>?_)<;>fail_if_success (cases hb;done))|(refine aw_gsd rfl rfl eE (fun hb=>?_) (fun hb=>?_)<;>refine xS ?_)|(refine aw_gse rfl rfl eE (fun hb=>?_) (fun hb=>?_)<;>refine xS ?_)|(refine aw_gsn rfl rfl eE (fun hb=>?_) (fun hb=>?_)<;>refine xS ?_)|(refine aw_gs rfl rfl eE (fun hb=>?_) (fun hb=>?_)<;>fail_if_success (cases hb;done)<;>refine xS ?_)|(refine drk_gsd rfl rfl eE (fun hb=>?_) (fun hb=>?_)<;>refine xS ?_)|(refine drk_gse rfl rfl eE (fun hb=>?_) (fun hb=>?_)<;>refine xS ?_)|(refine drk_gsn rfl rfl eE (fun hb=>?_) (fun hb=>?_)<;>refine xS ?_)|(refine drk_gs rfl rfl eE (fun hb=>?_) (fun hb=>?_)<;>fail_if_success (cases hb;done)<;>refine xS ?_)
 refine xA fun g2 hn_g2=>?_
 repeat' first|refine yA1 hn_g2 ?_|(refine aw_cg (f1) rfl rfl rfl (zE hn_g2) (zL2 hn_g2) ?_;refine yS hn_g2 ?_)|(refine yW hn_g2 ?_;refine yS hn_g2 ?_)|refine yP hn_g2 ?_|refine yN hn_g2 ?_|refine aw_cd (zE hn_g2) (fun hb=>?_) (fun hb=>?_)|refine aw_ce (zE hn_g2) (fun hb=>?_) (fun hb=>?_)|refine aw_cn (zE hn_g2) (fun hb=>?_) (fun hb=>?_)|(refine yF hn_g2 (fun hb=>?_) (fun hb=>?_)<;>fail_if_success (cases hb;done))|(refine aw_gsd rfl rfl (zE hn_g2) (fun hb=>?_) (fun hb=>?_)<;>refine yS hn_g2 ?_)|(refine aw_gse rfl rfl (zE hn_g2) (fun hb=>?_) (fun hb=>?_)<;>refine yS hn_g2 ?_)|(refine aw_gsn rfl rfl (zE hn_g2) (fun hb=>?_) (fun hb=>?_)<;>refine yS hn_g2 ?_)|(refine aw_gs rfl rfl (zE hn_g2) (fun hb=>?_) (fun hb=>?_)<;>fail_if_success (cases hb;done)<;>refine yS hn_g2 ?_)|(refine drk_gsd rfl rfl (zE hn_g2) (fun hb=>?_) (fun hb=>?_)<;>refine yS hn_g2 ?_)|(refine drk_gse rfl rfl (zE hn_g2) (fun hb=>?_) (fun hb=>?_)<;>refine yS hn_g2 ?_)|(refine drk_gsn rfl rfl (zE hn_g2) (fun hb=>?_) (fun hb=>?_)<;>refine yS hn_g2 ?_)|(refine drk_gs rfl rfl (zE hn_g2) (fun hb=>?_) (fun hb=>?_)<;>fail_if_success (cases hb;done)<;>refine yS hn_g2 ?_)
 refine yA hn_g2 fun g3 hn_g3=>?_
 repeat' first|refine yA1 (oj hn_g2 hn_g3) ?_|(refine aw_cg (f2) rfl rfl rfl (zE (oj hn_g2 hn_g3)) (zL2 (oj hn_g2 hn_g3)) ?_;refine yS (oj hn_g2 hn_g3) ?_)|(refine aw_cg (f3) rfl rfl rfl (zE (oj hn_g2 hn_g3)) (zL2 (oj hn_g2 hn_g3)) ?_;refine yS (oj hn_g2 hn_g3) ?_)|(refine yW (oj hn_g2 hn_g3) ?_;refine yS (oj hn_g2 hn_g3) ?_)|refine yP (oj hn_g2 hn_g3) ?_|refine yN (oj hn_g2 hn_g3) ?_|refine aw_cd (zE (oj hn_g2 hn_g3)) (fun hb=>?_) (fun hb=>?_)|refine aw_ce (zE (oj hn_g2 hn_g3)) (fun hb=>?_) (fun hb=>?_)|refine aw_cn (zE (oj hn_g2 hn_g3)) (fun hb=>?_) (fun hb=>?_)|(refine yF (oj hn_g2 hn_g3) (fun hb=>?_) (fun hb=>?_)<;>fail_if_success (cases hb;done))|(refine aw_gsd rfl rfl (zE (oj hn_g2 hn_g3)) (fun hb=>?_) (fun hb=>?_)<;>refine yS (oj hn_g2 hn_g3) ?_)|(refine aw_gse rfl rfl (zE (oj hn_g2 hn_g3)) (fun hb=>?_) (fun hb=>?_)<;>refine yS (oj hn_g2 hn_g3) ?_)|(refine aw_gsn rfl rfl (zE (oj hn_g2 hn_g3)) (fun hb=>?_) (fun hb=>?_)<;>refine yS (oj hn_g2 hn_g3) ?_)|(refine aw_gs rfl rfl (zE (oj hn_g2 hn_g3)) (fun hb=>?_) (fun hb=>?_)<;>fail_if_success (cases hb;done)<;>refine yS (oj hn_g2 hn_g3) ?_)|(refine drk_gsd rfl rfl (zE (oj hn_g2 hn_g3)) (fun hb=>?_) (fun hb=>?_)<;>refine yS (oj hn_g2 hn_g3) ?_)|(refine drk_gse rfl rfl (zE (oj hn_g2 hn_g3)) (fun hb=>?_) (fun hb=>?_)<;>refine yS (oj hn_g2 hn_g3) ?_)|(refine drk_gsn rfl rfl (zE (oj hn_g2 hn_g3)) (fun hb=>?_) (fun hb=>?_)<;>refine yS (oj hn_g2 hn_g3) ?_)|(refine drk_gs rfl rfl (zE (oj hn_g2 hn_g3)) (fun hb=>?_) (fun hb=>?_)<;>fail_if_success (cases hb;done)<;>refine yS (oj hn_g2 hn_g3) ?_)
 refine aw_cg f4 rfl rfl rfl (zE (oj hn_g2 hn_g3)) (zL2 o0) ?_
 have J1:=oj hn_g2 hn_g3
 refine yS J1 ?_
 refine yH J1 ?_
 apply wa1
 refine aw_cut (fun _:Nat×Option Nat=>[(0,.c (.optr g 0)),(2,.c (.optr g2 0)),(3,.c (.optr g3 0))]) (fun x=>[(g3,.cells 128 3 (ofL [.str (sB nm),.str (sB tp),gs x.2 7 x.1])),(g2,.cells 128 3 (ofL [.str (sB []),.str (sB []),.nils])),(g,rdO L F.2)]++gh x.2 65 (x.1*7) (gtsF F.1)) (fun x=>F.1.length=x.1∧(x.2=none→x.1=0)) ?_ ?_
 ·apply wa2
  refine aw_lp (fun _:PS×List GtD×Nat×Option Nat=>[(0,.c (.optr g 0)),(2,.c (.optr g2 0)),(3,.c (.optr g3 0))]) (fun x=>[(g3,.cells 128 3 (ofL [.str (sB nm),.str (sB tp),gs x.2.2.2 7 x.2.2.1])),(g2,.cells 128 3 (ofL [.str (sB []),.str (sB []),.nils])),(g,rdO L x.1)]++gh x.2.2.2 65 (x.2.2.1*7) (gtsF x.2.1))
   (fun x=>x.1.l<:+L.map TX.t∧x.2.1.length=x.2.2.1∧(x.2.2.2=none→x.2.2.1=0)∧x.2.2.1+mS x.1≤1048577∧lpS (fun s=> !isS s kClose) pgB x.2.1 x.1=F) (fun x=>mS x.1) (s4,[],0,none) (zB J1) zZ ⟨hs4,rfl,fun _=>rfl,?_,hF⟩ ?_
  ·have:=hs4.length_le
   rw [List.length_map] at this
   dsimp only
   unfold mS
   split<;>omega
  rintro ⟨sx,xs,n,og⟩ ⟨hsx,hn,hog,hm,hlp⟩
  dsimp only at hsx hn hog hm hlp⊢
  have f5:=is_fg g L sx kClose hsx om
  have f6:=expect_fg g L sx kGate hsx om
  have hsw:(expS kGate sx).l<:+L.map TX.t:=((rdr_exp kGate).suf sx).trans hsx
  have f7:=gate_fg g L (expS kGate sx) hsw hL hw
  repeat' first|refine yA1 J1 ?_|(refine aw_cg (f5) rfl rfl rfl (zE J1) (zL2 J1) ?_;refine yS J1 ?_)|(refine aw_cg (f6) rfl rfl rfl (zE J1) (zL2 J1) ?_;refine yS J1 ?_)|(refine yW J1 ?_;refine yS J1 ?_)|refine yP J1 ?_|refine yN J1 ?_|refine aw_cd (zE J1) (fun hb=>?_) (fun hb=>?_)|refine aw_ce (zE J1) (fun hb=>?_) (fun hb=>?_)|refine aw_cn (zE J1) (fun hb=>?_) (fun hb=>?_)|(refine yF J1 (fun hb=>?_) (fun hb=>?_)<;>fail_if_success (cases hb;done))|(refine aw_gsd rfl rfl (zE J1) (fun hb=>?_) (fun hb=>?_)<;>refine yS J1 ?_)|(refine aw_gse rfl rfl (zE J1) (fun hb=>?_) (fun hb=>?_)<;>refine yS J1 ?_)|(refine aw_gsn rfl rfl (zE J1) (fun hb=>?_) (fun hb=>?_)<;>refine yS J1 ?_)|(refine aw_gs rfl rfl (zE J1) (fun hb=>?_) (fun hb=>?_)<;>fail_if_success (cases hb;done)<;>refine yS J1 ?_)|(refine drk_gsd rfl rfl (zE J1) (fun hb=>?_) (fun hb=>?_)<;>refine yS J1 ?_)|(refine drk_gse rfl rfl (zE J1) (fun hb=>?_) (fun hb=>?_)<;>refine yS J1 ?_)|(refine drk_gsn rfl rfl (zE J1) (fun hb=>?_) (fun hb=>?_)<;>refine yS J1 ?_)|(refine drk_gs rfl rfl (zE J1) (fun hb=>?_) (fun hb=>?_)<;>fail_if_success (cases hb;done)<;>refine yS J1 ?_)
  ·rename_i h0
   have hc:(!isS sx kClose)=true:=hb
   have hst:=lpS_step (c:=fun s=> !isS s kClose) (b:=pgB) (a:=xs) (fun a s h _=>con_pgB a s h) h0 hc
   have hlt:=con_pgB xs sx h0
   rw [hst] at hlp
   have hsy:(pgB xs sx).2.l<:+L.map TX.t:=((rdr_pgB xs).suf sx).trans hsx
   have e1:(pgB xs sx).1=xs++[(gateS (expS kGate sx)).1]:=rfl
   have e2:(pgB xs sx).2=(gateS (expS kGate sx)).2:=rfl
   rw [e2] at hlt hsy
   rw [e1,e2] at hlp
   generalize gateS (expS kGate sx)=y at*
   obtain⟨t,sy⟩:=y
   dsimp only at*
   refine aw_cw ([(g3,.cells 128 3 (ofL [.str (sB nm),.str (sB tp),gs og 7 n]))]) [(0,0),(1,0),(2,0),(3,1),(4,1),(5,1),(6,0),(7,2)] ty_mixed (by kernel_rfl) eI ?_
   refine yG J1 ?_
   refine cw_cg rfl f7 rfl rfl rfl (zE J1) (zL J1) (by refine yS J1 ?_;exact has0_cons (List.mem_cons_self ..) has0_nil) ?_
   refine ySG J1 ?_
   refine cw_buildSlice (xs:=[.tmp 29]) (cells:=gtc t) rfl rfl rfl rfl (zE J1) (by refine yS J1 ?_;rfl) rfl om om (by intro x hx;simp only [List.mem_singleton] at hx;subst hx;exact⟨rfl,rfl,rfl⟩) rfl (by simp [Op.operands]) (has0_cons (List.mem_cons_self ..) has0_nil) (fun ga hn_ga=> ?_) (hm:=.inr ⟨rfl,rfl⟩)
   refine yS J1 ?_
   refine cw_push (pre:=[(g3,.cells 128 3 (ofL [.str (sB nm),.str (sB tp),gs og 7 n])),(g2,.cells 128 3 (ofL [.str (sB []),.str (sB []),.nils])),(g,rdO L sy)]) (og:=og) (n:=n) (s:=27) (d1:=30) (gt:=ga) (v:=.agg (gtc t)) rfl rfl rfl rfl (zE J1) (zE J1) (by rfl) om om (zE J1) (zE J1) hog (by rfl) (by rfl) (by simp only [Nat.mul_one,List.cons_append,List.nil_append];rfl) (by unfold maxLen;omega) om (gts_push hn t) (has0_skip (has0_cons (List.mem_cons_self ..) has0_nil)) (fun gb hn_gb=> ?_) (hm:=.inr ⟨rfl,rfl⟩)
   replace hn_ga:=Heap.ne_of hn_ga
   simp only [Heap.ne] at hn_ga
   have J2:=oj hn_g2 (oj hn_g3 hn_ga)
   refine ySG J2 ?_
   refine cw_store (FP':=[]) rfl rfl rfl rfl rfl (zE J2) (zE J2) (zE J2) (zE J2) (fun _ e=>by cases e) rfl rfl (show 3≤3 from by omega) rfl has0_nil ?_
   refine ySG J2 ?_
   refine aw_stop ⟨(sy,xs++[t],n+1,some gb),?_⟩
   refine⟨hlt,?_⟩
   and_intros
   all_goals first|rfl|exact List.Sublist.cons _ (List.Sublist.refl _)|exact True.intro|exact hsy|exact some_ne|exact hlp|(dsimp only;rw [List.length_append,hn];rfl)|(dsimp only;omega)
  ·have hc:¬(sx.e=0∧(!isS sx kClose)=true):=fun z=>by rw [hb] at z;exact absurd z.2 (by decide)
   rw [lpS_end hc] at hlp
   subst hlp
   refine aw_stop ⟨(n,og),?_⟩
   and_intros<;>first|rfl|exact List.Sublist.refl _|exact True.intro|exact hn|exact hog
  ·have hc:¬(sx.e=0∧(!isS sx kClose)=true):=fun z=>hb z.1
   rw [lpS_end hc] at hlp
   subst hlp
   refine aw_stop ⟨(n,og),?_⟩
   and_intros<;>first|rfl|exact List.Sublist.refl _|exact True.intro|exact hn|exact hog
 rintro ⟨n,og⟩ ⟨hn,hog⟩
 dsimp only at hn hog⊢
 have hs5:F.2.l<:+L.map TX.t:=by
  rw [←hF];exact((rdr_lp rdr_pgB []).suf s4).trans hs4
 have f6:=expect_fg g L F.2 kClose hs5 om
 subst hn
 refine aw_nd fun hnd=> ?_
 have hog2:∀q,og=some q→¬C.own0 q:=fun q hq hown=>by
  subst hq
  have:q=g:=by simpa [Heap.keys] using (hC q).1 hown
  subst this
  simp [Heap.keys,gh] at hnd
 refine aw_perm (h':=(g3,.cells 128 3 (ofL [.str (sB nm),.str (sB tp),gs og 7 F.1.length]))::(gh og 65 (F.1.length*7) (gtsF F.1)++[(g2,.cells 128 3 (ofL [.str (sB []),.str (sB []),.nils])),(g,rdO L F.2)])) (.cons _ (List.perm_append_comm (l₁:=[(g2,.cells 128 3 (ofL [.str (sB []),.str (sB []),.nils])),(g,rdO L F.2)]))) ?_
 refine aw_frzG (j0:=2) (n:=F.1.length) (s:=7) (f':=ofL [.str (sB nm),.str (sB tp),gts true F.1]) rfl rfl (fun j hj hj3=>by
  match j,hj,hj3 with
  |0,_,_=>rfl
  |1,_,_=>rfl
  |j+2,h1,h2=>exact absurd (show j+2=2 from by omega) h2) hog hog2 ?_
 repeat' first|refine yA1 J1 ?_|(refine aw_cg (f6) rfl rfl rfl (zE J1) (zL2 J1) ?_;refine yS J1 ?_)|(refine yW J1 ?_;refine yS J1 ?_)|refine yP J1 ?_|refine yN J1 ?_|refine aw_cd (zE J1) (fun hb=>?_) (fun hb=>?_)|refine aw_ce (zE J1) (fun hb=>?_) (fun hb=>?_)|refine aw_cn (zE J1) (fun hb=>?_) (fun hb=>?_)|(refine yF J1 (fun hb=>?_) (fun hb=>?_)<;>fail_if_success (cases hb;done))|(refine aw_gsd rfl rfl (zE J1) (fun hb=>?_) (fun hb=>?_)<;>refine yS J1 ?_)|(refine aw_gse rfl rfl (zE J1) (fun hb=>?_) (fun hb=>?_)<;>refine yS J1 ?_)|(refine aw_gsn rfl rfl (zE J1) (fun hb=>?_) (fun hb=>?_)<;>refine yS J1 ?_)|(refine aw_gs rfl rfl (zE J1) (fun hb=>?_) (fun hb=>?_)<;>fail_if_success (cases hb;done)<;>refine yS J1 ?_)|(refine drk_gsd rfl rfl (zE J1) (fun hb=>?_) (fun hb=>?_)<;>refine yS J1 ?_)|(refine drk_gse rfl rfl (zE J1) (fun hb=>?_) (fun hb=>?_)<;>refine yS J1 ?_)|(refine drk_gsn rfl rfl (zE J1) (fun hb=>?_) (fun hb=>?_)<;>refine yS J1 ?_)|(refine drk_gs rfl rfl (zE J1) (fun hb=>?_) (fun hb=>?_)<;>fail_if_success (cases hb;done)<;>refine yS J1 ?_)
 refine aw_rethw (h':=[(g,rdO L (expS kClose F.2))]) rfl (by first|exact List.Sublist.refl _|exact .cons _ (.refl _)|exact .cons _ (.cons _ (.refl _))|exact .cons _ (.cons _ (.cons _ (.refl _)))) fun R r=>?_;simp only[go_sem,hn_g2,hn_g3];refine r _ rfl ?_;clear r R
 exact⟨rfl,rfl⟩
end Go.Proofs.YteocnikcjjonbaaGreat
namespace Go.PN
open Go.AI
theorem kindS_e {s:PS} {k:Nat} (h:kindS s k=true):s.e=0:=by
 unfold kindS at h
 simp only [Bool.and_eq_true,decide_eq_true_eq] at h
 exact h.1
end Go.PN
namespace Go.Proofs.YteocnikcjjonbaaGreat
open Go.AI Go.PN
theorem rats_push' {xs:List RD} {n:Nat} (hn:xs.length=n) (t:RD):∀j,j<(n+1)*3→appF (ratsF xs) (n*3) (ofL (rdc t)) j=ratsF (xs++[t]) j:=lf_push (s:=3) (c:=fun r:RD=>[CV.bool r.neg,ws true r.num,ws true r.den]) (d:=rd0) hn t (by decide)
attribute [local irreducible] aw Fa Fh DrK
theorem group_fg (g:Nat) (L:List TX) (s:PS) (hs:s.l<:+L.map TX.t) (hL:L.length≤1048576) (hw:∀t∈L,t.t.text.length≤1099511627776):Fg Tryz.prog 66 g (rdO L s) [.c (.optr g 0)] (.agg (grc (groupS s).1)) (rdO L (groupS s).2):=by
 have f1:=word_fg g L s hs om
 have hs1:=suf_word hs
 unfold groupS
 dsimp only
 generalize wordS s=r at*
 obtain⟨nm,s1⟩:=r
 dsimp only at*
 have f2:=is_fg g L s1 kBeta hs1 om
 have f3:=is_fg g L s1 kGreek hs1 om
 have f4:=take_fg g L s1 (isS s1 kBeta||isS s1 kGreek) hs1 om
 have hs2:=((rdr_take fun s=>isS s kBeta||isS s kGreek).suf s1).trans hs1
 try dsimp only at hs2
 generalize hr:takeS (isS s1 kBeta||isS s1 kGreek) s1=r at*
 obtain⟨tw,s2⟩:=r
 dsimp only at*
 generalize hkd:(if(tw==kGreek)=true then(1:Int) else 0)=kd
 generalize hF:lpS (fun s=>kindS s 1) facB [] s2=F at*
 unfold Fg
 refine fh_of_body Tryz.func66 rfl rfl (by simp [Tryz.ntmps66]) fun C hC=> ?_
 simp only [initS,Nat.reduceAdd]
 apply wa1
 apply wa6
 refine xA fun g2 hn_g2=>?_
 refine yH hn_g2 ?_
 apply wa1
 apply wa6
 refine yH hn_g2 ?_
 refine aw_cg f1 rfl rfl rfl (zE hn_g2) (zL2 o0) ?_
 refine yS hn_g2 ?_
 refine yH hn_g2 ?_
 refine yA hn_g2 fun g3 hn_g3=>?_
 have J1:=oj hn_g2 hn_g3
 refine yW J1 ?_
 refine yS J1 ?_
 refine yH J1 ?_
 apply wa1
 refine aw_cut (fun _:Unit=>[(0,.c (.optr g 0)),(2,.c (.optr g2 0)),(3,.c (.optr g3 0))]) (fun _=>[(g3,.cells 100 4 (ofL [.str (sB nm),.int .i64 kd,.nils,.nils])),(g2,.cells 100 4 (ofL [.str (sB []),.int .i64 0,.nils,.nils])),(g,rdO L s2)]) (fun _=>1=1) ?_ ?_
 ·cases h1:isS s1 kBeta with
  |true=>
   rw [h1] at f2 f4
   rw [Bool.true_or] at f4
   repeat' first|refine yA1 J1 ?_|(refine aw_cg (f2) rfl rfl rfl (zE J1) (zL2 J1) ?_;refine yS J1 ?_)|(refine aw_cg (f3) rfl rfl rfl (zE J1) (zL2 J1) ?_;refine yS J1 ?_)|(refine aw_cg (f4) rfl rfl rfl (zE J1) (zL2 J1) ?_;refine yS J1 ?_)|(refine yW J1 ?_;refine yS J1 ?_)|refine yP J1 ?_|refine yN J1 ?_|refine aw_cd (zE J1) (fun hb=>?_) (fun hb=>?_)|refine aw_ce (zE J1) (fun hb=>?_) (fun hb=>?_)|refine aw_cn (zE J1) (fun hb=>?_) (fun hb=>?_)|(refine yF J1 (fun hb=>?_) (fun hb=>?_)<;>fail_if_success (cases hb;done))|(refine aw_gsd rfl rfl (zE J1) (fun hb=>?_) (fun hb=>?_)<;>refine yS J1 ?_)|(refine aw_gse rfl rfl (zE J1) (fun hb=>?_) (fun hb=>?_)<;>refine yS J1 ?_)|(refine aw_gsn rfl rfl (zE J1) (fun hb=>?_) (fun hb=>?_)<;>refine yS J1 ?_)|(refine aw_gs rfl rfl (zE J1) (fun hb=>?_) (fun hb=>?_)<;>fail_if_success (cases hb;done)<;>refine yS J1 ?_)|(refine drk_gsd rfl rfl (zE J1) (fun hb=>?_) (fun hb=>?_)<;>refine yS J1 ?_)|(refine drk_gse rfl rfl (zE J1) (fun hb=>?_) (fun hb=>?_)<;>refine yS J1 ?_)|(refine drk_gsn rfl rfl (zE J1) (fun hb=>?_) (fun hb=>?_)<;>refine yS J1 ?_)|(refine drk_gs rfl rfl (zE J1) (fun hb=>?_) (fun hb=>?_)<;>fail_if_success (cases hb;done)<;>refine yS J1 ?_)
   all_goals
    refine aw_stop ⟨(),?_⟩
    rw [←hkd]
    simp only [hb,beq_self_eq_true,if_true,if_false,beq_iff_eq]
    and_intros<;>first|rfl|exact List.Sublist.refl _|exact True.intro
  |false=>
   rw [h1] at f2 f4
   rw [Bool.false_or] at f4
   repeat' first|refine yA1 J1 ?_|(refine aw_cg (f2) rfl rfl rfl (zE J1) (zL2 J1) ?_;refine yS J1 ?_)|(refine aw_cg (f3) rfl rfl rfl (zE J1) (zL2 J1) ?_;refine yS J1 ?_)|(refine aw_cg (f4) rfl rfl rfl (zE J1) (zL2 J1) ?_;refine yS J1 ?_)|(refine yW J1 ?_;refine yS J1 ?_)|refine yP J1 ?_|refine yN J1 ?_|refine aw_cd (zE J1) (fun hb=>?_) (fun hb=>?_)|refine aw_ce (zE J1) (fun hb=>?_) (fun hb=>?_)|refine aw_cn (zE J1) (fun hb=>?_) (fun hb=>?_)|(refine yF J1 (fun hb=>?_) (fun hb=>?_)<;>fail_if_success (cases hb;done))|(refine aw_gsd rfl rfl (zE J1) (fun hb=>?_) (fun hb=>?_)<;>refine yS J1 ?_)|(refine aw_gse rfl rfl (zE J1) (fun hb=>?_) (fun hb=>?_)<;>refine yS J1 ?_)|(refine aw_gsn rfl rfl (zE J1) (fun hb=>?_) (fun hb=>?_)<;>refine yS J1 ?_)|(refine aw_gs rfl rfl (zE J1) (fun hb=>?_) (fun hb=>?_)<;>fail_if_success (cases hb;done)<;>refine yS J1 ?_)|(refine drk_gsd rfl rfl (zE J1) (fun hb=>?_) (fun hb=>?_)<;>refine yS J1 ?_)|(refine drk_gse rfl rfl (zE J1) (fun hb=>?_) (fun hb=>?_)<;>refine yS J1 ?_)|(refine drk_gsn rfl rfl (zE J1) (fun hb=>?_) (fun hb=>?_)<;>refine yS J1 ?_)|(refine drk_gs rfl rfl (zE J1) (fun hb=>?_) (fun hb=>?_)<;>fail_if_success (cases hb;done)<;>refine yS J1 ?_)
   all_goals
    refine aw_stop ⟨(),?_⟩
    rw [←hkd]
    simp only [hb,beq_self_eq_true,if_true,if_false,beq_iff_eq]
    and_intros<;>first|rfl|exact List.Sublist.refl _|exact True.intro
 rintro _ _
 clear f1 f2 f3 f4 J1
 apply wa1
 refine aw_cut (fun _:Nat×Option Nat=>[(0,.c (.optr g 0)),(2,.c (.optr g2 0)),(3,.c (.optr g3 0))]) (fun x=>[(g3,.cells 100 4 (ofL [.str (sB nm),.int .i64 kd,.nils,gs x.2 3 x.1])),(g2,.cells 100 4 (ofL [.str (sB []),.int .i64 0,.nils,.nils])),(g,rdO L F.2)]++gh x.2 59 (x.1*3) (ratsF F.1)) (fun x=>F.1.length=x.1∧(x.2=none→x.1=0)) ?_ ?_
 ·apply wa2
  refine aw_lp (fun _:PS×List RD×Nat×Option Nat=>[(0,.c (.optr g 0)),(2,.c (.optr g2 0)),(3,.c (.optr g3 0))]) (fun x=>[(g3,.cells 100 4 (ofL [.str (sB nm),.int .i64 kd,.nils,gs x.2.2.2 3 x.2.2.1])),(g2,.cells 100 4 (ofL [.str (sB []),.int .i64 0,.nils,.nils])),(g,rdO L x.1)]++gh x.2.2.2 59 (x.2.2.1*3) (ratsF x.2.1))
   (fun x=>x.1.l<:+L.map TX.t∧x.2.1.length=x.2.2.1∧(x.2.2.2=none→x.2.2.1=0)∧x.2.2.1+mS x.1≤1048577∧lpS (fun s=>kindS s 1) facB x.2.1 x.1=F) (fun x=>mS x.1) (s2,[],0,none) (zB (oj hn_g2 hn_g3)) zZ ⟨hs2,rfl,fun _=>rfl,?_,hF⟩ ?_
  ·have:=(hs2).length_le
   rw [List.length_map] at this
   dsimp only
   unfold mS
   split<;>omega
  rintro ⟨sx,xs,n,og⟩ ⟨hsx,hn,hog,hm,hlp⟩
  dsimp only at hsx hn hog hm hlp⊢
  have f5:=kind_fg g L sx 1 hsx om
  have f7:=number_fg g L sx hsx om hw
  repeat' first|refine yA1 (oj hn_g2 hn_g3) ?_|(refine aw_cg (f5) rfl rfl rfl (zE (oj hn_g2 hn_g3)) (zL2 (oj hn_g2 hn_g3)) ?_;refine yS (oj hn_g2 hn_g3) ?_)|(refine yW (oj hn_g2 hn_g3) ?_;refine yS (oj hn_g2 hn_g3) ?_)|refine yP (oj hn_g2 hn_g3) ?_|refine yN (oj hn_g2 hn_g3) ?_|refine aw_cd (zE (oj hn_g2 hn_g3)) (fun hb=>?_) (fun hb=>?_)|refine aw_ce (zE (oj hn_g2 hn_g3)) (fun hb=>?_) (fun hb=>?_)|refine aw_cn (zE (oj hn_g2 hn_g3)) (fun hb=>?_) (fun hb=>?_)|(refine yF (oj hn_g2 hn_g3) (fun hb=>?_) (fun hb=>?_)<;>fail_if_success (cases hb;done))|(refine aw_gsd rfl rfl (zE (oj hn_g2 hn_g3)) (fun hb=>?_) (fun hb=>?_)<;>refine yS (oj hn_g2 hn_g3) ?_)|(refine aw_gse rfl rfl (zE (oj hn_g2 hn_g3)) (fun hb=>?_) (fun hb=>?_)<;>refine yS (oj hn_g2 hn_g3) ?_)|(refine aw_gsn rfl rfl (zE (oj hn_g2 hn_g3)) (fun hb=>?_) (fun hb=>?_)<;>refine yS (oj hn_g2 hn_g3) ?_)|(refine aw_gs rfl rfl (zE (oj hn_g2 hn_g3)) (fun hb=>?_) (fun hb=>?_)<;>fail_if_success (cases hb;done)<;>refine yS (oj hn_g2 hn_g3) ?_)|(refine drk_gsd rfl rfl (zE (oj hn_g2 hn_g3)) (fun hb=>?_) (fun hb=>?_)<;>refine yS (oj hn_g2 hn_g3) ?_)|(refine drk_gse rfl rfl (zE (oj hn_g2 hn_g3)) (fun hb=>?_) (fun hb=>?_)<;>refine yS (oj hn_g2 hn_g3) ?_)|(refine drk_gsn rfl rfl (zE (oj hn_g2 hn_g3)) (fun hb=>?_) (fun hb=>?_)<;>refine yS (oj hn_g2 hn_g3) ?_)|(refine drk_gs rfl rfl (zE (oj hn_g2 hn_g3)) (fun hb=>?_) (fun hb=>?_)<;>fail_if_success (cases hb;done)<;>refine yS (oj hn_g2 hn_g3) ?_)
  ·have h0:sx.e=0:=(kindS_e hb)
   have hc:(fun s=>kindS s 1) sx=true:=hb
   have hst:=lpS_step (c:=fun s=>kindS s 1) (b:=facB) (a:=xs) (fun a s h _=>con_facB a s h) h0 hc
   have hlt:=con_facB xs sx h0
   rw [hst] at hlp
   have hsy:(facB xs sx).2.l<:+L.map TX.t:=((rdr_facB xs).suf sx).trans hsx
   have e1:(facB xs sx).1=xs++[(numS sx).1]:=rfl
   have e2:(facB xs sx).2=(numS sx).2:=rfl
   rw [e2] at hlt hsy
   rw [e1,e2] at hlp
   generalize numS sx=y at*
   obtain⟨t,sy⟩:=y
   dsimp only at*
   refine aw_cw ([(g3,.cells 100 4 (ofL [.str (sB nm),.int .i64 kd,.nils,gs og 3 n]))]) [(0,0),(1,0),(2,0),(3,1),(4,1),(5,1),(6,0),(7,2)] ty_mixed (by kernel_rfl) eI ?_
   have J2:=oj hn_g2 hn_g3
   refine yG J2 ?_
   refine cw_cg rfl f7 rfl rfl rfl (zE J2) (zL J2) (by refine yS J2 ?_;exact has0_cons (List.mem_cons_self ..) has0_nil) ?_
   refine ySG J2 ?_
   refine cw_buildSlice (xs:=[.tmp 22]) (cells:=rdc t) rfl rfl rfl rfl (zE J2) (by refine yS J2 ?_;rfl) rfl om om (by intro x hx;simp only [List.mem_singleton] at hx;subst hx;exact⟨rfl,rfl,rfl⟩) rfl (by simp [Op.operands]) (has0_cons (List.mem_cons_self ..) has0_nil) (fun ga hn_ga=> ?_) (hm:=.inr ⟨rfl,rfl⟩)
   refine yS J2 ?_
   refine cw_push (pre:=[(g3,.cells 100 4 (ofL [.str (sB nm),.int .i64 kd,.nils,gs og 3 n])),(g2,.cells 100 4 (ofL [.str (sB []),.int .i64 0,.nils,.nils])),(g,rdO L sy)]) (og:=og) (n:=n) (s:=20) (d1:=23) (gt:=ga) (v:=.agg (rdc t)) rfl rfl rfl rfl (zE J2) (zE J2) (by rfl) om om (zE J2) (zE J2) hog (by rfl) (by rfl) (by simp only [Nat.mul_one,List.cons_append,List.nil_append];rfl) (by unfold maxLen;omega) om (rats_push' hn t) (has0_skip (has0_cons (List.mem_cons_self ..) has0_nil)) (fun gb hn_gb=> ?_) (hm:=.inr ⟨rfl,rfl⟩)
   replace hn_ga:=Heap.ne_of hn_ga
   simp only [Heap.ne] at hn_ga
   have J3:=oj hn_g2 (oj hn_g3 hn_ga)
   refine ySG J3 ?_
   refine cw_store (FP':=[]) rfl rfl rfl rfl rfl (zE J3) (zE J3) (zE J3) (zE J3) (fun _ e=>by cases e) rfl rfl (show 4≤4 from by omega) rfl has0_nil ?_
   refine ySG J3 ?_
   refine aw_stop ⟨(sy,xs++[t],n+1,some gb),?_⟩
   refine⟨hlt,?_⟩
   and_intros
   all_goals first|rfl|exact List.Sublist.cons _ (List.Sublist.refl _)|exact True.intro|exact hsy|exact some_ne|exact hlp|(dsimp only;rw [List.length_append,hn];rfl)|(dsimp only;omega)
  ·have hc:¬(sx.e=0∧(fun s=>kindS s 1) sx=true):=fun z=>by rw [show(fun s=>kindS s 1) sx=false from hb] at z;exact absurd z.2 (by decide)
   rw [lpS_end hc] at hlp
   subst hlp
   refine aw_stop ⟨(n,og),?_⟩
   and_intros<;>first|rfl|exact List.Sublist.refl _|exact True.intro|exact hn|exact hog
 rintro ⟨n,og⟩ ⟨hn,hog⟩
 dsimp only at hn hog⊢
 have hs5:F.2.l<:+L.map TX.t:=by
  rw [←hF];exact((rdr_lp rdr_facB []).suf s2).trans (hs2)
 subst hn
 refine aw_nd fun hnd=> ?_
 have hog2:∀q,og=some q→¬C.own0 q:=fun q hq hown=>by
  subst hq
  have:q=g:=by simpa [Heap.keys] using (hC q).1 hown
  subst this
  simp [Heap.keys,gh] at hnd
 refine aw_perm (h':=(g3,.cells 100 4 (ofL [.str (sB nm),.int .i64 kd,.nils,gs og 3 F.1.length]))::(gh og 59 (F.1.length*3) (ratsF F.1)++[(g2,.cells 100 4 (ofL [.str (sB []),.int .i64 0,.nils,.nils])),(g,rdO L F.2)])) (by exact .cons _ (List.perm_append_comm (l₁:=[(g2,.cells 100 4 (ofL [.str (sB []),.int .i64 0,.nils,.nils])),(g,rdO L F.2)]))) ?_
 refine aw_frzG (j0:=3) (n:=F.1.length) (s:=3) (f':=ofL [.str (sB nm),.int .i64 kd,.nils,.row true 3 F.1.length (ratsF F.1)]) rfl rfl (fun j hj hj3=>by
  match j,hj,hj3 with
  |0,_,_=>rfl
  |1,_,_=>rfl
  |2,_,_=>rfl
  |j+3,h1,h2=>exact absurd (show j+3=3 from by omega) h2) hog hog2 ?_
 obtain⟨fs,s3⟩:=F
 dsimp only at hs5⊢
 have f6:=expect_fg g L s3 kColon hs5 om
 have hs4:(expS kColon s3).l<:+L.map TX.t:=((rdr_exp kColon).suf s3).trans hs5
 generalize expS kColon s3=s4 at*
 generalize hF':lpS (fun s=>kindS s 0) memB [] s4=F
 clear hF hs5 hog2 hnd hog
 have hF:=hF'
 apply wa1
 apply wa6
 have J4:=oj hn_g2 hn_g3
 refine yH J4 ?_
 refine aw_cg f6 rfl rfl rfl (zE J4) (zL2 o0) ?_
 refine yS J4 ?_
 refine yH J4 ?_
 apply wa1
 refine aw_cut (fun _:Nat×Option Nat=>[(0,.c (.optr g 0)),(2,.c (.optr g2 0)),(3,.c (.optr g3 0))]) (fun x=>[(g3,.cells 100 4 (ofL [.str (sB nm),.int .i64 kd,gs x.2 1 x.1,.row true 3 fs.length (ratsF fs)])),(g2,.cells 100 4 (ofL [.str (sB []),.int .i64 0,.nils,.nils])),(g,rdO L F.2)]++gh x.2 9 (x.1*1) (strsF F.1)) (fun x=>F.1.length=x.1∧(x.2=none→x.1=0)) ?_ ?_
 ·apply wa2
  refine aw_lp (fun _:PS×List BS×Nat×Option Nat=>[(0,.c (.optr g 0)),(2,.c (.optr g2 0)),(3,.c (.optr g3 0))]) (fun x=>[(g3,.cells 100 4 (ofL [.str (sB nm),.int .i64 kd,gs x.2.2.2 1 x.2.2.1,.row true 3 fs.length (ratsF fs)])),(g2,.cells 100 4 (ofL [.str (sB []),.int .i64 0,.nils,.nils])),(g,rdO L x.1)]++gh x.2.2.2 9 (x.2.2.1*1) (strsF x.2.1))
   (fun x=>x.1.l<:+L.map TX.t∧x.2.1.length=x.2.2.1∧(x.2.2.2=none→x.2.2.1=0)∧x.2.2.1+mS x.1≤1048577∧lpS (fun s=>kindS s 0) memB x.2.1 x.1=F) (fun x=>mS x.1) (s4,[],0,none) (zB J4) zZ ⟨hs4,rfl,fun _=>rfl,?_,hF⟩ ?_
  ·have:=(hs4).length_le
   rw [List.length_map] at this
   dsimp only
   unfold mS
   split<;>omega
  rintro ⟨sx,xs,n,og⟩ ⟨hsx,hn,hog,hm,hlp⟩
  dsimp only at hsx hn hog hm hlp⊢
  have f5:=kind_fg g L sx 0 hsx om
  have f7:=word_fg g L sx hsx om
  repeat' first|refine yA1 J4 ?_|(refine aw_cg (f5) rfl rfl rfl (zE J4) (zL2 J4) ?_;refine yS J4 ?_)|(refine yW J4 ?_;refine yS J4 ?_)|refine yP J4 ?_|refine yN J4 ?_|refine aw_cd (zE J4) (fun hb=>?_) (fun hb=>?_)|refine aw_ce (zE J4) (fun hb=>?_) (fun hb=>?_)|refine aw_cn (zE J4) (fun hb=>?_) (fun hb=>?_)|(refine yF J4 (fun hb=>?_) (fun hb=>?_)<;>fail_if_success (cases hb;done))|(refine aw_gsd rfl rfl (zE J4) (fun hb=>?_) (fun hb=>?_)<;>refine yS J4 ?_)|(refine aw_gse rfl rfl (zE J4) (fun hb=>?_) (fun hb=>?_)<;>refine yS J4 ?_)|(refine aw_gsn rfl rfl (zE J4) (fun hb=>?_) (fun hb=>?_)<;>refine yS J4 ?_)|(refine aw_gs rfl rfl (zE J4) (fun hb=>?_) (fun hb=>?_)<;>fail_if_success (cases hb;done)<;>refine yS J4 ?_)|(refine drk_gsd rfl rfl (zE J4) (fun hb=>?_) (fun hb=>?_)<;>refine yS J4 ?_)|(refine drk_gse rfl rfl (zE J4) (fun hb=>?_) (fun hb=>?_)<;>refine yS J4 ?_)|(refine drk_gsn rfl rfl (zE J4) (fun hb=>?_) (fun hb=>?_)<;>refine yS J4 ?_)|(refine drk_gs rfl rfl (zE J4) (fun hb=>?_) (fun hb=>?_)<;>fail_if_success (cases hb;done)<;>refine yS J4 ?_)
  ·have h0:sx.e=0:=(kindS_e hb)
   have hc:(fun s=>kindS s 0) sx=true:=hb
   have hst:=lpS_step (c:=fun s=>kindS s 0) (b:=memB) (a:=xs) (fun a s h _=>con_memB a s h) h0 hc
   have hlt:=con_memB xs sx h0
   rw [hst] at hlp
   have hsy:(memB xs sx).2.l<:+L.map TX.t:=((rdr_memB xs).suf sx).trans hsx
   have e1:(memB xs sx).1=xs++[(wordS sx).1]:=rfl
   have e2:(memB xs sx).2=(wordS sx).2:=rfl
   rw [e2] at hlt hsy
   rw [e1,e2] at hlp
   generalize wordS sx=y at*
   obtain⟨t,sy⟩:=y
   dsimp only at*
   refine aw_cw ([(g3,.cells 100 4 (ofL [.str (sB nm),.int .i64 kd,gs og 1 n,.row true 3 fs.length (ratsF fs)]))]) [(0,0),(1,0),(2,0),(3,1),(4,1),(5,1),(6,0),(7,2)] ty_mixed (by kernel_rfl) eI ?_
   refine yG J4 ?_
   refine cw_cg rfl f7 rfl rfl rfl (zE J4) (zL J4) (by refine yS J4 ?_;exact has0_cons (List.mem_cons_self ..) has0_nil) ?_
   refine ySG J4 ?_
   refine cw_buildSlice (xs:=[.tmp 33]) (cells:=[.str (sB t)]) rfl rfl rfl rfl (zE J4) (by refine yS J4 ?_;rfl) rfl om om (by intro x hx;simp only [List.mem_singleton] at hx;subst hx;exact⟨rfl,rfl,rfl⟩) rfl (by simp [Op.operands]) (has0_cons (List.mem_cons_self ..) has0_nil) (fun ga hn_ga=> ?_) (hm:=.inr ⟨rfl,rfl⟩)
   refine yS J4 ?_
   refine cw_push (pre:=[(g3,.cells 100 4 (ofL [.str (sB nm),.int .i64 kd,gs og 1 n,.row true 3 fs.length (ratsF fs)])),(g2,.cells 100 4 (ofL [.str (sB []),.int .i64 0,.nils,.nils])),(g,rdO L sy)]) (og:=og) (n:=n) (s:=31) (d1:=34) (gt:=ga) (v:=.c (.str (sB t))) rfl rfl rfl rfl (zE J4) (zE J4) (by rfl) om om (zE J4) (zE J4) hog (by rfl) (by rfl) (by simp only [Nat.mul_one,List.cons_append,List.nil_append];rfl) (by unfold maxLen;omega) om (strs_push hn t) (has0_skip (has0_cons (List.mem_cons_self ..) has0_nil)) (fun gb hn_gb=> ?_) (hm:=.inr ⟨rfl,rfl⟩)
   replace hn_ga:=Heap.ne_of hn_ga
   simp only [Heap.ne] at hn_ga
   have J5:=oj hn_g2 (oj hn_g3 hn_ga)
   refine ySG J5 ?_
   refine cw_store (FP':=[]) rfl rfl rfl rfl rfl (zE J5) (zE J5) (zE J5) (zE J5) (fun _ e=>by cases e) rfl rfl (show 3≤4 from by omega) rfl has0_nil ?_
   refine ySG J5 ?_
   refine aw_stop ⟨(sy,xs++[t],n+1,some gb),?_⟩
   refine⟨hlt,?_⟩
   and_intros
   all_goals first|rfl|exact List.Sublist.cons _ (List.Sublist.refl _)|exact True.intro|exact hsy|exact some_ne|exact hlp|(dsimp only;rw [List.length_append,hn];rfl)|(dsimp only;omega)
  ·have hc:¬(sx.e=0∧(fun s=>kindS s 0) sx=true):=fun z=>by rw [show(fun s=>kindS s 0) sx=false from hb] at z;exact absurd z.2 (by decide)
   rw [lpS_end hc] at hlp
   subst hlp
   refine aw_stop ⟨(n,og),?_⟩
   and_intros<;>first|rfl|exact List.Sublist.refl _|exact True.intro|exact hn|exact hog
 rintro ⟨n,og⟩ ⟨hn,hog⟩
 dsimp only at hn hog⊢
 have hs5:F.2.l<:+L.map TX.t:=by
  rw [←hF];exact((rdr_lp rdr_memB []).suf s4).trans (hs4)
 subst hn
 refine aw_nd fun hnd=> ?_
 have hog2:∀q,og=some q→¬C.own0 q:=fun q hq hown=>by
  subst hq
  have:q=g:=by simpa [Heap.keys] using (hC q).1 hown
  subst this
  simp [Heap.keys,gh] at hnd
 refine aw_perm (h':=(g3,.cells 100 4 (ofL [.str (sB nm),.int .i64 kd,gs og 1 F.1.length,.row true 3 fs.length (ratsF fs)]))::(gh og 9 (F.1.length*1) (strsF F.1)++[(g2,.cells 100 4 (ofL [.str (sB []),.int .i64 0,.nils,.nils])),(g,rdO L F.2)])) (by rw [Nat.mul_one];exact .cons _ (List.perm_append_comm (l₁:=[(g2,.cells 100 4 (ofL [.str (sB []),.int .i64 0,.nils,.nils])),(g,rdO L F.2)]))) ?_
 refine aw_frzG (j0:=2) (n:=F.1.length) (s:=1) (f':=ofL [.str (sB nm),.int .i64 kd,.row true 1 F.1.length (strsF F.1),.row true 3 fs.length (ratsF fs)]) rfl rfl (fun j hj hj3=>by
  match j,hj,hj3 with
  |0,_,_=>rfl
  |1,_,_=>rfl
  |3,_,_=>rfl) hog hog2 ?_
 have f8:=expect_fg g L F.2 kSemi hs5 om
 repeat' first|refine yA1 J4 ?_|(refine aw_cg (f8) rfl rfl rfl (zE J4) (zL2 J4) ?_;refine yS J4 ?_)|(refine yW J4 ?_;refine yS J4 ?_)|refine yP J4 ?_|refine yN J4 ?_|refine aw_cd (zE J4) (fun hb=>?_) (fun hb=>?_)|refine aw_ce (zE J4) (fun hb=>?_) (fun hb=>?_)|refine aw_cn (zE J4) (fun hb=>?_) (fun hb=>?_)|(refine yF J4 (fun hb=>?_) (fun hb=>?_)<;>fail_if_success (cases hb;done))|(refine aw_gsd rfl rfl (zE J4) (fun hb=>?_) (fun hb=>?_)<;>refine yS J4 ?_)|(refine aw_gse rfl rfl (zE J4) (fun hb=>?_) (fun hb=>?_)<;>refine yS J4 ?_)|(refine aw_gsn rfl rfl (zE J4) (fun hb=>?_) (fun hb=>?_)<;>refine yS J4 ?_)|(refine aw_gs rfl rfl (zE J4) (fun hb=>?_) (fun hb=>?_)<;>fail_if_success (cases hb;done)<;>refine yS J4 ?_)|(refine drk_gsd rfl rfl (zE J4) (fun hb=>?_) (fun hb=>?_)<;>refine yS J4 ?_)|(refine drk_gse rfl rfl (zE J4) (fun hb=>?_) (fun hb=>?_)<;>refine yS J4 ?_)|(refine drk_gsn rfl rfl (zE J4) (fun hb=>?_) (fun hb=>?_)<;>refine yS J4 ?_)|(refine drk_gs rfl rfl (zE J4) (fun hb=>?_) (fun hb=>?_)<;>fail_if_success (cases hb;done)<;>refine yS J4 ?_)
 refine aw_rethw (h':=[(g,rdO L (expS kSemi F.2))]) rfl (by first|exact List.Sublist.refl _|exact .cons _ (.refl _)|exact .cons _ (.cons _ (.refl _))|exact .cons _ (.cons _ (.cons _ (.refl _)))) fun R r=>?_;simp only[go_sem,hn_g2,hn_g3];refine r _ rfl ?_;clear r R
 exact⟨rfl,rfl⟩
end Go.Proofs.YteocnikcjjonbaaGreat
namespace Go.AI
open Go.PN
theorem vls_push {xs:List VlD} {n:Nat} (hn:xs.length=n) (t:VlD):∀j,j<(n+1)*4→appF (vlsF xs) (n*4) (ofL (vlc t)) j=vlsF (xs++[t]) j:=lf_push (s:=4) (c:=vlc) (d:=(vl0:VlD)) hn t (by decide)
end Go.AI
namespace Go.Proofs.YteocnikcjjonbaaGreat
open Go.AI Go.PN
attribute [local irreducible] aw Fa Fh DrK
theorem phase_fg (g:Nat) (L:List TX) (s:PS) (hs:s.l<:+L.map TX.t) (hL:L.length≤1048576) (hw:∀t∈L,t.t.text.length≤1099511627776):Fg Tryz.prog 67 g (rdO L s) [.c (.optr g 0)] (.agg (phc (phaseS s).1)) (rdO L (phaseS s).2):=by
 have f1:=word_fg g L s hs om
 have hs1:=suf_word hs
 unfold phaseS
 dsimp only
 generalize wordS s=r at*
 obtain⟨nm,s1⟩:=r
 dsimp only at*
 have f2:=expect_fg g L s1 kTop hs1 om
 have hs2:(expS kTop s1).l<:+L.map TX.t:=((rdr_exp kTop).suf s1).trans hs1
 generalize expS kTop s1=s2 at*
 have f3:=input_fg g L s2 hs2 om hw
 have hs3:=(rdr_input.suf s2).trans hs2
 generalize inputS s2=r at*
 obtain⟨tp,s3⟩:=r
 dsimp only at*
 have f4:=expect_fg g L s3 kOpen hs3 om
 have hs4:(expS kOpen s3).l<:+L.map TX.t:=((rdr_exp kOpen).suf s3).trans hs3
 generalize expS kOpen s3=s4 at*
 generalize hF:lpS (fun s=> !isS s kClose) vlB [] s4=F at*
 unfold Fg
 refine fh_of_body Tryz.func67 rfl rfl (by simp [Tryz.ntmps67]) fun C hC=> ?_
 simp only [initS,Nat.reduceAdd]
 repeat' first|refine yA1 o0 ?_|(refine xW ?_;refine xS ?_)|refine xP ?_|refine xN ?_|refine aw_cd eE (fun hb=>?_) (fun hb=>?_)|refine aw_ce eE (fun hb=>?_) (fun hb=>?_)|refine aw_cn eE (fun hb=>?_) (fun hb=>?_)|(refine xF (fun hb=>?_) (fun hb=>?_)<;>fail_if_success (cases hb;done))|(refine aw_gsd rfl rfl eE (fun hb=>?_) (fun hb=>?_)<;>refine xS ?_)|(refine aw_gse rfl rfl eE (fun hb=>?_) (fun hb=>?_)<;>refine xS ?_)|(refine aw_gsn rfl rfl eE (fun hb=>?_) (fun hb=>?_)<;>refine xS ?_)|(refine aw_gs rfl rfl eE (fun hb=>?_) (fun hb=>?_)<;>fail_if_success (cases hb;done)<;>refine xS ?_)|(refine drk_gsd rfl rfl eE (fun hb=>?_) (fun hb=>?_)<;>refine xS ?_)|(refine drk_gse rfl rfl eE (fun hb=>?_) (fun hb=>?_)<;>refine xS ?_)|(refine drk_gsn rfl rfl eE (fun hb=>?_) (fun hb=>?_)<;>refine xS ?_)|(refine drk_gs rfl rfl eE (fun hb=>?_) (fun hb=>?_)<;>fail_if_success (cases hb;done)<;>refine xS ?_)
 refine xA fun g2 hn_g2=>?_
 repeat' first|refine yA1 hn_g2 ?_|(refine aw_cg (f1) rfl rfl rfl (zE hn_g2) (zL2 hn_g2) ?_;refine yS hn_g2 ?_)|(refine yW hn_g2 ?_;refine yS hn_g2 ?_)|refine yP hn_g2 ?_|refine yN hn_g2 ?_|refine aw_cd (zE hn_g2) (fun hb=>?_) (fun hb=>?_)|refine aw_ce (zE hn_g2) (fun hb=>?_) (fun hb=>?_)|refine aw_cn (zE hn_g2) (fun hb=>?_) (fun hb=>?_)|(refine yF hn_g2 (fun hb=>?_) (fun hb=>?_)<;>fail_if_success (cases hb;done))|(refine aw_gsd rfl rfl (zE hn_g2) (fun hb=>?_) (fun hb=>?_)<;>refine yS hn_g2 ?_)|(refine aw_gse rfl rfl (zE hn_g2) (fun hb=>?_) (fun hb=>?_)<;>refine yS hn_g2 ?_)|(refine aw_gsn rfl rfl (zE hn_g2) (fun hb=>?_) (fun hb=>?_)<;>refine yS hn_g2 ?_)|(refine aw_gs rfl rfl (zE hn_g2) (fun hb=>?_) (fun hb=>?_)<;>fail_if_success (cases hb;done)<;>refine yS hn_g2 ?_)|(refine drk_gsd rfl rfl (zE hn_g2) (fun hb=>?_) (fun hb=>?_)<;>refine yS hn_g2 ?_)|(refine drk_gse rfl rfl (zE hn_g2) (fun hb=>?_) (fun hb=>?_)<;>refine yS hn_g2 ?_)|(refine drk_gsn rfl rfl (zE hn_g2) (fun hb=>?_) (fun hb=>?_)<;>refine yS hn_g2 ?_)|(refine drk_gs rfl rfl (zE hn_g2) (fun hb=>?_) (fun hb=>?_)<;>fail_if_success (cases hb;done)<;>refine yS hn_g2 ?_)
 refine yA hn_g2 fun g3 hn_g3=>?_
 repeat' first|refine yA1 (oj hn_g2 hn_g3) ?_|(refine aw_cg (f2) rfl rfl rfl (zE (oj hn_g2 hn_g3)) (zL2 (oj hn_g2 hn_g3)) ?_;refine yS (oj hn_g2 hn_g3) ?_)|(refine aw_cg (f3) rfl rfl rfl (zE (oj hn_g2 hn_g3)) (zL2 (oj hn_g2 hn_g3)) ?_;refine yS (oj hn_g2 hn_g3) ?_)|(refine yW (oj hn_g2 hn_g3) ?_;refine yS (oj hn_g2 hn_g3) ?_)|refine yP (oj hn_g2 hn_g3) ?_|refine yN (oj hn_g2 hn_g3) ?_|refine aw_cd (zE (oj hn_g2 hn_g3)) (fun hb=>?_) (fun hb=>?_)|refine aw_ce (zE (oj hn_g2 hn_g3)) (fun hb=>?_) (fun hb=>?_)|refine aw_cn (zE (oj hn_g2 hn_g3)) (fun hb=>?_) (fun hb=>?_)|(refine yF (oj hn_g2 hn_g3) (fun hb=>?_) (fun hb=>?_)<;>fail_if_success (cases hb;done))|(refine aw_gsd rfl rfl (zE (oj hn_g2 hn_g3)) (fun hb=>?_) (fun hb=>?_)<;>refine yS (oj hn_g2 hn_g3) ?_)|(refine aw_gse rfl rfl (zE (oj hn_g2 hn_g3)) (fun hb=>?_) (fun hb=>?_)<;>refine yS (oj hn_g2 hn_g3) ?_)|(refine aw_gsn rfl rfl (zE (oj hn_g2 hn_g3)) (fun hb=>?_) (fun hb=>?_)<;>refine yS (oj hn_g2 hn_g3) ?_)|(refine aw_gs rfl rfl (zE (oj hn_g2 hn_g3)) (fun hb=>?_) (fun hb=>?_)<;>fail_if_success (cases hb;done)<;>refine yS (oj hn_g2 hn_g3) ?_)|(refine drk_gsd rfl rfl (zE (oj hn_g2 hn_g3)) (fun hb=>?_) (fun hb=>?_)<;>refine yS (oj hn_g2 hn_g3) ?_)|(refine drk_gse rfl rfl (zE (oj hn_g2 hn_g3)) (fun hb=>?_) (fun hb=>?_)<;>refine yS (oj hn_g2 hn_g3) ?_)|(refine drk_gsn rfl rfl (zE (oj hn_g2 hn_g3)) (fun hb=>?_) (fun hb=>?_)<;>refine yS (oj hn_g2 hn_g3) ?_)|(refine drk_gs rfl rfl (zE (oj hn_g2 hn_g3)) (fun hb=>?_) (fun hb=>?_)<;>fail_if_success (cases hb;done)<;>refine yS (oj hn_g2 hn_g3) ?_)
 refine aw_cg f4 rfl rfl rfl (zE (oj hn_g2 hn_g3)) (zL2 o0) ?_
 have J1:=oj hn_g2 hn_g3
 refine yS J1 ?_
 refine yH J1 ?_
 apply wa1
 refine aw_cut (fun _:Nat×Option Nat=>[(0,.c (.optr g 0)),(2,.c (.optr g2 0)),(3,.c (.optr g3 0))]) (fun x=>[(g3,.cells 104 3 (ofL [.str (sB nm),.str (sB tp),gs x.2 4 x.1])),(g2,.cells 104 3 (ofL [.str (sB []),.str (sB []),.nils])),(g,rdO L F.2)]++gh x.2 106 (x.1*4) (vlsF F.1)) (fun x=>F.1.length=x.1∧(x.2=none→x.1=0)) ?_ ?_
 ·apply wa2
  refine aw_lp (fun _:PS×List VlD×Nat×Option Nat=>[(0,.c (.optr g 0)),(2,.c (.optr g2 0)),(3,.c (.optr g3 0))]) (fun x=>[(g3,.cells 104 3 (ofL [.str (sB nm),.str (sB tp),gs x.2.2.2 4 x.2.2.1])),(g2,.cells 104 3 (ofL [.str (sB []),.str (sB []),.nils])),(g,rdO L x.1)]++gh x.2.2.2 106 (x.2.2.1*4) (vlsF x.2.1))
   (fun x=>x.1.l<:+L.map TX.t∧x.2.1.length=x.2.2.1∧(x.2.2.2=none→x.2.2.1=0)∧x.2.2.1+mS x.1≤1048577∧lpS (fun s=> !isS s kClose) vlB x.2.1 x.1=F) (fun x=>mS x.1) (s4,[],0,none) (zB J1) zZ ⟨hs4,rfl,fun _=>rfl,?_,hF⟩ ?_
  ·have:=(hs4).length_le
   rw [List.length_map] at this
   dsimp only
   unfold mS
   split<;>omega
  rintro ⟨sx,xs,n,og⟩ ⟨hsx,hn,hog,hm,hlp⟩
  dsimp only at hsx hn hog hm hlp⊢
  have f5:=is_fg g L sx kClose hsx om
  have f7:=word_fg g L sx hsx om
  repeat' first|refine yA1 J1 ?_|(refine aw_cg (f5) rfl rfl rfl (zE J1) (zL2 J1) ?_;refine yS J1 ?_)|(refine yW J1 ?_;refine yS J1 ?_)|refine yP J1 ?_|refine yN J1 ?_|refine aw_cd (zE J1) (fun hb=>?_) (fun hb=>?_)|refine aw_ce (zE J1) (fun hb=>?_) (fun hb=>?_)|refine aw_cn (zE J1) (fun hb=>?_) (fun hb=>?_)|(refine yF J1 (fun hb=>?_) (fun hb=>?_)<;>fail_if_success (cases hb;done))|(refine aw_gsd rfl rfl (zE J1) (fun hb=>?_) (fun hb=>?_)<;>refine yS J1 ?_)|(refine aw_gse rfl rfl (zE J1) (fun hb=>?_) (fun hb=>?_)<;>refine yS J1 ?_)|(refine aw_gsn rfl rfl (zE J1) (fun hb=>?_) (fun hb=>?_)<;>refine yS J1 ?_)|(refine aw_gs rfl rfl (zE J1) (fun hb=>?_) (fun hb=>?_)<;>fail_if_success (cases hb;done)<;>refine yS J1 ?_)|(refine drk_gsd rfl rfl (zE J1) (fun hb=>?_) (fun hb=>?_)<;>refine yS J1 ?_)|(refine drk_gse rfl rfl (zE J1) (fun hb=>?_) (fun hb=>?_)<;>refine yS J1 ?_)|(refine drk_gsn rfl rfl (zE J1) (fun hb=>?_) (fun hb=>?_)<;>refine yS J1 ?_)|(refine drk_gs rfl rfl (zE J1) (fun hb=>?_) (fun hb=>?_)<;>fail_if_success (cases hb;done)<;>refine yS J1 ?_)
  ·rename_i h0
   have hc:(fun s=> !isS s kClose) sx=true:=hb
   have hst:=lpS_step (c:=fun s=> !isS s kClose) (b:=vlB) (a:=xs) (fun a s h _=>con_vlB a s h) h0 hc
   have hlt:=con_vlB xs sx h0
   rw [hst] at hlp
   have hsy:(vlB xs sx).2.l<:+L.map TX.t:=((rdr_vlB xs).suf sx).trans hsx
   have e1:(vlB xs sx).1=xs++[⟨(wordS sx).1,(numS (wordS sx).2).1⟩]:=rfl
   have e2:(vlB xs sx).2=expS kSemi (numS (wordS sx).2).2:=rfl
   rw [e2] at hlt hsy
   rw [e1,e2] at hlp
   have hsa:=suf_word hsx
   generalize wordS sx=y at*
   obtain⟨w,sa⟩:=y
   dsimp only at*
   have f8:=number_fg g L sa hsa om hw
   have hsb:=(rdr_num.suf sa).trans hsa
   generalize numS sa=y at*
   obtain⟨q,sb⟩:=y
   dsimp only at*
   have f9:=expect_fg g L sb kSemi hsb om
   generalize expS kSemi sb=sy at*
   repeat' first|refine yA1 J1 ?_|(refine aw_cg (f7) rfl rfl rfl (zE J1) (zL2 J1) ?_;refine yS J1 ?_)|(refine yW J1 ?_;refine yS J1 ?_)|refine yP J1 ?_|refine yN J1 ?_|refine aw_cd (zE J1) (fun hb=>?_) (fun hb=>?_)|refine aw_ce (zE J1) (fun hb=>?_) (fun hb=>?_)|refine aw_cn (zE J1) (fun hb=>?_) (fun hb=>?_)|(refine yF J1 (fun hb=>?_) (fun hb=>?_)<;>fail_if_success (cases hb;done))|(refine aw_gsd rfl rfl (zE J1) (fun hb=>?_) (fun hb=>?_)<;>refine yS J1 ?_)|(refine aw_gse rfl rfl (zE J1) (fun hb=>?_) (fun hb=>?_)<;>refine yS J1 ?_)|(refine aw_gsn rfl rfl (zE J1) (fun hb=>?_) (fun hb=>?_)<;>refine yS J1 ?_)|(refine aw_gs rfl rfl (zE J1) (fun hb=>?_) (fun hb=>?_)<;>fail_if_success (cases hb;done)<;>refine yS J1 ?_)|(refine drk_gsd rfl rfl (zE J1) (fun hb=>?_) (fun hb=>?_)<;>refine yS J1 ?_)|(refine drk_gse rfl rfl (zE J1) (fun hb=>?_) (fun hb=>?_)<;>refine yS J1 ?_)|(refine drk_gsn rfl rfl (zE J1) (fun hb=>?_) (fun hb=>?_)<;>refine yS J1 ?_)|(refine drk_gs rfl rfl (zE J1) (fun hb=>?_) (fun hb=>?_)<;>fail_if_success (cases hb;done)<;>refine yS J1 ?_)
   refine yA J1 fun g4 hn_g4=>?_
   repeat' first|refine yA1 (oj hn_g2 (oj hn_g3 hn_g4)) ?_|(refine aw_cg (f8) rfl rfl rfl (zE (oj hn_g2 (oj hn_g3 hn_g4))) (zL2 (oj hn_g2 (oj hn_g3 hn_g4))) ?_;refine yS (oj hn_g2 (oj hn_g3 hn_g4)) ?_)|(refine aw_cg (f9) rfl rfl rfl (zE (oj hn_g2 (oj hn_g3 hn_g4))) (zL2 (oj hn_g2 (oj hn_g3 hn_g4))) ?_;refine yS (oj hn_g2 (oj hn_g3 hn_g4)) ?_)|(refine yW (oj hn_g2 (oj hn_g3 hn_g4)) ?_;refine yS (oj hn_g2 (oj hn_g3 hn_g4)) ?_)|refine yP (oj hn_g2 (oj hn_g3 hn_g4)) ?_|refine yN (oj hn_g2 (oj hn_g3 hn_g4)) ?_|refine aw_cd (zE (oj hn_g2 (oj hn_g3 hn_g4))) (fun hb=>?_) (fun hb=>?_)|refine aw_ce (zE (oj hn_g2 (oj hn_g3 hn_g4))) (fun hb=>?_) (fun hb=>?_)|refine aw_cn (zE (oj hn_g2 (oj hn_g3 hn_g4))) (fun hb=>?_) (fun hb=>?_)|(refine yF (oj hn_g2 (oj hn_g3 hn_g4)) (fun hb=>?_) (fun hb=>?_)<;>fail_if_success (cases hb;done))|(refine aw_gsd rfl rfl (zE (oj hn_g2 (oj hn_g3 hn_g4))) (fun hb=>?_) (fun hb=>?_)<;>refine yS (oj hn_g2 (oj hn_g3 hn_g4)) ?_)|(refine aw_gse rfl rfl (zE (oj hn_g2 (oj hn_g3 hn_g4))) (fun hb=>?_) (fun hb=>?_)<;>refine yS (oj hn_g2 (oj hn_g3 hn_g4)) ?_)|(refine aw_gsn rfl rfl (zE (oj hn_g2 (oj hn_g3 hn_g4))) (fun hb=>?_) (fun hb=>?_)<;>refine yS (oj hn_g2 (oj hn_g3 hn_g4)) ?_)|(refine aw_gs rfl rfl (zE (oj hn_g2 (oj hn_g3 hn_g4))) (fun hb=>?_) (fun hb=>?_)<;>fail_if_success (cases hb;done)<;>refine yS (oj hn_g2 (oj hn_g3 hn_g4)) ?_)|(refine drk_gsd rfl rfl (zE (oj hn_g2 (oj hn_g3 hn_g4))) (fun hb=>?_) (fun hb=>?_)<;>refine yS (oj hn_g2 (oj hn_g3 hn_g4)) ?_)|(refine drk_gse rfl rfl (zE (oj hn_g2 (oj hn_g3 hn_g4))) (fun hb=>?_) (fun hb=>?_)<;>refine yS (oj hn_g2 (oj hn_g3 hn_g4)) ?_)|(refine drk_gsn rfl rfl (zE (oj hn_g2 (oj hn_g3 hn_g4))) (fun hb=>?_) (fun hb=>?_)<;>refine yS (oj hn_g2 (oj hn_g3 hn_g4)) ?_)|(refine drk_gs rfl rfl (zE (oj hn_g2 (oj hn_g3 hn_g4))) (fun hb=>?_) (fun hb=>?_)<;>fail_if_success (cases hb;done)<;>refine yS (oj hn_g2 (oj hn_g3 hn_g4)) ?_)
   refine aw_push (pre:=[(g4,.cells 106 4 (ofL (vlc ⟨w,q⟩))),(g3,.cells 104 3 (ofL [.str (sB nm),.str (sB tp),gs og 4 n])),(g2,.cells 104 3 (ofL [.str (sB []),.str (sB []),.nils])),(g,rdO L sy)]) rfl rfl rfl rfl rfl rfl rfl (zE (oj hn_g2 (oj hn_g3 hn_g4))) (zE (oj hn_g2 (oj hn_g3 hn_g4))) (by rfl) om om (zE (oj hn_g2 (oj hn_g3 hn_g4))) om (by exact hog) (zE (oj hn_g2 (oj hn_g3 hn_g4))) (by rfl) (by rfl) (by first|rfl|simp only [Nat.mul_one,List.nil_append,List.cons_append]<;>rfl) (by unfold maxLen;omega) om (by exact vls_push hn ⟨w,q⟩) fun gb hn_gb=> ?_
   replace hn_gb:=Heap.ne_of hn_gb
   first|dsimp only [Heap.ne,gh] at hn_gb|dsimp only [Heap.ne] at hn_gb|skip
   have J2:=oj hn_g2 (oj hn_g3 (oj hn_g4 hn_gb))
   refine yS J2 ?_
   repeat' first|refine yA1 J2 ?_|(refine yW J2 ?_;refine yS J2 ?_)|refine yP J2 ?_|refine yN J2 ?_|refine aw_cd (zE J2) (fun hb=>?_) (fun hb=>?_)|refine aw_ce (zE J2) (fun hb=>?_) (fun hb=>?_)|refine aw_cn (zE J2) (fun hb=>?_) (fun hb=>?_)|(refine yF J2 (fun hb=>?_) (fun hb=>?_)<;>fail_if_success (cases hb;done))|(refine aw_gsd rfl rfl (zE J2) (fun hb=>?_) (fun hb=>?_)<;>refine yS J2 ?_)|(refine aw_gse rfl rfl (zE J2) (fun hb=>?_) (fun hb=>?_)<;>refine yS J2 ?_)|(refine aw_gsn rfl rfl (zE J2) (fun hb=>?_) (fun hb=>?_)<;>refine yS J2 ?_)|(refine aw_gs rfl rfl (zE J2) (fun hb=>?_) (fun hb=>?_)<;>fail_if_success (cases hb;done)<;>refine yS J2 ?_)|(refine drk_gsd rfl rfl (zE J2) (fun hb=>?_) (fun hb=>?_)<;>refine yS J2 ?_)|(refine drk_gse rfl rfl (zE J2) (fun hb=>?_) (fun hb=>?_)<;>refine yS J2 ?_)|(refine drk_gsn rfl rfl (zE J2) (fun hb=>?_) (fun hb=>?_)<;>refine yS J2 ?_)|(refine drk_gs rfl rfl (zE J2) (fun hb=>?_) (fun hb=>?_)<;>fail_if_success (cases hb;done)<;>refine yS J2 ?_)
   refine aw_stop ⟨(sy,xs++[⟨w,q⟩],n+1,some gb),?_⟩
   refine⟨hlt,?_⟩
   and_intros
   all_goals first|rfl|exact List.Sublist.cons _ (List.Sublist.refl _)|exact True.intro|exact hsy|exact some_ne|exact hlp|(dsimp only;rw [List.length_append,hn];rfl)|(dsimp only;omega)
  ·have hc:¬(sx.e=0∧(fun s=> !isS s kClose) sx=true):=fun z=>by rw [show(fun s=> !isS s kClose) sx=false from hb] at z;exact absurd z.2 (by decide)
   rw [lpS_end hc] at hlp
   subst hlp
   refine aw_stop ⟨(n,og),?_⟩
   and_intros<;>first|rfl|exact List.Sublist.refl _|exact True.intro|exact hn|exact hog
  ·have hc:¬(sx.e=0∧(fun s=> !isS s kClose) sx=true):=fun z=>hb z.1
   rw [lpS_end hc] at hlp
   subst hlp
   refine aw_stop ⟨(n,og),?_⟩
   and_intros<;>first|rfl|exact List.Sublist.refl _|exact True.intro|exact hn|exact hog
 rintro ⟨n,og⟩ ⟨hn,hog⟩
 dsimp only at hn hog⊢
 have hs5:F.2.l<:+L.map TX.t:=by
  rw [←hF];exact((rdr_lp rdr_vlB []).suf s4).trans (hs4)
 subst hn
 refine aw_nd fun hnd=> ?_
 have hog2:∀q,og=some q→¬C.own0 q:=fun q hq hown=>by
  subst hq
  have:q=g:=by simpa [Heap.keys] using (hC q).1 hown
  subst this
  simp [Heap.keys,gh] at hnd
 refine aw_perm (h':=(g3,.cells 104 3 (ofL [.str (sB nm),.str (sB tp),gs og 4 F.1.length]))::(gh og 106 (F.1.length*4) (vlsF F.1)++[(g2,.cells 104 3 (ofL [.str (sB []),.str (sB []),.nils])),(g,rdO L F.2)])) (by exact .cons _ (List.perm_append_comm (l₁:=[(g2,.cells 104 3 (ofL [.str (sB []),.str (sB []),.nils])),(g,rdO L F.2)]))) ?_
 refine aw_frzG (j0:=2) (n:=F.1.length) (s:=4) (f':=ofL [.str (sB nm),.str (sB tp),.row true 4 F.1.length (vlsF F.1)]) rfl rfl (fun j hj hj3=>by
  match j,hj,hj3 with
  |0,_,_=>rfl
  |1,_,_=>rfl
  |j+2,h1,h2=>exact absurd (show j+2=2 from by omega) h2) hog hog2 ?_
 have f6:=expect_fg g L F.2 kClose hs5 om
 repeat' first|refine yA1 J1 ?_|(refine aw_cg (f6) rfl rfl rfl (zE J1) (zL2 J1) ?_;refine yS J1 ?_)|(refine yW J1 ?_;refine yS J1 ?_)|refine yP J1 ?_|refine yN J1 ?_|refine aw_cd (zE J1) (fun hb=>?_) (fun hb=>?_)|refine aw_ce (zE J1) (fun hb=>?_) (fun hb=>?_)|refine aw_cn (zE J1) (fun hb=>?_) (fun hb=>?_)|(refine yF J1 (fun hb=>?_) (fun hb=>?_)<;>fail_if_success (cases hb;done))|(refine aw_gsd rfl rfl (zE J1) (fun hb=>?_) (fun hb=>?_)<;>refine yS J1 ?_)|(refine aw_gse rfl rfl (zE J1) (fun hb=>?_) (fun hb=>?_)<;>refine yS J1 ?_)|(refine aw_gsn rfl rfl (zE J1) (fun hb=>?_) (fun hb=>?_)<;>refine yS J1 ?_)|(refine aw_gs rfl rfl (zE J1) (fun hb=>?_) (fun hb=>?_)<;>fail_if_success (cases hb;done)<;>refine yS J1 ?_)|(refine drk_gsd rfl rfl (zE J1) (fun hb=>?_) (fun hb=>?_)<;>refine yS J1 ?_)|(refine drk_gse rfl rfl (zE J1) (fun hb=>?_) (fun hb=>?_)<;>refine yS J1 ?_)|(refine drk_gsn rfl rfl (zE J1) (fun hb=>?_) (fun hb=>?_)<;>refine yS J1 ?_)|(refine drk_gs rfl rfl (zE J1) (fun hb=>?_) (fun hb=>?_)<;>fail_if_success (cases hb;done)<;>refine yS J1 ?_)
 refine aw_rethw (h':=[(g,rdO L (expS kClose F.2))]) rfl (by first|exact List.Sublist.refl _|exact .cons _ (.refl _)|exact .cons _ (.cons _ (.refl _))|exact .cons _ (.cons _ (.cons _ (.refl _)))) fun R r=>?_;simp only[go_sem,hn_g2,hn_g3];refine r _ rfl ?_;clear r R
 exact⟨rfl,rfl⟩
end Go.Proofs.YteocnikcjjonbaaGreat
namespace Go.AI
open Go.PN
theorem sb_beq (a b:BS):(sB a==sB b)=decide (a=b):=by
 show((sB a).data==(sB b).data)=_
 rw [Bool.eq_iff_iff];simp
section
variable {P : Program}
def keyS (l:BS):Value:=.string (sB l)
theorem keyS_ok {kt:TypeId} (ht:P.underlying kt=some .string):KeyOk P kt keyS:=by
 refine⟨fun b a w=> ?_,fun a ks es w h=> ?_⟩
 ·unfold Instr.checkKey keyS
  simp only [Sem.run_bind,run_underlying ht,Result.andThen_ok]
  rfl
 ·unfold Instr.findKey
  simp only [Sem.run_bind,run_underlying ht,Result.andThen_ok]
  have hn:∀(ks:List BS) (es:List MapEntry) (i:Nat),es.map (·.key)=ks.map keyS→Instr.findNow .string (keyS a) es i=some (fAsk a ks es i):=by
   intro ks
   induction ks with
   |nil=>
    intro es i h
    cases es with
    |nil=>rfl
    |cons e es=>simp at h
   |cons k ks ih=>
    intro es i h
    cases es with
    |nil=>simp at h
    |cons e es=>
     simp only [List.map_cons,List.cons.injEq] at h
     simp only [Instr.findNow,fAsk,h.1,keyS,Instr.sameNow]
     rw [show((⟨a.toArray⟩:ByteArray)==(⟨k.toArray⟩:ByteArray))=decide (a=k) from sb_beq a k]
     by_cases hk:a=k
     ·rw [decide_eq_true hk,if_pos hk]
     ·rw [decide_eq_false hk,if_neg hk]
      exact ih es (i+1) h.2
  rw [hn ks es 0 h]
  rfl
end
section
variable {E : Env} {K : List It} {σ σ' : Sl} {h : Heap} {all rest : List Oper} {o : Oper}
theorem Calm.lookup1 {l:List Oper} {α:Type} [DecidableEq α] {Kf:α→Value} {t kt et g:TypeId} {kv:List (α×Value)} {x ky:Operand} {ck:AV} {a:α} {z:Value} (hop:o.op=.lookup t x ky false) (hw:wantA l σ o=some true) (hd:dstOk E.N o.dst=true)
  (ht:tMap E.P t=some (kt,et)) (hK:KeyOk E.P kt Kf) (hz:tZ1 E.P et=some z) (hx:ev σ x=.c (.raw (.map (some g)))) (hg:h.get g=some (.gen (MapI Kf kv))) (hk:ev σ ky=ck) (hka:∀S w v,Rep S w ck v→v=Kf a):
  Calm E h l σ o (.c (cstC ((kvGet a kv).getD z))):=by
 refine⟨hd,fun σ' ac w Q hs s=> ?_⟩
 rw [if_pos (s.wanted ((want_same hs).trans hw))]
 have h1:=ev_rep s x
 rw [ev_same (by rw [hop];simp [Op.operands]) hs,hx] at h1
 have h1':ac.eval x=.map (some g):=h1
 have h2:=ev_rep s ky
 rw [ev_same (by rw [hop];simp [Op.operands]) hs,hk] at h2
 have h2':=hka _ _ _ h2
 obtain⟨ob,hb,es,c,rfl,hes⟩:=s.heap g _ (Heap.get_mem hg)
 have hkeys:es.toList.map (·.key)=(kv.map (·.1)).map Kf:=by
  have:=congrArg (List.map Prod.fst) hes
  rw [List.map_map,List.map_map] at this
  rw [List.map_map]
  exact this
 have hfind:=hK.find a (kv.map (·.1)) es.toList w hkeys
 have hget:=fAsk_get (K:=Kf) a kv es.toList 0 hes
 have hlk:(Instr.lookup t (ac.eval x) (ac.eval ky) false).run E.P w=.ok ((kvGet a kv).getD z) w:=by
  rw [h1',h2']
  unfold Instr.lookup
  simp only [Sem.run_bind,run_underlying (tMap_spec ht),Result.andThen_ok,runGet hb,Sem.run_pure,hK.check,hfind]
  rw [←hget]
  cases hf:fAsk a (kv.map (·.1)) es.toList 0 with
  |none=>simp [tZ1_run hz]
  |some p=>obtain⟨i,v⟩:=p;simp
 have hrun:(execOp ac.eval o).run E.P w=.ok (.value ((kvGet a kv).getD z)) w:=by
  simp only [execOp,hop,Sem.run_bind,hlk,Result.andThen_ok]
  rfl
 unfold Oper.wp
 rw [hrun]
 exact s.put hd (cstC_rep _ _ _)
theorem drk_lookup1 {l:List Oper} {n:Nat} {α:Type} [DecidableEq α] {Kf:α→Value} {t kt et g:TypeId} {kv:List (α×Value)} {x ky:Operand} {ck:AV} {a:α} {z:Value} (hop:o.op=.lookup t x ky false) (hw:wantA l σ o=some true) (hd:dstOk E.N o.dst=true)
 (ht:tMap E.P t=some (kt,et)) (hK:KeyOk E.P kt Kf) (hz:tZ1 E.P et=some z) (hx:ev σ x=.c (.raw (.map (some g)))) (hg:h.get g=some (.gen (MapI Kf kv))) (hk:ev σ ky=ck) (hka:∀S w v,Rep S w ck v→v=Kf a)
 (k:DrK E h l K n rest (σ.setO o.dst (.c (cstC ((kvGet a kv).getD z))))):DrK E h l K (n+1) (o::rest) σ:=drk_cons (Calm.lookup1 hop hw hd ht hK hz hx hg hk hka) k
end
end Go.AI
