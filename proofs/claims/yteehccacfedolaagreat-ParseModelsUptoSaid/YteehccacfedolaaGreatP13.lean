/- Parts of one proof, laid by a program. -/
import Derived.Test.YteehccacfedolaaGreatP00
import Derived.Test.YteehccacfedolaaGreatP12
set_option linter.unusedSimpArgs false
set_option linter.unusedVariables false
set_option maxRecDepth 100000
set_option maxHeartbeats 12800000
namespace Go.Proofs.YteehccacfedolaaGreat
open Go.AI Go.PN
attribute [local irreducible] aw Fa Fh DrK
theorem rhouse_fa (L:List TX) (s:PS) (hs:s.l<:+L.map TX.t) (hL:L.length≤1048576):Fa Tryz.prog 57 [.agg (rv L s)] (.tup [.agg (rv L (houseR s).2),.agg (hsc (houseR s).1)]):=by
 have f1:=rtake_fa L s 0 [] hs om
 have hs1:=takeR_suf hs 0 []
 unfold houseR wordR
 dsimp only
 generalize takeR s 0 []=r1 at*
 obtain⟨nm,s1⟩:=r1
 dsimp only at*
 have f2:=rnext_fa L s1 0 kOn hs1 om
 have f3:=rtake_fa L s1 0 kOn hs1 om
 have f4:=rtake_fa L s1 0 kOff hs1 om
 have f5:=rtake_fa L (takeR s1 0 kOn).2 2 kSemi (takeR_suf hs1 0 kOn) om
 have f6:=rtake_fa L (takeR s1 0 kOff).2 2 kSemi (takeR_suf hs1 0 kOff) om
 refine fa_of_body Tryz.func57 rfl rfl (by simp [Tryz.ntmps57]) fun C hC=> ?_
 simp only [initS,Nat.reduceAdd]
 repeat' first|refine yA1 o0 ?_|refine zW o0 ?_|refine yP o0 ?_|refine yN o0 ?_|refine zC o0 (fun hb=>?_) fun hb=>?_|refine zG o0 (fun hb=>?_) fun hb=>?_|refine zD o0 (fun hb=>?_) fun hb=>?_
 refine xB fun g1 hn_g1=>?_
 repeat' first|refine yA1 hn_g1 ?_|refine zW hn_g1 ?_|refine yP hn_g1 ?_|refine yN hn_g1 ?_|refine zC hn_g1 (fun hb=>?_) fun hb=>?_|refine zG hn_g1 (fun hb=>?_) fun hb=>?_|refine zD hn_g1 (fun hb=>?_) fun hb=>?_
 refine yA hn_g1 fun g2 hn_g2=>?_
 all_goals try(have Z:=(oj hn_g1 hn_g2);(repeat' first|refine yA1 Z ?_|refine zW Z ?_|refine yP Z ?_|refine yN Z ?_|refine zC Z (fun hb=>?_) fun hb=>?_|refine zG Z (fun hb=>?_) fun hb=>?_|refine zD Z (fun hb=>?_) fun hb=>?_);all_goals clear Z)
 refine yA (oj hn_g1 hn_g2) fun g3 hn_g3=>?_
 all_goals try(have Z:=(oj hn_g1 (oj hn_g2 hn_g3));(repeat' first|refine yA1 Z ?_|refine zW Z ?_|refine yP Z ?_|refine yN Z ?_|refine zC Z (fun hb=>?_) fun hb=>?_|refine zG Z (fun hb=>?_) fun hb=>?_|refine zD Z (fun hb=>?_) fun hb=>?_);all_goals clear Z)
 refine yA (oj hn_g1 (oj hn_g2 hn_g3)) fun g4 hn_g4=>?_
 all_goals try(have Z:=(oj hn_g1 (oj hn_g2 (oj hn_g3 hn_g4)));(repeat' first|refine yA1 Z ?_|(refine yC2 Z (f1) ?_)|(refine yD2 Z (f1) ?_)|(refine yC2 Z (f2) ?_)|(refine yD2 Z (f2) ?_)|(refine yC2 Z (f3) ?_)|(refine yD2 Z (f3) ?_)|(refine yC2 Z (f4) ?_)|(refine yD2 Z (f4) ?_)|(refine yC2 Z (f5) ?_)|(refine yD2 Z (f5) ?_)|(refine yC2 Z (f6) ?_)|(refine yD2 Z (f6) ?_)|refine zW Z ?_|refine yP Z ?_|refine yN Z ?_|refine zC Z (fun hb=>?_) fun hb=>?_|refine zG Z (fun hb=>?_) fun hb=>?_|refine zD Z (fun hb=>?_) fun hb=>?_);all_goals clear Z)
 ·rw [if_pos hb]
  refine aw_cw ([(g4,.cells 97 2 (ofL [.str (sB nm),.bool true])),(g1,.cells 64 2 (ofL (rv L (takeR (takeR s1 0 kOn).2 2 kSemi).2)))]) [(0,0),(1,0),(2,1),(3,2)] ty_mixed (by kernel_rfl) eI ?_
  have J1:=oj hn_g1 (oj hn_g2 (oj hn_g3 hn_g4))
  refine yG J1 ?_
  refine cw_store rfl rfl rfl rfl rfl (zE J1) (zE J1) (zE J1) (zE J1) (fun _ e=>by cases e) rfl rfl (Nat.le_refl 2) (zE J1) eI ?_ (hm:=.inr ⟨rfl,rfl⟩)
  refine ySG J1 ?_
  refine cw_store (FP':=[]) rfl rfl rfl rfl rfl (zE J1) (zE J1) (zE J1) (zE J1) (fun _ e=>by cases e) rfl rfl (Nat.le_refl 2) rfl has0_nil ?_
  refine ySGT hC J1 ?_
  exact .tup ⟨.agg ⟨ler_txs,.int _ _,trivial⟩,.agg ⟨.str _,.bool _,trivial⟩,trivial⟩
 ·rw [if_neg (by simpa using hb)]
  refine aw_cw ([(g4,.cells 97 2 (ofL [.str (sB nm),.bool false])),(g1,.cells 64 2 (ofL (rv L (takeR (takeR s1 0 kOff).2 2 kSemi).2)))]) [(0,0),(1,0),(2,1),(3,2)] ty_mixed (by kernel_rfl) eI ?_
  have J2:=oj hn_g1 (oj hn_g2 (oj hn_g3 hn_g4))
  refine yG J2 ?_
  refine cw_store rfl rfl rfl rfl rfl (zE J2) (zE J2) (zE J2) (zE J2) (fun _ e=>by cases e) rfl rfl (Nat.le_refl 2) (zE J2) eI ?_ (hm:=.inr ⟨rfl,rfl⟩)
  refine ySG J2 ?_
  refine cw_store (FP':=[]) rfl rfl rfl rfl rfl (zE J2) (zE J2) (zE J2) (zE J2) (fun _ e=>by cases e) rfl rfl (Nat.le_refl 2) rfl has0_nil ?_
  refine ySGT hC J2 ?_
  exact .tup ⟨.agg ⟨ler_txs,.int _ _,trivial⟩,.agg ⟨.str _,.bool _,trivial⟩,trivial⟩
theorem rphase_fa (L:List TX) (s:PS) (hs:s.l<:+L.map TX.t) (hL:L.length≤1048576) (hw:∀t∈L,t.t.text.length≤1099511627776):Fa Tryz.prog 61 [.agg (rv L s)] (.tup [.agg (rv L (phaseR s).2),.agg (phc (phaseR s).1)]):=by
 have f1:=rtake_fa L s 0 [] hs om
 have hs1:=takeR_suf hs 0 []
 unfold phaseR wordR
 dsimp only
 generalize takeR s 0 []=r1 at*
 obtain⟨nm,s1⟩:=r1
 dsimp only at*
 have f2:=rtake_fa L s1 0 kTop hs1 om
 have hs2:=takeR_suf hs1 0 kTop
 generalize (takeR s1 0 kTop).2=s2 at*
 have f3:=rinput_fa L s2 hs2 om hw
 have hs3:=(rdr_inputR.suf s2).trans hs2
 generalize inputR s2=r at*
 obtain⟨tp,s3⟩:=r
 dsimp only at*
 have f4:=rtake_fa L s3 2 kOpen hs3 om
 have hs4:=takeR_suf hs3 2 kOpen
 generalize (takeR s3 2 kOpen).2=s4 at*
 generalize hF:lpS (fun s=> !nextR s 2 kClose) vlBR [] s4=F at*
 refine fa_of_body Tryz.func61 rfl rfl (by simp [Tryz.ntmps61]) fun C hC=> ?_
 simp only [initS,Nat.reduceAdd]
 repeat' first|refine yA1 o0 ?_|refine zW o0 ?_|refine yP o0 ?_|refine yN o0 ?_|refine zC o0 (fun hb=>?_) fun hb=>?_|refine zG o0 (fun hb=>?_) fun hb=>?_|refine zD o0 (fun hb=>?_) fun hb=>?_
 refine xB fun g1 hn_g1=>?_
 repeat' first|refine yA1 hn_g1 ?_|refine zW hn_g1 ?_|refine yP hn_g1 ?_|refine yN hn_g1 ?_|refine zC hn_g1 (fun hb=>?_) fun hb=>?_|refine zG hn_g1 (fun hb=>?_) fun hb=>?_|refine zD hn_g1 (fun hb=>?_) fun hb=>?_
 refine yA hn_g1 fun g2 hn_g2=>?_
 all_goals try(have Z:=(oj hn_g1 hn_g2);(repeat' first|refine yA1 Z ?_|refine zW Z ?_|refine yP Z ?_|refine yN Z ?_|refine zC Z (fun hb=>?_) fun hb=>?_|refine zG Z (fun hb=>?_) fun hb=>?_|refine zD Z (fun hb=>?_) fun hb=>?_);all_goals clear Z)
 refine yA (oj hn_g1 hn_g2) fun g3 hn_g3=>?_
 all_goals try(have Z:=(oj hn_g1 (oj hn_g2 hn_g3));(repeat' first|refine yA1 Z ?_|refine zW Z ?_|refine yP Z ?_|refine yN Z ?_|refine zC Z (fun hb=>?_) fun hb=>?_|refine zG Z (fun hb=>?_) fun hb=>?_|refine zD Z (fun hb=>?_) fun hb=>?_);all_goals clear Z)
 refine yA (oj hn_g1 (oj hn_g2 hn_g3)) fun g4 hn_g4=>?_
 all_goals try(have Z:=(oj hn_g1 (oj hn_g2 (oj hn_g3 hn_g4)));(repeat' first|refine yA1 Z ?_|(refine yC2 Z (f1) ?_)|(refine yD2 Z (f1) ?_)|(refine yC2 Z (f2) ?_)|(refine yD2 Z (f2) ?_)|(refine yC2 Z (f3) ?_)|(refine yD2 Z (f3) ?_)|(refine yC2 Z (f4) ?_)|(refine yD2 Z (f4) ?_)|refine zW Z ?_|refine yP Z ?_|refine yN Z ?_|refine zC Z (fun hb=>?_) fun hb=>?_|refine zG Z (fun hb=>?_) fun hb=>?_|refine zD Z (fun hb=>?_) fun hb=>?_);all_goals clear Z)
 refine aw_lp (fun _:PS×List VlD×Nat×Option Nat=>[(1,.c (.optr g1 0)),(2,.c (.optr g2 0)),(3,.c (.optr g3 0)),(4,.c (.optr g4 0))]) (fun x=>[(g4,.cells 82 3 (ofL [.str (sB nm),.str (sB tp),gs x.2.2.2 4 x.2.2.1])),(g3,.cells 82 3 (ofL [.str (sB []),.str (sB []),.nils])),(g2,.cells 64 2 (ofL [.nils,.int .i64 0])),(g1,.cells 64 2 (ofL (rv L x.1)))]++gh x.2.2.2 84 (x.2.2.1*4) (vlsF x.2.1))
  (fun x=>x.1.l<:+L.map TX.t∧x.2.1.length=x.2.2.1∧(x.2.2.2=none→x.2.2.1=0)∧x.2.2.1+mS x.1≤1048577∧lpS (fun s=> !nextR s 2 kClose) vlBR x.2.1 x.1=F) (fun x=>mS x.1) (s4,[],0,none) (zB (oj hn_g1 (oj hn_g2 (oj hn_g3 hn_g4)))) zZ ⟨hs4,rfl,fun _=>rfl,?_,hF⟩ ?_
 ·have:=hs4.length_le
  rw [List.length_map] at this
  dsimp only
  unfold mS
  split<;>omega
 rintro ⟨sx,xs,n,og⟩ ⟨hsx,hn,hog,hm,hlp⟩
 dsimp only at hsx hn hog hm hlp⊢
 have f5:=rnext_fa L sx 2 kClose hsx om
 have f7:=rtake_fa L sx 0 [] hsx om
 have f6:=rtake_fa L sx 2 kClose hsx om
 all_goals try(have Z:=(oj hn_g1 (oj hn_g2 (oj hn_g3 hn_g4)));(repeat' first|refine yA1 Z ?_|(refine yC2 Z (f5) ?_)|(refine yD2 Z (f5) ?_)|refine zW Z ?_|refine yP Z ?_|refine yN Z ?_|refine zC Z (fun hb=>?_) fun hb=>?_|refine zG Z (fun hb=>?_) fun hb=>?_|refine zD Z (fun hb=>?_) fun hb=>?_);all_goals clear Z)
 ·rename_i h0
  have hc:(fun s=> !nextR s 2 kClose) sx=true:=hb
  have hst:=lpS_step (c:=(fun s=> !nextR s 2 kClose)) (b:=vlBR) (a:=xs) (fun a s h _=>con_vlBR a s h) h0 hc
  have hlt:=con_vlBR xs sx h0
  rw [hst] at hlp
  have hsy:(vlBR xs sx).2.l<:+L.map TX.t:=((rdr_vlBR xs).suf sx).trans hsx
  have e1:(vlBR xs sx).1=xs++[⟨(takeR sx 0 []).1,(numR (takeR sx 0 []).2).1⟩]:=rfl
  have e2:(vlBR xs sx).2=(takeR (numR (takeR sx 0 []).2).2 2 kSemi).2:=rfl
  rw [e2] at hlt hsy
  rw [e1,e2] at hlp
  have hsa:=takeR_suf hsx 0 []
  generalize takeR sx 0 []=y at*
  obtain⟨w,sa⟩:=y
  dsimp only at*
  have f8:=rnumber_fa L sa hsa om hw
  have hsb:(numR sa).2.l<:+L.map TX.t:=by rw [numR_eq];exact(rdr_num.suf sa).trans hsa
  generalize numR sa=y at*
  obtain⟨q,sb⟩:=y
  dsimp only at*
  have f9:=rtake_fa L sb 2 kSemi hsb om
  generalize (takeR sb 2 kSemi).2=sy at*
  refine yA (oj hn_g1 (oj hn_g2 (oj hn_g3 hn_g4))) fun g5 hn_g5=>?_
  all_goals try(have Z:=(oj hn_g1 (oj hn_g2 (oj hn_g3 (oj hn_g4 hn_g5))));(repeat' first|refine yA1 Z ?_|(refine yC2 Z (f7) ?_)|(refine yD2 Z (f7) ?_)|(refine yC2 Z (f8) ?_)|(refine yD2 Z (f8) ?_)|(refine yC2 Z (f9) ?_)|(refine yD2 Z (f9) ?_)|refine zW Z ?_|refine yP Z ?_|refine yN Z ?_|refine zC Z (fun hb=>?_) fun hb=>?_|refine zG Z (fun hb=>?_) fun hb=>?_|refine zD Z (fun hb=>?_) fun hb=>?_);all_goals clear Z)
  refine aw_push (pre:=[(g5,.cells 84 4 (ofL (vlc ⟨w,q⟩))),(g4,.cells 82 3 (ofL [.str (sB nm),.str (sB tp),gs og 4 n])),(g3,.cells 82 3 (ofL [.str (sB []),.str (sB []),.nils])),(g2,.cells 64 2 (ofL [.nils,.int .i64 0])),(g1,.cells 64 2 (ofL (rv L sy)))]) rfl rfl rfl rfl rfl rfl rfl (zE (oj hn_g1 (oj hn_g2 (oj hn_g3 (oj hn_g4 hn_g5))))) (zE (oj hn_g1 (oj hn_g2 (oj hn_g3 (oj hn_g4 hn_g5))))) (by rfl) om om (zE (oj hn_g1 (oj hn_g2 (oj hn_g3 (oj hn_g4 hn_g5))))) om (by exact hog) (zE (oj hn_g1 (oj hn_g2 (oj hn_g3 (oj hn_g4 hn_g5))))) (by rfl) (by rfl) (by first|rfl|simp only [Nat.mul_one,List.nil_append,List.cons_append]<;>rfl) (by unfold maxLen;omega) om (by exact vls_push hn ⟨w,q⟩) fun gb hn_gb=> ?_
  replace hn_gb:=Heap.ne_of hn_gb
  first|dsimp only [Heap.ne,gh] at hn_gb|dsimp only [Heap.ne] at hn_gb|skip
  have J1:=oj hn_g1 (oj hn_g2 (oj hn_g3 (oj hn_g4 (oj hn_g5 hn_gb))))
  refine yS J1 ?_
  all_goals try(have Z:=J1;(repeat' first|refine yA1 Z ?_|refine zW Z ?_|refine yP Z ?_|refine yN Z ?_|refine zC Z (fun hb=>?_) fun hb=>?_|refine zG Z (fun hb=>?_) fun hb=>?_|refine zD Z (fun hb=>?_) fun hb=>?_);all_goals clear Z)
  refine aw_stop ⟨(sy,xs++[⟨w,q⟩],n+1,some gb),?_⟩
  refine⟨hlt,?_⟩
  and_intros
  all_goals first|rfl|exact List.Sublist.refl _|exact List.Sublist.cons _ (List.Sublist.refl _)|exact True.intro|exact hsy|exact some_ne|exact hlp|(dsimp only;rw [List.length_append,hn];rfl)|(dsimp only;omega)
 all_goals
  have hc:¬(sx.e=0∧(fun s=> !nextR s 2 kClose) sx=true):=by
   first
    |exact fun z=>by rw [show(fun s=> !nextR s 2 kClose) sx=false from hb] at z;exact absurd z.2 (by decide)
    |exact fun z=>hb z.1
  rw [lpS_end hc] at hlp
  subst hlp hn
  dsimp only at*
  refine aw_perm (h':=(g4,.cells 82 3 (ofL [.str (sB nm),.str (sB tp),gs og 4 xs.length]))::(gh og 84 (xs.length*4) (vlsF xs)++[(g3,.cells 82 3 (ofL [.str (sB []),.str (sB []),.nils])),(g2,.cells 64 2 (ofL [.nils,.int .i64 0])),(g1,.cells 64 2 (ofL (rv L sx)))])) (by exact .cons _ (List.perm_append_comm (l₁:=([(g3,.cells 82 3 (ofL [.str (sB []),.str (sB []),.nils])),(g2,.cells 64 2 (ofL [.nils,.int .i64 0])),(g1,.cells 64 2 (ofL (rv L sx)))]:Heap)))) ?_
  refine aw_frzG (j0:=2) (n:=xs.length) (s:=4) (f':=ofL [.str (sB nm),.str (sB tp),vls true xs]) rfl rfl (fun j hj hj3=>by
   match j,hj,hj3 with
   |0,_,_=>rfl
   |1,_,_=>rfl
   |j+2,h1,h2=>exact absurd (show j+2=2 from by omega) h2) hog (fun q _=>hC q) ?_
  all_goals try(have Z:=(oj hn_g1 (oj hn_g2 (oj hn_g3 hn_g4)));(repeat' first|refine yA1 Z ?_|(refine yC2 Z (f6) ?_)|(refine yD2 Z (f6) ?_)|refine zW Z ?_|refine yP Z ?_|refine yN Z ?_|refine zC Z (fun hb=>?_) fun hb=>?_|refine zG Z (fun hb=>?_) fun hb=>?_|refine zD Z (fun hb=>?_) fun hb=>?_);all_goals clear Z)
  refine aw_cw ([(g4,.cells 82 3 (ofL [.str (sB nm),.str (sB tp),vls true xs])),(g1,.cells 64 2 (ofL (rv L (takeR sx 2 kClose).2)))]) [(0,0),(1,0),(2,1),(3,2)] ty_mixed (by kernel_rfl) eI ?_
  have J2:=oj hn_g1 (oj hn_g2 (oj hn_g3 hn_g4))
  refine yG J2 ?_
  refine cw_store rfl rfl rfl rfl rfl (zE J2) (zE J2) (zE J2) (zE J2) (fun _ e=>by cases e) rfl rfl (Nat.le_refl 2) (zE J2) eI ?_ (hm:=.inr ⟨rfl,rfl⟩)
  refine ySG J2 ?_
  refine cw_store (FP':=[]) rfl rfl rfl rfl rfl (zE J2) (zE J2) (zE J2) (zE J2) (fun _ e=>by cases e) rfl rfl (Nat.le_refl 3) rfl has0_nil ?_
  refine ySGT hC J2 ?_
  exact .tup ⟨.agg ⟨ler_txs,.int _ _,trivial⟩,.agg ⟨.str _,.str _,ler_vls,trivial⟩,trivial⟩
end Go.Proofs.YteehccacfedolaaGreat
namespace Go.Proofs.YteehccacfedolaaGreat
open Go.AI Go.PN
attribute [local irreducible] aw Fa Fh DrK
theorem rpage_fa (L:List TX) (s:PS) (hs:s.l<:+L.map TX.t) (hL:L.length≤1048576) (hw:∀t∈L,t.t.text.length≤1099511627776):Fa Tryz.prog 59 [.agg (rv L s)] (.tup [.agg (rv L (pageR s).2),.agg (pgc (pageR s).1)]):=by
 have f1:=rtake_fa L s 0 [] hs om
 have hs1:=takeR_suf hs 0 []
 unfold pageR wordR
 dsimp only
 generalize takeR s 0 []=r1 at*
 obtain⟨nm,s1⟩:=r1
 dsimp only at*
 have f2:=rtake_fa L s1 0 kTop hs1 om
 have hs2:=takeR_suf hs1 0 kTop
 generalize (takeR s1 0 kTop).2=s2 at*
 have f3:=rinput_fa L s2 hs2 om hw
 have hs3:=(rdr_inputR.suf s2).trans hs2
 generalize inputR s2=r at*
 obtain⟨tp,s3⟩:=r
 dsimp only at*
 have f4:=rtake_fa L s3 2 kOpen hs3 om
 have hs4:=takeR_suf hs3 2 kOpen
 generalize (takeR s3 2 kOpen).2=s4 at*
 generalize hF:lpS (fun s=> !nextR s 2 kClose) pgBR [] s4=F at*
 refine fa_of_body Tryz.func59 rfl rfl (by simp [Tryz.ntmps59]) fun C hC=> ?_
 simp only [initS,Nat.reduceAdd]
 repeat' first|refine yA1 o0 ?_|refine zW o0 ?_|refine yP o0 ?_|refine yN o0 ?_|refine zC o0 (fun hb=>?_) fun hb=>?_|refine zG o0 (fun hb=>?_) fun hb=>?_|refine zD o0 (fun hb=>?_) fun hb=>?_
 refine xB fun g1 hn_g1=>?_
 repeat' first|refine yA1 hn_g1 ?_|refine zW hn_g1 ?_|refine yP hn_g1 ?_|refine yN hn_g1 ?_|refine zC hn_g1 (fun hb=>?_) fun hb=>?_|refine zG hn_g1 (fun hb=>?_) fun hb=>?_|refine zD hn_g1 (fun hb=>?_) fun hb=>?_
 refine yA hn_g1 fun g2 hn_g2=>?_
 all_goals try(have Z:=(oj hn_g1 hn_g2);(repeat' first|refine yA1 Z ?_|refine zW Z ?_|refine yP Z ?_|refine yN Z ?_|refine zC Z (fun hb=>?_) fun hb=>?_|refine zG Z (fun hb=>?_) fun hb=>?_|refine zD Z (fun hb=>?_) fun hb=>?_);all_goals clear Z)
 refine yA (oj hn_g1 hn_g2) fun g3 hn_g3=>?_
 all_goals try(have Z:=(oj hn_g1 (oj hn_g2 hn_g3));(repeat' first|refine yA1 Z ?_|refine zW Z ?_|refine yP Z ?_|refine yN Z ?_|refine zC Z (fun hb=>?_) fun hb=>?_|refine zG Z (fun hb=>?_) fun hb=>?_|refine zD Z (fun hb=>?_) fun hb=>?_);all_goals clear Z)
 refine yA (oj hn_g1 (oj hn_g2 hn_g3)) fun g4 hn_g4=>?_
 all_goals try(have Z:=(oj hn_g1 (oj hn_g2 (oj hn_g3 hn_g4)));(repeat' first|refine yA1 Z ?_|(refine yC2 Z (f1) ?_)|(refine yD2 Z (f1) ?_)|(refine yC2 Z (f2) ?_)|(refine yD2 Z (f2) ?_)|(refine yC2 Z (f3) ?_)|(refine yD2 Z (f3) ?_)|(refine yC2 Z (f4) ?_)|(refine yD2 Z (f4) ?_)|refine zW Z ?_|refine yP Z ?_|refine yN Z ?_|refine zC Z (fun hb=>?_) fun hb=>?_|refine zG Z (fun hb=>?_) fun hb=>?_|refine zD Z (fun hb=>?_) fun hb=>?_);all_goals clear Z)
 refine aw_lp (fun _:PS×List GtD×Nat×Option Nat=>[(1,.c (.optr g1 0)),(2,.c (.optr g2 0)),(3,.c (.optr g3 0)),(4,.c (.optr g4 0))]) (fun x=>[(g4,.cells 100 3 (ofL [.str (sB nm),.str (sB tp),gs x.2.2.2 7 x.2.2.1])),(g3,.cells 100 3 (ofL [.str (sB []),.str (sB []),.nils])),(g2,.cells 64 2 (ofL [.nils,.int .i64 0])),(g1,.cells 64 2 (ofL (rv L x.1)))]++gh x.2.2.2 45 (x.2.2.1*7) (gtsF x.2.1))
  (fun x=>x.1.l<:+L.map TX.t∧x.2.1.length=x.2.2.1∧(x.2.2.2=none→x.2.2.1=0)∧x.2.2.1+mS x.1≤1048577∧lpS (fun s=> !nextR s 2 kClose) pgBR x.2.1 x.1=F) (fun x=>mS x.1) (s4,[],0,none) (zB (oj hn_g1 (oj hn_g2 (oj hn_g3 hn_g4)))) zZ ⟨hs4,rfl,fun _=>rfl,?_,hF⟩ ?_
 ·have:=hs4.length_le
  rw [List.length_map] at this
  dsimp only
  unfold mS
  split<;>omega
 rintro ⟨sx,xs,n,og⟩ ⟨hsx,hn,hog,hm,hlp⟩
 dsimp only at hsx hn hog hm hlp⊢
 have f5:=rnext_fa L sx 2 kClose hsx om
 have f7:=rtake_fa L sx 0 kGate hsx om
 have f6:=rtake_fa L sx 2 kClose hsx om
 all_goals try(have Z:=(oj hn_g1 (oj hn_g2 (oj hn_g3 hn_g4)));(repeat' first|refine yA1 Z ?_|(refine yC2 Z (f5) ?_)|(refine yD2 Z (f5) ?_)|refine zW Z ?_|refine yP Z ?_|refine yN Z ?_|refine zC Z (fun hb=>?_) fun hb=>?_|refine zG Z (fun hb=>?_) fun hb=>?_|refine zD Z (fun hb=>?_) fun hb=>?_);all_goals clear Z)
 ·rename_i h0
  have hc:(fun s=> !nextR s 2 kClose) sx=true:=hb
  have hst:=lpS_step (c:=(fun s=> !nextR s 2 kClose)) (b:=pgBR) (a:=xs) (fun a s h _=>con_pgBR a s h) h0 hc
  have hlt:=con_pgBR xs sx h0
  rw [hst] at hlp
  have hsy:(pgBR xs sx).2.l<:+L.map TX.t:=((rdr_pgBR xs).suf sx).trans hsx
  have e0:pgBR xs sx=if(takeR sx 0 kGate).2.e=0 then(xs++[(gateR (takeR sx 0 kGate).2).1],(gateR (takeR sx 0 kGate).2).2) else(xs++[gt0],(takeR sx 0 kGate).2):=rfl
  have hsa:=takeR_suf hsx 0 kGate
  generalize takeR sx 0 kGate=y at*
  obtain⟨w,sa⟩:=y
  dsimp only at*
  have f8:=rgate_fa L sa hsa hL hw
  refine yA (oj hn_g1 (oj hn_g2 (oj hn_g3 hn_g4))) fun g5 hn_g5=>?_
  refine aw_convR (f':=ofL (gtc gt0)) (fun j hj S w u hr=>by
   match j,hj with
   |0,_=>exact hr
   |1,_=>exact hr
   |2,_=>exact hr
   |3,_=>exact repC_nil hr
   |4,_=>exact hr
   |5,_=>exact repC_nil hr
   |6,_=>exact repC_nil hr) ?_
  all_goals try(have Z:=(oj hn_g1 (oj hn_g2 (oj hn_g3 (oj hn_g4 hn_g5))));(repeat' first|refine yA1 Z ?_|(refine yC2 Z (f7) ?_)|(refine yD2 Z (f7) ?_)|(refine yC2 Z (f8) ?_)|(refine yD2 Z (f8) ?_)|refine zW Z ?_|refine yP Z ?_|refine yN Z ?_|refine zC Z (fun hb=>?_) fun hb=>?_|refine zG Z (fun hb=>?_) fun hb=>?_|refine zD Z (fun hb=>?_) fun hb=>?_);all_goals clear Z)
  ·rw [if_pos hb] at e0
   rw [e0] at hlt hsy hlp
   dsimp only at*
   generalize gateR sa=y at*
   obtain⟨t,sy⟩:=y
   dsimp only at*
   refine aw_push (pre:=[(g5,.cells 45 7 (ofL (gtc t))),(g4,.cells 100 3 (ofL [.str (sB nm),.str (sB tp),gs og 7 n])),(g3,.cells 100 3 (ofL [.str (sB []),.str (sB []),.nils])),(g2,.cells 64 2 (ofL [.nils,.int .i64 0])),(g1,.cells 64 2 (ofL (rv L sy)))]) rfl rfl rfl rfl rfl rfl rfl (zE (oj hn_g1 (oj hn_g2 (oj hn_g3 (oj hn_g4 hn_g5))))) (zE (oj hn_g1 (oj hn_g2 (oj hn_g3 (oj hn_g4 hn_g5))))) (by rfl) om om (zE (oj hn_g1 (oj hn_g2 (oj hn_g3 (oj hn_g4 hn_g5))))) om (by exact hog) (zE (oj hn_g1 (oj hn_g2 (oj hn_g3 (oj hn_g4 hn_g5))))) (by rfl) (by rfl) (by first|rfl|simp only [Nat.mul_one,List.nil_append,List.cons_append]<;>rfl) (by unfold maxLen;omega) om (by exact gts_push hn t) fun gb hn_gb=> ?_
   replace hn_gb:=Heap.ne_of hn_gb
   first|dsimp only [Heap.ne,gh] at hn_gb|dsimp only [Heap.ne] at hn_gb|skip
   have J1:=oj hn_g1 (oj hn_g2 (oj hn_g3 (oj hn_g4 (oj hn_g5 hn_gb))))
   refine yS J1 ?_
   all_goals try(have Z:=J1;(repeat' first|refine yA1 Z ?_|refine zW Z ?_|refine yP Z ?_|refine yN Z ?_|refine zC Z (fun hb=>?_) fun hb=>?_|refine zG Z (fun hb=>?_) fun hb=>?_|refine zD Z (fun hb=>?_) fun hb=>?_);all_goals clear Z)
   refine aw_stop ⟨(sy,xs++[t],n+1,some gb),?_⟩
   refine⟨hlt,?_⟩
   and_intros
   all_goals first|rfl|exact List.Sublist.refl _|exact List.Sublist.cons _ (List.Sublist.refl _)|exact True.intro|exact hsy|exact some_ne|exact hlp|(dsimp only;rw [List.length_append,hn];rfl)|(dsimp only;omega)
  ·rw [if_neg hb] at e0
   rw [e0] at hlt hsy hlp
   dsimp only at*
   have hlt:=hlt
   generalize hsyq:sa=sy at*
   refine aw_push (pre:=[(g5,.cells 45 7 (ofL (gtc gt0))),(g4,.cells 100 3 (ofL [.str (sB nm),.str (sB tp),gs og 7 n])),(g3,.cells 100 3 (ofL [.str (sB []),.str (sB []),.nils])),(g2,.cells 64 2 (ofL [.nils,.int .i64 0])),(g1,.cells 64 2 (ofL (rv L sy)))]) rfl rfl rfl rfl rfl rfl rfl (zE (oj hn_g1 (oj hn_g2 (oj hn_g3 (oj hn_g4 hn_g5))))) (zE (oj hn_g1 (oj hn_g2 (oj hn_g3 (oj hn_g4 hn_g5))))) (by rfl) om om (zE (oj hn_g1 (oj hn_g2 (oj hn_g3 (oj hn_g4 hn_g5))))) om (by exact hog) (zE (oj hn_g1 (oj hn_g2 (oj hn_g3 (oj hn_g4 hn_g5))))) (by rfl) (by rfl) (by first|rfl|simp only [Nat.mul_one,List.nil_append,List.cons_append]<;>rfl) (by unfold maxLen;omega) om (by exact gts_push hn gt0) fun gb hn_gb=> ?_
   replace hn_gb:=Heap.ne_of hn_gb
   first|dsimp only [Heap.ne,gh] at hn_gb|dsimp only [Heap.ne] at hn_gb|skip
   have J2:=oj hn_g1 (oj hn_g2 (oj hn_g3 (oj hn_g4 (oj hn_g5 hn_gb))))
   refine yS J2 ?_
   all_goals try(have Z:=J2;(repeat' first|refine yA1 Z ?_|refine zW Z ?_|refine yP Z ?_|refine yN Z ?_|refine zC Z (fun hb=>?_) fun hb=>?_|refine zG Z (fun hb=>?_) fun hb=>?_|refine zD Z (fun hb=>?_) fun hb=>?_);all_goals clear Z)
   refine aw_stop ⟨(sy,xs++[gt0],n+1,some gb),?_⟩
   refine⟨hlt,?_⟩
   and_intros
   all_goals first|rfl|exact List.Sublist.refl _|exact List.Sublist.cons _ (List.Sublist.refl _)|exact True.intro|exact hsy|exact some_ne|exact hlp|(dsimp only;rw [List.length_append,hn];rfl)|(dsimp only;omega)
 all_goals
  have hc:¬(sx.e=0∧(fun s=> !nextR s 2 kClose) sx=true):=by
   first
    |exact fun z=>by rw [show(fun s=> !nextR s 2 kClose) sx=false from hb] at z;exact absurd z.2 (by decide)
    |exact fun z=>hb z.1
  rw [lpS_end hc] at hlp
  subst hlp hn
  dsimp only at*
  refine aw_perm (h':=(g4,.cells 100 3 (ofL [.str (sB nm),.str (sB tp),gs og 7 xs.length]))::(gh og 45 (xs.length*7) (gtsF xs)++[(g3,.cells 100 3 (ofL [.str (sB []),.str (sB []),.nils])),(g2,.cells 64 2 (ofL [.nils,.int .i64 0])),(g1,.cells 64 2 (ofL (rv L sx)))])) (by exact .cons _ (List.perm_append_comm (l₁:=([(g3,.cells 100 3 (ofL [.str (sB []),.str (sB []),.nils])),(g2,.cells 64 2 (ofL [.nils,.int .i64 0])),(g1,.cells 64 2 (ofL (rv L sx)))]:Heap)))) ?_
  refine aw_frzG (j0:=2) (n:=xs.length) (s:=7) (f':=ofL [.str (sB nm),.str (sB tp),gts true xs]) rfl rfl (fun j hj hj3=>by
   match j,hj,hj3 with
   |0,_,_=>rfl
   |1,_,_=>rfl
   |j+2,h1,h2=>exact absurd (show j+2=2 from by omega) h2) hog (fun q _=>hC q) ?_
  all_goals try(have Z:=(oj hn_g1 (oj hn_g2 (oj hn_g3 hn_g4)));(repeat' first|refine yA1 Z ?_|(refine yC2 Z (f6) ?_)|(refine yD2 Z (f6) ?_)|refine zW Z ?_|refine yP Z ?_|refine yN Z ?_|refine zC Z (fun hb=>?_) fun hb=>?_|refine zG Z (fun hb=>?_) fun hb=>?_|refine zD Z (fun hb=>?_) fun hb=>?_);all_goals clear Z)
  refine aw_cw ([(g4,.cells 100 3 (ofL [.str (sB nm),.str (sB tp),gts true xs])),(g1,.cells 64 2 (ofL (rv L (takeR sx 2 kClose).2)))]) [(0,0),(1,0),(2,1),(3,2)] ty_mixed (by kernel_rfl) eI ?_
  have J3:=oj hn_g1 (oj hn_g2 (oj hn_g3 hn_g4))
  refine yG J3 ?_
  refine cw_store rfl rfl rfl rfl rfl (zE J3) (zE J3) (zE J3) (zE J3) (fun _ e=>by cases e) rfl rfl (Nat.le_refl 2) (zE J3) eI ?_ (hm:=.inr ⟨rfl,rfl⟩)
  refine ySG J3 ?_
  refine cw_store (FP':=[]) rfl rfl rfl rfl rfl (zE J3) (zE J3) (zE J3) (zE J3) (fun _ e=>by cases e) rfl rfl (Nat.le_refl 3) rfl has0_nil ?_
  refine ySGT hC J3 ?_
  exact .tup ⟨.agg ⟨ler_txs,.int _ _,trivial⟩,.agg ⟨.str _,.str _,ler_gts,trivial⟩,trivial⟩
end Go.Proofs.YteehccacfedolaaGreat
namespace Go.PN
open Go.AI
theorem con_facBR (x:List RD):Con (facBR x):=by rw [←facBR_eq];exact con_facB x
theorem con_memBR (x:List BS):Con (memBR x):=by rw [←memBR_eq];exact con_memB x
end Go.PN
namespace Go.Proofs.YteehccacfedolaaGreat
open Go.AI Go.PN
attribute [local irreducible] aw Fa Fh DrK
theorem rgroup_fa (L:List TX) (s:PS) (hs:s.l<:+L.map TX.t) (hL:L.length≤1048576) (hw:∀t∈L,t.t.text.length≤1099511627776):Fa Tryz.prog 60 [.agg (rv L s)] (.tup [.agg (rv L (groupR s).2),.agg (grc (groupR s).1)]):=by
 have f1:=rtake_fa L s 0 [] hs om
 have hs1:=takeR_suf hs 0 []
 unfold groupR wordR
 dsimp only
 generalize takeR s 0 []=r1 at*
 obtain⟨nm,s1⟩:=r1
 dsimp only at*
 have f2:=rnext_fa L s1 0 kGreek hs1 om
 have f3:=rtake_fa L s1 0 kGreek hs1 om
 have f4:=rtake_fa L s1 0 kBeta hs1 om
 generalize hg2:(if nextR s1 0 kGreek=true then((1:Int),(takeR s1 0 kGreek).2) else(0,(takeR s1 0 kBeta).2))=gg at*
 have hs2:gg.2.l<:+L.map TX.t:=by
  rw [←hg2]
  split
  ·exact takeR_suf hs1 0 kGreek
  ·exact takeR_suf hs1 0 kBeta
 obtain⟨kd,s2⟩:=gg
 dsimp only at*
 generalize hF:lpS (fun s=> !nextR s 2 kColon) facBR [] s2=F at*
 refine fa_of_body Tryz.func60 rfl rfl (by simp [Tryz.ntmps60]) fun C hC=> ?_
 simp only [initS,Nat.reduceAdd]
 repeat' first|refine yA1 o0 ?_|refine zW o0 ?_|refine yP o0 ?_|refine yN o0 ?_|refine zC o0 (fun hb=>?_) fun hb=>?_|refine zG o0 (fun hb=>?_) fun hb=>?_|refine zD o0 (fun hb=>?_) fun hb=>?_
 refine xB fun g1 hn_g1=>?_
 repeat' first|refine yA1 hn_g1 ?_|refine zW hn_g1 ?_|refine yP hn_g1 ?_|refine yN hn_g1 ?_|refine zC hn_g1 (fun hb=>?_) fun hb=>?_|refine zG hn_g1 (fun hb=>?_) fun hb=>?_|refine zD hn_g1 (fun hb=>?_) fun hb=>?_
 refine yA hn_g1 fun g2 hn_g2=>?_
 all_goals try(have Z:=(oj hn_g1 hn_g2);(repeat' first|refine yA1 Z ?_|refine zW Z ?_|refine yP Z ?_|refine yN Z ?_|refine zC Z (fun hb=>?_) fun hb=>?_|refine zG Z (fun hb=>?_) fun hb=>?_|refine zD Z (fun hb=>?_) fun hb=>?_);all_goals clear Z)
 refine yA (oj hn_g1 hn_g2) fun g3 hn_g3=>?_
 all_goals try(have Z:=(oj hn_g1 (oj hn_g2 hn_g3));(repeat' first|refine yA1 Z ?_|refine zW Z ?_|refine yP Z ?_|refine yN Z ?_|refine zC Z (fun hb=>?_) fun hb=>?_|refine zG Z (fun hb=>?_) fun hb=>?_|refine zD Z (fun hb=>?_) fun hb=>?_);all_goals clear Z)
 refine yA (oj hn_g1 (oj hn_g2 hn_g3)) fun g4 hn_g4=>?_
 all_goals try(have Z:=(oj hn_g1 (oj hn_g2 (oj hn_g3 hn_g4)));(repeat' first|refine yA1 Z ?_|(refine yC2 Z (f1) ?_)|(refine yD2 Z (f1) ?_)|(refine yC2 Z (f2) ?_)|(refine yD2 Z (f2) ?_)|(refine yC2 Z (f3) ?_)|(refine yD2 Z (f3) ?_)|(refine yC2 Z (f4) ?_)|(refine yD2 Z (f4) ?_)|refine zW Z ?_|refine yP Z ?_|refine yN Z ?_|refine zC Z (fun hb=>?_) fun hb=>?_|refine zG Z (fun hb=>?_) fun hb=>?_|refine zD Z (fun hb=>?_) fun hb=>?_);all_goals clear Z)
 all_goals
  have hk:(if nextR s1 0 kGreek=true then(1:Int) else 0)=kd:=by
   have:=congrArg Prod.fst hg2
   rw [apply_ite Prod.fst] at this
   exact this
  have hq:(if nextR s1 0 kGreek=true then(takeR s1 0 kGreek).2 else(takeR s1 0 kBeta).2)=s2:=by
   have:=congrArg Prod.snd hg2
   rw [apply_ite Prod.snd] at this
   exact this
  rw [hb] at hk hq
  first
   |rw [if_pos rfl] at hk hq
   |rw [if_neg (by decide)] at hk hq
  rw [hq]
  clear f1 f2 f3 f4 hg2
  refine aw_lp (fun _:PS×List RD×Nat×Option Nat=>[(1,.c (.optr g1 0)),(2,.c (.optr g2 0)),(3,.c (.optr g3 0)),(4,.c (.optr g4 0))]) (fun x=>[(g4,.cells 78 4 (ofL [.str (sB nm),.int .i64 kd,.nils,gs x.2.2.2 3 x.2.2.1])),(g3,.cells 78 4 (ofL [.str (sB []),.int .i64 0,.nils,.nils])),(g2,.cells 64 2 (ofL [.nils,.int .i64 0])),(g1,.cells 64 2 (ofL (rv L x.1)))]++gh x.2.2.2 43 (x.2.2.1*3) (ratsF x.2.1))
   (fun x=>x.1.l<:+L.map TX.t∧x.2.1.length=x.2.2.1∧(x.2.2.2=none→x.2.2.1=0)∧x.2.2.1+mS x.1≤1048577∧lpS (fun s=> !nextR s 2 kColon) facBR x.2.1 x.1=F) (fun x=>mS x.1) (s2,[],0,none) (zB (oj hn_g1 (oj hn_g2 (oj hn_g3 hn_g4)))) (by rw [←hk];exact List.Sublist.refl _) ⟨hs2,rfl,fun _=>rfl,?_,hF⟩ ?_
  ·have:=hs2.length_le
   rw [List.length_map] at this
   dsimp only
   unfold mS
   split<;>omega
  rintro ⟨sx,xs,n,og⟩ ⟨hsx,hn,hog,hm,hlp⟩
  dsimp only at hsx hn hog hm hlp⊢
  have f5:=rnext_fa L sx 2 kColon hsx om
  have f7:=rnumber_fa L sx hsx om hw
  have f6:=rtake_fa L sx 2 kColon hsx om
  all_goals try(have Z:=(oj hn_g1 (oj hn_g2 (oj hn_g3 hn_g4)));(repeat' first|refine yA1 Z ?_|(refine yC2 Z (f5) ?_)|(refine yD2 Z (f5) ?_)|refine zW Z ?_|refine yP Z ?_|refine yN Z ?_|refine zC Z (fun hb=>?_) fun hb=>?_|refine zG Z (fun hb=>?_) fun hb=>?_|refine zD Z (fun hb=>?_) fun hb=>?_);all_goals clear Z)
  ·rename_i h0
   have hc:(fun s=> !nextR s 2 kColon) sx=true:=hb
   have hst:=lpS_step (c:=(fun s=> !nextR s 2 kColon)) (b:=facBR) (a:=xs) (fun a s h _=>con_facBR a s h) h0 hc
   have hlt:=con_facBR xs sx h0
   rw [hst] at hlp
   have hsy:(facBR xs sx).2.l<:+L.map TX.t:=((rdr_facBR xs).suf sx).trans hsx
   have e1:(facBR xs sx).1=xs++[(numR sx).1]:=rfl
   have e2:(facBR xs sx).2=(numR sx).2:=rfl
   rw [e2] at hlt hsy
   rw [e1,e2] at hlp
   generalize numR sx=y at*
   obtain⟨t,sy⟩:=y
   dsimp only at*
   refine yA (oj hn_g1 (oj hn_g2 (oj hn_g3 hn_g4))) fun g5 hn_g5=>?_
   all_goals try(have Z:=(oj hn_g1 (oj hn_g2 (oj hn_g3 (oj hn_g4 hn_g5))));(repeat' first|refine yA1 Z ?_|(refine yC2 Z (f7) ?_)|(refine yD2 Z (f7) ?_)|refine zW Z ?_|refine yP Z ?_|refine yN Z ?_|refine zC Z (fun hb=>?_) fun hb=>?_|refine zG Z (fun hb=>?_) fun hb=>?_|refine zD Z (fun hb=>?_) fun hb=>?_);all_goals clear Z)
   refine aw_push (pre:=[(g5,.cells 43 3 (ofL (rdc t))),(g4,.cells 78 4 (ofL [.str (sB nm),.int .i64 kd,.nils,gs og 3 n])),(g3,.cells 78 4 (ofL [.str (sB []),.int .i64 0,.nils,.nils])),(g2,.cells 64 2 (ofL [.nils,.int .i64 0])),(g1,.cells 64 2 (ofL (rv L sy)))]) rfl rfl rfl rfl rfl rfl rfl (zE (oj hn_g1 (oj hn_g2 (oj hn_g3 (oj hn_g4 hn_g5))))) (zE (oj hn_g1 (oj hn_g2 (oj hn_g3 (oj hn_g4 hn_g5))))) (by rfl) om om (zE (oj hn_g1 (oj hn_g2 (oj hn_g3 (oj hn_g4 hn_g5))))) om (by exact hog) (zE (oj hn_g1 (oj hn_g2 (oj hn_g3 (oj hn_g4 hn_g5))))) (by rfl) (by rfl) (by first|rfl|simp only [Nat.mul_one,List.nil_append,List.cons_append]<;>rfl) (by unfold maxLen;omega) om (by exact rats_push' hn t) fun gb hn_gb=> ?_
   replace hn_gb:=Heap.ne_of hn_gb
   first|dsimp only [Heap.ne,gh] at hn_gb|dsimp only [Heap.ne] at hn_gb|skip
   have J1:=oj hn_g1 (oj hn_g2 (oj hn_g3 (oj hn_g4 (oj hn_g5 hn_gb))))
   refine yS J1 ?_
   all_goals try(have Z:=J1;(repeat' first|refine yA1 Z ?_|refine zW Z ?_|refine yP Z ?_|refine yN Z ?_|refine zC Z (fun hb=>?_) fun hb=>?_|refine zG Z (fun hb=>?_) fun hb=>?_|refine zD Z (fun hb=>?_) fun hb=>?_);all_goals clear Z)
   refine aw_stop ⟨(sy,xs++[t],n+1,some gb),?_⟩
   refine⟨hlt,?_⟩
   and_intros
   all_goals first|rfl|exact List.Sublist.refl _|exact List.Sublist.cons _ (List.Sublist.refl _)|exact True.intro|exact hsy|exact some_ne|exact hlp|(dsimp only;rw [List.length_append,hn];rfl)|(dsimp only;omega)
  all_goals
   have hc:¬(sx.e=0∧(fun s=> !nextR s 2 kColon) sx=true):=by
    first
     |exact fun z=>by rw [show(fun s=> !nextR s 2 kColon) sx=false from hb] at z;exact absurd z.2 (by decide)
     |exact fun z=>hb z.1
   rw [lpS_end hc] at hlp
   subst hlp hn
   dsimp only at*
   have hs4:=takeR_suf hsx 2 kColon
   generalize hs4e:(takeR sx 2 kColon).2=s4 at*
   generalize hF':lpS (fun s=> !nextR s 2 kSemi) memBR [] s4=F
   clear hF hk hq hb
   refine aw_perm (h':=(g4,.cells 78 4 (ofL [.str (sB nm),.int .i64 kd,.nils,gs og 3 xs.length]))::(gh og 43 (xs.length*3) (ratsF xs)++[(g3,.cells 78 4 (ofL [.str (sB []),.int .i64 0,.nils,.nils])),(g2,.cells 64 2 (ofL [.nils,.int .i64 0])),(g1,.cells 64 2 (ofL (rv L sx)))])) (by exact .cons _ (List.perm_append_comm (l₁:=([(g3,.cells 78 4 (ofL [.str (sB []),.int .i64 0,.nils,.nils])),(g2,.cells 64 2 (ofL [.nils,.int .i64 0])),(g1,.cells 64 2 (ofL (rv L sx)))]:Heap)))) ?_
   refine aw_frzG (j0:=3) (n:=xs.length) (s:=3) (f':=ofL [.str (sB nm),.int .i64 kd,.nils,rats true xs]) rfl rfl (fun j hj hj3=>by
    match j,hj,hj3 with
    |0,_,_=>rfl
    |1,_,_=>rfl
    |2,_,_=>rfl
    |j+3,h1,h2=>exact absurd (show j+3=3 from by omega) h2) hog (fun q _=>hC q) ?_
   clear hog hm hsx
   all_goals try(have Z:=(oj hn_g1 (oj hn_g2 (oj hn_g3 hn_g4)));(repeat' first|refine yA1 Z ?_|(refine yC2 Z (f6) ?_)|(refine yD2 Z (f6) ?_)|refine zW Z ?_|refine yP Z ?_|refine yN Z ?_|refine zC Z (fun hb=>?_) fun hb=>?_|refine zG Z (fun hb=>?_) fun hb=>?_|refine zD Z (fun hb=>?_) fun hb=>?_);all_goals clear Z)
   generalize hxs:xs=fs at*
   clear hxs
   refine aw_lp (fun _:PS×List BS×Nat×Option Nat=>[(1,.c (.optr g1 0)),(2,.c (.optr g2 0)),(3,.c (.optr g3 0)),(4,.c (.optr g4 0))]) (fun x=>[(g4,.cells 78 4 (ofL [.str (sB nm),.int .i64 kd,gs x.2.2.2 1 x.2.2.1,rats true fs])),(g3,.cells 78 4 (ofL [.str (sB []),.int .i64 0,.nils,.nils])),(g2,.cells 64 2 (ofL [.nils,.int .i64 0])),(g1,.cells 64 2 (ofL (rv L x.1)))]++gh x.2.2.2 9 (x.2.2.1*1) (strsF x.2.1))
    (fun x=>x.1.l<:+L.map TX.t∧x.2.1.length=x.2.2.1∧(x.2.2.2=none→x.2.2.1=0)∧x.2.2.1+mS x.1≤1048577∧lpS (fun s=> !nextR s 2 kSemi) memBR x.2.1 x.1=F) (fun x=>mS x.1) (s4,[],0,none) (zB (oj hn_g1 (oj hn_g2 (oj hn_g3 hn_g4)))) zZ ⟨hs4,rfl,fun _=>rfl,?_,hF'⟩ ?_
   ·have:=hs4.length_le
    rw [List.length_map] at this
    dsimp only
    unfold mS
    split<;>omega
   rintro ⟨sx,xs,n,og⟩ ⟨hsx,hn,hog,hm,hlp⟩
   dsimp only at hsx hn hog hm hlp⊢
   have f5:=rnext_fa L sx 2 kSemi hsx om
   have f7:=rtake_fa L sx 0 [] hsx om
   have f8:=rtake_fa L sx 2 kSemi hsx om
   all_goals try(have Z:=(oj hn_g1 (oj hn_g2 (oj hn_g3 hn_g4)));(repeat' first|refine yA1 Z ?_|(refine yC2 Z (f5) ?_)|(refine yD2 Z (f5) ?_)|refine zW Z ?_|refine yP Z ?_|refine yN Z ?_|refine zC Z (fun hb=>?_) fun hb=>?_|refine zG Z (fun hb=>?_) fun hb=>?_|refine zD Z (fun hb=>?_) fun hb=>?_);all_goals clear Z)
   ·rename_i h0
    have hc:(fun s=> !nextR s 2 kSemi) sx=true:=hb
    have hst:=lpS_step (c:=(fun s=> !nextR s 2 kSemi)) (b:=memBR) (a:=xs) (fun a s h _=>con_memBR a s h) h0 hc
    have hlt:=con_memBR xs sx h0
    rw [hst] at hlp
    have hsy:(memBR xs sx).2.l<:+L.map TX.t:=((rdr_memBR xs).suf sx).trans hsx
    have e1:(memBR xs sx).1=xs++[(takeR sx 0 []).1]:=rfl
    have e2:(memBR xs sx).2=(takeR sx 0 []).2:=rfl
    rw [e2] at hlt hsy
    rw [e1,e2] at hlp
    generalize takeR sx 0 []=y at*
    obtain⟨t,sy⟩:=y
    dsimp only at*
    all_goals try(have Z:=(oj hn_g1 (oj hn_g2 (oj hn_g3 hn_g4)));(repeat' first|refine yA1 Z ?_|(refine yC2 Z (f7) ?_)|(refine yD2 Z (f7) ?_)|refine zW Z ?_|refine yP Z ?_|refine yN Z ?_|refine zC Z (fun hb=>?_) fun hb=>?_|refine zG Z (fun hb=>?_) fun hb=>?_|refine zD Z (fun hb=>?_) fun hb=>?_);all_goals clear Z)
    refine aw_push (pre:=[(g4,.cells 78 4 (ofL [.str (sB nm),.int .i64 kd,gs og 1 n,rats true fs])),(g3,.cells 78 4 (ofL [.str (sB []),.int .i64 0,.nils,.nils])),(g2,.cells 64 2 (ofL [.nils,.int .i64 0])),(g1,.cells 64 2 (ofL (rv L sy)))]) rfl rfl rfl rfl rfl rfl rfl (zE (oj hn_g1 (oj hn_g2 (oj hn_g3 hn_g4)))) (zE (oj hn_g1 (oj hn_g2 (oj hn_g3 hn_g4)))) (by rfl) om om (zE (oj hn_g1 (oj hn_g2 (oj hn_g3 hn_g4)))) om (by exact hog) (zE (oj hn_g1 (oj hn_g2 (oj hn_g3 hn_g4)))) (by rfl) (by rfl) (by first|rfl|simp only [Nat.mul_one,List.nil_append,List.cons_append]<;>rfl) (by unfold maxLen;omega) om (by exact strs_push hn t) fun gb hn_gb=> ?_
    replace hn_gb:=Heap.ne_of hn_gb
    first|dsimp only [Heap.ne,gh] at hn_gb|dsimp only [Heap.ne] at hn_gb|skip
    have J2:=oj hn_g1 (oj hn_g2 (oj hn_g3 (oj hn_g4 hn_gb)))
    refine yS J2 ?_
    all_goals try(have Z:=J2;(repeat' first|refine yA1 Z ?_|refine zW Z ?_|refine yP Z ?_|refine yN Z ?_|refine zC Z (fun hb=>?_) fun hb=>?_|refine zG Z (fun hb=>?_) fun hb=>?_|refine zD Z (fun hb=>?_) fun hb=>?_);all_goals clear Z)
    refine aw_stop ⟨(sy,xs++[t],n+1,some gb),?_⟩
    refine⟨hlt,?_⟩
    and_intros
    all_goals first|rfl|exact List.Sublist.refl _|exact List.Sublist.cons _ (List.Sublist.refl _)|exact True.intro|exact hsy|exact some_ne|exact hlp|(dsimp only;rw [List.length_append,hn];rfl)|(dsimp only;omega)
   all_goals
    have hc:¬(sx.e=0∧(fun s=> !nextR s 2 kSemi) sx=true):=by
     first
      |exact fun z=>by rw [show(fun s=> !nextR s 2 kSemi) sx=false from hb] at z;exact absurd z.2 (by decide)
      |exact fun z=>hb z.1
    rw [lpS_end hc] at hlp
    subst hlp hn
    dsimp only at*
    refine aw_perm (h':=(g4,.cells 78 4 (ofL [.str (sB nm),.int .i64 kd,gs og 1 xs.length,rats true fs]))::(gh og 9 (xs.length*1) (strsF xs)++[(g3,.cells 78 4 (ofL [.str (sB []),.int .i64 0,.nils,.nils])),(g2,.cells 64 2 (ofL [.nils,.int .i64 0])),(g1,.cells 64 2 (ofL (rv L sx)))])) (by rw [Nat.mul_one];exact .cons _ (List.perm_append_comm (l₁:=([(g3,.cells 78 4 (ofL [.str (sB []),.int .i64 0,.nils,.nils])),(g2,.cells 64 2 (ofL [.nils,.int .i64 0])),(g1,.cells 64 2 (ofL (rv L sx)))]:Heap)))) ?_
    refine aw_frzG (j0:=2) (n:=xs.length) (s:=1) (f':=ofL [.str (sB nm),.int .i64 kd,strs true xs,rats true fs]) rfl rfl (fun j hj hj3=>by
     match j,hj,hj3 with
     |0,_,_=>rfl
     |1,_,_=>rfl
     |3,_,_=>rfl) hog (fun q _=>hC q) ?_
    all_goals try(have Z:=(oj hn_g1 (oj hn_g2 (oj hn_g3 hn_g4)));(repeat' first|refine yA1 Z ?_|(refine yC2 Z (f8) ?_)|(refine yD2 Z (f8) ?_)|refine zW Z ?_|refine yP Z ?_|refine yN Z ?_|refine zC Z (fun hb=>?_) fun hb=>?_|refine zG Z (fun hb=>?_) fun hb=>?_|refine zD Z (fun hb=>?_) fun hb=>?_);all_goals clear Z)
    refine aw_cw ([(g4,.cells 78 4 (ofL [.str (sB nm),.int .i64 kd,strs true xs,rats true fs])),(g1,.cells 64 2 (ofL (rv L (takeR sx 2 kSemi).2)))]) [(0,0),(1,0),(2,1),(3,2)] ty_mixed (by kernel_rfl) eI ?_
    have J3:=oj hn_g1 (oj hn_g2 (oj hn_g3 hn_g4))
    refine yG J3 ?_
    refine cw_store rfl rfl rfl rfl rfl (zE J3) (zE J3) (zE J3) (zE J3) (fun _ e=>by cases e) rfl rfl (Nat.le_refl 2) (zE J3) eI ?_ (hm:=.inr ⟨rfl,rfl⟩)
    refine ySG J3 ?_
    refine cw_store (FP':=[]) rfl rfl rfl rfl rfl (zE J3) (zE J3) (zE J3) (zE J3) (fun _ e=>by cases e) rfl rfl (Nat.le_refl 4) rfl has0_nil ?_
    refine ySGT hC J3 ?_
    exact .tup ⟨.agg ⟨ler_txs,.int _ _,trivial⟩,.agg ⟨.str _,.int _ _,ler_strs,ler_rats,trivial⟩,trivial⟩
end Go.Proofs.YteehccacfedolaaGreat
namespace Go.PN
open Go.AI
abbrev Wd4:List BS:=[kP,kFail,kRepair,kCost]
def atI (s:PS):Nat→Int
 |0=> -1
 |i+1=>if nextR s 0 (Wd4.getD i []) then(i:Int) else atI s i
def atZ:Option Nat→Int
 |none=> -1
 |some 0=>0
 |some 1=>1
 |some 2=>2
 |some _=>3
theorem atI_4 (s:PS):atI s 4=atZ (atR s):=by
 show(if nextR s 0 kCost then((3:Nat):Int) else if nextR s 0 kRepair then((2:Nat):Int) else if nextR s 0 kFail then((1:Nat):Int) else if nextR s 0 kP then((0:Nat):Int) else-1)=_
 unfold atR
 repeat' split
 all_goals rfl
theorem atR_lt {s:PS} {k:Nat} (h:atR s=some k):k<4:=by
 unfold atR at h
 repeat' split at h
 all_goals first
  |(cases h;done)
  |(injection h with h;omega)
def evN (k:Nat) (bs:List Bool) (x:EvD) (r:PS):(List Bool×EvD)×PS:=if k=0 then((bs.set k true,{x with p:=(numR r).1}),(numR r).2)
 else if k=1 then((bs.set k true,{x with fail:=(numR r).1}),(numR r).2)
 else if k=2 then((bs.set k true,{x with rep:=(numR r).1}),(numR r).2)
 else((bs.set k true,{x with cost:=(wholeR r).1}),(wholeR r).2)
theorem evBR_twice {bs:List Bool} {x:EvD} {s:PS} {k:Nat} (hA:atR s=some k) (hb:bs.getD k false=true):evBR (bs,x) s=((bs,x),failS 6 s):=by
 unfold evBR
 rw [hA]
 exact if_pos hb
theorem evBR_new {bs:List Bool} {x:EvD} {s:PS} {k:Nat} (hA:atR s=some k) (hb:¬bs.getD k false=true):evBR (bs,x) s=evN k bs x (takeR s 0 []).2:=by
 unfold evBR
 rw [hA]
 exact if_neg hb
theorem takeR_err {s:PS} {k:Nat} {w:BS} (h:s.e≠0):(takeR s k w).2=s:=(rdr_tk k w).stk s h
end Go.PN
namespace Go.Proofs.YteehccacfedolaaGreat
open Go.AI Go.PN
attribute [local irreducible] aw Fa Fh DrK
theorem revent_fa (L:List TX) (s:PS) (hs:s.l<:+L.map TX.t) (hL:L.length≤1048576) (hw:∀t∈L,t.t.text.length≤1099511627776):Fa Tryz.prog 56 [.agg (rv L s)] (.tup [.agg (rv L (eventR s).2),.agg (evc (eventR s).1)]):=by
 have f1:=rtake_fa L s 0 [] hs om
 have hs1:=takeR_suf hs 0 []
 unfold eventR wordR
 dsimp only
 generalize takeR s 0 []=r1 at*
 obtain⟨nm,s1⟩:=r1
 dsimp only at*
 generalize hF:lpS (fun s=> !nextR s 2 kSemi) evBR ([false,false,false,false],{ev0 with name:=nm}) s1=F at*
 refine fa_of_body Tryz.func56 rfl rfl (by simp [Tryz.ntmps56]) fun C hC=> ?_
 simp only [initS,Nat.reduceAdd]
 repeat' first|refine yA1 o0 ?_|refine zW o0 ?_|refine yP o0 ?_|refine yN o0 ?_|refine zC o0 (fun hb=>?_) fun hb=>?_|refine zG o0 (fun hb=>?_) fun hb=>?_|refine zD o0 (fun hb=>?_) fun hb=>?_
 refine xB fun g1 hn_g1=>?_
 repeat' first|refine yA1 hn_g1 ?_|refine zW hn_g1 ?_|refine yP hn_g1 ?_|refine yN hn_g1 ?_|refine zC hn_g1 (fun hb=>?_) fun hb=>?_|refine zG hn_g1 (fun hb=>?_) fun hb=>?_|refine zD hn_g1 (fun hb=>?_) fun hb=>?_
 refine yA hn_g1 fun g2 hn_g2=>?_
 all_goals try(have Z:=(oj hn_g1 hn_g2);(repeat' first|refine yA1 Z ?_|refine zW Z ?_|refine yP Z ?_|refine yN Z ?_|refine zC Z (fun hb=>?_) fun hb=>?_|refine zG Z (fun hb=>?_) fun hb=>?_|refine zD Z (fun hb=>?_) fun hb=>?_);all_goals clear Z)
 refine yA (oj hn_g1 hn_g2) fun g3 hn_g3=>?_
 all_goals try(have Z:=(oj hn_g1 (oj hn_g2 hn_g3));(repeat' first|refine yA1 Z ?_|refine zW Z ?_|refine yP Z ?_|refine yN Z ?_|refine zC Z (fun hb=>?_) fun hb=>?_|refine zG Z (fun hb=>?_) fun hb=>?_|refine zD Z (fun hb=>?_) fun hb=>?_);all_goals clear Z)
 refine yA (oj hn_g1 (oj hn_g2 hn_g3)) fun g4 hn_g4=>?_
 refine aw_convR (f':=ofL (evc ev0)) (fun j hj S w u hr=>by
  match j,hj with
  |0,_=>exact hr
  |1,_=>exact hr
  |2,_=>exact repC_nil hr
  |3,_=>exact repC_nil hr
  |4,_=>exact hr
  |5,_=>exact repC_nil hr
  |6,_=>exact repC_nil hr
  |7,_=>exact hr
  |8,_=>exact repC_nil hr
  |9,_=>exact repC_nil hr
  |10,_=>exact hr) ?_
 all_goals try(have Z:=(oj hn_g1 (oj hn_g2 (oj hn_g3 hn_g4)));(repeat' first|refine yA1 Z ?_|refine zW Z ?_|refine yP Z ?_|refine yN Z ?_|refine zC Z (fun hb=>?_) fun hb=>?_|refine zG Z (fun hb=>?_) fun hb=>?_|refine zD Z (fun hb=>?_) fun hb=>?_);all_goals clear Z)
 refine yA (oj hn_g1 (oj hn_g2 (oj hn_g3 hn_g4))) fun g5 hn_g5=>?_
 all_goals try(have Z:=(oj hn_g1 (oj hn_g2 (oj hn_g3 (oj hn_g4 hn_g5))));(repeat' first|refine yA1 Z ?_|(refine yC2 Z (f1) ?_)|(refine yD2 Z (f1) ?_)|refine zW Z ?_|refine yP Z ?_|refine yN Z ?_|refine zC Z (fun hb=>?_) fun hb=>?_|refine zG Z (fun hb=>?_) fun hb=>?_|refine zD Z (fun hb=>?_) fun hb=>?_);all_goals clear Z)
 refine aw_lp (fun _:(Bool×Bool×Bool×Bool)×(RD×RD×RD×Int)×PS=>[(1,.c (.optr g1 0)),(2,.c (.optr g2 0)),(3,.c (.optr g3 0)),(4,.c (.optr g4 0)),(5,.c (.optr g5 0))]) (fun x=>[(g5,.cells 155 4 (ofL [.bool x.1.1,.bool x.1.2.1,.bool x.1.2.2.1,.bool x.1.2.2.2])),(g4,.cells 94 11 (ofL (evc ⟨nm,x.2.1.1,x.2.1.2.1,x.2.1.2.2.1,x.2.1.2.2.2⟩))),(g3,.cells 94 11 (ofL [.str (sB []),.bool false,.nils,.nils,.bool false,.nils,.nils,.bool false,.nils,.nils,.int .i64 0])),(g2,.cells 64 2 (ofL [.nils,.int .i64 0])),(g1,.cells 64 2 (ofL (rv L x.2.2)))])
  (fun x=>x.2.2.l<:+L.map TX.t∧lpS (fun s=> !nextR s 2 kSemi) evBR ([x.1.1,x.1.2.1,x.1.2.2.1,x.1.2.2.2],⟨nm,x.2.1.1,x.2.1.2.1,x.2.1.2.2.1,x.2.1.2.2.2⟩) x.2.2=F) (fun x=>mS x.2.2) ((false,false,false,false),(rd0,rd0,rd0,0),s1) (zB (oj hn_g1 (oj hn_g2 (oj hn_g3 (oj hn_g4 hn_g5))))) zZ ⟨hs1,hF⟩ ?_
 rintro ⟨⟨ba,bb,bc,bd⟩,⟨xp,xf,xr,xc⟩,sx⟩ ⟨hsx,hlp⟩
 dsimp only at hsx hlp⊢
 have f5:=rnext_fa L sx 2 kSemi hsx om
 have f6:=rtake_fa L sx 2 kSemi hsx om
 have f7:=rtake_fa L sx 0 [] hsx om
 all_goals try(have Z:=(oj hn_g1 (oj hn_g2 (oj hn_g3 (oj hn_g4 hn_g5))));(repeat' first|refine yA1 Z ?_|(refine yC2 Z (f5) ?_)|(refine yD2 Z (f5) ?_)|refine zW Z ?_|refine yP Z ?_|refine yN Z ?_|refine zC Z (fun hb=>?_) fun hb=>?_|refine zG Z (fun hb=>?_) fun hb=>?_|refine zD Z (fun hb=>?_) fun hb=>?_);all_goals clear Z)
 ·rename_i h0
  have hc:(fun s=> !nextR s 2 kSemi) sx=true:=hb
  have hst:=lpS_step (c:=(fun s=> !nextR s 2 kSemi)) (b:=evBR) (a:=([ba,bb,bc,bd],⟨nm,xp,xf,xr,xc⟩)) (fun a s h _=>con_evBR a s h) h0 hc
  have hlt:=con_evBR ([ba,bb,bc,bd],⟨nm,xp,xf,xr,xc⟩) sx h0
  refine aw_buildSlice (xs:=Wd4.map fun w=>Operand.const (.string (sB w))) (cells:=Wd4.map fun w=>.str (sB w)) rfl rfl rfl (zE (oj hn_g1 (oj hn_g2 (oj hn_g3 (oj hn_g4 hn_g5))))) (by refine yS (oj hn_g1 (oj hn_g2 (oj hn_g3 (oj hn_g4 hn_g5)))) ?_;rfl) rfl (by decide) (by decide) (by intro x hx;simp only [Wd4,List.map_cons,List.map_nil,List.mem_cons,List.not_mem_nil,or_false] at hx;rcases hx with rfl|rfl|rfl|rfl<;>exact⟨rfl,rfl,rfl⟩) rfl fun g23 hn_g23=> ?_
  replace hn_g23:=Heap.ne_of hn_g23
  dsimp only [Heap.ne] at hn_g23
  have J1:=oj hn_g1 (oj hn_g2 (oj hn_g3 (oj hn_g4 (oj hn_g5 hn_g23))))
  refine yS J1 ?_
  refine aw_frzT (t:=23) (strsF Wd4) (zE J1) (zE J1) (by decide) (hC g23) (fun j hj=>by
   match j,hj with
   |0,_=>rfl
   |1,_=>rfl
   |2,_=>rfl
   |3,_=>rfl) rfl (zE J1) ?_
  refine yS J1 ?_
  all_goals try(have Z:=J1;(repeat' first|refine yA1 Z ?_|refine zW Z ?_|refine yP Z ?_|refine yN Z ?_|refine zC Z (fun hb=>?_) fun hb=>?_|refine zG Z (fun hb=>?_) fun hb=>?_|refine zD Z (fun hb=>?_) fun hb=>?_);all_goals clear Z)
  refine aw_lp (fun i:Nat=>[(1,.c (.optr g1 0)),(2,.c (.optr g2 0)),(3,.c (.optr g3 0)),(4,.c (.optr g4 0)),(5,.c (.optr g5 0)),(6,.c (.int .i64 (atI sx i))),(23,.c (.row true 1 4 (strsF Wd4))),(24,.c (.int .i64 ((4:Nat):Int))),(25,.c (.int .i64 i))]) (fun _=>[(g5,.cells 155 4 (ofL [.bool ba,.bool bb,.bool bc,.bool bd])),(g4,.cells 94 11 (ofL (evc ⟨nm,xp,xf,xr,xc⟩))),(g3,.cells 94 11 (ofL [.str (sB []),.bool false,.nils,.nils,.bool false,.nils,.nils,.bool false,.nils,.nils,.int .i64 0])),(g2,.cells 64 2 (ofL [.nils,.int .i64 0])),(g1,.cells 64 2 (ofL (rv L sx)))]) (fun i=>i≤4) (fun i=>4-i) 0 (zB J1) zZ (Nat.zero_le _) ?_
  rintro i hi
  by_cases hi4:i<4
  ·have d4:decide (i<4)=true:=decide_eq_true hi4
   have f8:=rnext_fa L sx 0 (Wd4.getD i []) hsx om
   all_goals try(have Z:=(oj hn_g1 (oj hn_g2 (oj hn_g3 (oj hn_g4 (oj hn_g5 (oj hn_g23 d4))))));(repeat' first|refine yA1 Z ?_|(refine yC2 Z (f8) ?_)|(refine yD2 Z (f8) ?_)|refine zW Z ?_|refine yP Z ?_|refine yN Z ?_|refine zC Z (fun hb=>?_) fun hb=>?_|refine zG Z (fun hb=>?_) fun hb=>?_|refine zD Z (fun hb=>?_) fun hb=>?_);all_goals clear Z)
   all_goals
    refine aw_stop ⟨i+1,by omega,?_⟩
    have hk:atI sx (i+1)=if nextR sx 0 (Wd4.getD i []) then(i:Int) else atI sx i:=rfl
    rw [hb] at hk
    first
     |rw [if_pos rfl] at hk
     |rw [if_neg (by decide)] at hk
    rw [hk]
    and_intros
    all_goals first|rfl|exact List.Sublist.refl _|exact True.intro|omega
  obtain rfl:i=4:=by omega
  have d4:decide (4<4)=false:=by decide
  rw [atI_4]
  have hsa:=takeR_suf hsx 0 []
  cases hA:atR sx with
  |none=>
   have hB:evBR ([ba,bb,bc,bd],⟨nm,xp,xf,xr,xc⟩) sx=(([ba,bb,bc,bd],⟨nm,xp,xf,xr,xc⟩),failS (if sx.l=[] then 20 else 2) sx):=by unfold evBR;rw [hA]
   rw [show atZ none= -1 from rfl]
   all_goals try(have Z:=(oj hn_g1 (oj hn_g2 (oj hn_g3 (oj hn_g4 (oj hn_g5 (oj hn_g23 d4))))));(repeat' first|refine yA1 Z ?_|refine zW Z ?_|refine yP Z ?_|refine yN Z ?_|refine zC Z (fun hb=>?_) fun hb=>?_|refine zG Z (fun hb=>?_) fun hb=>?_|refine zD Z (fun hb=>?_) fun hb=>?_);all_goals clear Z)
   ·have he:sx.l=[]:=by rw [←List.length_eq_zero_iff,←tlX_len hsx];exact hb
    rw [if_pos he] at hB
    have f9:=rfail_fa L sx 20
    refine aw_cw ([(g4,.cells 94 11 (ofL (evc ⟨nm,xp,xf,xr,xc⟩))),(g1,.cells 64 2 (ofL (rv L sx)))]) [(0,0),(1,0),(2,0),(3,1),(4,2)] ty_mixed (by kernel_rfl) eI ?_
    have J2:=oj hn_g1 (oj hn_g2 (oj hn_g3 (oj hn_g4 (oj hn_g5 (oj hn_g23 d4)))))
    refine yG J2 ?_
    refine cw_callq rfl f9 rfl rfl rfl (fun _ _=>(zL J2)) ?_
    refine ySG J2 ?_
    refine cw_store rfl rfl rfl rfl rfl (zE J2) (zE J2) (zE J2) (zE J2) (fun _ e=>by cases e) rfl rfl (Nat.le_refl 2) (zE J2) eI ?_ (hm:=.inr ⟨rfl,rfl⟩)
    refine ySG J2 ?_
    refine cw_store (FP':=[]) rfl rfl rfl rfl rfl (zE J2) (zE J2) (zE J2) (zE J2) (fun _ e=>by cases e) rfl rfl (Nat.le_refl 11) rfl has0_nil ?_
    refine ySGT hC J2 ?_
    have hfe:(failS 20 sx).e≠0:=by
     rw [failS_e h0]
     exact(by decide:(20:Int)≠0)
    rw [←hlp,hst,hB,lpS_end (fun z=>hfe z.1),takeR_err hfe]
    exact .tup ⟨.agg ⟨ler_txs,.int _ _,trivial⟩,.agg ⟨.str _,.bool _,ler_ws,ler_ws,.bool _,ler_ws,ler_ws,.bool _,ler_ws,ler_ws,.int _ _,trivial⟩,trivial⟩
   ·have he:¬sx.l=[]:=by rw [←List.length_eq_zero_iff,←tlX_len hsx];exact hb
    rw [if_neg he] at hB
    have f9:=rfail_fa L sx 2
    refine aw_cw ([(g4,.cells 94 11 (ofL (evc ⟨nm,xp,xf,xr,xc⟩))),(g1,.cells 64 2 (ofL (rv L sx)))]) [(0,0),(1,0),(2,0),(3,1),(4,2)] ty_mixed (by kernel_rfl) eI ?_
    have J3:=oj hn_g1 (oj hn_g2 (oj hn_g3 (oj hn_g4 (oj hn_g5 (oj hn_g23 d4)))))
    refine yG J3 ?_
    refine cw_callq rfl f9 rfl rfl rfl (fun _ _=>(zL J3)) ?_
    refine ySG J3 ?_
    refine cw_store rfl rfl rfl rfl rfl (zE J3) (zE J3) (zE J3) (zE J3) (fun _ e=>by cases e) rfl rfl (Nat.le_refl 2) (zE J3) eI ?_ (hm:=.inr ⟨rfl,rfl⟩)
    refine ySG J3 ?_
    refine cw_store (FP':=[]) rfl rfl rfl rfl rfl (zE J3) (zE J3) (zE J3) (zE J3) (fun _ e=>by cases e) rfl rfl (Nat.le_refl 11) rfl has0_nil ?_
    refine ySGT hC J3 ?_
    have hfe:(failS 2 sx).e≠0:=by
     rw [failS_e h0]
     exact(by decide:(2:Int)≠0)
    rw [←hlp,hst,hB,lpS_end (fun z=>hfe z.1),takeR_err hfe]
    exact .tup ⟨.agg ⟨ler_txs,.int _ _,trivial⟩,.agg ⟨.str _,.bool _,ler_ws,ler_ws,.bool _,ler_ws,ler_ws,.bool _,ler_ws,ler_ws,.int _ _,trivial⟩,trivial⟩
  |some k=>
   have hk4:=atR_lt hA
   by_cases hbit:[ba,bb,bc,bd].getD k false=true
   ·have hB:=evBR_twice (x:=⟨nm,xp,xf,xr,xc⟩) hA hbit
    obtain rfl|rfl|rfl|rfl:k=0∨k=1∨k=2∨k=3:=by omega
    all_goals
     first
      |(replace hbit:ba=true:=hbit;subst hbit)
      |(replace hbit:bb=true:=hbit;subst hbit)
      |(replace hbit:bc=true:=hbit;subst hbit)
      |(replace hbit:bd=true:=hbit;subst hbit)
     first
      |rw [show atZ (some 0)=0 from rfl]
      |rw [show atZ (some 1)=1 from rfl]
      |rw [show atZ (some 2)=2 from rfl]
      |rw [show atZ (some 3)=3 from rfl]
     all_goals try(have Z:=(oj hn_g1 (oj hn_g2 (oj hn_g3 (oj hn_g4 (oj hn_g5 (oj hn_g23 d4))))));(repeat' first|refine yA1 Z ?_|refine zW Z ?_|refine yP Z ?_|refine yN Z ?_|refine zC Z (fun hb=>?_) fun hb=>?_|refine zG Z (fun hb=>?_) fun hb=>?_|refine zD Z (fun hb=>?_) fun hb=>?_);all_goals clear Z)
     first
      |refine aw_pok (POk.indexArr (el:=4) (n:=4) (i:=0) (by kernel_rfl) (by kernel_rfl) (zE (oj hn_g1 (oj hn_g2 (oj hn_g3 (oj hn_g4 (oj hn_g5 (oj hn_g23 d4))))))) (zE (oj hn_g1 (oj hn_g2 (oj hn_g3 (oj hn_g4 (oj hn_g5 (oj hn_g23 d4))))))) (by decide)) rfl rfl ?_
      |refine aw_pok (POk.indexArr (el:=4) (n:=4) (i:=1) (by kernel_rfl) (by kernel_rfl) (zE (oj hn_g1 (oj hn_g2 (oj hn_g3 (oj hn_g4 (oj hn_g5 (oj hn_g23 d4))))))) (zE (oj hn_g1 (oj hn_g2 (oj hn_g3 (oj hn_g4 (oj hn_g5 (oj hn_g23 d4))))))) (by decide)) rfl rfl ?_
      |refine aw_pok (POk.indexArr (el:=4) (n:=4) (i:=2) (by kernel_rfl) (by kernel_rfl) (zE (oj hn_g1 (oj hn_g2 (oj hn_g3 (oj hn_g4 (oj hn_g5 (oj hn_g23 d4))))))) (zE (oj hn_g1 (oj hn_g2 (oj hn_g3 (oj hn_g4 (oj hn_g5 (oj hn_g23 d4))))))) (by decide)) rfl rfl ?_
      |refine aw_pok (POk.indexArr (el:=4) (n:=4) (i:=3) (by kernel_rfl) (by kernel_rfl) (zE (oj hn_g1 (oj hn_g2 (oj hn_g3 (oj hn_g4 (oj hn_g5 (oj hn_g23 d4))))))) (zE (oj hn_g1 (oj hn_g2 (oj hn_g3 (oj hn_g4 (oj hn_g5 (oj hn_g23 d4))))))) (by decide)) rfl rfl ?_
     have J4:=oj hn_g1 (oj hn_g2 (oj hn_g3 (oj hn_g4 (oj hn_g5 (oj hn_g23 d4)))))
     refine yS J4 ?_
     all_goals try(have Z:=J4;(repeat' first|refine yA1 Z ?_|refine zW Z ?_|refine yP Z ?_|refine yN Z ?_|refine zC Z (fun hb=>?_) fun hb=>?_|refine zG Z (fun hb=>?_) fun hb=>?_|refine zD Z (fun hb=>?_) fun hb=>?_);all_goals clear Z)
     have f9:=rfail_fa L sx 6
     refine aw_cw ([(g4,.cells 94 11 (ofL (evc ⟨nm,xp,xf,xr,xc⟩))),(g1,.cells 64 2 (ofL (rv L sx)))]) [(0,0),(1,0),(2,0),(3,1),(4,2)] ty_mixed (by kernel_rfl) eI ?_
     refine yG J4 ?_
     refine cw_callq rfl f9 rfl rfl rfl (fun _ _=>(zL J4)) ?_
     refine ySG J4 ?_
     refine cw_store rfl rfl rfl rfl rfl (zE J4) (zE J4) (zE J4) (zE J4) (fun _ e=>by cases e) rfl rfl (Nat.le_refl 2) (zE J4) eI ?_ (hm:=.inr ⟨rfl,rfl⟩)
     refine ySG J4 ?_
     refine cw_store (FP':=[]) rfl rfl rfl rfl rfl (zE J4) (zE J4) (zE J4) (zE J4) (fun _ e=>by cases e) rfl rfl (Nat.le_refl 11) rfl has0_nil ?_
     refine ySGT hC J4 ?_
     have hfe:(failS 6 sx).e≠0:=by
      rw [failS_e h0]
      exact(by decide:(6:Int)≠0)
     rw [←hlp,hst,hB,lpS_end (fun z=>hfe z.1),takeR_err hfe]
     exact .tup ⟨.agg ⟨ler_txs,.int _ _,trivial⟩,.agg ⟨.str _,.bool _,ler_ws,ler_ws,.bool _,ler_ws,ler_ws,.bool _,ler_ws,ler_ws,.int _ _,trivial⟩,trivial⟩
   ·have hB:=evBR_new (x:=⟨nm,xp,xf,xr,xc⟩) hA hbit
    have hbit:=Bool.eq_false_iff.2 hbit
    obtain rfl|rfl|rfl|rfl:k=0∨k=1∨k=2∨k=3:=by omega
    all_goals
     first
      |(replace hbit:ba=false:=hbit;subst hbit)
      |(replace hbit:bb=false:=hbit;subst hbit)
      |(replace hbit:bc=false:=hbit;subst hbit)
      |(replace hbit:bd=false:=hbit;subst hbit)
     first
      |rw [show atZ (some 0)=0 from rfl]
      |rw [show atZ (some 1)=1 from rfl]
      |rw [show atZ (some 2)=2 from rfl]
      |rw [show atZ (some 3)=3 from rfl]
     rw [hst,hB] at hlp
     rw [hB] at hlt
     generalize takeR sx 0 []=y at*
     obtain⟨w,sa⟩:=y
     dsimp only at*
     have g8:=rnumber_fa L sa hsa om hw
     have g9:=rwhole_fa L sa hsa om hw
     have hn1:(numR sa).2.l<:+L.map TX.t:=by rw [numR_eq];exact(rdr_num.suf sa).trans hsa
     have hn2:(wholeR sa).2.l<:+L.map TX.t:=by rw [wholeR_eq];exact(rdr_whole.suf sa).trans hsa
     all_goals try(have Z:=(oj hn_g1 (oj hn_g2 (oj hn_g3 (oj hn_g4 (oj hn_g5 (oj hn_g23 d4))))));(repeat' first|refine yA1 Z ?_|refine zW Z ?_|refine yP Z ?_|refine yN Z ?_|refine zC Z (fun hb=>?_) fun hb=>?_|refine zG Z (fun hb=>?_) fun hb=>?_|refine zD Z (fun hb=>?_) fun hb=>?_);all_goals clear Z)
     first
      |refine aw_pok (POk.indexArr (el:=4) (n:=4) (i:=0) (by kernel_rfl) (by kernel_rfl) (zE (oj hn_g1 (oj hn_g2 (oj hn_g3 (oj hn_g4 (oj hn_g5 (oj hn_g23 d4))))))) (zE (oj hn_g1 (oj hn_g2 (oj hn_g3 (oj hn_g4 (oj hn_g5 (oj hn_g23 d4))))))) (by decide)) rfl rfl ?_
      |refine aw_pok (POk.indexArr (el:=4) (n:=4) (i:=1) (by kernel_rfl) (by kernel_rfl) (zE (oj hn_g1 (oj hn_g2 (oj hn_g3 (oj hn_g4 (oj hn_g5 (oj hn_g23 d4))))))) (zE (oj hn_g1 (oj hn_g2 (oj hn_g3 (oj hn_g4 (oj hn_g5 (oj hn_g23 d4))))))) (by decide)) rfl rfl ?_
      |refine aw_pok (POk.indexArr (el:=4) (n:=4) (i:=2) (by kernel_rfl) (by kernel_rfl) (zE (oj hn_g1 (oj hn_g2 (oj hn_g3 (oj hn_g4 (oj hn_g5 (oj hn_g23 d4))))))) (zE (oj hn_g1 (oj hn_g2 (oj hn_g3 (oj hn_g4 (oj hn_g5 (oj hn_g23 d4))))))) (by decide)) rfl rfl ?_
      |refine aw_pok (POk.indexArr (el:=4) (n:=4) (i:=3) (by kernel_rfl) (by kernel_rfl) (zE (oj hn_g1 (oj hn_g2 (oj hn_g3 (oj hn_g4 (oj hn_g5 (oj hn_g23 d4))))))) (zE (oj hn_g1 (oj hn_g2 (oj hn_g3 (oj hn_g4 (oj hn_g5 (oj hn_g23 d4))))))) (by decide)) rfl rfl ?_
     have J5:=oj hn_g1 (oj hn_g2 (oj hn_g3 (oj hn_g4 (oj hn_g5 (oj hn_g23 d4)))))
     refine yS J5 ?_
     all_goals try(have Z:=J5;(repeat' first|refine yA1 Z ?_|refine zW Z ?_|refine yP Z ?_|refine yN Z ?_|refine zC Z (fun hb=>?_) fun hb=>?_|refine zG Z (fun hb=>?_) fun hb=>?_|refine zD Z (fun hb=>?_) fun hb=>?_);all_goals clear Z)
     first
      |refine aw_pok (POk.indexArr (el:=4) (n:=4) (i:=0) (by kernel_rfl) (by kernel_rfl) (zE J5) (zE J5) (by decide)) rfl rfl ?_
      |refine aw_pok (POk.indexArr (el:=4) (n:=4) (i:=1) (by kernel_rfl) (by kernel_rfl) (zE J5) (zE J5) (by decide)) rfl rfl ?_
      |refine aw_pok (POk.indexArr (el:=4) (n:=4) (i:=2) (by kernel_rfl) (by kernel_rfl) (zE J5) (zE J5) (by decide)) rfl rfl ?_
      |refine aw_pok (POk.indexArr (el:=4) (n:=4) (i:=3) (by kernel_rfl) (by kernel_rfl) (zE J5) (zE J5) (by decide)) rfl rfl ?_
     refine yS J5 ?_
     all_goals try(have Z:=J5;(repeat' first|refine yA1 Z ?_|(refine yC2 Z (f7) ?_)|(refine yD2 Z (f7) ?_)|(refine yC2 Z (g8) ?_)|(refine yD2 Z (g8) ?_)|(refine yC2 Z (g9) ?_)|(refine yD2 Z (g9) ?_)|refine zW Z ?_|refine yP Z ?_|refine yN Z ?_|refine zC Z (fun hb=>?_) fun hb=>?_|refine zG Z (fun hb=>?_) fun hb=>?_|refine zD Z (fun hb=>?_) fun hb=>?_);all_goals clear Z)
     first
      |exact aw_stop ⟨((true,bb,bc,bd),((numR sa).1,xf,xr,xc),(numR sa).2),hlt,(zB J5),zZ,hn1,hlp⟩
      |exact aw_stop ⟨((ba,true,bc,bd),(xp,(numR sa).1,xr,xc),(numR sa).2),hlt,(zB J5),zZ,hn1,hlp⟩
      |exact aw_stop ⟨((ba,bb,true,bd),(xp,xf,(numR sa).1,xc),(numR sa).2),hlt,(zB J5),zZ,hn1,hlp⟩
      |exact aw_stop ⟨((ba,bb,bc,true),(xp,xf,xr,(wholeR sa).1),(wholeR sa).2),hlt,(zB J5),zZ,hn2,hlp⟩
 all_goals
  have hc:¬(sx.e=0∧(fun s=> !nextR s 2 kSemi) sx=true):=by
   first
    |exact fun z=>by rw [show(fun s=> !nextR s 2 kSemi) sx=false from hb] at z;exact absurd z.2 (by decide)
    |exact fun z=>hb z.1
  rw [lpS_end hc] at hlp
  subst hlp
  dsimp only at*
  all_goals try(have Z:=(oj hn_g1 (oj hn_g2 (oj hn_g3 (oj hn_g4 hn_g5))));(repeat' first|refine yA1 Z ?_|(refine yC2 Z (f6) ?_)|(refine yD2 Z (f6) ?_)|refine zW Z ?_|refine yP Z ?_|refine yN Z ?_|refine zC Z (fun hb=>?_) fun hb=>?_|refine zG Z (fun hb=>?_) fun hb=>?_|refine zD Z (fun hb=>?_) fun hb=>?_);all_goals clear Z)
  refine aw_cw ([(g4,.cells 94 11 (ofL [.str (sB nm),.bool xp.neg,ws true xp.num,ws true xp.den,.bool xf.neg,ws true xf.num,ws true xf.den,.bool xr.neg,ws true xr.num,ws true xr.den,.int .i64 xc])),(g1,.cells 64 2 (ofL (rv L (takeR sx 2 kSemi).2)))]) [(0,0),(1,0),(2,1),(3,2)] ty_mixed (by kernel_rfl) eI ?_
  have J6:=oj hn_g1 (oj hn_g2 (oj hn_g3 (oj hn_g4 hn_g5)))
  refine yG J6 ?_
  refine cw_store rfl rfl rfl rfl rfl (zE J6) (zE J6) (zE J6) (zE J6) (fun _ e=>by cases e) rfl rfl (Nat.le_refl 2) (zE J6) eI ?_ (hm:=.inr ⟨rfl,rfl⟩)
  refine ySG J6 ?_
  refine cw_store (FP':=[]) rfl rfl rfl rfl rfl (zE J6) (zE J6) (zE J6) (zE J6) (fun _ e=>by cases e) rfl rfl (Nat.le_refl 11) rfl has0_nil ?_
  refine ySGT hC J6 ?_
  exact .tup ⟨.agg ⟨ler_txs,.int _ _,trivial⟩,.agg ⟨.str _,.bool _,ler_ws,ler_ws,.bool _,ler_ws,ler_ws,.bool _,ler_ws,ler_ws,.int _ _,trivial⟩,trivial⟩
end Go.Proofs.YteehccacfedolaaGreat
namespace Go.PN
open Go.AI
theorem solid_gs {o:Option Nat} {s n:Nat}:(gs o s n).solid=true:=by cases o<;>rfl
theorem solid_mdg {m:MdD} {o:Og}:(mdg m o).all CV.solid=true:=by
 simp only [mdg,List.all_cons,List.all_nil,solid_gs]
 rfl
end Go.PN
namespace Go.Proofs.YteehccacfedolaaGreat
open Go.AI Go.PN
attribute [local irreducible] aw Fa Fh DrK
theorem rstat_fh (L:List TX) (s:PS) (m:MdD) (o:Og) (w:BS) (hs:s.l<:+L.map TX.t) (hL:L.length≤1048576) (hw:∀t∈L,t.t.text.length≤1099511627776) (ho:OgOk m o) (hb':MdSm m 1048576):Fh Tryz.prog 22 (mdT m o) [.agg (rv L s),.agg (mdg m o),.c (.str (sB w))] (fun x h=>∃o',OgOk (statR m w s).1 o'∧h=mdT (statR m w s).1 o'∧x=.tup [.agg (rv L (statR m w s).2),.agg (mdg (statR m w s).1 o')]):=by
 have i0:=revent_fa L s hs hL hw
 have i1:=rhouse_fa L s hs om
 have i2:=rgate_fa L s hs hL hw
 have i3:=rpage_fa L s hs hL hw
 have i4:=rgroup_fa L s hs hL hw
 have i5:=rphase_fa L s hs hL hw
 have i6:=rfail_fa L s 2
 refine fh_of_body Tryz.func22 rfl rfl (by simp [Tryz.ntmps22]) fun C hC=> ?_
 simp only [initS,Nat.reduceAdd]
 repeat' first|refine yA1 o0 ?_|refine zW o0 ?_|refine yP o0 ?_|refine yN o0 ?_|refine zC o0 (fun hb=>?_) fun hb=>?_|refine zG o0 (fun hb=>?_) fun hb=>?_|refine zD o0 (fun hb=>?_) fun hb=>?_
 refine xB fun g3 hn_g3=>?_
 repeat' first|refine yA1 hn_g3 ?_|refine zW hn_g3 ?_|refine yP hn_g3 ?_|refine yN hn_g3 ?_|refine zC hn_g3 (fun hb=>?_) fun hb=>?_|refine zG hn_g3 (fun hb=>?_) fun hb=>?_|refine zD hn_g3 (fun hb=>?_) fun hb=>?_
 refine aw_box (v:=.agg (mdg m o)) rfl rfl rfl (zE hn_g3) (fun _ e=>by cases e) (solid_mdg (m:=m) (o:=o)) fun g4 hn_g4=> ?_
 replace hn_g4:=Heap.ne_of hn_g4
 simp only [Heap.ne] at hn_g4
 have J1:=oj hn_g3 hn_g4
 refine yS J1 ?_
 all_goals try(have Z:=J1;(repeat' first|refine yA1 Z ?_|refine zW Z ?_|refine yP Z ?_|refine yN Z ?_|refine zC Z (fun hb=>?_) fun hb=>?_|refine zG Z (fun hb=>?_) fun hb=>?_|refine zD Z (fun hb=>?_) fun hb=>?_);all_goals clear Z)
 refine yA J1 fun g6 hn_g6=>?_
 all_goals try(have Z:=(oj hn_g3 (oj hn_g4 hn_g6));(repeat' first|refine yA1 Z ?_|refine zW Z ?_|refine yP Z ?_|refine yN Z ?_|refine zC Z (fun hb=>?_) fun hb=>?_|refine zG Z (fun hb=>?_) fun hb=>?_|refine zD Z (fun hb=>?_) fun hb=>?_);all_goals clear Z)
 refine yA (oj hn_g3 (oj hn_g4 hn_g6)) fun g7 hn_g7=>?_
 all_goals try(have Z:=(oj hn_g3 (oj hn_g4 (oj hn_g6 hn_g7)));(repeat' first|refine yA1 Z ?_|(refine yC2 Z (i6) ?_)|(refine yD2 Z (i6) ?_)|refine zW Z ?_|refine yP Z ?_|refine yN Z ?_|refine zC Z (fun hb=>?_) fun hb=>?_|refine zG Z (fun hb=>?_) fun hb=>?_|refine zD Z (fun hb=>?_) fun hb=>?_);all_goals clear Z)
 ·have hq:w=kEvent:=by assumption
  have hB:statR m w s=({m with events:=m.events++[(eventR s).1]},(eventR s).2):=by rw [hq];rfl
  rw [hB]
  clear hB J1
  generalize eventR s=y at*
  obtain⟨v,sy⟩:=y
  dsimp only at*
  refine yA (oj hn_g3 (oj hn_g4 (oj hn_g6 hn_g7))) fun g8 hn_g8=>?_
  all_goals try(have Z:=(oj hn_g3 (oj hn_g4 (oj hn_g6 (oj hn_g7 hn_g8))));(repeat' first|refine yA1 Z ?_|(refine yC2 Z (i0) ?_)|(refine yD2 Z (i0) ?_)|refine zW Z ?_|refine yP Z ?_|refine yN Z ?_|refine zC Z (fun hb=>?_) fun hb=>?_|refine zG Z (fun hb=>?_) fun hb=>?_|refine zD Z (fun hb=>?_) fun hb=>?_);all_goals clear Z)
  obtain⟨X,hX⟩:∃X:Heap,X=List.flatten []:=⟨_,rfl⟩
  obtain⟨Z,hZ⟩:∃Z:Heap,Z=List.flatten [gh o.h 97 (m.houses.length*2) (hssF m.houses),gh o.g 45 (m.gates.length*7) (gtsF m.gates),gh o.p 100 (m.pages.length*3) (pgsF m.pages),gh o.r 78 (m.groups.length*4) (grsF m.groups),gh o.s 82 (m.phases.length*3) (phsF m.phases)]:=⟨_,rfl⟩
  have hsp:mdT m o=X++(gh o.e 94 (m.events.length*11) (evsF m.events)++Z):=by
   subst hX hZ
   unfold mdT
   simp only [List.flatten_cons,List.flatten_nil,List.append_assoc,List.append_nil,List.nil_append]
  refine aw_perm (h':=((g8,.cells 94 11 (ofL (evc v)))::(g7,.cells 30 8 (ofL [.str (sB []),.str (sB []),.nils,.nils,.nils,.nils,.nils,.nils]))::(g6,.cells 64 2 (ofL [.nils,.int .i64 0]))::(g4,.cells 30 8 (ofL (mdg m o)))::(g3,.cells 64 2 (ofL (rv L sy)))::(X++Z))++gh o.e 94 (m.events.length*11) (evsF m.events)) (.cons _ (.cons _ (.cons _ (.cons _ (.cons _ (perm_mid hsp)))))) ?_
  have hbn:=hb'.e
  refine aw_push (pre:=(g8,.cells 94 11 (ofL (evc v)))::(g7,.cells 30 8 (ofL [.str (sB []),.str (sB []),.nils,.nils,.nils,.nils,.nils,.nils]))::(g6,.cells 64 2 (ofL [.nils,.int .i64 0]))::(g4,.cells 30 8 (ofL (mdg m o)))::(g3,.cells 64 2 (ofL (rv L sy)))::(X++Z)) rfl rfl rfl rfl rfl rfl rfl (zE (oj hn_g3 (oj hn_g4 (oj hn_g6 (oj hn_g7 hn_g8))))) (zE (oj hn_g3 (oj hn_g4 (oj hn_g6 (oj hn_g7 hn_g8))))) (by rfl) om om (zE (oj hn_g3 (oj hn_g4 (oj hn_g6 (oj hn_g7 hn_g8))))) om (by exact ho.e) (zE (oj hn_g3 (oj hn_g4 (oj hn_g6 (oj hn_g7 hn_g8))))) (by rfl) (by rfl) (by first|rfl|simp only [Nat.mul_one,List.nil_append,List.cons_append]<;>rfl) (by unfold maxLen;omega) om (by exact evs_push rfl v) fun gb hn_gb=> ?_
  replace hn_gb:=Heap.ne_of hn_gb
  first|dsimp only [Heap.ne,gh] at hn_gb|dsimp only [Heap.ne] at hn_gb|skip
  have J2:=oj hn_g3 (oj hn_g4 (oj hn_g6 (oj hn_g7 (oj hn_g8 hn_gb))))
  refine yS J2 ?_
  all_goals try(have Z:=J2;(repeat' first|refine yA1 Z ?_|refine zW Z ?_|refine yP Z ?_|refine yN Z ?_|refine zC Z (fun hb=>?_) fun hb=>?_|refine zG Z (fun hb=>?_) fun hb=>?_|refine zD Z (fun hb=>?_) fun hb=>?_);all_goals clear Z)
  have hln:(m.events++[v]).length=m.events.length+1:=by rw [List.length_append];rfl
  rw [←hln]
  have hsp2:mdT {m with events:=m.events++[v]} {o with e:=some gb}=X++(gh (some gb) 94 ((m.events++[v]).length*11) (evsF (m.events++[v]))++Z):=by
   subst hX hZ
   unfold mdT
   simp only [List.flatten_cons,List.flatten_nil,List.append_assoc,List.append_nil,List.nil_append]
  refine aw_keep [(3,.c (.optr g3 0)),(4,.c (.optr g4 0)),(6,.c (.optr g6 0)),(7,.c (.optr g7 0))] _ (zB J2) (List.sublist_cons_self _ _) ?_
  refine aw_perm (h':=(g7,.cells 30 8 (ofL [.str (sB []),.str (sB []),.nils,.nils,.nils,.nils,.nils,.nils]))::(g6,.cells 64 2 (ofL [.nils,.int .i64 0]))::(g4,.cells 30 8 (ofL (mdg {m with events:=m.events++[v]} {o with e:=some gb})))::(g3,.cells 64 2 (ofL (rv L sy)))::mdT {m with events:=m.events++[v]} {o with e:=some gb}) (.cons _ (.cons _ (.cons _ (.cons _ (perm_mid hsp2).symm)))) ?_
  refine aw_cw ([(g4,.cells 30 8 (ofL (mdg {m with events:=m.events++[v]} {o with e:=some gb}))),(g3,.cells 64 2 (ofL (rv L sy)))]) [(0,0),(1,0),(2,1),(3,2)] ty_mixed (by kernel_rfl) eI ?_
  refine yG J2 ?_
  refine cw_store rfl rfl rfl rfl rfl (zE J2) (zE J2) (zE J2) (zE J2) (fun _ e=>by cases e) rfl rfl (Nat.le_refl 2) (zE J2) eI ?_ (hm:=.inr ⟨rfl,rfl⟩)
  refine ySG J2 ?_
  refine cw_store (FP':=[]) (v:=.agg (mdg {m with events:=m.events++[v]} {o with e:=some gb})) rfl rfl rfl rfl rfl (zE J2) (zE J2) (zE J2) (zE J2) (fun _ e=>by cases e) (solid_mdg (m:={m with events:=m.events++[v]}) (o:={o with e:=some gb})) rfl (Nat.le_refl 8) rfl has0_nil ?_
  refine ySG J2 ?_
  refine aw_rethw (h':=mdT {m with events:=m.events++[v]} {o with e:=some gb}) rfl (.cons _ (.cons _ (.cons _ (.cons _ (.refl _))))) fun R r=> ?_
  refine yS J2 ?_
  refine r _ rfl ?_
  clear r R J2
  exact⟨{o with e:=some gb},⟨some_ne,ho.h,ho.g,ho.p,ho.r,ho.s⟩,rfl,rfl⟩
 ·have hq:w=kHouse:=by assumption
  have hB:statR m w s=({m with houses:=m.houses++[(houseR s).1]},(houseR s).2):=by rw [hq];rfl
  rw [hB]
  clear hB
  generalize houseR s=y at*
  obtain⟨v,sy⟩:=y
  dsimp only at*
  refine yA (oj hn_g3 (oj hn_g4 (oj hn_g6 hn_g7))) fun g8 hn_g8=>?_
  all_goals try(have Z:=(oj hn_g3 (oj hn_g4 (oj hn_g6 (oj hn_g7 hn_g8))));(repeat' first|refine yA1 Z ?_|(refine yC2 Z (i1) ?_)|(refine yD2 Z (i1) ?_)|refine zW Z ?_|refine yP Z ?_|refine yN Z ?_|refine zC Z (fun hb=>?_) fun hb=>?_|refine zG Z (fun hb=>?_) fun hb=>?_|refine zD Z (fun hb=>?_) fun hb=>?_);all_goals clear Z)
  obtain⟨X,hX⟩:∃X:Heap,X=List.flatten [gh o.e 94 (m.events.length*11) (evsF m.events)]:=⟨_,rfl⟩
  obtain⟨Z,hZ⟩:∃Z:Heap,Z=List.flatten [gh o.g 45 (m.gates.length*7) (gtsF m.gates),gh o.p 100 (m.pages.length*3) (pgsF m.pages),gh o.r 78 (m.groups.length*4) (grsF m.groups),gh o.s 82 (m.phases.length*3) (phsF m.phases)]:=⟨_,rfl⟩
  have hsp:mdT m o=X++(gh o.h 97 (m.houses.length*2) (hssF m.houses)++Z):=by
   subst hX hZ
   unfold mdT
   simp only [List.flatten_cons,List.flatten_nil,List.append_assoc,List.append_nil,List.nil_append]
  refine aw_perm (h':=((g8,.cells 97 2 (ofL (hsc v)))::(g7,.cells 30 8 (ofL [.str (sB []),.str (sB []),.nils,.nils,.nils,.nils,.nils,.nils]))::(g6,.cells 64 2 (ofL [.nils,.int .i64 0]))::(g4,.cells 30 8 (ofL (mdg m o)))::(g3,.cells 64 2 (ofL (rv L sy)))::(X++Z))++gh o.h 97 (m.houses.length*2) (hssF m.houses)) (.cons _ (.cons _ (.cons _ (.cons _ (.cons _ (perm_mid hsp)))))) ?_
  have hbn:=hb'.h
  refine aw_push (pre:=(g8,.cells 97 2 (ofL (hsc v)))::(g7,.cells 30 8 (ofL [.str (sB []),.str (sB []),.nils,.nils,.nils,.nils,.nils,.nils]))::(g6,.cells 64 2 (ofL [.nils,.int .i64 0]))::(g4,.cells 30 8 (ofL (mdg m o)))::(g3,.cells 64 2 (ofL (rv L sy)))::(X++Z)) rfl rfl rfl rfl rfl rfl rfl (zE (oj hn_g3 (oj hn_g4 (oj hn_g6 (oj hn_g7 hn_g8))))) (zE (oj hn_g3 (oj hn_g4 (oj hn_g6 (oj hn_g7 hn_g8))))) (by rfl) om om (zE (oj hn_g3 (oj hn_g4 (oj hn_g6 (oj hn_g7 hn_g8))))) om (by exact ho.h) (zE (oj hn_g3 (oj hn_g4 (oj hn_g6 (oj hn_g7 hn_g8))))) (by rfl) (by rfl) (by first|rfl|simp only [Nat.mul_one,List.nil_append,List.cons_append]<;>rfl) (by unfold maxLen;omega) om (by exact hss_push rfl v) fun gb hn_gb=> ?_
  replace hn_gb:=Heap.ne_of hn_gb
  first|dsimp only [Heap.ne,gh] at hn_gb|dsimp only [Heap.ne] at hn_gb|skip
  have J3:=oj hn_g3 (oj hn_g4 (oj hn_g6 (oj hn_g7 (oj hn_g8 hn_gb))))
  refine yS J3 ?_
  all_goals try(have Z:=J3;(repeat' first|refine yA1 Z ?_|refine zW Z ?_|refine yP Z ?_|refine yN Z ?_|refine zC Z (fun hb=>?_) fun hb=>?_|refine zG Z (fun hb=>?_) fun hb=>?_|refine zD Z (fun hb=>?_) fun hb=>?_);all_goals clear Z)
  have hln:(m.houses++[v]).length=m.houses.length+1:=by rw [List.length_append];rfl
  rw [←hln]
  have hsp2:mdT {m with houses:=m.houses++[v]} {o with h:=some gb}=X++(gh (some gb) 97 ((m.houses++[v]).length*2) (hssF (m.houses++[v]))++Z):=by
   subst hX hZ
   unfold mdT
   simp only [List.flatten_cons,List.flatten_nil,List.append_assoc,List.append_nil,List.nil_append]
  refine aw_keep [(3,.c (.optr g3 0)),(4,.c (.optr g4 0)),(6,.c (.optr g6 0)),(7,.c (.optr g7 0))] _ (zB J3) (List.sublist_cons_self _ _) ?_
  refine aw_perm (h':=(g7,.cells 30 8 (ofL [.str (sB []),.str (sB []),.nils,.nils,.nils,.nils,.nils,.nils]))::(g6,.cells 64 2 (ofL [.nils,.int .i64 0]))::(g4,.cells 30 8 (ofL (mdg {m with houses:=m.houses++[v]} {o with h:=some gb})))::(g3,.cells 64 2 (ofL (rv L sy)))::mdT {m with houses:=m.houses++[v]} {o with h:=some gb}) (.cons _ (.cons _ (.cons _ (.cons _ (perm_mid hsp2).symm)))) ?_
  refine aw_cw ([(g4,.cells 30 8 (ofL (mdg {m with houses:=m.houses++[v]} {o with h:=some gb}))),(g3,.cells 64 2 (ofL (rv L sy)))]) [(0,0),(1,0),(2,1),(3,2)] ty_mixed (by kernel_rfl) eI ?_
  refine yG J3 ?_
  refine cw_store rfl rfl rfl rfl rfl (zE J3) (zE J3) (zE J3) (zE J3) (fun _ e=>by cases e) rfl rfl (Nat.le_refl 2) (zE J3) eI ?_ (hm:=.inr ⟨rfl,rfl⟩)
  refine ySG J3 ?_
  refine cw_store (FP':=[]) (v:=.agg (mdg {m with houses:=m.houses++[v]} {o with h:=some gb})) rfl rfl rfl rfl rfl (zE J3) (zE J3) (zE J3) (zE J3) (fun _ e=>by cases e) (solid_mdg (m:={m with houses:=m.houses++[v]}) (o:={o with h:=some gb})) rfl (Nat.le_refl 8) rfl has0_nil ?_
  refine ySG J3 ?_
  refine aw_rethw (h':=mdT {m with houses:=m.houses++[v]} {o with h:=some gb}) rfl (.cons _ (.cons _ (.cons _ (.cons _ (.refl _))))) fun R r=> ?_
  refine yS J3 ?_
  refine r _ rfl ?_
  clear r R J3
  exact⟨{o with h:=some gb},⟨ho.e,some_ne,ho.g,ho.p,ho.r,ho.s⟩,rfl,rfl⟩
 ·have hq:w=kGate:=by assumption
  have hB:statR m w s=({m with gates:=m.gates++[(gateR s).1]},(gateR s).2):=by rw [hq];rfl
  rw [hB]
  clear hB
  generalize gateR s=y at*
  obtain⟨v,sy⟩:=y
  dsimp only at*
  refine yA (oj hn_g3 (oj hn_g4 (oj hn_g6 hn_g7))) fun g8 hn_g8=>?_
  all_goals try(have Z:=(oj hn_g3 (oj hn_g4 (oj hn_g6 (oj hn_g7 hn_g8))));(repeat' first|refine yA1 Z ?_|(refine yC2 Z (i2) ?_)|(refine yD2 Z (i2) ?_)|refine zW Z ?_|refine yP Z ?_|refine yN Z ?_|refine zC Z (fun hb=>?_) fun hb=>?_|refine zG Z (fun hb=>?_) fun hb=>?_|refine zD Z (fun hb=>?_) fun hb=>?_);all_goals clear Z)
  obtain⟨X,hX⟩:∃X:Heap,X=List.flatten [gh o.e 94 (m.events.length*11) (evsF m.events),gh o.h 97 (m.houses.length*2) (hssF m.houses)]:=⟨_,rfl⟩
  obtain⟨Z,hZ⟩:∃Z:Heap,Z=List.flatten [gh o.p 100 (m.pages.length*3) (pgsF m.pages),gh o.r 78 (m.groups.length*4) (grsF m.groups),gh o.s 82 (m.phases.length*3) (phsF m.phases)]:=⟨_,rfl⟩
  have hsp:mdT m o=X++(gh o.g 45 (m.gates.length*7) (gtsF m.gates)++Z):=by
   subst hX hZ
   unfold mdT
   simp only [List.flatten_cons,List.flatten_nil,List.append_assoc,List.append_nil,List.nil_append]
  refine aw_perm (h':=((g8,.cells 45 7 (ofL (gtc v)))::(g7,.cells 30 8 (ofL [.str (sB []),.str (sB []),.nils,.nils,.nils,.nils,.nils,.nils]))::(g6,.cells 64 2 (ofL [.nils,.int .i64 0]))::(g4,.cells 30 8 (ofL (mdg m o)))::(g3,.cells 64 2 (ofL (rv L sy)))::(X++Z))++gh o.g 45 (m.gates.length*7) (gtsF m.gates)) (.cons _ (.cons _ (.cons _ (.cons _ (.cons _ (perm_mid hsp)))))) ?_
  have hbn:=hb'.g
  refine aw_push (pre:=(g8,.cells 45 7 (ofL (gtc v)))::(g7,.cells 30 8 (ofL [.str (sB []),.str (sB []),.nils,.nils,.nils,.nils,.nils,.nils]))::(g6,.cells 64 2 (ofL [.nils,.int .i64 0]))::(g4,.cells 30 8 (ofL (mdg m o)))::(g3,.cells 64 2 (ofL (rv L sy)))::(X++Z)) rfl rfl rfl rfl rfl rfl rfl (zE (oj hn_g3 (oj hn_g4 (oj hn_g6 (oj hn_g7 hn_g8))))) (zE (oj hn_g3 (oj hn_g4 (oj hn_g6 (oj hn_g7 hn_g8))))) (by rfl) om om (zE (oj hn_g3 (oj hn_g4 (oj hn_g6 (oj hn_g7 hn_g8))))) om (by exact ho.g) (zE (oj hn_g3 (oj hn_g4 (oj hn_g6 (oj hn_g7 hn_g8))))) (by rfl) (by rfl) (by first|rfl|simp only [Nat.mul_one,List.nil_append,List.cons_append]<;>rfl) (by unfold maxLen;omega) om (by exact gts_push rfl v) fun gb hn_gb=> ?_
  replace hn_gb:=Heap.ne_of hn_gb
  first|dsimp only [Heap.ne,gh] at hn_gb|dsimp only [Heap.ne] at hn_gb|skip
  have J4:=oj hn_g3 (oj hn_g4 (oj hn_g6 (oj hn_g7 (oj hn_g8 hn_gb))))
  refine yS J4 ?_
  all_goals try(have Z:=J4;(repeat' first|refine yA1 Z ?_|refine zW Z ?_|refine yP Z ?_|refine yN Z ?_|refine zC Z (fun hb=>?_) fun hb=>?_|refine zG Z (fun hb=>?_) fun hb=>?_|refine zD Z (fun hb=>?_) fun hb=>?_);all_goals clear Z)
  have hln:(m.gates++[v]).length=m.gates.length+1:=by rw [List.length_append];rfl
  rw [←hln]
  have hsp2:mdT {m with gates:=m.gates++[v]} {o with g:=some gb}=X++(gh (some gb) 45 ((m.gates++[v]).length*7) (gtsF (m.gates++[v]))++Z):=by
   subst hX hZ
   unfold mdT
   simp only [List.flatten_cons,List.flatten_nil,List.append_assoc,List.append_nil,List.nil_append]
  refine aw_keep [(3,.c (.optr g3 0)),(4,.c (.optr g4 0)),(6,.c (.optr g6 0)),(7,.c (.optr g7 0))] _ (zB J4) (List.sublist_cons_self _ _) ?_
  refine aw_perm (h':=(g7,.cells 30 8 (ofL [.str (sB []),.str (sB []),.nils,.nils,.nils,.nils,.nils,.nils]))::(g6,.cells 64 2 (ofL [.nils,.int .i64 0]))::(g4,.cells 30 8 (ofL (mdg {m with gates:=m.gates++[v]} {o with g:=some gb})))::(g3,.cells 64 2 (ofL (rv L sy)))::mdT {m with gates:=m.gates++[v]} {o with g:=some gb}) (.cons _ (.cons _ (.cons _ (.cons _ (perm_mid hsp2).symm)))) ?_
  refine aw_cw ([(g4,.cells 30 8 (ofL (mdg {m with gates:=m.gates++[v]} {o with g:=some gb}))),(g3,.cells 64 2 (ofL (rv L sy)))]) [(0,0),(1,0),(2,1),(3,2)] ty_mixed (by kernel_rfl) eI ?_
  refine yG J4 ?_
  refine cw_store rfl rfl rfl rfl rfl (zE J4) (zE J4) (zE J4) (zE J4) (fun _ e=>by cases e) rfl rfl (Nat.le_refl 2) (zE J4) eI ?_ (hm:=.inr ⟨rfl,rfl⟩)
  refine ySG J4 ?_
  refine cw_store (FP':=[]) (v:=.agg (mdg {m with gates:=m.gates++[v]} {o with g:=some gb})) rfl rfl rfl rfl rfl (zE J4) (zE J4) (zE J4) (zE J4) (fun _ e=>by cases e) (solid_mdg (m:={m with gates:=m.gates++[v]}) (o:={o with g:=some gb})) rfl (Nat.le_refl 8) rfl has0_nil ?_
  refine ySG J4 ?_
  refine aw_rethw (h':=mdT {m with gates:=m.gates++[v]} {o with g:=some gb}) rfl (.cons _ (.cons _ (.cons _ (.cons _ (.refl _))))) fun R r=> ?_
  refine yS J4 ?_
  refine r _ rfl ?_
  clear r R J4
  exact⟨{o with g:=some gb},⟨ho.e,ho.h,some_ne,ho.p,ho.r,ho.s⟩,rfl,rfl⟩
 ·have hq:w=kPage:=by assumption
  have hB:statR m w s=({m with pages:=m.pages++[(pageR s).1]},(pageR s).2):=by rw [hq];rfl
  rw [hB]
  clear hB
  generalize pageR s=y at*
  obtain⟨v,sy⟩:=y
  dsimp only at*
  refine yA (oj hn_g3 (oj hn_g4 (oj hn_g6 hn_g7))) fun g8 hn_g8=>?_
  all_goals try(have Z:=(oj hn_g3 (oj hn_g4 (oj hn_g6 (oj hn_g7 hn_g8))));(repeat' first|refine yA1 Z ?_|(refine yC2 Z (i3) ?_)|(refine yD2 Z (i3) ?_)|refine zW Z ?_|refine yP Z ?_|refine yN Z ?_|refine zC Z (fun hb=>?_) fun hb=>?_|refine zG Z (fun hb=>?_) fun hb=>?_|refine zD Z (fun hb=>?_) fun hb=>?_);all_goals clear Z)
  obtain⟨X,hX⟩:∃X:Heap,X=List.flatten [gh o.e 94 (m.events.length*11) (evsF m.events),gh o.h 97 (m.houses.length*2) (hssF m.houses),gh o.g 45 (m.gates.length*7) (gtsF m.gates)]:=⟨_,rfl⟩
  obtain⟨Z,hZ⟩:∃Z:Heap,Z=List.flatten [gh o.r 78 (m.groups.length*4) (grsF m.groups),gh o.s 82 (m.phases.length*3) (phsF m.phases)]:=⟨_,rfl⟩
  have hsp:mdT m o=X++(gh o.p 100 (m.pages.length*3) (pgsF m.pages)++Z):=by
   subst hX hZ
   unfold mdT
   simp only [List.flatten_cons,List.flatten_nil,List.append_assoc,List.append_nil,List.nil_append]
  refine aw_perm (h':=((g8,.cells 100 3 (ofL (pgc v)))::(g7,.cells 30 8 (ofL [.str (sB []),.str (sB []),.nils,.nils,.nils,.nils,.nils,.nils]))::(g6,.cells 64 2 (ofL [.nils,.int .i64 0]))::(g4,.cells 30 8 (ofL (mdg m o)))::(g3,.cells 64 2 (ofL (rv L sy)))::(X++Z))++gh o.p 100 (m.pages.length*3) (pgsF m.pages)) (.cons _ (.cons _ (.cons _ (.cons _ (.cons _ (perm_mid hsp)))))) ?_
  have hbn:=hb'.p
  refine aw_push (pre:=(g8,.cells 100 3 (ofL (pgc v)))::(g7,.cells 30 8 (ofL [.str (sB []),.str (sB []),.nils,.nils,.nils,.nils,.nils,.nils]))::(g6,.cells 64 2 (ofL [.nils,.int .i64 0]))::(g4,.cells 30 8 (ofL (mdg m o)))::(g3,.cells 64 2 (ofL (rv L sy)))::(X++Z)) rfl rfl rfl rfl rfl rfl rfl (zE (oj hn_g3 (oj hn_g4 (oj hn_g6 (oj hn_g7 hn_g8))))) (zE (oj hn_g3 (oj hn_g4 (oj hn_g6 (oj hn_g7 hn_g8))))) (by rfl) om om (zE (oj hn_g3 (oj hn_g4 (oj hn_g6 (oj hn_g7 hn_g8))))) om (by exact ho.p) (zE (oj hn_g3 (oj hn_g4 (oj hn_g6 (oj hn_g7 hn_g8))))) (by rfl) (by rfl) (by first|rfl|simp only [Nat.mul_one,List.nil_append,List.cons_append]<;>rfl) (by unfold maxLen;omega) om (by exact pgs_push rfl v) fun gb hn_gb=> ?_
  replace hn_gb:=Heap.ne_of hn_gb
  first|dsimp only [Heap.ne,gh] at hn_gb|dsimp only [Heap.ne] at hn_gb|skip
  have J5:=oj hn_g3 (oj hn_g4 (oj hn_g6 (oj hn_g7 (oj hn_g8 hn_gb))))
  refine yS J5 ?_
  all_goals try(have Z:=J5;(repeat' first|refine yA1 Z ?_|refine zW Z ?_|refine yP Z ?_|refine yN Z ?_|refine zC Z (fun hb=>?_) fun hb=>?_|refine zG Z (fun hb=>?_) fun hb=>?_|refine zD Z (fun hb=>?_) fun hb=>?_);all_goals clear Z)
  have hln:(m.pages++[v]).length=m.pages.length+1:=by rw [List.length_append];rfl
  rw [←hln]
  have hsp2:mdT {m with pages:=m.pages++[v]} {o with p:=some gb}=X++(gh (some gb) 100 ((m.pages++[v]).length*3) (pgsF (m.pages++[v]))++Z):=by
   subst hX hZ
   unfold mdT
   simp only [List.flatten_cons,List.flatten_nil,List.append_assoc,List.append_nil,List.nil_append]
  refine aw_keep [(3,.c (.optr g3 0)),(4,.c (.optr g4 0)),(6,.c (.optr g6 0)),(7,.c (.optr g7 0))] _ (zB J5) (List.sublist_cons_self _ _) ?_
  refine aw_perm (h':=(g7,.cells 30 8 (ofL [.str (sB []),.str (sB []),.nils,.nils,.nils,.nils,.nils,.nils]))::(g6,.cells 64 2 (ofL [.nils,.int .i64 0]))::(g4,.cells 30 8 (ofL (mdg {m with pages:=m.pages++[v]} {o with p:=some gb})))::(g3,.cells 64 2 (ofL (rv L sy)))::mdT {m with pages:=m.pages++[v]} {o with p:=some gb}) (.cons _ (.cons _ (.cons _ (.cons _ (perm_mid hsp2).symm)))) ?_
  refine aw_cw ([(g4,.cells 30 8 (ofL (mdg {m with pages:=m.pages++[v]} {o with p:=some gb}))),(g3,.cells 64 2 (ofL (rv L sy)))]) [(0,0),(1,0),(2,1),(3,2)] ty_mixed (by kernel_rfl) eI ?_
  refine yG J5 ?_
  refine cw_store rfl rfl rfl rfl rfl (zE J5) (zE J5) (zE J5) (zE J5) (fun _ e=>by cases e) rfl rfl (Nat.le_refl 2) (zE J5) eI ?_ (hm:=.inr ⟨rfl,rfl⟩)
  refine ySG J5 ?_
  refine cw_store (FP':=[]) (v:=.agg (mdg {m with pages:=m.pages++[v]} {o with p:=some gb})) rfl rfl rfl rfl rfl (zE J5) (zE J5) (zE J5) (zE J5) (fun _ e=>by cases e) (solid_mdg (m:={m with pages:=m.pages++[v]}) (o:={o with p:=some gb})) rfl (Nat.le_refl 8) rfl has0_nil ?_
  refine ySG J5 ?_
  refine aw_rethw (h':=mdT {m with pages:=m.pages++[v]} {o with p:=some gb}) rfl (.cons _ (.cons _ (.cons _ (.cons _ (.refl _))))) fun R r=> ?_
  refine yS J5 ?_
  refine r _ rfl ?_
  clear r R J5
  exact⟨{o with p:=some gb},⟨ho.e,ho.h,ho.g,some_ne,ho.r,ho.s⟩,rfl,rfl⟩
 ·have hq:w=kGroup:=by assumption
  have hB:statR m w s=({m with groups:=m.groups++[(groupR s).1]},(groupR s).2):=by rw [hq];rfl
  rw [hB]
  clear hB
  generalize groupR s=y at*
  obtain⟨v,sy⟩:=y
  dsimp only at*
  refine yA (oj hn_g3 (oj hn_g4 (oj hn_g6 hn_g7))) fun g8 hn_g8=>?_
  all_goals try(have Z:=(oj hn_g3 (oj hn_g4 (oj hn_g6 (oj hn_g7 hn_g8))));(repeat' first|refine yA1 Z ?_|(refine yC2 Z (i4) ?_)|(refine yD2 Z (i4) ?_)|refine zW Z ?_|refine yP Z ?_|refine yN Z ?_|refine zC Z (fun hb=>?_) fun hb=>?_|refine zG Z (fun hb=>?_) fun hb=>?_|refine zD Z (fun hb=>?_) fun hb=>?_);all_goals clear Z)
  obtain⟨X,hX⟩:∃X:Heap,X=List.flatten [gh o.e 94 (m.events.length*11) (evsF m.events),gh o.h 97 (m.houses.length*2) (hssF m.houses),gh o.g 45 (m.gates.length*7) (gtsF m.gates),gh o.p 100 (m.pages.length*3) (pgsF m.pages)]:=⟨_,rfl⟩
  obtain⟨Z,hZ⟩:∃Z:Heap,Z=List.flatten [gh o.s 82 (m.phases.length*3) (phsF m.phases)]:=⟨_,rfl⟩
  have hsp:mdT m o=X++(gh o.r 78 (m.groups.length*4) (grsF m.groups)++Z):=by
   subst hX hZ
   unfold mdT
   simp only [List.flatten_cons,List.flatten_nil,List.append_assoc,List.append_nil,List.nil_append]
  refine aw_perm (h':=((g8,.cells 78 4 (ofL (grc v)))::(g7,.cells 30 8 (ofL [.str (sB []),.str (sB []),.nils,.nils,.nils,.nils,.nils,.nils]))::(g6,.cells 64 2 (ofL [.nils,.int .i64 0]))::(g4,.cells 30 8 (ofL (mdg m o)))::(g3,.cells 64 2 (ofL (rv L sy)))::(X++Z))++gh o.r 78 (m.groups.length*4) (grsF m.groups)) (.cons _ (.cons _ (.cons _ (.cons _ (.cons _ (perm_mid hsp)))))) ?_
  have hbn:=hb'.r
  refine aw_push (pre:=(g8,.cells 78 4 (ofL (grc v)))::(g7,.cells 30 8 (ofL [.str (sB []),.str (sB []),.nils,.nils,.nils,.nils,.nils,.nils]))::(g6,.cells 64 2 (ofL [.nils,.int .i64 0]))::(g4,.cells 30 8 (ofL (mdg m o)))::(g3,.cells 64 2 (ofL (rv L sy)))::(X++Z)) rfl rfl rfl rfl rfl rfl rfl (zE (oj hn_g3 (oj hn_g4 (oj hn_g6 (oj hn_g7 hn_g8))))) (zE (oj hn_g3 (oj hn_g4 (oj hn_g6 (oj hn_g7 hn_g8))))) (by rfl) om om (zE (oj hn_g3 (oj hn_g4 (oj hn_g6 (oj hn_g7 hn_g8))))) om (by exact ho.r) (zE (oj hn_g3 (oj hn_g4 (oj hn_g6 (oj hn_g7 hn_g8))))) (by rfl) (by rfl) (by first|rfl|simp only [Nat.mul_one,List.nil_append,List.cons_append]<;>rfl) (by unfold maxLen;omega) om (by exact grs_push rfl v) fun gb hn_gb=> ?_
  replace hn_gb:=Heap.ne_of hn_gb
  first|dsimp only [Heap.ne,gh] at hn_gb|dsimp only [Heap.ne] at hn_gb|skip
  have J6:=oj hn_g3 (oj hn_g4 (oj hn_g6 (oj hn_g7 (oj hn_g8 hn_gb))))
  refine yS J6 ?_
  all_goals try(have Z:=J6;(repeat' first|refine yA1 Z ?_|refine zW Z ?_|refine yP Z ?_|refine yN Z ?_|refine zC Z (fun hb=>?_) fun hb=>?_|refine zG Z (fun hb=>?_) fun hb=>?_|refine zD Z (fun hb=>?_) fun hb=>?_);all_goals clear Z)
  have hln:(m.groups++[v]).length=m.groups.length+1:=by rw [List.length_append];rfl
  rw [←hln]
  have hsp2:mdT {m with groups:=m.groups++[v]} {o with r:=some gb}=X++(gh (some gb) 78 ((m.groups++[v]).length*4) (grsF (m.groups++[v]))++Z):=by
   subst hX hZ
   unfold mdT
   simp only [List.flatten_cons,List.flatten_nil,List.append_assoc,List.append_nil,List.nil_append]
  refine aw_keep [(3,.c (.optr g3 0)),(4,.c (.optr g4 0)),(6,.c (.optr g6 0)),(7,.c (.optr g7 0))] _ (zB J6) (List.sublist_cons_self _ _) ?_
  refine aw_perm (h':=(g7,.cells 30 8 (ofL [.str (sB []),.str (sB []),.nils,.nils,.nils,.nils,.nils,.nils]))::(g6,.cells 64 2 (ofL [.nils,.int .i64 0]))::(g4,.cells 30 8 (ofL (mdg {m with groups:=m.groups++[v]} {o with r:=some gb})))::(g3,.cells 64 2 (ofL (rv L sy)))::mdT {m with groups:=m.groups++[v]} {o with r:=some gb}) (.cons _ (.cons _ (.cons _ (.cons _ (perm_mid hsp2).symm)))) ?_
  refine aw_cw ([(g4,.cells 30 8 (ofL (mdg {m with groups:=m.groups++[v]} {o with r:=some gb}))),(g3,.cells 64 2 (ofL (rv L sy)))]) [(0,0),(1,0),(2,1),(3,2)] ty_mixed (by kernel_rfl) eI ?_
  refine yG J6 ?_
  refine cw_store rfl rfl rfl rfl rfl (zE J6) (zE J6) (zE J6) (zE J6) (fun _ e=>by cases e) rfl rfl (Nat.le_refl 2) (zE J6) eI ?_ (hm:=.inr ⟨rfl,rfl⟩)
  refine ySG J6 ?_
  refine cw_store (FP':=[]) (v:=.agg (mdg {m with groups:=m.groups++[v]} {o with r:=some gb})) rfl rfl rfl rfl rfl (zE J6) (zE J6) (zE J6) (zE J6) (fun _ e=>by cases e) (solid_mdg (m:={m with groups:=m.groups++[v]}) (o:={o with r:=some gb})) rfl (Nat.le_refl 8) rfl has0_nil ?_
  refine ySG J6 ?_
  refine aw_rethw (h':=mdT {m with groups:=m.groups++[v]} {o with r:=some gb}) rfl (.cons _ (.cons _ (.cons _ (.cons _ (.refl _))))) fun R r=> ?_
  refine yS J6 ?_
  refine r _ rfl ?_
  clear r R J6
  exact⟨{o with r:=some gb},⟨ho.e,ho.h,ho.g,ho.p,some_ne,ho.s⟩,rfl,rfl⟩
 ·have hq:w=kPhase:=by assumption
  have hB:statR m w s=({m with phases:=m.phases++[(phaseR s).1]},(phaseR s).2):=by rw [hq];rfl
  rw [hB]
  clear hB
  generalize phaseR s=y at*
  obtain⟨v,sy⟩:=y
  dsimp only at*
  refine yA (oj hn_g3 (oj hn_g4 (oj hn_g6 hn_g7))) fun g8 hn_g8=>?_
  all_goals try(have Z:=(oj hn_g3 (oj hn_g4 (oj hn_g6 (oj hn_g7 hn_g8))));(repeat' first|refine yA1 Z ?_|(refine yC2 Z (i5) ?_)|(refine yD2 Z (i5) ?_)|refine zW Z ?_|refine yP Z ?_|refine yN Z ?_|refine zC Z (fun hb=>?_) fun hb=>?_|refine zG Z (fun hb=>?_) fun hb=>?_|refine zD Z (fun hb=>?_) fun hb=>?_);all_goals clear Z)
  obtain⟨X,hX⟩:∃X:Heap,X=List.flatten [gh o.e 94 (m.events.length*11) (evsF m.events),gh o.h 97 (m.houses.length*2) (hssF m.houses),gh o.g 45 (m.gates.length*7) (gtsF m.gates),gh o.p 100 (m.pages.length*3) (pgsF m.pages),gh o.r 78 (m.groups.length*4) (grsF m.groups)]:=⟨_,rfl⟩
  obtain⟨Z,hZ⟩:∃Z:Heap,Z=List.flatten []:=⟨_,rfl⟩
  have hsp:mdT m o=X++(gh o.s 82 (m.phases.length*3) (phsF m.phases)++Z):=by
   subst hX hZ
   unfold mdT
   simp only [List.flatten_cons,List.flatten_nil,List.append_assoc,List.append_nil,List.nil_append]
  refine aw_perm (h':=((g8,.cells 82 3 (ofL (phc v)))::(g7,.cells 30 8 (ofL [.str (sB []),.str (sB []),.nils,.nils,.nils,.nils,.nils,.nils]))::(g6,.cells 64 2 (ofL [.nils,.int .i64 0]))::(g4,.cells 30 8 (ofL (mdg m o)))::(g3,.cells 64 2 (ofL (rv L sy)))::(X++Z))++gh o.s 82 (m.phases.length*3) (phsF m.phases)) (.cons _ (.cons _ (.cons _ (.cons _ (.cons _ (perm_mid hsp)))))) ?_
  have hbn:=hb'.s
  refine aw_push (pre:=(g8,.cells 82 3 (ofL (phc v)))::(g7,.cells 30 8 (ofL [.str (sB []),.str (sB []),.nils,.nils,.nils,.nils,.nils,.nils]))::(g6,.cells 64 2 (ofL [.nils,.int .i64 0]))::(g4,.cells 30 8 (ofL (mdg m o)))::(g3,.cells 64 2 (ofL (rv L sy)))::(X++Z)) rfl rfl rfl rfl rfl rfl rfl (zE (oj hn_g3 (oj hn_g4 (oj hn_g6 (oj hn_g7 hn_g8))))) (zE (oj hn_g3 (oj hn_g4 (oj hn_g6 (oj hn_g7 hn_g8))))) (by rfl) om om (zE (oj hn_g3 (oj hn_g4 (oj hn_g6 (oj hn_g7 hn_g8))))) om (by exact ho.s) (zE (oj hn_g3 (oj hn_g4 (oj hn_g6 (oj hn_g7 hn_g8))))) (by rfl) (by rfl) (by first|rfl|simp only [Nat.mul_one,List.nil_append,List.cons_append]<;>rfl) (by unfold maxLen;omega) om (by exact phs_push rfl v) fun gb hn_gb=> ?_
  replace hn_gb:=Heap.ne_of hn_gb
  first|dsimp only [Heap.ne,gh] at hn_gb|dsimp only [Heap.ne] at hn_gb|skip
  have J7:=oj hn_g3 (oj hn_g4 (oj hn_g6 (oj hn_g7 (oj hn_g8 hn_gb))))
  refine yS J7 ?_
  all_goals try(have Z:=J7;(repeat' first|refine yA1 Z ?_|refine zW Z ?_|refine yP Z ?_|refine yN Z ?_|refine zC Z (fun hb=>?_) fun hb=>?_|refine zG Z (fun hb=>?_) fun hb=>?_|refine zD Z (fun hb=>?_) fun hb=>?_);all_goals clear Z)
  have hln:(m.phases++[v]).length=m.phases.length+1:=by rw [List.length_append];rfl
  rw [←hln]
  have hsp2:mdT {m with phases:=m.phases++[v]} {o with s:=some gb}=X++(gh (some gb) 82 ((m.phases++[v]).length*3) (phsF (m.phases++[v]))++Z):=by
   subst hX hZ
   unfold mdT
   simp only [List.flatten_cons,List.flatten_nil,List.append_assoc,List.append_nil,List.nil_append]
  refine aw_keep [(3,.c (.optr g3 0)),(4,.c (.optr g4 0)),(6,.c (.optr g6 0)),(7,.c (.optr g7 0))] _ (zB J7) (List.sublist_cons_self _ _) ?_
  refine aw_perm (h':=(g7,.cells 30 8 (ofL [.str (sB []),.str (sB []),.nils,.nils,.nils,.nils,.nils,.nils]))::(g6,.cells 64 2 (ofL [.nils,.int .i64 0]))::(g4,.cells 30 8 (ofL (mdg {m with phases:=m.phases++[v]} {o with s:=some gb})))::(g3,.cells 64 2 (ofL (rv L sy)))::mdT {m with phases:=m.phases++[v]} {o with s:=some gb}) (.cons _ (.cons _ (.cons _ (.cons _ (perm_mid hsp2).symm)))) ?_
  refine aw_cw ([(g4,.cells 30 8 (ofL (mdg {m with phases:=m.phases++[v]} {o with s:=some gb}))),(g3,.cells 64 2 (ofL (rv L sy)))]) [(0,0),(1,0),(2,1),(3,2)] ty_mixed (by kernel_rfl) eI ?_
  refine yG J7 ?_
  refine cw_store rfl rfl rfl rfl rfl (zE J7) (zE J7) (zE J7) (zE J7) (fun _ e=>by cases e) rfl rfl (Nat.le_refl 2) (zE J7) eI ?_ (hm:=.inr ⟨rfl,rfl⟩)
  refine ySG J7 ?_
  refine cw_store (FP':=[]) (v:=.agg (mdg {m with phases:=m.phases++[v]} {o with s:=some gb})) rfl rfl rfl rfl rfl (zE J7) (zE J7) (zE J7) (zE J7) (fun _ e=>by cases e) (solid_mdg (m:={m with phases:=m.phases++[v]}) (o:={o with s:=some gb})) rfl (Nat.le_refl 8) rfl has0_nil ?_
  refine ySG J7 ?_
  refine aw_rethw (h':=mdT {m with phases:=m.phases++[v]} {o with s:=some gb}) rfl (.cons _ (.cons _ (.cons _ (.cons _ (.refl _))))) fun R r=> ?_
  refine yS J7 ?_
  refine r _ rfl ?_
  clear r R J7
  exact⟨{o with s:=some gb},⟨ho.e,ho.h,ho.g,ho.p,ho.r,some_ne⟩,rfl,rfl⟩
 ·have hB:statR m w s=(m,failS 2 s):=by
   unfold statR
   repeat' split
   all_goals first|rfl|(exfalso;simp_all;done)
  rw [hB]
  clear hB
  generalize failS 2 s=sy at*
  refine aw_cw ([(g4,.cells 30 8 (ofL (mdg m o))),(g3,.cells 64 2 (ofL (rv L sy)))]) [(0,0),(1,0),(2,1),(3,2)] ty_mixed (by kernel_rfl) eI ?_
  have J8:=oj hn_g3 (oj hn_g4 (oj hn_g6 hn_g7))
  refine yG J8 ?_
  refine cw_store rfl rfl rfl rfl rfl (zE J8) (zE J8) (zE J8) (zE J8) (fun _ e=>by cases e) rfl rfl (Nat.le_refl 2) (zE J8) eI ?_ (hm:=.inr ⟨rfl,rfl⟩)
  refine ySG J8 ?_
  refine cw_store (FP':=[]) (v:=.agg (mdg m o)) rfl rfl rfl rfl rfl (zE J8) (zE J8) (zE J8) (zE J8) (fun _ e=>by cases e) (solid_mdg (m:=m) (o:=o)) rfl (Nat.le_refl 8) rfl has0_nil ?_
  refine ySG J8 ?_
  refine aw_rethw (h':=mdT m o) rfl (.cons _ (.cons _ (.cons _ (.cons _ (.refl _))))) fun R r=> ?_
  refine yS J8 ?_
  refine r _ rfl ?_
  clear r R J8
  exact⟨o,ho,rfl,rfl⟩
end Go.Proofs.YteehccacfedolaaGreat
namespace Go.PN
open Go.AI
def modelQ (ck:MdD→Int) (l:BS):MdD×Int:=if(splitS l).1≠0 then(md0,(splitS l).1) else let r:=readR ⟨(splitS l).2,0⟩;if r.2.e≠0 then(md0,r.2.e) else if ck r.1≠0 then(md0,ck r.1) else(r.1,0)
theorem modelQ_eq (ck:MdD→Int) (l:BS):modelQ ck l=modelP ck l:=by
 unfold modelQ modelP
 obtain⟨h1,h2⟩:=agr_read ⟨(splitS l).2,0⟩ (splitS_ok l) rfl
 by_cases h0:(splitS l).1≠0
 ·rw [if_pos h0,if_pos h0]
 rw [if_neg h0,if_neg h0]
 dsimp only
 by_cases h3:(readS ⟨(splitS l).2,0⟩).2.e=0
 ·obtain⟨h4,h5⟩:=h2 h3
  rw [show readS ⟨(splitS l).2,0⟩=readR ⟨(splitS l).2,0⟩ from Prod.ext h5 h4]
 ·have h6:(readR ⟨(splitS l).2,0⟩).2.e≠0:=by rw [←h1];exact h3
  rw [if_pos h3,if_pos h6,h1]
theorem MdSm.statR {m:MdD} {n:Nat} (h:MdSm m n) (w:BS) (s:PS):MdSm (statR m w s).1 (n+1):=by
 obtain⟨h1,h2,h3,h4,h5,h6⟩:=h
 unfold Go.PN.statR
 repeat' split
 all_goals constructor
 all_goals first|(dsimp only;rw [List.length_append];exact Nat.succ_le_succ (by assumption))|(dsimp only;omega)
end Go.PN
namespace Go.Proofs.YteehccacfedolaaGreat
open Go.AI Go.PN
attribute [local irreducible] aw Fa Fh DrK
theorem refModel_fa (l:BS) (hl:l.length≤1099511627776) (hn:(splitS l).2.length≤1048576) (hw:∀t∈(splitS l).2,t.text.length≤1099511627776) (ck:MdD→Int) (hck:(readR ⟨(splitS l).2,0⟩).2.e=0→Fa Tryz.prog 25 [.agg (mdc true (readR ⟨(splitS l).2,0⟩).1)] (.c (.int .i64 (ck (readR ⟨(splitS l).2,0⟩).1)))):Fa Tryz.prog 6 [.c (.str (sB l))] (.tup [.agg (mdc true (modelQ ck l).1),.c (.int .i64 (modelQ ck l).2)]):=by
 refine fa_of_body Tryz.func6 rfl rfl (by simp [Tryz.ntmps6]) fun C hC=> ?_
 simp only [initS,Nat.reduceAdd]
 repeat' first|refine yA1 o0 ?_|refine zW o0 ?_|refine yP o0 ?_|refine yN o0 ?_|refine zC o0 (fun hb=>?_) fun hb=>?_|refine zG o0 (fun hb=>?_) fun hb=>?_|refine zD o0 (fun hb=>?_) fun hb=>?_
 refine xA fun g2 hn_g2=>?_
 repeat' first|refine yA1 hn_g2 ?_|refine zW hn_g2 ?_|refine yP hn_g2 ?_|refine yN hn_g2 ?_|refine zC hn_g2 (fun hb=>?_) fun hb=>?_|refine zG hn_g2 (fun hb=>?_) fun hb=>?_|refine zD hn_g2 (fun hb=>?_) fun hb=>?_
 refine aw_callh (hc:=[]) (hr:=[(g2,.cells 30 8 (ofL [.str (sB []),.str (sB []),.nils,.nils,.nils,.nils,.nils,.nils]))]) (rsplit_fh l hl) rfl rfl rfl (.refl _) (zL hn_g2) ?_
 rintro _ _ ⟨rfl,out,ho,rfl⟩ _
 simp only [List.nil_append]
 refine yS hn_g2 ?_
 have hs:(PS.mk (splitS l).2 0).l<:+out.map TX.t:=by rw [ho];exact List.suffix_refl _
 have hL:out.length≤1048576:=by rw [←List.length_map TX.t,ho];exact hn
 have hw':∀t∈out,t.t.text.length≤1099511627776:=fun t ht=>hw t.t (by rw [←ho];exact List.mem_map_of_mem ht)
 have e0:rv out ⟨(splitS l).2,0⟩=[txs true out,.int .i64 0]:=by
  show [txs true (tlX _ _),_]=_
  rw [tlX_all ho]
 unfold modelQ
 unfold readR at hck⊢
 dsimp only [wordR] at hck⊢
 have f0:=rtake_fa out ⟨(splitS l).2,0⟩ 0 kModel hs om
 have hs1:=takeR_suf hs 0 kModel
 rw [e0] at f0
 generalize (takeR ⟨(splitS l).2,0⟩ 0 kModel)=r at*
 obtain⟨_,s1⟩:=r
 dsimp only at*
 have f1:=rtake_fa out s1 0 [] hs1 om
 have hs2:=takeR_suf hs1 0 []
 generalize takeR s1 0 []=r at*
 obtain⟨nm,s2⟩:=r
 dsimp only at*
 have f2:=rtake_fa out s2 2 kSemi hs2 om
 have hs3:=takeR_suf hs2 2 kSemi
 generalize (takeR s2 2 kSemi)=r at*
 obtain⟨_,s3⟩:=r
 dsimp only at*
 generalize hF:lpS (fun s=> !nextR s 0 kTop) stBR {md0 with name:=nm} s3=F at*
 have hs4:F.2.l<:+out.map TX.t:=by rw [←hF];exact((rdr_lp rdr_stBR _).suf s3).trans hs3
 have f3:=rtake_fa out F.2 0 kTop hs4 om
 have hs5:=takeR_suf hs4 0 kTop
 generalize (takeR F.2 0 kTop)=r at*
 obtain⟨_,s5⟩:=r
 dsimp only at*
 have f4:=rinput_fa out s5 hs5 om hw'
 have hs6:=(rdr_inputR.suf s5).trans hs5
 generalize inputR s5=r at*
 obtain⟨tp,s6⟩:=r
 dsimp only at*
 have f5:=rtake_fa out s6 2 kSemi hs6 om
 have hs7:=takeR_suf hs6 2 kSemi
 generalize (takeR s6 2 kSemi)=r at*
 obtain⟨_,s7⟩:=r
 dsimp only at*
 have f6:=rend_fa out s7 hs7 om
 repeat' first|refine yA1 hn_g2 ?_|refine zW hn_g2 ?_|refine yP hn_g2 ?_|refine yN hn_g2 ?_|refine zC hn_g2 (fun hb=>?_) fun hb=>?_|refine zG hn_g2 (fun hb=>?_) fun hb=>?_|refine zD hn_g2 (fun hb=>?_) fun hb=>?_
 ·have h0:(splitS l).1≠0:=by simpa using hb
  refine yT hC hn_g2 ?_
  rw [if_pos h0]
  exact .tup ⟨.agg lerl_md0,.c (.int _ _),trivial⟩
 have h0:¬(splitS l).1≠0:=by simpa using hb
 rw [if_neg h0]
 refine yA hn_g2 fun g6 hn_g6=>?_
 all_goals try(have Z:=(oj hn_g2 hn_g6);(repeat' first|refine yA1 Z ?_|refine zW Z ?_|refine yP Z ?_|refine yN Z ?_|refine zC Z (fun hb=>?_) fun hb=>?_|refine zG Z (fun hb=>?_) fun hb=>?_|refine zD Z (fun hb=>?_) fun hb=>?_);all_goals clear Z)
 refine yA (oj hn_g2 hn_g6) fun g7 hn_g7=>?_
 all_goals try(have Z:=(oj hn_g2 (oj hn_g6 hn_g7));(repeat' first|refine yA1 Z ?_|(refine yC2 Z (f0) ?_)|(refine yD2 Z (f0) ?_)|(refine yC2 Z (f1) ?_)|(refine yD2 Z (f1) ?_)|(refine yC2 Z (f2) ?_)|(refine yD2 Z (f2) ?_)|refine zW Z ?_|refine yP Z ?_|refine yN Z ?_|refine zC Z (fun hb=>?_) fun hb=>?_|refine zG Z (fun hb=>?_) fun hb=>?_|refine zD Z (fun hb=>?_) fun hb=>?_);all_goals clear Z)
 refine aw_lp (fun _:PS×MdD×Og=>[(2,.c (.optr g2 0)),(6,.c (.optr g6 0)),(7,.c (.optr g7 0))]) (fun x=>[(g7,.cells 64 2 (ofL (rv out x.1))),(g6,.cells 30 8 (ofL (mdg x.2.1 x.2.2))),(g2,.cells 30 8 (ofL [.str (sB []),.str (sB []),.nils,.nils,.nils,.nils,.nils,.nils]))]++mdT x.2.1 x.2.2)
  (fun x=>x.1.l<:+out.map TX.t∧OgOk x.2.1 x.2.2∧MdSm x.2.1 (1048577-mS x.1)∧lpS (fun s=> !nextR s 0 kTop) stBR x.2.1 x.1=F) (fun x=>mS x.1) (s3,{md0 with name:=nm},⟨none,none,none,none,none,none⟩) (zB (oj hn_g2 (oj hn_g6 hn_g7))) zZ ⟨hs3,⟨fun _=>rfl,fun _=>rfl,fun _=>rfl,fun _=>rfl,fun _=>rfl,fun _=>rfl⟩,⟨Nat.zero_le _,Nat.zero_le _,Nat.zero_le _,Nat.zero_le _,Nat.zero_le _,Nat.zero_le _⟩,hF⟩ ?_
 rintro ⟨sx,m,o⟩ ⟨hsx,hog,hm,hlp⟩
 dsimp only at hsx hog hm hlp⊢
 simp only [List.cons_append,List.nil_append]
 have i0:=rnext_fa out sx 0 kTop hsx om
 have i1:=rtake_fa out sx 0 [] hsx om
 all_goals try(have Z:=(oj hn_g2 (oj hn_g6 hn_g7));(repeat' first|refine yA1 Z ?_|(refine yC2 Z (i0) ?_)|(refine yD2 Z (i0) ?_)|refine zW Z ?_|refine yP Z ?_|refine yN Z ?_|refine zC Z (fun hb=>?_) fun hb=>?_|refine zG Z (fun hb=>?_) fun hb=>?_|refine zD Z (fun hb=>?_) fun hb=>?_);all_goals clear Z)
 ·rename_i hz
  have hc:(fun s=> !nextR s 0 kTop) sx=true:=hb
  have hst:=lpS_step (c:=fun s=> !nextR s 0 kTop) (b:=stBR) (a:=m) (fun a s h _=>con_stBR a s h) hz hc
  have hlt:=con_stBR m sx hz
  rw [hst] at hlp
  have hsy:(stBR m sx).2.l<:+out.map TX.t:=((rdr_stBR m).suf sx).trans hsx
  have hm1:1≤mS sx:=by unfold mS;rw [if_pos hz];omega
  have hm2:mS sx≤1048577:=by
   have:=hsx.length_le
   rw [List.length_map] at this
   unfold mS
   split<;>omega
  have eb:stBR m sx=if(takeR sx 0 []).2.e=0 then statR m (takeR sx 0 []).1 (takeR sx 0 []).2 else(m,(takeR sx 0 []).2):=rfl
  have hsa:=takeR_suf hsx 0 []
  generalize takeR sx 0 []=y at*
  obtain⟨w,sa⟩:=y
  dsimp only at*
  all_goals try(have Z:=(oj hn_g2 (oj hn_g6 hn_g7));(repeat' first|refine yA1 Z ?_|(refine yC2 Z (i1) ?_)|(refine yD2 Z (i1) ?_)|refine zW Z ?_|refine yP Z ?_|refine yN Z ?_|refine zC Z (fun hb=>?_) fun hb=>?_|refine zG Z (fun hb=>?_) fun hb=>?_|refine zD Z (fun hb=>?_) fun hb=>?_);all_goals clear Z)
  ·rw [if_pos hb] at eb
   rw [eb] at hlp hlt hsy
   have hf:=rstat_fh out sa m o w hsa hL hw' hog (hm.mono om)
   have hm3:=(hm.statR w sa).mono (show _≤1048577-mS (statR m w sa).2 by omega)
   refine aw_callh (hr:=[(g7,.cells 64 2 (ofL (rv out sa))),(g6,.cells 30 8 (ofL (mdg m o))),(g2,.cells 30 8 (ofL [.str (sB []),.str (sB []),.nils,.nils,.nils,.nils,.nils,.nils]))]) hf rfl rfl rfl (by exact(List.perm_append_comm (l₁:=([(g7,.cells 64 2 (ofL (rv out sa))),(g6,.cells 30 8 (ofL (mdg m o))),(g2,.cells 30 8 (ofL [.str (sB []),.str (sB []),.nils,.nils,.nils,.nils,.nils,.nils]))]:Heap)))) (zL (oj hn_g2 (oj hn_g6 hn_g7))) ?_
   rintro r h' ⟨o',ho',rfl,rfl⟩ _
   refine aw_perm (h':=(g7,.cells 64 2 (ofL (rv out sa)))::(g6,.cells 30 8 (ofL (mdg m o)))::(g2,.cells 30 8 (ofL [.str (sB []),.str (sB []),.nils,.nils,.nils,.nils,.nils,.nils]))::mdT (statR m w sa).1 o') (by exact(List.perm_append_comm (l₂:=([(g7,.cells 64 2 (ofL (rv out sa))),(g6,.cells 30 8 (ofL (mdg m o))),(g2,.cells 30 8 (ofL [.str (sB []),.str (sB []),.nils,.nils,.nils,.nils,.nils,.nils]))]:Heap)))) ?_
   have J1:=oj hn_g2 (oj hn_g6 hn_g7)
   refine yS J1 ?_
   generalize statR m w sa=z at*
   obtain⟨m',sz⟩:=z
   dsimp only at*
   all_goals try(have Z:=J1;(repeat' first|refine yA1 Z ?_|refine zW Z ?_|refine yP Z ?_|refine yN Z ?_|refine zC Z (fun hb=>?_) fun hb=>?_|refine zG Z (fun hb=>?_) fun hb=>?_|refine zD Z (fun hb=>?_) fun hb=>?_);all_goals clear Z)
   refine aw_store (v:=.agg (mdg m' o')) rfl rfl rfl rfl (zE J1) (zE J1) (zE J1) (zE J1) (fun _ e=>by cases e) (solid_mdg (m:=m') (o:=o')) (by rfl) (by first|omega|simp) rfl ?_
   refine yS J1 ?_
   all_goals try(have Z:=J1;(repeat' first|refine yA1 Z ?_|refine zW Z ?_|refine yP Z ?_|refine yN Z ?_|refine zC Z (fun hb=>?_) fun hb=>?_|refine zG Z (fun hb=>?_) fun hb=>?_|refine zD Z (fun hb=>?_) fun hb=>?_);all_goals clear Z)
   refine aw_stop ⟨(sz,m',o'),?_⟩
   refine⟨hlt,?_⟩
   and_intros
   all_goals first|rfl|exact List.Sublist.refl _|exact True.intro|exact hsy|exact ho'|exact hm3|exact hlp
  ·rw [if_neg hb] at eb
   rw [eb] at hlp hlt hsy
   dsimp only at*
   have hm4:MdSm m (1048577-mS sa):=hm.mono om
   refine aw_stop ⟨(sa,m,o),?_⟩
   refine⟨hlt,?_⟩
   and_intros
   all_goals first|rfl|exact List.Sublist.refl _|exact True.intro|exact hsy|exact hog|exact hm4|exact hlp
 all_goals
  have hc:¬(sx.e=0∧(fun s=> !nextR s 0 kTop) sx=true):=by
   first
    |exact fun z=>by rw [show(fun s=> !nextR s 0 kTop) sx=false from hb] at z;exact absurd z.2 (by decide)
    |exact fun z=>hb z.1
  rw [lpS_end hc] at hlp
  subst hlp
  dsimp only at*
  refine aw_perm (h':=(g6,.cells 30 8 (ofL (mdg m o)))::(gh o.e 94 (m.events.length*11) (evsF m.events)++(gh o.h 97 (m.houses.length*2) (hssF m.houses)++(gh o.g 45 (m.gates.length*7) (gtsF m.gates)++(gh o.p 100 (m.pages.length*3) (pgsF m.pages)++(gh o.r 78 (m.groups.length*4) (grsF m.groups)++(gh o.s 82 (m.phases.length*3) (phsF m.phases)++([(g7,.cells 64 2 (ofL (rv out sx))),(g2,.cells 30 8 (ofL [.str (sB []),.str (sB []),.nils,.nils,.nils,.nils,.nils,.nils]))])))))))) ?_ ?_
  ·have e:gh o.e 94 (m.events.length*11) (evsF m.events)++(gh o.h 97 (m.houses.length*2) (hssF m.houses)++(gh o.g 45 (m.gates.length*7) (gtsF m.gates)++(gh o.p 100 (m.pages.length*3) (pgsF m.pages)++(gh o.r 78 (m.groups.length*4) (grsF m.groups)++(gh o.s 82 (m.phases.length*3) (phsF m.phases)++([(g7,.cells 64 2 (ofL (rv out sx))),(g2,.cells 30 8 (ofL [.str (sB []),.str (sB []),.nils,.nils,.nils,.nils,.nils,.nils]))]))))))=mdT m o++[(g7,.cells 64 2 (ofL (rv out sx))),(g2,.cells 30 8 (ofL [.str (sB []),.str (sB []),.nils,.nils,.nils,.nils,.nils,.nils]))]:=by
    unfold mdT
    simp only [List.flatten_cons,List.flatten_nil,List.append_assoc,List.append_nil,List.nil_append]
   rw [e]
   exact(List.Perm.swap _ _ _).trans (.cons _ (List.perm_append_comm (l₁:=([(g7,.cells 64 2 (ofL (rv out sx))),(g2,.cells 30 8 (ofL [.str (sB []),.str (sB []),.nils,.nils,.nils,.nils,.nils,.nils]))]:Heap))))
  refine aw_frzG (j0:=2) (n:=m.events.length) (s:=11) (f':=ofL [.str (sB m.name),.str (sB m.top),evs true m.events,gs o.h 2 m.houses.length,gs o.g 7 m.gates.length,gs o.p 3 m.pages.length,gs o.r 4 m.groups.length,gs o.s 3 m.phases.length]) rfl rfl (fun j hj hj3=>by
   match j,hj,hj3 with
   |0,_,_=>rfl
   |1,_,_=>rfl
   |2,_,h=>exact absurd rfl h
   |3,_,_=>rfl
   |4,_,_=>rfl
   |5,_,_=>rfl
   |6,_,_=>rfl
   |7,_,_=>rfl
   |j+8,h,_=>exact absurd h om) hog.e (fun g _=>hC g) ?_
  refine aw_frzG (j0:=3) (n:=m.houses.length) (s:=2) (f':=ofL [.str (sB m.name),.str (sB m.top),evs true m.events,hss true m.houses,gs o.g 7 m.gates.length,gs o.p 3 m.pages.length,gs o.r 4 m.groups.length,gs o.s 3 m.phases.length]) rfl rfl (fun j hj hj3=>by
   match j,hj,hj3 with
   |0,_,_=>rfl
   |1,_,_=>rfl
   |2,_,_=>rfl
   |3,_,h=>exact absurd rfl h
   |4,_,_=>rfl
   |5,_,_=>rfl
   |6,_,_=>rfl
   |7,_,_=>rfl
   |j+8,h,_=>exact absurd h om) hog.h (fun g _=>hC g) ?_
  refine aw_frzG (j0:=4) (n:=m.gates.length) (s:=7) (f':=ofL [.str (sB m.name),.str (sB m.top),evs true m.events,hss true m.houses,gts true m.gates,gs o.p 3 m.pages.length,gs o.r 4 m.groups.length,gs o.s 3 m.phases.length]) rfl rfl (fun j hj hj3=>by
   match j,hj,hj3 with
   |0,_,_=>rfl
   |1,_,_=>rfl
   |2,_,_=>rfl
   |3,_,_=>rfl
   |4,_,h=>exact absurd rfl h
   |5,_,_=>rfl
   |6,_,_=>rfl
   |7,_,_=>rfl
   |j+8,h,_=>exact absurd h om) hog.g (fun g _=>hC g) ?_
  refine aw_frzG (j0:=5) (n:=m.pages.length) (s:=3) (f':=ofL [.str (sB m.name),.str (sB m.top),evs true m.events,hss true m.houses,gts true m.gates,pgs true m.pages,gs o.r 4 m.groups.length,gs o.s 3 m.phases.length]) rfl rfl (fun j hj hj3=>by
   match j,hj,hj3 with
   |0,_,_=>rfl
   |1,_,_=>rfl
   |2,_,_=>rfl
   |3,_,_=>rfl
   |4,_,_=>rfl
   |5,_,h=>exact absurd rfl h
   |6,_,_=>rfl
   |7,_,_=>rfl
   |j+8,h,_=>exact absurd h om) hog.p (fun g _=>hC g) ?_
  refine aw_frzG (j0:=6) (n:=m.groups.length) (s:=4) (f':=ofL [.str (sB m.name),.str (sB m.top),evs true m.events,hss true m.houses,gts true m.gates,pgs true m.pages,grs true m.groups,gs o.s 3 m.phases.length]) rfl rfl (fun j hj hj3=>by
   match j,hj,hj3 with
   |0,_,_=>rfl
   |1,_,_=>rfl
   |2,_,_=>rfl
   |3,_,_=>rfl
   |4,_,_=>rfl
   |5,_,_=>rfl
   |6,_,h=>exact absurd rfl h
   |7,_,_=>rfl
   |j+8,h,_=>exact absurd h om) hog.r (fun g _=>hC g) ?_
  refine aw_frzG (j0:=7) (n:=m.phases.length) (s:=3) (f':=ofL [.str (sB m.name),.str (sB m.top),evs true m.events,hss true m.houses,gts true m.gates,pgs true m.pages,grs true m.groups,phs true m.phases]) rfl rfl (fun j hj hj3=>by
   match j,hj,hj3 with
   |0,_,_=>rfl
   |1,_,_=>rfl
   |2,_,_=>rfl
   |3,_,_=>rfl
   |4,_,_=>rfl
   |5,_,_=>rfl
   |6,_,_=>rfl
   |7,_,h=>exact absurd rfl h
   |j+8,h,_=>exact absurd h om) hog.s (fun g _=>hC g) ?_
  all_goals try(have Z:=(oj hn_g2 (oj hn_g6 hn_g7));(repeat' first|refine yA1 Z ?_|(refine yC2 Z (f3) ?_)|(refine yD2 Z (f3) ?_)|(refine yC2 Z (f4) ?_)|(refine yD2 Z (f4) ?_)|(refine yC2 Z (f5) ?_)|(refine yD2 Z (f5) ?_)|(refine yC2 Z (f6) ?_)|(refine yD2 Z (f6) ?_)|refine zW Z ?_|refine yP Z ?_|refine yN Z ?_|refine zC Z (fun hb=>?_) fun hb=>?_|refine zG Z (fun hb=>?_) fun hb=>?_|refine zD Z (fun hb=>?_) fun hb=>?_);all_goals clear Z)
  ·have h1:(endS s7).e≠0:=by simpa using hb
   refine yT hC (oj hn_g2 (oj hn_g6 hn_g7)) ?_
   rw [if_pos h1]
   exact .tup ⟨.agg lerl_md0,.c (.int _ _),trivial⟩
  have h1:¬(endS s7).e≠0:=by simpa using hb
  rw [if_neg h1]
  have f7:=hck (by simpa using h1)
  all_goals try(have Z:=(oj hn_g2 (oj hn_g6 hn_g7));(repeat' first|refine yA1 Z ?_|(refine yC2 Z (f7) ?_)|(refine yD2 Z (f7) ?_)|refine zW Z ?_|refine yP Z ?_|refine yN Z ?_|refine zC Z (fun hb=>?_) fun hb=>?_|refine zG Z (fun hb=>?_) fun hb=>?_|refine zD Z (fun hb=>?_) fun hb=>?_);all_goals clear Z)
  ·have h2:ck {m with top:=tp}≠0:=by simpa using hb
   refine yT hC (oj hn_g2 (oj hn_g6 hn_g7)) ?_
   rw [if_pos h2]
   exact .tup ⟨.agg lerl_md0,.c (.int _ _),trivial⟩
  ·have h2:¬ck {m with top:=tp}≠0:=by simpa using hb
   refine yT hC (oj hn_g2 (oj hn_g6 hn_g7)) ?_
   rw [if_neg h2]
   exact .tup ⟨.agg (lerl_md (x:={m with top:=tp})),.c (.int _ _),trivial⟩
end Go.Proofs.YteehccacfedolaaGreat
