/- Parts of one proof, laid by a program. -/
import Derived.Test.YteocnikcjjonbaaGreatM00
import Derived.Test.YteocnikcjjonbaaGreatM12
set_option linter.unusedSimpArgs false
set_option linter.unusedVariables false
set_option maxRecDepth 100000
set_option maxHeartbeats 12800000
namespace Go.PN
open Go.AI
def awT:BS:=[109,111,100,101,108,32,109,59,32,101,118,101,110,116,32,97,32,112,32,49,47,49,48,48,59,32,101,118,101,110,116,32,98,59,32,103,97,116,101,32,103,32,97,110,100,32,97,32,98,59,32,116,111,112,32,103,59]
def awG:BS:=[103,97,116,101,32,103,32,118,111,116,101,32,50,32,97,32,98,32,64,32,112,59]
abbrev awM:MdD:=⟨[109],[103],[⟨[97],rd (1/100),rd0,rd0,0⟩,⟨[98],rd0,rd0,rd0,0⟩],[],[⟨[103],0,0,[[97],[98]],rd0⟩],[],[],[]⟩
abbrev awD:GtD:=⟨[103],2,2,[[97],[98],[64,112]],rd0⟩
theorem awT_ok:modelP mcC awT=(awM,0):=by
 have h1:(splitS awT).1=0:=by decide+kernel
 have h2:(readS ⟨(splitS awT).2,0⟩).1=awM:=by decide+kernel
 have h3:(readS ⟨(splitS awT).2,0⟩).2.e=0:=by decide+kernel
 have h4:mcC awM=0:=by decide+kernel
 unfold modelP
 dsimp only
 rw [if_neg (fun h=>h h1),if_neg (fun h=>h h3),h2,if_neg (fun h=>h h4)]
theorem awG_ok:gateP awG=(awD,0):=by
 have h1:(splitS awG).1=0:=by decide+kernel
 have h2:(gateS (expS kGate ⟨(splitS awG).2,0⟩)).1=awD:=by decide+kernel
 have h3:(endS (gateS (expS kGate ⟨(splitS awG).2,0⟩)).2).e=0:=by decide+kernel
 unfold gateP
 dsimp only
 rw [if_neg (fun h=>h h1),if_neg (fun h=>h h3),h2]
end Go.PN
namespace Go.Proofs.YteocnikcjjonbaaGreat
open Go.AI Go.PN
attribute [local irreducible] aw Fa Fh DrK
theorem awake23_fa:Fa Tryz.prog 9 [] (.c (.bool true)):=by
 have f1:=pm_fa awT (by decide)
 have f2:=pg_fa awG (by decide)
 rw [awT_ok] at f1
 rw [awG_ok] at f2
 dsimp only at f1 f2
 have f3:=texts_fa [[97],[98],[64,112]] [[97],[98],[64,112]] (by decide) (by decide)
 have e0:errA 0=.nilI:=if_pos rfl
 rw [e0] at f1 f2
 unfold awT at f1
 unfold awG at f2
 refine fa_of_body Tryz.func9 rfl rfl (by simp [Tryz.ntmps9]) fun C hC=> ?_
 simp only [initS,Nat.reduceAdd]
 repeat' first|refine yA1 o0 ?_|(refine yC2 o0 (f1) ?_)|(refine yD2 o0 (f1) ?_)|(refine yC2 o0 (f2) ?_)|(refine yD2 o0 (f2) ?_)|(refine xW ?_;refine xS ?_)|refine xP ?_|refine xN ?_|refine aw_cd eE (fun hb=>?_) (fun hb=>?_)|refine aw_ce eE (fun hb=>?_) (fun hb=>?_)|refine aw_cn eE (fun hb=>?_) (fun hb=>?_)|(refine xF (fun hb=>?_) (fun hb=>?_)<;>fail_if_success (cases hb;done))|(refine aw_gsd rfl rfl eE (fun hb=>?_) (fun hb=>?_)<;>refine xS ?_)|(refine aw_gse rfl rfl eE (fun hb=>?_) (fun hb=>?_)<;>refine xS ?_)|(refine aw_gsn rfl rfl eE (fun hb=>?_) (fun hb=>?_)<;>refine xS ?_)|(refine aw_gs rfl rfl eE (fun hb=>?_) (fun hb=>?_)<;>fail_if_success (cases hb;done)<;>refine xS ?_)|(refine drk_gsd rfl rfl eE (fun hb=>?_) (fun hb=>?_)<;>refine xS ?_)|(refine drk_gse rfl rfl eE (fun hb=>?_) (fun hb=>?_)<;>refine xS ?_)|(refine drk_gsn rfl rfl eE (fun hb=>?_) (fun hb=>?_)<;>refine xS ?_)|(refine drk_gs rfl rfl eE (fun hb=>?_) (fun hb=>?_)<;>fail_if_success (cases hb;done)<;>refine xS ?_)
 refine xA fun g1 hn_g1=>?_
 repeat' first|refine yA1 hn_g1 ?_|(refine yC2 hn_g1 (f1) ?_)|(refine yD2 hn_g1 (f1) ?_)|(refine yC2 hn_g1 (f2) ?_)|(refine yD2 hn_g1 (f2) ?_)|(refine yW hn_g1 ?_;refine yS hn_g1 ?_)|refine yP hn_g1 ?_|refine yN hn_g1 ?_|refine aw_cd (zE hn_g1) (fun hb=>?_) (fun hb=>?_)|refine aw_ce (zE hn_g1) (fun hb=>?_) (fun hb=>?_)|refine aw_cn (zE hn_g1) (fun hb=>?_) (fun hb=>?_)|(refine yF hn_g1 (fun hb=>?_) (fun hb=>?_)<;>fail_if_success (cases hb;done))|(refine aw_gsd rfl rfl (zE hn_g1) (fun hb=>?_) (fun hb=>?_)<;>refine yS hn_g1 ?_)|(refine aw_gse rfl rfl (zE hn_g1) (fun hb=>?_) (fun hb=>?_)<;>refine yS hn_g1 ?_)|(refine aw_gsn rfl rfl (zE hn_g1) (fun hb=>?_) (fun hb=>?_)<;>refine yS hn_g1 ?_)|(refine aw_gs rfl rfl (zE hn_g1) (fun hb=>?_) (fun hb=>?_)<;>fail_if_success (cases hb;done)<;>refine yS hn_g1 ?_)|(refine drk_gsd rfl rfl (zE hn_g1) (fun hb=>?_) (fun hb=>?_)<;>refine yS hn_g1 ?_)|(refine drk_gse rfl rfl (zE hn_g1) (fun hb=>?_) (fun hb=>?_)<;>refine yS hn_g1 ?_)|(refine drk_gsn rfl rfl (zE hn_g1) (fun hb=>?_) (fun hb=>?_)<;>refine yS hn_g1 ?_)|(refine drk_gs rfl rfl (zE hn_g1) (fun hb=>?_) (fun hb=>?_)<;>fail_if_success (cases hb;done)<;>refine yS hn_g1 ?_)
 refine yA hn_g1 fun g3 hn_g3=>?_
 repeat' first|refine yA1 (oj hn_g1 hn_g3) ?_|(refine yW (oj hn_g1 hn_g3) ?_;refine yS (oj hn_g1 hn_g3) ?_)|refine yP (oj hn_g1 hn_g3) ?_|refine yN (oj hn_g1 hn_g3) ?_|refine aw_cd (zE (oj hn_g1 hn_g3)) (fun hb=>?_) (fun hb=>?_)|refine aw_ce (zE (oj hn_g1 hn_g3)) (fun hb=>?_) (fun hb=>?_)|refine aw_cn (zE (oj hn_g1 hn_g3)) (fun hb=>?_) (fun hb=>?_)|(refine yF (oj hn_g1 hn_g3) (fun hb=>?_) (fun hb=>?_)<;>fail_if_success (cases hb;done))|(refine aw_gsd rfl rfl (zE (oj hn_g1 hn_g3)) (fun hb=>?_) (fun hb=>?_)<;>refine yS (oj hn_g1 hn_g3) ?_)|(refine aw_gse rfl rfl (zE (oj hn_g1 hn_g3)) (fun hb=>?_) (fun hb=>?_)<;>refine yS (oj hn_g1 hn_g3) ?_)|(refine aw_gsn rfl rfl (zE (oj hn_g1 hn_g3)) (fun hb=>?_) (fun hb=>?_)<;>refine yS (oj hn_g1 hn_g3) ?_)|(refine aw_gs rfl rfl (zE (oj hn_g1 hn_g3)) (fun hb=>?_) (fun hb=>?_)<;>fail_if_success (cases hb;done)<;>refine yS (oj hn_g1 hn_g3) ?_)|(refine drk_gsd rfl rfl (zE (oj hn_g1 hn_g3)) (fun hb=>?_) (fun hb=>?_)<;>refine yS (oj hn_g1 hn_g3) ?_)|(refine drk_gse rfl rfl (zE (oj hn_g1 hn_g3)) (fun hb=>?_) (fun hb=>?_)<;>refine yS (oj hn_g1 hn_g3) ?_)|(refine drk_gsn rfl rfl (zE (oj hn_g1 hn_g3)) (fun hb=>?_) (fun hb=>?_)<;>refine yS (oj hn_g1 hn_g3) ?_)|(refine drk_gs rfl rfl (zE (oj hn_g1 hn_g3)) (fun hb=>?_) (fun hb=>?_)<;>fail_if_success (cases hb;done)<;>refine yS (oj hn_g1 hn_g3) ?_)
 all_goals first
  |(exfalso;exact hb rfl)
  |skip
 have hc1:(Value.string {data:= #[97]})=.string (sB [97]):=rfl
 refine aw_buildSlice (xs:=[.const (.string (sB [97])),.const (.string (sB [98])),.const (.string (sB [64,112]))]) (cells:=[.str (sB [97]),.str (sB [98]),.str (sB [64,112])]) rfl rfl rfl (zE (oj hn_g1 hn_g3)) (by refine yS (oj hn_g1 hn_g3) ?_;rfl) rfl om om (by intro z hz;simp only [List.mem_cons,List.not_mem_nil,or_false] at hz;rcases hz with rfl|rfl|rfl<;>exact⟨rfl,rfl,rfl⟩) rfl fun g hg=> ?_
 replace hg:=Heap.ne_of hg
 dsimp only [Heap.ne] at hg
 have J1:=oj hn_g1 (oj hn_g3 hg)
 refine yS J1 ?_
 refine aw_callq f3 rfl rfl rfl (by refine yS J1 ?_;exact⟨.c wl2,.c (.osl (m:=3) (zE J1) om (fun j hj=>by match j,hj with|0,_=>exact .refl _|1,_=>exact .refl _|2,_=>exact .refl _))⟩) ?_
 refine yS J1 ?_
 repeat' first|refine yA1 J1 ?_|(refine yW J1 ?_;refine yS J1 ?_)|refine yP J1 ?_|refine yN J1 ?_|refine aw_cd (zE J1) (fun hb=>?_) (fun hb=>?_)|refine aw_ce (zE J1) (fun hb=>?_) (fun hb=>?_)|refine aw_cn (zE J1) (fun hb=>?_) (fun hb=>?_)|(refine yF J1 (fun hb=>?_) (fun hb=>?_)<;>fail_if_success (cases hb;done))|(refine aw_gsd rfl rfl (zE J1) (fun hb=>?_) (fun hb=>?_)<;>refine yS J1 ?_)|(refine aw_gse rfl rfl (zE J1) (fun hb=>?_) (fun hb=>?_)<;>refine yS J1 ?_)|(refine aw_gsn rfl rfl (zE J1) (fun hb=>?_) (fun hb=>?_)<;>refine yS J1 ?_)|(refine aw_gs rfl rfl (zE J1) (fun hb=>?_) (fun hb=>?_)<;>fail_if_success (cases hb;done)<;>refine yS J1 ?_)|(refine drk_gsd rfl rfl (zE J1) (fun hb=>?_) (fun hb=>?_)<;>refine yS J1 ?_)|(refine drk_gse rfl rfl (zE J1) (fun hb=>?_) (fun hb=>?_)<;>refine yS J1 ?_)|(refine drk_gsn rfl rfl (zE J1) (fun hb=>?_) (fun hb=>?_)<;>refine yS J1 ?_)|(refine drk_gs rfl rfl (zE J1) (fun hb=>?_) (fun hb=>?_)<;>fail_if_success (cases hb;done)<;>refine yS J1 ?_)
 refine yT hC J1 ?_
 exact .one (.c (ler_bool (by decide)))
end Go.Proofs.YteocnikcjjonbaaGreat
