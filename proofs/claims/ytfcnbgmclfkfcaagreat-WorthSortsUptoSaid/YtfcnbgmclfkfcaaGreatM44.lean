/- Parts of one proof, laid by a program. -/
import Derived.Test.YtfcnbgmclfkfcaaGreatM00
import Derived.Test.YtfcnbgmclfkfcaaGreatM36
import Derived.Test.YtfcnbgmclfkfcaaGreatM37
import Derived.Test.YtfcnbgmclfkfcaaGreatM39
set_option linter.unusedSimpArgs false
set_option linter.unusedVariables false
namespace Go.Proofs.YtfcnbgmclfkfcaaGreat
open Go.AI Go.PN
attribute [local irreducible] aw Fa Fh DrK
theorem place_none {l:List Int} {n:Int} (h:∀j,j<l.length→l.getD j 0≠n):placeZ l n= -1:=by
 unfold placeZ
 rw [if_neg]
 intro hm
 obtain⟨k,hk,e⟩:=List.mem_iff_getElem.1 hm
 exact h k hk (by rw [getDZ hk,e])
set_option maxHeartbeats 400000 in
theorem place_fa (l:List Int) (n:Int) (hl:l.length≤1099511627776):Fa Tryz.prog 42 [.c (is false l),.c (.int .i64 n)] (.c (.int .i64 (placeZ l n))):=by
 refine fa_of_body Tryz.func42 rfl rfl (by simp [Tryz.ntmps42]) fun C hC=> ?_
 simp only [initS,Nat.reduceAdd]
 refine xG ?_
 refine aw_lp (fun i:Nat=>[(0,.c (is false l)),(1,.c (.int .i64 n)),(5,.c (.int .i64 i))]) (fun _=>[]) (fun i=>i≤l.length∧∀j,j<i→l.getD j 0≠n) (fun i=>l.length-i) 0 eB zZ ⟨Nat.zero_le _,fun j hj=>by omega⟩ ?_
 rintro i ⟨hi,hs⟩
 refine xG ?_
 refine xF (fun hb=>?_) fun hb=>?_
 ·have hin:i<l.length:=dT hb
  refine xG ?_
  refine xF (fun hc=>?_) fun hc=>?_
  ·refine xGT hC ?_
   exact .one (.c (ler_int (place_at hin (eq_of_beq hc) hs).symm))
  ·have hne:l.getD i 0≠n:=fun e=>by rw [e] at hc;simp at hc
   refine xG ?_
   refine aw_stop ⟨i+1,by omega,eB,zZ,by omega,fun j hj=> ?_⟩
   by_cases hji:j=i
   ·rw [hji];exact hne
   ·exact hs j om
 ·have hin:i=l.length:=dF hb
  subst hin
  refine xGT hC ?_
  exact .one (.c (ler_int (place_none hs).symm))
end Go.Proofs.YtfcnbgmclfkfcaaGreat
namespace Go.PN
open Go.AI
theorem place_neg {l:List Int} {n:Int}:(placeZ l n≥0)↔n∈l:=by
 unfold placeZ
 split
 ·rename_i h
  exact⟨fun _=>h,fun _=>by omega⟩
 ·rename_i h
  exact⟨fun k=>by omega,fun k=>absurd k h⟩
end Go.PN
namespace Go.Proofs.YtfcnbgmclfkfcaaGreat
open Go.AI Go.PN
attribute [local irreducible] aw Fa Fh DrK
set_option maxRecDepth 100000 in
set_option maxHeartbeats 3200000 in
theorem lawWSorts_fa (p:List RD) (hw:WordsOk p) (hl:p.length≤1099511627776):
 Fa Tryz.prog 9 [.c (rats false p)] (.c (.bool true)):=by
 refine fa_of_body Tryz.func9 rfl rfl (by simp [Tryz.ntmps9]) fun C hC=> ?_
 simp only [initS,Nat.reduceAdd]
 refine xG ?_
 refine xC (awake43_fa) ?_
 by_cases h6:(p.length:Int)>60
 ·have d1:decide ((p.length:Int)>60)=true:=decide_eq_true h6
  refine yGPG d1 ?_
  refine yC d1 (awake43_fa) ?_
  refine yGT hC d1 ?_
  exact .one (.c (.bool _))
 have d1:decide ((p.length:Int)>60)=false:=decide_eq_false h6
 refine yG d1 ?_
 refine aw_callq (large43_fa fm0 p (by decide) fm0_args (by decide) (by decide) hl) rfl rfl rfl (by refine yS d1 ?_;exact⟨.agg ⟨.refl _,.nils,.refl _,trivial⟩,.c (.refl _)⟩) ?_
 refine ySG d1 ?_
 refine yF d1 (fun hL=>?_) fun hL=>?_
 ·refine yG d1 ?_
  refine yC d1 (awake43_fa) ?_
  refine yGT hC d1 ?_
  exact .one (.c (.bool _))
 have hw4:=fm0_wf hw hL
 have hw5:∀r∈p,r.wf 500000000:=fun r hr=>wf_mono (hw4 r hr) om
 refine yG d1 ?_
 refine aw_callh (hc:=[]) (hr:=[]) (rank_fh p hw5 om) rfl rfl rfl (.refl _) (zL d1) ?_
 rintro _ _ ⟨rfl,L,hR,rfl⟩ _
 have hRl:=hR.len
 have nL:((L.length:Int) !=(p.length:Int))=false:=by rw [hRl];simp
 have J1:=oj d1 nL
 refine ySGNG J1 ?_
 refine aw_lp (fun x:Nat=>[(0,.c (rats false p)),(3,.c (is true L)),(4,.c (.int .i64 x))]) (fun _=>[]) (fun x=>x≤p.length) (fun x=>p.length-x) 0 (zB J1) zZ (Nat.zero_le _) ?_
 rintro i hi
 refine xG ?_
 refine xF (fun h1=>?_) fun h1=>?_
 ·have hin:i<p.length:=dT h1
  have hm:=(hR.mem (L.getD i 0)).1 (by rw [getDZ om];exact List.getElem_mem _)
  obtain⟨m,em⟩:=Int.eq_ofNat_of_zero_le hm.1
  have hmn:m<p.length:=by omega
  have e1:decide ((m:Int)<0)=false:=decide_eq_false om
  have e2:decide ((m:Int)≥(p.length:Int))=false:=decide_eq_false om
  have hpl:=place_neg.2 ((hR.mem (i:Int)).2 ⟨by omega,by omega⟩)
  have e3:decide (placeZ L (i:Int)<0)=false:=decide_eq_false om
  have J2:=oj em (oj e1 (oj e2 e3))
  refine yG J2 ?_
  refine yC J2 (place_fa L (i:Int) ?_) ?_
  ·omega
  refine yGNG J2 ?_
  by_cases h0:0<i
  ·have e4:decide ((i:Int)>0)=true:=decide_eq_true om
   have ex:((i:Int)-1).toNat=i-1:=by omega
   have hm':=(hR.mem (L.getD (i-1) 0)).1 (by rw [getDZ om];exact List.getElem_mem _)
   obtain⟨m',em'⟩:=Int.eq_ofNat_of_zero_le hm'.1
   have hmn':m'<p.length:=by omega
   have hlt:=hR.asc0 (i-1) i (Nat.zero_le _) om hin
   dsimp only at hlt
   rw [em,em',ltQ_iff,kQ_nat,kQ_nat] at hlt
   have hc:=scmp_fa (p.getD m' rd0) (p.getD m rd0) (getD_wf hw5 hmn') (getD_wf hw5 hmn)
   have q1:decide ((1:Int)<0)=false:=rfl
   have q2:((1:Int)==0)=false:=rfl
   have q3:decide ((0:Int)<0)=false:=rfl
   have q4:((0:Int)==0)=true:=rfl
   have J3:=oj em (oj e1 (oj e2 (oj e3 (oj e4 (oj ex (oj em' (oj q1 (oj q2 (oj q3 q4)))))))))
   refine yS J3 ?_
   refine yP J3 ?_
   rcases hlt with hlt|⟨hlt,hmm⟩
   ·rw [sgp (by grind)] at hc
    refine yG J3 ?_
    refine aw_dr 17 ty_mixed (by kernel_rfl) ?_
    refine yG J3 ?_
    refine yD J3 (hc) ?_
    refine yG J3 ?_
    refine aw_dr 18 ty_mixed (by kernel_rfl) ?_
    refine yGNG J3 ?_
    exact aw_stop ⟨i+1,by omega,(zB J3),zZ,by omega⟩
   ·rw [sg_eq (by grind)] at hc
    have q5:decide ((m':Int)>(m:Int))=false:=decide_eq_false om
    have J4:=oj em (oj e1 (oj e2 (oj e3 (oj e4 (oj ex (oj em' (oj q1 (oj q2 (oj q3 (oj q4 q5))))))))))
    refine yG J4 ?_
    refine aw_dr 17 ty_mixed (by kernel_rfl) ?_
    refine yG J4 ?_
    refine yD J4 (hc) ?_
    refine yG J4 ?_
    refine aw_dr 18 ty_mixed (by kernel_rfl) ?_
    refine yGNG J4 ?_
    exact aw_stop ⟨i+1,by omega,(zB J4),zZ,by omega⟩
  ·have e4:decide ((i:Int)>0)=false:=decide_eq_false om
   have J5:=oj em (oj e1 (oj e2 (oj e3 e4)))
   refine yS J5 ?_
   refine yN J5 ?_
   refine yG J5 ?_
   exact aw_stop ⟨i+1,by omega,(zB J5),zZ,by omega⟩
 ·refine xGT hC ?_
  exact .one (.c (.bool _))
end Go.Proofs.YtfcnbgmclfkfcaaGreat
