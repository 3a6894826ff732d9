/- Parts of one proof, laid by a program. -/
import Derived.Test.YtfcnbgmclfkfcaaGreatM00
import Derived.Test.YtfcnbgmclfkfcaaGreatM40
set_option linter.unusedSimpArgs false
set_option linter.unusedVariables false
namespace Go.Proofs.YtfcnbgmclfkfcaaGreat
open Go.AI Go.PN
attribute [local irreducible] aw Fa Fh DrK
set_option maxHeartbeats 800000 in
theorem reduceR_fa {f:FM} {p:List RD} (hk:WFn f p) (i:Nat) (hi:i<p.length) (hz:wV f (p.set i rd0)≠0):Fa Tryz.prog 18 [.agg (fmc false f),.c (rats false p),.c (.int .i64 i)] (.agg (rdc (rd (wV f p/wV f (p.set i rd0))))):=by
 have h6:=hk.h6
 have ho:=over_fa (rd (wV f p)) (rd (wV f (p.set i rd0))) (rdw (wV_fits hk.w h6) om) (rdw (wV0_fits hk.w h6 i) om) (by rw [rd_q];exact hz)
 rw [rd_q,rd_q] at ho
 refine fa_of_body Tryz.func18 rfl rfl (by simp [Tryz.ntmps18]) fun C hC=> ?_
 simp only [initS,Nat.reduceAdd]
 refine xG ?_
 refine xB fun g3 hn_g3=>?_
 refine yG hn_g3 ?_
 refine yA hn_g3 fun g6 hn_g6=>?_
 have J1:=oj hn_g3 hn_g6
 refine yG J1 ?_
 refine aw_dr 9 ty_mixed (by kernel_rfl) ?_
 refine yG J1 ?_
 refine yD J1 (topR_fa hk) ?_
 refine yG J1 ?_
 refine drk_call (withR_fa hk i hi rd0 rd0_wf4) rfl rfl rfl (by refine yS J1 ?_;exact⟨.agg (lel_refl _),.c (.refl _),.c (.refl _),.agg ⟨.refl _,.nils,.nils,trivial⟩⟩) ?_
 refine ySG J1 ?_
 refine yD J1 (ho) ?_
 refine yGWSGT hC J1 ?_
 exact ler_rd rfl
end Go.Proofs.YtfcnbgmclfkfcaaGreat
namespace Go.Proofs.YtfcnbgmclfkfcaaGreat
open Go.AI Go.PN
theorem rd0_wfM:rd0.wf 68719476736:=by simp [RD.wf,rd0]
attribute [local irreducible] aw Fa Fh DrK
set_option maxRecDepth 100000 in
set_option maxHeartbeats 6400000 in
theorem lawWReduces_fa (f:FM) (p:List RD) (i:Int) (hw:WordsOk p) (hl:p.length≤1099511627776) (hn:f.nodes.length≤1099511627776) (ha:ArgsOk f) (ht0: -9223372036854775808≤f.top) (ht:f.top≤9223372036854775807):
 Fa Tryz.prog 3 [.agg (fmc false f),.c (rats false p),.c (.int .i64 i)] (.c (.bool true)):=by
 refine fa_of_body Tryz.func3 rfl rfl (by simp [Tryz.ntmps3]) fun C hC=> ?_
 simp only [initS,Nat.reduceAdd]
 refine xG ?_
 refine xB fun g3 hn_g3=>?_
 refine yG hn_g3 ?_
 refine yC hn_g3 (awake43_fa) ?_
 refine yG hn_g3 ?_
 refine yC hn_g3 (large43_fa f p hn ha ht0 ht hl) ?_
 refine yG hn_g3 ?_
 refine yF hn_g3 (fun hL=>?_) fun hL=>?_
 ·refine yG hn_g3 ?_
  refine yC hn_g3 (awake43_fa) ?_
  refine yGT hC hn_g3 ?_
  exact .one (.c (.bool _))
 have hs:=ws_of hn ha ht0 ht hw hL
 have hr:=red_fa hs i
 refine yG hn_g3 ?_
 by_cases hc:wcode f p=0
 ·have z0:=ieq_t hc
  have hk:=wok_of hc
  have hpl:=hk.len
  have hwf:=hs.fn hk
  have q0:((0:Int)==0)=true:=rfl
  have q8:((8:Int)==0)=false:=rfl
  have q10:((10:Int)==0)=false:=rfl
  by_cases hi:0≤i∧i<p.length
  ·obtain⟨k,rfl⟩:=Int.eq_ofNat_of_zero_le hi.1
   have hkp:k<p.length:=by omega
   have fX:=wV_fits (f:=f) hs.w hwf.h6
   have f0:=wV0_fits (f:=f) hs.w hwf.h6 k
   by_cases hz:wV f (p.set k rd0)=0
   ·rw [r_zero hc hkp hz,if_neg (by decide)] at hr
    have hsg:=sg_eq hz
    refine yC hn_g3 (hr) ?_
    refine yG hn_g3 ?_
    refine yA hn_g3 fun g7 hn_g7=>?_
    have J1:=oj hn_g3 hn_g7
    refine yGWSG J1 ?_
    refine yC J1 (checkR43_fa f p hn ha ht0 ht hs.w5 hl) ?_
    have J2:=oj hn_g3 (oj hn_g7 (oj z0 (oj hc q0)))
    refine ySG J2 ?_
    refine aw_split 33 (zE J2) (fun h1=> ?_) (fun h1=> ?_)<;>refine yS J2 ?_
    ·exact absurd (of_decide_eq_true h1) om
    refine yG J2 ?_
    refine yF J2 (fun h2=>?_) fun h2=>?_
    ·exact absurd (of_decide_eq_true h2) om
    refine yG J2 ?_
    refine aw_callq (withR_fa hwf k hkp rd0 rd0_wf4) rfl rfl rfl (by refine yS J2 ?_;exact⟨.agg (lel_refl _),.c (.refl _),.c (.refl _),.agg ⟨.refl _,.nils,.nils,trivial⟩⟩) ?_
    refine ySG J2 ?_
    refine yC J2 (ssign_fa (rd (wV f (p.set k rd0))) (rdw f0 ?_)) ?_
    ·omega
    rw [rd_q,hsg]
    refine ySGPG J2 ?_
    refine yP J2 ?_
    refine yG J2 ?_
    refine aw_callq (ratEq_fa rd0 rd0 rd0_wfM) rfl rfl rfl (by refine yS J2 ?_;exact⟨.agg (lel_refl _),.agg ⟨.refl _,.nils,.nils,trivial⟩⟩) ?_
    rw [decide_eq_true (rfl:rd0=rd0)]
    refine ySG J2 ?_
    refine yC J2 (num_fa 8) ?_
    refine yGT hC J2 ?_
    exact .one (.c (ler_bool (by simp)))
   ·rw [r_ok hc hkp hz,if_pos rfl,Int.toNat_natCast,show errA 0=CV.nilI from rfl] at hr
    have hsg:=sg_ne hz
    refine yC hn_g3 (hr) ?_
    refine yG hn_g3 ?_
    refine yA hn_g3 fun g7 hn_g7=>?_
    have J3:=oj hn_g3 hn_g7
    refine yGWSG J3 ?_
    refine yC J3 (checkR43_fa f p hn ha ht0 ht hs.w5 hl) ?_
    have J4:=oj hn_g3 (oj hn_g7 (oj z0 (oj hc (oj q0 hsg))))
    refine ySG J4 ?_
    refine aw_split 33 (zE J4) (fun h1=> ?_) (fun h1=> ?_)<;>refine yS J4 ?_
    ·exact absurd (of_decide_eq_true h1) om
    refine yG J4 ?_
    refine yF J4 (fun h2=>?_) fun h2=>?_
    ·exact absurd (of_decide_eq_true h2) om
    refine yG J4 ?_
    refine aw_callq (withR_fa hwf k hkp rd0 rd0_wf4) rfl rfl rfl (by refine yS J4 ?_;exact⟨.agg (lel_refl _),.c (.refl _),.c (.refl _),.agg ⟨.refl _,.nils,.nils,trivial⟩⟩) ?_
    refine ySG J4 ?_
    refine yC J4 (ssign_fa (rd (wV f (p.set k rd0))) (rdw f0 ?_)) ?_
    ·omega
    rw [rd_q]
    refine ySGNGNG J4 ?_
    refine aw_cw ([(g7,.cells 30 3 (ofL (rdc (rd (wV f p/wV f (p.set k rd0)))))),(g3,.cells 24 3 (ofL (fmc false f)))]) [(0,0),(1,0),(2,0),(3,0),(4,0),(5,0),(6,0),(7,0),(8,0),(9,0),(10,0)] ty_mixed (by kernel_rfl) eI ?_
    refine yG J4 ?_
    refine cw_callq rfl (reduceR_fa hwf k hkp hz) rfl rfl rfl (fun _ _=>(zL J4)) ?_
    refine ySG J4 ?_
    refine cw_callq rfl (ratEq_fa (rd (wV f p/wV f (p.set k rd0))) (rd (wV f p/wV f (p.set k rd0))) (rd_wf (fits_mono (fits_div fX f0 hz) om))) rfl rfl rfl (fun _ _=>(zL J4)) ?_
    rw [decide_eq_true (rfl:rd (wV f p/wV f (p.set k rd0))=_)]
    refine ySGT hC J4 ?_
    exact .one (.c (.bool _))
  ·rw [r_idx hc hi,if_neg (by decide)] at hr
   refine yC hn_g3 (hr) ?_
   refine yG hn_g3 ?_
   refine yA hn_g3 fun g7 hn_g7=>?_
   have J5:=oj hn_g3 hn_g7
   refine yGWSG J5 ?_
   refine yC J5 (checkR43_fa f p hn ha ht0 ht hs.w5 hl) ?_
   have J6:=oj hn_g3 (oj hn_g7 (oj z0 (oj hc (oj q0 q10))))
   refine ySG J6 ?_
   refine aw_split 33 (zE J6) (fun h1=> ?_) (fun h1=> ?_)<;>refine yS J6 ?_
   ·refine yGPG J6 ?_
    refine yN J6 ?_
    refine yGPG J6 ?_
    refine aw_callq (ratEq_fa rd0 rd0 rd0_wfM) rfl rfl rfl (by refine yS J6 ?_;exact⟨.agg (lel_refl _),.agg ⟨.refl _,.nils,.nils,trivial⟩⟩) ?_
    rw [decide_eq_true (rfl:rd0=rd0)]
    refine ySG J6 ?_
    refine yC J6 (num_fa 10) ?_
    refine yGT hC J6 ?_
    exact .one (.c (ler_bool (by simp)))
   ·have h1':=of_decide_eq_false h1
    refine yG J6 ?_
    refine yF J6 (fun h2=>?_) fun h2=>?_
    ·refine yGNG J6 ?_
     refine yP J6 ?_
     refine yG J6 ?_
     refine aw_callq (ratEq_fa rd0 rd0 rd0_wfM) rfl rfl rfl (by refine yS J6 ?_;exact⟨.agg (lel_refl _),.agg ⟨.refl _,.nils,.nils,trivial⟩⟩) ?_
     rw [decide_eq_true (rfl:rd0=rd0)]
     refine ySG J6 ?_
     refine yC J6 (num_fa 10) ?_
     refine yGT hC J6 ?_
     exact .one (.c (ler_bool (by simp)))
    ·exact absurd (of_decide_eq_false h2) om
 ·have z0:=ieq_f hc
  have zz:(wcode f p==wcode f p)=true:=by simp
  rw [r_bad hc,if_neg hc] at hr
  refine yC hn_g3 (hr) ?_
  refine yG hn_g3 ?_
  refine yA hn_g3 fun g7 hn_g7=>?_
  have J7:=oj hn_g3 hn_g7
  refine yGWSG J7 ?_
  refine yC J7 (checkR43_fa f p hn ha ht0 ht hs.w5 hl) ?_
  have hcn:(wcode f p !=0)=true:=by simpa using hc
  have J8:=oj hn_g3 (oj hn_g7 (oj z0 (oj hcn zz)))
  refine ySGNGNG J8 ?_
  refine yP J8 ?_
  refine yG J8 ?_
  refine aw_callq (ratEq_fa rd0 rd0 rd0_wfM) rfl rfl rfl (by refine yS J8 ?_;exact⟨.agg (lel_refl _),.agg ⟨.refl _,.nils,.nils,trivial⟩⟩) ?_
  rw [decide_eq_true (rfl:rd0=rd0)]
  refine ySG J8 ?_
  refine yC J8 (num_fa (wcode f p)) ?_
  refine yGT hC J8 ?_
  exact .one (.c (ler_bool (by simp)))
end Go.Proofs.YtfcnbgmclfkfcaaGreat
