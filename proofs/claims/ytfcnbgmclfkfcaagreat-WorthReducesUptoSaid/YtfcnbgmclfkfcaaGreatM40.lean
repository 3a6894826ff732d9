/- Parts of one proof, laid by a program. -/
import Derived.Test.YtfcnbgmclfkfcaaGreatM00
import Derived.Test.YtfcnbgmclfkfcaaGreatM33
import Derived.Test.YtfcnbgmclfkfcaaGreatM37
set_option linter.unusedSimpArgs false
set_option linter.unusedVariables false
namespace Go.Proofs.YtfcnbgmclfkfcaaGreat
open Go.AI Go.PN
attribute [local irreducible] aw Fa Fh DrK
set_option maxHeartbeats 400000 in
theorem num_fa (c:Int):Fa Tryz.prog 17 [.c (errA c)] (.c (.int .i64 c)):=by
 by_cases h:c=0
 ·have e:errA c=.nilI:=by unfold errA errC;rw [if_pos h]
  rw [e]
  refine fa_of_body Tryz.func17 rfl rfl (by simp [Tryz.ntmps17]) fun C hC=> ?_
  simp only [initS,Nat.reduceAdd]
  refine xG ?_
  refine xP ?_
  refine xGT hC ?_
  exact .one (.c (ler_int h.symm))
 ·have e:errA c=.ifc 51 (.int .i64 c):=by unfold errA errC;rw [if_neg h]
  rw [e]
  refine fa_of_body Tryz.func17 rfl rfl (by simp [Tryz.ntmps17]) fun C hC=> ?_
  simp only [initS,Nat.reduceAdd]
  refine xG ?_
  refine xN ?_
  refine xG ?_
  refine xP ?_
  refine xGT hC ?_
  exact .one (.c (.int _ _))
end Go.Proofs.YtfcnbgmclfkfcaaGreat
namespace Go.Proofs.YtfcnbgmclfkfcaaGreat
open Go.AI Go.PN
attribute [local irreducible] aw Fa Fh DrK
set_option maxHeartbeats 1600000 in
theorem sdiv_fa (a b:RD) (ha:a.wf 1073741824) (hb:b.wf 1073741824) (hz:b.q≠0):Fa Tryz.prog 107 [.agg (rdc a),.agg (rdc b)] (.tup [.agg (rdc (rd (a.q/b.q))),.c (.int .i64 0)]):=by
 obtain⟨l1,l2⟩:=RD.p_len ha om
 obtain⟨l3,l4⟩:=RD.p_len hb om
 have dd:a.pd*b.pn≠0:=Nat.mul_ne_zero (RD.pd_ne ha) (RD.pn_ne hz)
 have m1:=words_mul_len a.pn b.pd
 have m3:=words_mul_len a.pd b.pn
 refine fa_of_body Tryz.func107 rfl rfl (by simp [Tryz.ntmps107]) fun C hC=> ?_
 simp only [initS,Nat.reduceAdd]
 refine xG ?_
 refine xB fun g2 hn_g2=>?_
 refine yB hn_g2 fun g3 hn_g3=>?_
 refine yA (oj hn_g2 hn_g3) fun g4 hn_g4=>?_
 have J1:=oj hn_g2 (oj hn_g3 hn_g4)
 refine yG J1 ?_
 refine yC J1 (sparts_fa a ha) ?_
 refine yG J1 ?_
 refine yC J1 (sparts_fa b hb) ?_
 refine yG J1 ?_
 refine yC J1 (qmulW _ _ ?_ ?_) ?_
 ·omega
 ·omega
 refine yG J1 ?_
 refine yC J1 (qmulW _ _ ?_ ?_) ?_
 ·omega
 ·omega
 refine yG J1 ?_
 refine yC J1 (sfromW _ _ _ ?_ ?_ dd) ?_
 ·omega
 ·omega
 rw [q_div hb hz]
 refine yGWSGT hC J1 ?_
 exact .tup ⟨.agg lerl_rd,.c (.int _ _),trivial⟩
end Go.Proofs.YtfcnbgmclfkfcaaGreat
namespace Go.Proofs.YtfcnbgmclfkfcaaGreat
open Go.AI Go.PN
attribute [local irreducible] aw Fa Fh DrK
set_option maxHeartbeats 800000 in
theorem withR_fa {f:FM} {p:List RD} (hk:WFn f p) (i:Nat) (hi:i<p.length) (q:RD) (hq:q.wf 4):Fa Tryz.prog 15 [.agg (fmc false f),.c (rats false p),.c (.int .i64 i),.agg (rdc q)] (.agg (rdc (rd (wV f (p.set i q))))):=by
 have h6:=hk.h6
 have htp:=topR_fa (hk.set i hq)
 refine fa_of_body Tryz.func15 rfl rfl (by simp [Tryz.ntmps15]) fun C hC=> ?_
 simp only [initS,Nat.reduceAdd]
 refine xG ?_
 refine xB fun g4 hn_g4=>?_
 refine yG hn_g4 ?_
 refine yB hn_g4 fun g7 hn_g7=>?_
 refine yG (oj hn_g4 hn_g7) ?_
 refine yA (oj hn_g4 hn_g7) fun g8 hn_g8=>?_
 have J1:=oj hn_g4 (oj hn_g7 hn_g8)
 refine yG J1 ?_
 refine aw_appendN (size:=3) (z:=[.bool false,.nils,.nils]) (cx:=rats false p) (k:=p.length) (f2:=ratsF p) rfl rfl rfl (zE J1) (zE J1) rfl om (zE J1) (zE J1) .row om (by unfold maxLen;omega) om fun go hn_go=> ?_
 replace hn_go:=Heap.ne_of hn_go
 dsimp only [Heap.ne] at hn_go
 have J2:=oj hn_g4 (oj hn_g7 (oj hn_g8 hn_go))
 refine ySGWS J2 ?_
 rw [ratsF_upd om]
 refine yG J2 ?_
 refine aw_callq htp rfl rfl rfl (by refine yS J2 ?_;exact⟨.agg (lel_refl _),.c (le_oslr2 (zE J2) (by rw [List.length_set]))⟩) ?_
 refine ySGWSG J2 ?_
 refine yT hC J2 ?_
 exact ler_rd rfl
theorem over_fa (a b:RD) (ha:a.wf 1073741824) (hb:b.wf 1073741824) (hz:b.q≠0):Fa Tryz.prog 53 [.agg (rdc a),.agg (rdc b)] (.agg (rdc (rd (a.q/b.q)))):=by
 refine fa_of_body Tryz.func53 rfl rfl (by simp [Tryz.ntmps53]) fun C hC=> ?_
 simp only [initS,Nat.reduceAdd]
 refine xG ?_
 refine xB fun g2 hn_g2=>?_
 refine yG hn_g2 ?_
 refine yB hn_g2 fun g3 hn_g3=>?_
 refine yG (oj hn_g2 hn_g3) ?_
 refine yA (oj hn_g2 hn_g3) fun g4 hn_g4=>?_
 have J1:=oj hn_g2 (oj hn_g3 hn_g4)
 refine yG J1 ?_
 refine yC J1 (sdiv_fa a b ha hb hz) ?_
 refine yG J1 ?_
 refine yA J1 fun g5 hn_g5=>?_
 have J2:=oj hn_g2 (oj hn_g3 (oj hn_g4 hn_g5))
 refine yGWSG J2 ?_
 refine yW J2 ?_
 refine ySGT hC J2 ?_
 exact ler_rd rfl
end Go.Proofs.YtfcnbgmclfkfcaaGreat
namespace Go.PN
open Go.AI Go.Proofs.YtfcnbgmclfkfcaaGreat
theorem sg_ne {x:Rat} (h:x≠0):(signQ x==0)=false:=by
 unfold signQ
 rw [if_neg h]
 split<;>rfl
end Go.PN

