/- Parts of one proof, laid by a program. -/
import Derived.Test.YtfcnbgmclfkfcaaGreatM00
import Derived.Test.YtfcnbgmclfkfcaaGreatM31
import Derived.Test.YtfcnbgmclfkfcaaGreatRows
import Derived.WalkKit
import Derived.ProofKit
import Derived.OpenShut
import Derived.JoinedCond
import Derived.Carry
set_option linter.unusedSimpArgs false
set_option linter.unusedVariables false
namespace Go.Proofs.YtfcnbgmclfkfcaaGreat
open Go.AI Go.PN
attribute [local irreducible] aw Fa Fh DrK
set_option maxHeartbeats 1600000 in
theorem sof_fa (n:Int) (h0: -9223372036854775808≤n) (h1:n≤9223372036854775807):Fa Tryz.prog 29 [.c (.int .i64 n)] (.agg (rdc (rd (n:Rat)))):=by
 refine fa_of_body Tryz.func29 rfl rfl (by simp [Tryz.ntmps29]) fun C hC=> ?_
 simp only [initS,Nat.reduceAdd]
 refine xG ?_
 refine xA fun g2 hn_g2=>?_
 refine yG hn_g2 ?_
 refine yC hn_g2 (smake_fa n 1 h0 h1 ?_ ?_ ?_) ?_
 ·omega
 ·omega
 ·omega
 refine yG hn_g2 ?_
 refine yA hn_g2 fun g3 hn_g3=>?_
 have J1:=oj hn_g2 hn_g3
 refine yGWSG J1 ?_
 refine yW J1 ?_
 refine ySGT hC J1 ?_
 exact ler_rd (by congr 1;rw [Rat.intCast_one];grind)
set_option maxHeartbeats 1600000 in
theorem smul_fa (a b:RD) (ha:a.wf 1073741824) (hb:b.wf 1073741824):Fa Tryz.prog 37 [.agg (rdc a),.agg (rdc b)] (.agg (rdc (rd (a.q*b.q)))):=by
 obtain⟨l1,l2⟩:=RD.p_len ha om
 obtain⟨l3,l4⟩:=RD.p_len hb om
 have d1:=RD.pd_ne ha
 have d2:=RD.pd_ne hb
 have dd:a.pd*b.pd≠0:=Nat.mul_ne_zero d1 d2
 have m1:=words_mul_len a.pn b.pn
 have m3:=words_mul_len a.pd b.pd
 refine fa_of_body Tryz.func37 rfl rfl (by simp [Tryz.ntmps37]) fun C hC=> ?_
 simp only [initS,Nat.reduceAdd]
 refine xG ?_
 refine xB fun g2 hn_g2=>?_
 refine yB hn_g2 fun g3 hn_g3=>?_
 refine yA (oj hn_g2 hn_g3) fun g4 hn_g4=>?_
 have J1:=oj hn_g2 (oj hn_g3 hn_g4)
 refine yG J1 ?_
 refine yC J1 (sparts_fa a ha) ?_
 refine yG J1 ?_
 refine yC J1 (sparts_fa b hb) ?_
 refine yG J1 ?_
 refine yC J1 (qmulW _ _ ?_ ?_) ?_
 ·omega
 ·omega
 refine yG J1 ?_
 refine yC J1 (qmulW _ _ ?_ ?_) ?_
 ·omega
 ·omega
 refine yG J1 ?_
 refine yC J1 (sfromW _ _ _ ?_ ?_ dd) ?_
 ·omega
 ·omega
 refine yG J1 ?_
 refine yA J1 fun g11 hn_g11=>?_
 have J2:=oj hn_g2 (oj hn_g3 (oj hn_g4 hn_g11))
 refine yGWSG J2 ?_
 refine yW J2 ?_
 refine ySGT hC J2 ?_
 exact ler_rd (by rw [sq_mul];rfl)
end Go.Proofs.YtfcnbgmclfkfcaaGreat
namespace Go.Proofs.YtfcnbgmclfkfcaaGreat
open Go.AI Go.PN Go.ChangeShapes
section
variable {P : Program}
theorem rdr_int {t:TypeId} {k:IntKind} (ht:P.underlying t=some (.int k)):Rdr P t (fun n:Int=>[.int k n]) (fun n _=>(Lit.int k n).wf=true):=fun H enc w fuel cs x h=>by
 obtain⟨n,rfl,rfl,hw⟩:=DataW.trod_int ht h
 exact⟨n,⟨rfl,trivial⟩,hw⟩
end
end Go.Proofs.YtfcnbgmclfkfcaaGreat
namespace Go.PN
theorem signQ_ge (x:Rat):decide (signQ x≥0)=decide (0≤x):=by
 unfold signQ
 by_cases h0:x=0
 ·subst h0;simp
 ·rw [if_neg h0]
  by_cases h1:x<0
  ·rw [if_pos h1]
   have:¬(0≤x):=Rat.not_le.2 h1
   simp [this]
  ·rw [if_neg h1]
   have:0≤x:=Rat.not_lt.1 h1
   simp [this]
theorem signQ_le (x:Rat):decide (signQ x≤0)=decide (x≤0):=by
 unfold signQ
 by_cases h0:x=0
 ·subst h0;simp
 ·rw [if_neg h0]
  by_cases h1:x<0
  ·rw [if_pos h1]
   have:x≤0:=Rat.le_of_lt h1
   simp [this]
  ·rw [if_neg h1]
   have:¬x≤0:=fun h=>by
    have:=Rat.not_lt.1 h1
    exact h0 (Rat.le_antisymm h this)
   simp [this]
theorem sub_le_iff (x:Rat):decide (x-1≤0)=decide (x≤1):=by
 rw [Bool.eq_iff_iff];simp only [decide_eq_true_eq];constructor<;>intro h<;>grind
end Go.PN
namespace Go.Proofs.YtfcnbgmclfkfcaaGreat
open Go.AI Go.PN
attribute [local irreducible] aw Fa Fh DrK
theorem one_wf:(rd ((1:Int):Rat)).wf 500000000:=rd_wf (fits_mono (L:=1) ⟨by simp,by simp⟩ om)
set_option maxHeartbeats 800000 in
theorem sprob_fa (r:RD) (hw:r.wf 500000000):Fa Tryz.prog 105 [.agg (rdc r)] (.c (.bool r.prob)):=by
 have h1:=hw.2.2.1
 have h2:=hw.2.2.2
 refine fa_of_body Tryz.func105 rfl rfl (by simp [Tryz.ntmps105]) fun C hC=> ?_
 simp only [initS,Nat.reduceAdd]
 refine xG ?_
 refine xB fun g1 hn_g1=>?_
 refine yG hn_g1 ?_
 refine aw_dr 14 ty_mixed (by kernel_rfl) ?_
 refine yG hn_g1 ?_
 refine yD hn_g1 (svalid_fa r (wf_mono hw ?_)) ?_
 ·omega
 refine yG hn_g1 ?_
 unfold RD.prob
 refine drk_split 5 (zE hn_g1) (fun hv=> ?_) (fun hv=> ?_)<;>refine yS hn_g1 ?_
 ·refine yG hn_g1 ?_
  refine yD hn_g1 (ssign_fa r (wf_mono hw ?_)) ?_
  ·omega
  refine yG hn_g1 ?_
  refine drk_split 10 (zE hn_g1) (fun hn=> ?_) (fun hn=> ?_)<;>refine yS hn_g1 ?_
  ·refine yG hn_g1 ?_
   refine yD hn_g1 (sof_fa 1 ?_ ?_) ?_
   ·omega
   ·omega
   refine yG hn_g1 ?_
   refine yD hn_g1 (scmp_fa r (rd ((1:Int):Rat)) hw one_wf) ?_
   rw [rd_q,Rat.intCast_one]
   refine yGT hC hn_g1 ?_
   refine .one (.c (ler_bool ?_))
   rw [signQ_ge] at hn
   rw [hv,hn,signQ_le,sub_le_iff];rfl
  ·refine yGT hC hn_g1 ?_
   refine .one (.c (ler_bool ?_))
   rw [signQ_ge] at hn
   rw [hn,Bool.and_false,Bool.false_and]
 ·refine yGT hC hn_g1 ?_
  refine .one (.c (ler_bool ?_))
  rw [hv,Bool.false_and,Bool.false_and]
end Go.Proofs.YtfcnbgmclfkfcaaGreat
namespace Go.Proofs.YtfcnbgmclfkfcaaGreat
open Go.AI Go.PN
attribute [local irreducible] aw Fa Fh DrK
set_option maxHeartbeats 1600000 in
theorem weightR_fa (y n:Nat) (ps:List RD) (hy:y<9223372036854775808) (hn:n<9223372036854775808) (L:Nat) (hL:1≤L) (hL2:L≤1000000) (hp:∀r∈ps,r.wf L) (hl:ps.length≤64):
 Fa Tryz.prog 122 [.agg [.int .i64 y,.int .i64 n],.c (rats false ps)] (.agg (rdc (rd (wtTo y n ps ps.length)))):=by
 refine fa_of_body Tryz.func122 rfl rfl (by simp [Tryz.ntmps122]) fun C hC=> ?_
 simp only [initS,Nat.reduceAdd]
 refine xG ?_
 refine xB fun g2 hn_g2=>?_
 refine yA hn_g2 fun g4 hn_g4=>?_
 have J1:=oj hn_g2 hn_g4
 refine yG J1 ?_
 refine yC J1 (sof_fa 1 ?_ ?_) ?_
 ·omega
 ·omega
 refine yA J1 fun g5 hn_g5=>?_
 have J2:=oj hn_g2 (oj hn_g4 hn_g5)
 refine yGWSG J2 ?_
 refine aw_lp (fun k:Nat=>[(1,.c (rats false ps)),(2,.c (.optr g2 0)),(4,.c (.optr g4 0)),(5,.c (.optr g5 0)),(6,.c (.int .i64 k))]) (fun k=>[(g5,.cells 30 3 (ofL (rdc (rd (wtTo y n ps k))))),(g4,.cells 30 3 (ofL [.bool false,.nils,.nils])),(g2,.cells 154 2 (ofL [.int .i64 (y:Int),.int .i64 (n:Int)]))])
  (fun k=>k≤ps.length) (fun k=>ps.length-k) 0 (zB J2) zZ (Nat.zero_le _) ?_
 rintro k hk
 have hfk:=fits_wt (y:=y) (n:=n) hL hp k
 have hbk:(2*L+2)*k+1≤200000000:=by
  have:=Nat.mul_le_mul (show 2*L+2≤2000002 from by omega) (show k≤64 from by omega)
  omega
 refine yG J2 ?_
 refine yF J2 (fun hb=>?_) fun hb=>?_
 ·have hin:k<ps.length:=dT hb
  have hpk:=getD_wf hp k
  have hwk:(rd (wtTo y n ps k)).wf 1073741824:=rd_wf (fits_mono hfk om)
  apply aw_skip
  apply aw_seq
  apply aw_block
  apply aw_seq
  have b1:=shrZ_nat y k om
  have b2:=and_one_nat (y/2^k) (Nat.lt_of_le_of_lt (Nat.div_le_self _ _) hy)
  have b3:=bit_eq y k
  have c1:=shrZ_nat n k om
  have c2:=and_one_nat (n/2^k) (Nat.lt_of_le_of_lt (Nat.div_le_self _ _) hn)
  have c3:=bit_eq n k
  refine aw_cut (fun q:Rat=>[(1,.c (rats false ps)),(2,.c (.optr g2 0)),(4,.c (.optr g4 0)),(5,.c (.optr g5 0)),(6,.c (.int .i64 k))]) (fun q=>[(g5,.cells 30 3 (ofL (rdc (rd q)))),(g4,.cells 30 3 (ofL [.bool false,.nils,.nils])),(g2,.cells 154 2 (ofL [.int .i64 (y:Int),.int .i64 (n:Int)]))])
   (fun q=>q=wtTo y n ps k*(if y.testBit k then(ps.getD k rd0).q else 1)) ?_ ?_
  ·have J3:=oj hn_g2 (oj hn_g4 (oj hn_g5 (oj b1 (oj b2 (oj b3 (oj c1 (oj c2 c3)))))))
   refine yG J3 ?_
   refine yF J3 (fun hc=>?_) fun hc=>?_
   ·refine yG J3 ?_
    refine aw_dr 6 ty_mixed (by kernel_rfl) ?_
    refine yG J3 ?_
    refine yD J3 (smul_fa _ _ hwk ?_) ?_
    ·exact wf_mono hpk om
    rw [rd_q]
    refine yGWSG J3 ?_
    exact aw_stop ⟨_,(zB J3),zZ,by rw [hc,if_pos rfl]⟩
   ·refine yG J3 ?_
    exact aw_stop ⟨_,(zB J3),zZ,by rw [hc,if_neg (by simp),Rat.mul_one]⟩
  rintro q hq
  have hfq:fits q 300000000:=by
   rw [hq]
   refine fits_mono (fits_mul (M:=L) hfk ?_) om
   split
   ·exact RD.fits hpk hL
   ·exact fits_mono fits_one hL
  have J4:=oj hn_g2 (oj hn_g4 (oj hn_g5 (oj b1 (oj b2 (oj b3 (oj c1 (oj c2 c3)))))))
  refine yG J4 ?_
  refine yF J4 (fun hc=>?_) fun hc=>?_
  ·refine yG J4 ?_
   refine aw_dr 8 ty_mixed (by kernel_rfl) ?_
   refine yG J4 ?_
   refine yD J4 (sof_fa 1 ?_ ?_) ?_
   ·omega
   ·omega
   refine yG J4 ?_
   refine yD J4 (ssub_fa _ _ (one_wf' ?_) ?_) ?_
   ·omega
   ·exact wf_mono hpk om
   rw [rd_q,cast1]
   refine yG J4 ?_
   refine yD J4 (smul_fa _ _ ?_ ?_) ?_
   ·exact rd_wf (fits_mono hfq om)
   ·exact rd_wf (fits_mono (fits_sub fits_one (RD.fits hpk hL)) om)
   rw [rd_q,rd_q]
   refine yGWSG J4 ?_
   have e:wtTo y n ps (k+1)=q*(1-(ps.getD k rd0).q):=by
    rw [wtTo,wfac,hc,if_pos rfl,←Rat.mul_assoc,←hq]
   rw [←e]
   exact aw_stop ⟨k+1,by omega,(zB J4),zZ,by omega⟩
  ·refine yG J4 ?_
   have e:wtTo y n ps (k+1)=q:=by
    rw [wtTo,wfac,hc,if_neg (c:=false=true) (by simp),Rat.mul_one,←hq]
   rw [←e]
   exact aw_stop ⟨k+1,by omega,(zB J4),zZ,by omega⟩
 ·have hin:k=ps.length:=dF hb
  subst hin
  refine yGWSGT hC J2 ?_
  exact ler_rd rfl
end Go.Proofs.YtfcnbgmclfkfcaaGreat
namespace Go.PN
open Go.AI
theorem pow_lt_63 {n:Nat} (h:n<63):2^n<9223372036854775808:=by
 have h3:2^n<2^63:=Nat.pow_lt_pow_right om h
 have h4:(2:Nat)^63=9223372036854775808:=by decide
 rw [h4] at h3;exact h3
end Go.PN
namespace Go.AI
theorem zero_rd:∀j,j<3→∀S w u,RepC S w (ofL [CV.bool false,.nils,.nils] j) u→RepC S w (ofL [CV.bool (Go.PN.rd 0).neg,ws true (Go.PN.rd 0).num,ws true (Go.PN.rd 0).den] j) u:=by
 rw [Go.PN.rd_zero]
 intro j hj S w u h
 match j,hj with
 |0,_=>exact h
 |1,_=>exact repC_nil h
 |2,_=>exact repC_nil h
theorem bs_push {zs:List Bool} {n:Nat} (hn:zs.length=n) (x:Bool):∀j,j<(n+1)*1→appF (bsF zs) (n*1) (ofL [.bool x]) j=bsF (zs++[x]) j:=fun j hj=>by
 subst hn
 unfold appF
 by_cases h:j<zs.length*1
 ·rw [if_pos h]
  show CV.bool (zs.getD j false)=CV.bool ((zs++[x]).getD j false)
  rw [List.getD_eq_getElem?_getD,List.getD_eq_getElem?_getD,List.getElem?_append_left om]
 ·have:j=zs.length:=by omega
  subst this
  rw [if_neg h]
  show ofL [CV.bool x] (zs.length-zs.length*1)=CV.bool ((zs++[x]).getD zs.length false)
  rw [Nat.mul_one,Nat.sub_self,List.getD_eq_getElem?_getD,List.getElem?_append_right (Nat.le_refl _),Nat.sub_self]
  rfl
theorem ler_gsb {pre:Heap} {og:Option Nat} {e n:Nat} {t:Bool} {zs:List Bool} (hog:og=none→n=0) (hn:∀g,og=some g→g∉pre.keys) (hl:zs.length=n):LeR (pre++gh og e n (bsF zs)) (gs og 1 n) (bs t zs):=by
 subst hl
 have:=ler_gs (pre:=pre) (og:=og) (e:=e) (s:=1) (n:=zs.length) (t:=t) (f:=bsF zs) (f':=bsF zs) hog hn (fun j _=>.bool _)
 simpa only [Nat.mul_one] using this
end Go.AI
namespace Go.Proofs.YtfcnbgmclfkfcaaGreat
open Go.AI Go.PN
attribute [local irreducible] aw Fa Fh DrK
set_option maxHeartbeats 800000 in
theorem state_fa (ps:List RD) (s:Nat) (hs:s<2^ps.length) (L:Nat) (hL:1≤L) (hL2:L≤1000000) (hp:∀r∈ps,r.wf L) (hl:ps.length≤30):
 Fa Tryz.prog 72 [.c (rats false ps),.c (.int .i64 s)] (.agg (rdc (rd (stQ ps s)))):=by
 have h63:=pow_lt_63 (n:=ps.length) om
 have e1:=shl_one ps.length om
 have e2:((2^ps.length:Nat):Int)-1-(s:Int)=((2^ps.length-1-s:Nat):Int):=by omega
 refine fa_of_body Tryz.func72 rfl rfl (by simp [Tryz.ntmps72]) fun C hC=> ?_
 simp only [initS,Nat.reduceAdd]
 refine xG ?_
 refine xA fun g4 hn_g4=>?_
 have J1:=oj hn_g4 e1
 refine yG J1 ?_
 rw [e2]
 refine yC J1 (weightR_fa s (2^ps.length-1-s) ps ?_ ?_ L hL hL2 hp ?_) ?_
 ·omega
 ·omega
 ·omega
 refine yGWSGT hC J1 ?_
 exact ler_rd rfl
set_option maxHeartbeats 1600000 in
theorem table37_fa (tb:List Bool) (ps:List RD) (L:Nat) (hL:1≤L) (hL2:L≤1000) (hp:∀r∈ps,r.wf L) (hl:ps.length≤12) (ht:tb.length=2^ps.length):
 Fa Tryz.prog 67 [.c (bs false tb),.c (rats false ps)] (.agg (rdc (rd (sumQ ps tb tb.length)))):=by
 have hp12:2^ps.length≤4096:=by
  have h3:2^ps.length≤2^12:=Nat.pow_le_pow_right om hl
  have h4:(2:Nat)^12=4096:=by decide
  omega
 refine fa_of_body Tryz.func67 rfl rfl (by simp [Tryz.ntmps67]) fun C hC=> ?_
 simp only [initS,Nat.reduceAdd]
 refine xG ?_
 refine xA fun g4 hn_g4=>?_
 refine yG hn_g4 ?_
 refine yA hn_g4 fun g5 hn_g5=>?_
 have J1:=oj hn_g4 hn_g5
 refine yGWSG J1 ?_
 refine aw_convR zero_rd ?_
 refine aw_lp (fun k:Nat=>[(0,.c (bs false tb)),(1,.c (rats false ps)),(4,.c (.optr g4 0)),(5,.c (.optr g5 0)),(6,.c (.int .i64 k))]) (fun k=>[(g5,.cells 30 3 (ofL (rdc (rd (sumQ ps tb k))))),(g4,.cells 30 3 (ofL [.bool false,.nils,.nils]))])
  (fun k=>k≤tb.length) (fun k=>tb.length-k) 0 (zB J1) zZ (Nat.zero_le _) ?_
 rintro k hk
 have hfk:=fits_sum (tb:=tb) hL hp k
 have hbk:((2*L+2)*ps.length+2)*k+1≤200000000:=by
  have h1:=Nat.mul_le_mul (show 2*L+2≤2002 from by omega) (show ps.length≤12 from hl)
  have h2:=Nat.mul_le_mul (show(2*L+2)*ps.length+2≤24026 from by omega) (show k≤4096 from by omega)
  omega
 refine yG J1 ?_
 refine yF J1 (fun hb=>?_) fun hb=>?_
 ·have hin:k<tb.length:=dT hb
  have hfs:fits (stQ ps k) 100000:=by
   refine fits_mono (fits_wt hL hp _) ?_
   have h1:=Nat.mul_le_mul (show 2*L+2≤2002 from by omega) (show ps.length≤12 from hl)
   omega
  refine yG J1 ?_
  refine yF J1 (fun hc=>?_) fun hc=>?_
  ·refine yG J1 ?_
   refine aw_dr 5 ty_mixed (by kernel_rfl) ?_
   refine yG J1 ?_
   refine yD J1 (state_fa ps k ?_ L hL ?_ hp ?_) ?_
   ·omega
   ·omega
   ·omega
   refine yG J1 ?_
   refine yD J1 (sadd_fa _ _ ?_ ?_) ?_
   ·exact rd_wf (fits_mono hfk om)
   ·exact rd_wf (fits_mono hfs om)
   rw [rd_q,rd_q]
   refine yGWSG J1 ?_
   have e:sumQ ps tb (k+1)=sumQ ps tb k+stQ ps k:=by rw [sumQ,if_pos hc]
   rw [←e]
   exact aw_stop ⟨k+1,by omega,(zB J1),zZ,by omega⟩
  ·refine yG J1 ?_
   have e:sumQ ps tb (k+1)=sumQ ps tb k:=by rw [sumQ,if_neg (by rw [hc];simp)]
   rw [←e]
   exact aw_stop ⟨k+1,by omega,(zB J1),zZ,by omega⟩
 ·have hin:k=tb.length:=dF hb
  subst hin
  refine yGWSGT hC J1 ?_
  exact ler_rd rfl
end Go.Proofs.YtfcnbgmclfkfcaaGreat
namespace Go.Proofs.YtfcnbgmclfkfcaaGreat
open Go.AI Go.PN
attribute [local irreducible] aw Fa Fh DrK
set_option maxHeartbeats 800000 in
theorem check37_fa (p:List RD) (vars:Int) (hw:∀r∈p,r.wf 500000000) (hl:p.length≤1099511627776):Fa Tryz.prog 50 [.c (rats false p),.c (.int .i64 vars)] (.c (.int .i64 (pcode p vars))):=by
 unfold pcode
 refine fa_of_body Tryz.func50 rfl rfl (by simp [Tryz.ntmps50]) fun C hC=> ?_
 simp only [initS,Nat.reduceAdd]
 refine xG ?_
 refine xF (fun hb=>?_) fun hb=>?_
 ·have hb':(p.length:Int)≠vars:=by simpa using hb
  refine xGT hC ?_
  exact .one (.c (ler_int (by rw [if_pos hb'])))
 ·have hb':(p.length:Int)=vars:=by simpa using hb
  rw [if_neg om]
  refine xG ?_
  refine aw_lp (fun x:Nat=>[(0,.c (rats false p)),(5,.c (.int .i64 x))]) (fun x=>[]) (fun x=>x≤p.length∧∀j,j<x→(p.getD j rd0).prob=true) (fun x=>p.length-x) 0 eB zZ ⟨Nat.zero_le _,by omega⟩ ?_
  rintro i ⟨hi,hs⟩
  refine xG ?_
  refine xF (fun h1=>?_) fun h1=>?_
  ·have h1':i<p.length:=dT h1
   have hmem:p.getD i rd0∈p:=by rw [List.getD_eq_getElem?_getD,List.getElem?_eq_getElem h1'];exact List.getElem_mem h1'
   refine xG ?_
   refine xC (sprob_fa (p.getD i rd0) (getD_wf hw i)) ?_
   refine xG ?_
   refine xF (fun h2=>?_) fun h2=>?_
   ·have h2':(p.getD i rd0).prob=false:=by simpa using h2
    refine xGT hC ?_
    exact .one (.c (ler_int (by rw [if_neg (fun h=>by rw [List.all_eq_true.1 h _ hmem] at h2';cases h2')])))
   ·have h2':(p.getD i rd0).prob=true:=by simpa using h2
    refine xG ?_
    refine aw_stop ⟨i+1,by omega,eB,zZ,by omega,fun j hj=> ?_⟩
    rcases Nat.lt_succ_iff_lt_or_eq.1 hj with h|h
    ·exact hs j h
    ·rw [h,h2']
  ·have h1':i=p.length:=dF h1
   subst h1'
   refine xGT hC ?_
   refine .one (.c (ler_int ?_))
   rw [if_pos]
   refine List.all_eq_true.2 fun x hx=> ?_
   obtain⟨j,hj,e⟩:=List.mem_iff_getElem.1 hx
   have:=hs j hj
   rw [List.getD_eq_getElem?_getD,List.getElem?_eq_getElem hj,Option.getD_some,e] at this
   exact this
end Go.Proofs.YtfcnbgmclfkfcaaGreat
namespace Go.Proofs.YtfcnbgmclfkfcaaGreat
open Go.AI Go.PN Go.ChangeShapes Go.WideShapes Go.RowKit
section
variable {H : Type} {enc : TypeId × Value → H} {P : Program}
theorem arg_agg {α:Type} {c:α→List CV} {B:α→Nat→Prop} {t:TypeId} {fs:Array Field} (hr:Rdr P t c B) (ht:P.underlying t=some (.struct fs)) {W:World} {base:Nat} {v:Value} {d:DataW H} {p:List MemPlace} (ho:Value.okWide P W .any base t v) (h:DataW.Trod enc P W 0 (fun _=>true) true t v d p):
 ∃y,Rep0 (AllB W) W (.agg (c y)) v∧B y (Rows.uptoBulk d):=by
 obtain⟨cs,rfl,_⟩:=okWide_struct ht ho
 obtain⟨fuel,hf⟩:=h
 obtain⟨y,h1,h2⟩:=hr H enc W fuel _ _ hf
 exact⟨y,⟨cs.toList,by simp,h1⟩,h2⟩
end
end Go.Proofs.YtfcnbgmclfkfcaaGreat
namespace Go.PN
open Go.AI
theorem le_oslbs {h:Heap} {g n:Nat} {ty:TypeId} {ys:List Bool} (hg:h.get g=some (.cells ty n (bsF ys))) (hn:n=ys.length):LeC h (.osl g 1 0 n) (bs false ys):=by
 subst hn
 exact .osl hg om (fun j _=>by rw [Nat.zero_add];exact .refl _)
theorem cnt_take {f:FM} {vs:List Bool} {s:Nat} {az:List Int} {j:Nat} (h:j<az.length):cntB f vs s (az.take (j+1))=cntB f vs s (az.take j)+if ofB f vs s (az.getD j 0) then 1 else 0:=by
 unfold cntB
 rw [List.take_succ_eq_append_getElem h,List.filter_append,List.length_append,getDZ h]
 congr 1
 by_cases hb:ofB f vs s az[j]=true
 ·simp [hb]
 ·simp [hb]
theorem cnt_le {f:FM} {vs:List Bool} {s:Nat} {az:List Int}:cntB f vs s az≤az.length:=List.length_filter_le _ _
end Go.PN
namespace Go.Proofs.YtfcnbgmclfkfcaaGreat
open Go.AI Go.PN
attribute [local irreducible] aw Fa Fh DrK
set_option maxHeartbeats 800000 in
theorem fof_fa (f:FM) (hf:FmOk f) (vs:List Bool) (s:Nat) (a:Int) (hs:s<9223372036854775808) (hv:vs.length=f.nodes.length) (h0:0≤a) (h1:a<f.vars+f.nodes.length):Fa Tryz.prog 170 [.agg (fmc false f),.c (bs false vs),.c (.int .i64 s),.c (.int .i64 a)] (.c (.bool (ofB f vs s a))):=by
 have f1:=hf.v0
 have f2:=hf.v1
 have f3:=hf.n
 unfold ofB
 refine fa_of_body Tryz.func170 rfl rfl (by simp [Tryz.ntmps170]) fun C hC=> ?_
 simp only [initS,Nat.reduceAdd]
 refine xG ?_
 refine xB fun g4 hn_g4=>?_
 refine yG hn_g4 ?_
 refine yF hn_g4 (fun hb=>?_) fun hb=>?_
 ·have hb':=of_decide_eq_true hb
  obtain⟨k,rfl⟩:∃k:Nat,a=k:=⟨a.toNat,by omega⟩
  have b1:=shrZ_nat s k om
  have b2:=and_one_nat (s/2^k) (Nat.lt_of_le_of_lt (Nat.div_le_self _ _) hs)
  have b3:=bit_eq s k
  have J1:=oj hn_g4 (oj b1 (oj b2 b3))
  refine yGT hC J1 ?_
  exact .one (.c (ler_bool (by rw [if_pos hb'];rfl)))
 ·have hb':=of_decide_eq_false hb
  refine yGT hC hn_g4 ?_
  exact .one (.c (ler_bool (by rw [if_neg hb'])))
set_option maxRecDepth 100000 in
set_option maxHeartbeats 3200000 in
theorem fvalues_fa (f:FM) (hf:FmOk f) (s:Nat) (hs:s<9223372036854775808):Fa Tryz.prog 171 [.agg (fmc false f),.c (.int .i64 s)] (.c (bs true (fvTo f s f.nodes.length))):=by
 have f1:=hf.v0
 have f2:=hf.v1
 have f3:=hf.n
 refine fa_of_body Tryz.func171 rfl rfl (by simp [Tryz.ntmps171]) fun C hC=> ?_
 simp only [initS,Nat.reduceAdd]
 refine xG ?_
 refine xB fun g2 hn_g2=>?_
 refine yG hn_g2 ?_
 refine aw_make (n:=f.nodes.length) (c:=f.nodes.length) (size:=1) (z:=[.bool false]) rfl rfl rfl (zE hn_g2) (zE hn_g2) rfl om (zE hn_g2) (zE hn_g2) rfl rfl om om om fun g hn_g=> ?_
 replace hn_g:=Heap.ne_of hn_g
 dsimp only [Heap.ne] at hn_g
 rw [make_bs f.nodes.length]
 have J1:=oj hn_g2 hn_g
 refine ySG J1 ?_
 refine aw_lp (fun i:Nat=>[(1,.c (.int .i64 s)),(2,.c (.optr g2 0)),(5,.c (.osl g 1 0 f.nodes.length)),(16,.c (fns false f.nodes)),(17,.c (.int .i64 f.nodes.length)),(18,.c (.int .i64 i))]) (fun i=>[(g,.cells 4 f.nodes.length (bsF (fvTo f s i))),(g2,.cells 24 3 (ofL (fmc false f)))]) (fun i=>i≤f.nodes.length) (fun i=>f.nodes.length-i) 0 (zB J1) zZ (Nat.zero_le _) ?_
 rintro i hi
 have hvl:=fvTo_len f s i
 refine yG J1 ?_
 refine yF J1 (fun h1=>?_) fun h1=>?_
 ·have h1':i<f.nodes.length:=dT h1
  obtain⟨ha1,ha2⟩:=hf.a (f.nodes.getD i fn0) (by rw [getFN h1'];exact List.getElem_mem h1')
  refine yG J1 ?_
  refine yA J1 fun g7 hn_g7=>?_
  have J2:=oj hn_g2 (oj hn_g hn_g7)
  refine yGWS J2 ?_
  have hst:fvTo f s (i+1)=(fvTo f s i).set i (nodeB f (fvTo f s i) s (f.nodes.getD i fn0)):=rfl
  generalize f.nodes.getD i fn0=x at*
  generalize fvTo f s i=vs at*
  refine yG J2 ?_
  refine aw_lp (fun j:Nat=>[(1,.c (.int .i64 s)),(2,.c (.optr g2 0)),(5,.c (.osl g 1 0 f.nodes.length)),(6,.c (.int .i64 i)),(7,.c (.optr g7 0)),(8,.c (.int .i64 (cntB f vs s (x.args.take j)))),(16,.c (fns false f.nodes)),(17,.c (.int .i64 f.nodes.length)),(18,.c (.int .i64 i)),(24,.c (is true x.args)),(25,.c (.int .i64 x.args.length)),(26,.c (.int .i64 j))]) (fun j=>[(g7,.cells 106 3 (ofL [.int .i64 x.kind,.int .i64 x.k,is true x.args])),(g,.cells 4 f.nodes.length (bsF vs)),(g2,.cells 24 3 (ofL (fmc false f)))]) (fun j=>j≤x.args.length) (fun j=>x.args.length-j) 0 (zB J2) zZ (Nat.zero_le _) ?_
  rintro j hj
  have hc1:=cnt_le (f:=f) (vs:=vs) (s:=s) (az:=x.args.take j)
  rw [List.length_take] at hc1
  refine yG J2 ?_
  refine yF J2 (fun h2=>?_) fun h2=>?_
  ·have h2':j<x.args.length:=dT h2
   obtain⟨y0,y1⟩:=ha2 (x.args.getD j 0) (by rw [getDZ h2'];exact List.getElem_mem h2')
   have hct:=cnt_take (f:=f) (vs:=vs) (s:=s) h2'
   refine yG J2 ?_
   refine aw_callq (fof_fa f hf vs s (x.args.getD j 0) hs hvl y0 y1) rfl rfl rfl (by refine yS J2 ?_;exact⟨.agg (lel_refl _),.c (le_oslbs (zE J2) hvl.symm),.c (.refl _),.c (.refl _)⟩) ?_
   refine ySG J2 ?_
   refine yF J2 (fun h3=>?_) fun h3=>?_
   ·rw [h3,if_pos rfl] at hct
    refine yG J2 ?_
    exact aw_stop ⟨j+1,by omega,(by rw [hct];exact(zB J2)),zZ,by omega⟩
   ·rw [h3,if_neg (by simp),Nat.add_zero] at hct
    refine yG J2 ?_
    exact aw_stop ⟨j+1,by omega,(by rw [hct];exact(zB J2)),zZ,by omega⟩
  ·have h2':j=x.args.length:=dF h2
   subst h2'
   rw [List.take_length]
   have hc2:=cnt_le (f:=f) (vs:=vs) (s:=s) (az:=x.args)
   refine yG J2 ?_
   refine yF J2 (fun k0=>?_) fun k0=>?_
   ·refine yGWS J2 ?_
    rw [updF_bs om]
    refine yG J2 ?_
    exact aw_stop ⟨i+1,by omega,(zB J2),List.Sublist.cons _ (by rw [hst,nodeB,if_pos k0];exact zZ),by omega⟩
   ·refine yG J2 ?_
    refine yF J2 (fun k1=>?_) fun k1=>?_
    ·refine yGWS J2 ?_
     rw [updF_bs om]
     refine yG J2 ?_
     exact aw_stop ⟨i+1,by omega,(zB J2),List.Sublist.cons _ (by rw [hst,nodeB,if_neg (by rw [k0];simp),if_pos k1];exact zZ),by omega⟩
    ·refine yG J2 ?_
     refine yF J2 (fun k2=>?_) fun k2=>?_
     ·refine yGWS J2 ?_
      rw [updF_bs om]
      refine yG J2 ?_
      exact aw_stop ⟨i+1,by omega,(zB J2),List.Sublist.cons _ (by rw [hst,nodeB,if_neg (by rw [k0];simp),if_neg (by rw [k1];simp),if_pos k2];exact zZ),by omega⟩
     ·refine yG J2 ?_
      refine yF J2 (fun k3=>?_) fun k3=>?_
      ·refine yGWS J2 ?_
       rw [updF_bs om]
       refine yG J2 ?_
       exact aw_stop ⟨i+1,by omega,(zB J2),List.Sublist.cons _ (by rw [hst,nodeB,if_neg (by rw [k0];simp),if_neg (by rw [k1];simp),if_neg (by rw [k2];simp),if_pos k3];exact zZ),by omega⟩
      ·refine yG J2 ?_
       refine yF J2 (fun k4=>?_) fun k4=>?_
       ·refine yGWS J2 ?_
        rw [updF_bs om]
        refine yG J2 ?_
        exact aw_stop ⟨i+1,by omega,(zB J2),List.Sublist.cons _ (by rw [hst,nodeB,if_neg (by rw [k0];simp),if_neg (by rw [k1];simp),if_neg (by rw [k2];simp),if_neg (by rw [k3];simp),if_pos k4];exact zZ),by omega⟩
       ·refine yGWS J2 ?_
        rw [updF_bs om]
        refine yG J2 ?_
        exact aw_stop ⟨i+1,by omega,(zB J2),List.Sublist.cons _ (by rw [hst,nodeB,if_neg (by rw [k0];simp),if_neg (by rw [k1];simp),if_neg (by rw [k2];simp),if_neg (by rw [k3];simp),if_neg (by rw [k4];simp)];exact zZ),by omega⟩
 ·have h1':i=f.nodes.length:=dF h1
  subst h1'
  refine yGT hC J1 ?_
  exact .one (.c (ler_oslbs (zE J1) hvl.symm))
noncomputable def fvalB (f:FM) (s:Nat):Bool:=ofB f (fvTo f s f.nodes.length) s f.top
set_option maxHeartbeats 800000 in
theorem fvalue_fa (f:FM) (hf:FmOk f) (s:Nat) (hs:s<9223372036854775808):Fa Tryz.prog 117 [.agg (fmc false f),.c (.int .i64 s)] (.c (.bool (fvalB f s))):=by
 refine fa_of_body Tryz.func117 rfl rfl (by simp [Tryz.ntmps117]) fun C hC=> ?_
 simp only [initS,Nat.reduceAdd]
 refine xG ?_
 refine xB fun g2 hn_g2=>?_
 refine yG hn_g2 ?_
 refine aw_dr 9 ty_mixed (by kernel_rfl) ?_
 refine yG hn_g2 ?_
 refine yD hn_g2 (fvalues_fa f hf s hs) ?_
 refine yG hn_g2 ?_
 refine yD hn_g2 (fof_fa f hf (fvTo f s f.nodes.length) s f.top hs (fvTo_len f s _) hf.t0 hf.t1) ?_
 refine yGT hC hn_g2 ?_
 exact .one (.c (.bool _))
end Go.Proofs.YtfcnbgmclfkfcaaGreat
namespace Go.PN
open Go.AI
theorem formTo_len (f:FM):∀k,(formTo f k).length=k
 |0=>rfl
 |k+1=>by simp [formTo,formTo_len f k]
end Go.PN
namespace Go.Proofs.YtfcnbgmclfkfcaaGreat
open Go.AI Go.PN
attribute [local irreducible] aw Fa Fh DrK
set_option maxHeartbeats 1600000 in
theorem formula_fa (f:FM) (hf:FmOk f) (hv:f.vars≤24):Fa Tryz.prog 68 [.agg (fmc false f)] (.c (bs true (formTo f (2^f.vars.toNat)))):=by
 have f1:=hf.v0
 have e1:=shl_one f.vars.toNat om
 rw [show((f.vars.toNat:Nat):Int)=f.vars from by omega] at e1
 have hp:2^f.vars.toNat≤16777216:=by
  have h3:2^f.vars.toNat≤2^24:=Nat.pow_le_pow_right om om
  have h4:(2:Nat)^24=16777216:=by decide
  omega
 generalize 2^f.vars.toNat=M at*
 refine fa_of_body Tryz.func68 rfl rfl (by simp [Tryz.ntmps68]) fun C hC=> ?_
 simp only [initS,Nat.reduceAdd]
 refine yG e1 ?_
 refine yB e1 fun g1 hn_g1=>?_
 have J1:=oj e1 hn_g1
 refine yG J1 ?_
 refine aw_lp (fun x:Option Nat×Nat=>[(1,.c (.optr g1 0)),(3,.c (gs x.1 1 x.2)),(4,.c (.int .i64 x.2))]) (fun x=>[(g1,.cells 24 3 (ofL (fmc false f)))]++gh x.1 4 x.2 (bsF (formTo f x.2))) (fun x=>(x.1=none→x.2=0)∧(∀g,x.1=some g→¬g=g1)∧x.2≤M) (fun x=>M-x.2) (none,0) (zB J1) zZ ⟨fun _=>rfl,(fun g e=>by cases e),Nat.zero_le _⟩ ?_
 rintro ⟨og,k⟩ ⟨hog,hgn,hk⟩
 dsimp only at hog hgn hk⊢
 refine yS J1 ?_
 have hvl:=formTo_len f k
 refine yG J1 ?_
 refine yF J1 (fun hb=>?_) fun hb=>?_
 ·have hin:k<M:=dT hb
  refine yG J1 ?_
  refine yC J1 (fvalue_fa f hf k ?_) ?_
  ·omega
  refine yG J1 ?_
  refine aw_push (pre:=[(g1,.cells 24 3 (ofL (fmc false f)))]) rfl rfl rfl rfl rfl rfl rfl (zE J1) (zE J1) (by rfl) om om (zE J1) om (by exact hog) (zE J1) (by rfl) (by rfl) (by first|rfl|simp only [Nat.mul_one,List.nil_append,List.cons_append]<;>rfl) (by unfold maxLen;omega) om (by exact bs_push hvl _) fun g hn_g=> ?_
  replace hn_g:=Heap.ne_of hn_g
  first|dsimp only [Heap.ne,gh] at hn_g|dsimp only [Heap.ne] at hn_g|skip
  have J2:=oj e1 (oj hn_g1 hn_g)
  refine ySG J2 ?_
  refine aw_stop ⟨(some g,k+1),by dsimp only;omega,(zB J2),zZ,some_ne,(fun g e=>by cases e;exact(of_eq_false hn_g.1.1)),by dsimp only;omega⟩
 ·have hin:k=M:=dF hb
  subst hin
  refine yGT hC J1 ?_
  exact .one (.c (ler_gsb (pre:=[(g1,_)]) hog (fun g e=>by simp only [Heap.keys,List.map_cons,List.map_nil,List.mem_singleton];exact hgn g e) hvl))
end Go.Proofs.YtfcnbgmclfkfcaaGreat
namespace Go.Proofs.YtfcnbgmclfkfcaaGreat
open Go.AI Go.PN Go.ChangeShapes Go.WideShapes Go.RowKit
theorem i64_ge {x:Int} (h:(Lit.int .i64 x).wf=true): -9223372036854775808≤x:=by
 have hb: -9223372036854775808≤x∧x≤9223372036854775807:=by simpa [Lit.wf,IntKind.min,IntKind.max,IntKind.signed,IntKind.bits] using h
 exact hb.1
theorem i64_le {x:Int} (h:(Lit.int .i64 x).wf=true):x≤9223372036854775807:=by
 have hb: -9223372036854775808≤x∧x≤9223372036854775807:=by simpa [Lit.wf,IntKind.min,IntKind.max,IntKind.signed,IntKind.bits] using h
 exact hb.2
theorem rdr_args:Rdr Tryz.prog 52 (fun xs:List Int=>[is true xs]) (fun xs n=>xs.length≤n):=
 (rdr_slice (0:Int) true Tryz.underlying52 (s:=1) (by kernel_rfl) om (fun _ _ _ h _=>h) (rdr_int Tryz.underlying3)).to id (fun ys=>by
  show [CV.row true 1 ys.length _]=[CV.row true 1 ys.length _]
  congr 2
  funext j
  show _=ofL [CV.int .i64 (ys.getD (j/1) 0)] (j%1)
  rw [Nat.div_one,Nat.mod_one]
  rfl) (fun _ _ h=>h.1)
theorem rdr_fnode:Rdr Tryz.prog 106 (fun r:FN=>[CV.int .i64 r.kind,.int .i64 r.k,is true r.args]) (fun r n=>r.args.length≤n):=by
 have r:=rdr_struct3 Tryz.underlying106 (s0:=1) (s1:=1) (s2:=1) (by kernel_rfl) (by kernel_rfl) (by kernel_rfl) (by kernel_rfl) rfl rfl rfl (rdr_int Tryz.underlying3) (rdr_int Tryz.underlying3) rdr_args (fun _ _ _ h _=>h) (fun _ _ _ h _=>h) (fun _ _ _ h hm=>Nat.le_trans h hm)
 exact r.to (fun y=>⟨y.1,y.2.1,y.2.2⟩) (fun _=>rfl) (fun _ _ h=>h.2.2)
theorem rdr_fnodes:Rdr Tryz.prog 22 (fun p:List FN=>[fns false p]) (fun p n=>p.length≤n∧∀x∈p,x.args.length≤n):=
 (rdr_slice (B:=fun(r:FN) n=>r.args.length≤n) fn0 false Tryz.underlying22 (s:=3) (by kernel_rfl) om (fun _ _ _ h hm=>Nat.le_trans h hm) rdr_fnode).to id (fun _=>rfl) (fun _ _ h=>h)
theorem rdr_formula:Rdr Tryz.prog 24 (fun f:FM=>fmc false f) (fun f n=>f.nodes.length≤n∧(∀x∈f.nodes,x.args.length≤n)∧(Lit.int .i64 f.top).wf=true):=by
 have r:=rdr_struct3 Tryz.underlying24 (s0:=1) (s1:=1) (s2:=1) (by kernel_rfl) (by kernel_rfl) (by kernel_rfl) (by kernel_rfl) rfl rfl rfl (rdr_int Tryz.underlying3) rdr_fnodes (rdr_int Tryz.underlying3) (fun _ _ _ h _=>h) (fun _ _ _ h hm=>⟨Nat.le_trans h.1 hm,fun x hx=>Nat.le_trans (h.2 x hx) hm⟩) (fun _ _ _ h _=>h)
 exact r.to (fun y=>⟨y.1,y.2.1,y.2.2⟩) (fun _=>rfl) (fun _ _ h=>⟨h.2.1.1,h.2.1.2,h.2.2⟩)
theorem args_ok {f:FM} {n:Nat} (h:∀x∈f.nodes,x.args.length≤n) (hn:n≤1099511627776):ArgsOk f:=fun x hx=>Nat.le_trans (h x hx) hn
end Go.Proofs.YtfcnbgmclfkfcaaGreat
namespace Go.PN
open Go.AI
theorem coh_false {f:FM} {k:Nat} (h:cohTo f k=false):∀n,k≤n→cohTo f n=false
 |0,hn=>by rw [show k=0 from by omega] at h;exact h
 |n+1,hn=>by
  by_cases e:k=n+1
  ·subst e;exact h
  ·rw [cohTo,coh_false h n om];rfl
end Go.PN
namespace Go.Proofs.YtfcnbgmclfkfcaaGreat
open Go.AI Go.PN
attribute [local irreducible] aw Fa Fh DrK
set_option maxRecDepth 100000 in
set_option maxHeartbeats 3200000 in
theorem belowR_fa (f:FM) (ok:FrOk f):Fa Tryz.prog 104 [.agg (fmc false f)] (.c (bs true (belL f))):=by
 have v0:=ok.v0
 have v24:=ok.v24
 have n128:=ok.n128
 have t0:=ok.t0
 have t1:=ok.t1
 refine fa_of_body Tryz.func104 rfl rfl (by simp [Tryz.ntmps104]) fun C hC=> ?_
 simp only [initS,Nat.reduceAdd]
 refine xG ?_
 refine xB fun g1 hn_g1=>?_
 refine yG hn_g1 ?_
 refine aw_make (n:=f.vars.toNat+f.nodes.length) (c:=f.vars.toNat+f.nodes.length) (size:=1) (z:=[.bool false]) rfl rfl rfl (zE hn_g1) (zE hn_g1) rfl om (zE hn_g1) (zE hn_g1) om om om om om fun g3 hn_g3=> ?_
 simp only [Nat.mul_one]
 rw [make_bs]
 replace hn_g3:=Heap.ne_of hn_g3
 dsimp only [Heap.ne] at hn_g3
 have J1:=oj hn_g1 hn_g3
 refine ySGWS J1 ?_
 rw [updF_bs (i:=f.top.toNat) (zs:=List.replicate (f.vars.toNat+f.nodes.length) false) (v:=true) (by rw [List.length_replicate];omega)]
 refine yG J1 ?_
 have hN:((f.vars.toNat+f.nodes.length:Nat):Int)=f.vars+f.nodes.length:=by omega
 refine aw_lp (fun j:Nat=>[(1,.c (.optr g1 0)),(3,.c (.osl g3 1 0 (f.vars.toNat+f.nodes.length))),(4,.c (.int .i64 ((f.nodes.length:Int)-1-j)))]) (fun j=>[(g3,.cells 4 (f.vars.toNat+f.nodes.length) (bsF (belTo f j))),(g1,.cells 24 3 (ofL (fmc false f)))]) (fun j=>j≤f.nodes.length) (fun j=>f.nodes.length-j) 0 (by refine yS J1 ?_;simp) zZ (Nat.zero_le _) ?_
 rintro j hj
 have hbl:=belTo_len f j
 refine yG J1 ?_
 refine yF J1 (fun h1=>?_) fun h1=>?_
 ·have h1':j<f.nodes.length:=dT h1
  obtain⟨i,hi⟩:∃i:Nat,i=f.nodes.length-1-j:=⟨_,rfl⟩
  have hij:(f.nodes.length:Int)-1-(j:Int)=(i:Int):=by omega
  have hst:belTo f (j+1)=if(belTo f j).getD (f.vars.toNat+i) false then markTo (f.nodes.getD i fn0).args (belTo f j) (f.nodes.getD i fn0).args.length else belTo f j:=by rw [belTo,hi]
  have hil:i<f.nodes.length:=by omega
  have hidx:(f.vars+(i:Int)).toNat=f.vars.toNat+i:=by omega
  have hnx:(i:Int)-1=(f.nodes.length:Int)-1-((j+1:Nat):Int):=by omega
  have hln:=ok.len hil
  have hat:=fun q hq=>ok.at (j:=q) hil hq
  rw [hij]
  have J2:=oj hn_g1 (oj hn_g3 hidx)
  refine yG J2 ?_
  refine yF J2 (fun hm=>?_) fun hm=>?_
  ·have hm':(belTo f j).getD (f.vars.toNat+i) false=false:=by simpa using hm
   rw [if_neg (by rw [hm'];simp)] at hst
   refine yG J2 ?_
   rw [←hst]
   exact aw_stop ⟨j+1,by omega,by rw [←hnx];exact(zB J2),zZ,by omega⟩
  ·have hm':(belTo f j).getD (f.vars.toNat+i) false=true:=by simpa using hm
   rw [if_pos hm'] at hst
   generalize hx:f.nodes.getD i fn0=x at*
   have J3:=oj hn_g1 (oj hn_g3 (oj hidx hx))
   refine yG J3 ?_
   refine aw_lp (fun q:Nat=>[(1,.c (.optr g1 0)),(3,.c (.osl g3 1 0 (f.vars.toNat+f.nodes.length))),(4,.c (.int .i64 (i:Int))),(39,.c (is true x.args)),(40,.c (.int .i64 x.args.length)),(41,.c (.int .i64 q))]) (fun q=>[(g3,.cells 4 (f.vars.toNat+f.nodes.length) (bsF (markTo x.args (belTo f j) q))),(g1,.cells 24 3 (ofL (fmc false f)))]) (fun q=>q≤x.args.length) (fun q=>x.args.length-q) 0 (zB J3) zZ (Nat.zero_le _) ?_
   rintro q hq
   have hml:=markTo_len x.args (belTo f j) q
   refine yG J3 ?_
   refine yF J3 (fun h2=>?_) fun h2=>?_
   ·have h2':q<x.args.length:=dT h2
    obtain⟨a0,a1⟩:=hat q h2'
    refine yGWS J3 ?_
    rw [updF_bs om]
    refine yG J3 ?_
    exact aw_stop ⟨q+1,by omega,(zB J3),zZ,by omega⟩
   ·have h2':q=x.args.length:=dF h2
    subst h2'
    refine yG J3 ?_
    rw [←hst]
    exact aw_stop ⟨j+1,by omega,by rw [←hnx];exact(zB J3),zZ,by omega⟩
 ·have h1':j=f.nodes.length:=dF h1
  subst h1'
  refine yGT hC J1 ?_
  exact .one (.c (ler_oslbs (zE J1) hbl.symm))
set_option maxRecDepth 100000 in
set_option maxHeartbeats 3200000 in
theorem coherent_fa (f:FM) (ok:FrOk f):Fa Tryz.prog 49 [.agg (fmc false f)] (.c (.bool (cohTo f f.nodes.length))):=by
 have v0:=ok.v0
 have v24:=ok.v24
 have n128:=ok.n128
 refine fa_of_body Tryz.func49 rfl rfl (by simp [Tryz.ntmps49]) fun C hC=> ?_
 simp only [initS,Nat.reduceAdd]
 refine xG ?_
 refine xB fun g1 hn_g1=>?_
 refine yG hn_g1 ?_
 refine yC hn_g1 (belowR_fa f ok) ?_
 refine yG hn_g1 ?_
 refine aw_lp (fun j:Nat=>[(1,.c (.optr g1 0)),(3,.c (bs true (belL f))),(4,.c (.int .i64 j))]) (fun _=>[(g1,.cells 24 3 (ofL (fmc false f)))]) (fun j=>j≤f.nodes.length∧cohTo f j=true) (fun j=>f.nodes.length-j) 0 (zB hn_g1) zZ ⟨Nat.zero_le _,rfl⟩ ?_
 rintro j ⟨hj,hc⟩
 have hbl:(belL f).length=f.vars.toNat+f.nodes.length:=belTo_len f f.nodes.length
 refine yG hn_g1 ?_
 refine yF hn_g1 (fun h1=>?_) fun h1=>?_
 ·have h1':j<f.nodes.length:=dT h1
  have hst:cohTo f (j+1)=(cohTo f j&& !((belL f).getD (f.vars.toNat+j) false&&(decide ((f.nodes.getD j fn0).kind=1)||decide ((f.nodes.getD j fn0).kind=5)))):=rfl
  have hidx:(f.vars+(j:Int)).toNat=f.vars.toNat+j:=by omega
  rw [hc,Bool.true_and] at hst
  have fin:cohTo f (j+1)=false→cohTo f f.nodes.length=false:=fun hf=>coh_false hf _ om
  generalize belL f=ms at hbl hst⊢
  have J1:=oj hn_g1 hidx
  refine yG J1 ?_
  refine aw_split 21 (zE J1) (fun hm=> ?_) (fun hm=> ?_)<;>refine yS J1 ?_
  ·rw [hm,Bool.true_and] at hst
   refine yG J1 ?_
   refine aw_split 29 (zE J1) (fun h4=> ?_) (fun h4=> ?_)<;>refine yS J1 ?_
   ·refine yGPG J1 ?_
    rw [fin (by rw [hst,show decide ((f.nodes.getD j fn0).kind=1)=true from by simpa using h4];rfl)]
    refine yT hC J1 ?_
    exact .one (.c (.bool _))
   ·refine yG J1 ?_
    have h4':decide ((f.nodes.getD j fn0).kind=1)=false:=by simpa using h4
    rw [h4',Bool.false_or] at hst
    refine yF J1 (fun h5=>?_) fun h5=>?_
    ·refine yG J1 ?_
     rw [fin (by rw [hst,show decide ((f.nodes.getD j fn0).kind=5)=true from by simpa using h5];rfl)]
     refine yT hC J1 ?_
     exact .one (.c (.bool _))
    ·refine yG J1 ?_
     exact aw_stop ⟨j+1,by omega,(zB J1),zZ,by omega,by rw [hst,show decide ((f.nodes.getD j fn0).kind=5)=false from by simpa using h5];rfl⟩
  ·refine yGNG J1 ?_
   exact aw_stop ⟨j+1,by omega,(zB J1),zZ,by omega,by rw [hst,hm];rfl⟩
 ·have h1':j=f.nodes.length:=dF h1
  subst h1'
  refine yG hn_g1 ?_
  rw [hc]
  refine yT hC hn_g1 ?_
  exact .one (.c (.bool _))
end Go.Proofs.YtfcnbgmclfkfcaaGreat
namespace Go.PN
open Go.AI
theorem fits_inv {q:Rat} {L:Nat} (h:fits q L) (hz:q≠0):fits q⁻¹ L:=by
 obtain⟨h1,h2⟩:=h
 have hn:q.num≠0:=fun e=>hz (Rat.num_eq_zero.1 e)
 have h3:(rd q).q=q:=rd_q q
 obtain⟨p1,p2,p3⟩:(rd q).ps=decide (q.num<0)∧(rd q).pn=q.num.natAbs∧(rd q).pd=q.den:=by
  have hs:=(rd_some hz).1
  unfold RD.ps RD.pn RD.pd
  rw [if_pos hs,if_pos hs,if_pos hs]
  unfold rd
  rw [if_neg hn]
  exact⟨rfl,val_words _,val_words _⟩
 have h4:q=sq (decide (q.num<0)) q.num.natAbs q.den:=by
  have:(rd q).q=sq (rd q).ps (rd q).pn (rd q).pd:=rfl
  rw [h3,p1,p2,p3] at this
  exact this
 have h5:sq false 1 1=1:=sq_one om
 have h6:=sq_div false (decide (q.num<0)) (n:=1) (d:=1) (m:=q.num.natAbs) (e:=q.den) om q.den_nz
 rw [h5,←h4,Rat.div_def,Rat.one_mul,Nat.one_mul,Nat.one_mul] at h6
 rw [←h6]
 exact fits_sq om h2 h1
theorem fits_div {a b:Rat} {L M:Nat} (ha:fits a L) (hb:fits b M) (hz:b≠0):fits (a/b) (L+M):=by
 rw [Rat.div_def]
 exact fits_mul ha (fits_inv hb hz)
end Go.PN

namespace Go.PN
open Go.AI
theorem fm_of {f:FM} (ok:FrOk f):FmOk f:=by
 refine⟨ok.v0,by have:=ok.v24;omega,by have:=ok.n128;omega,fun x hx=> ?_,ok.t0,ok.t1⟩
 obtain⟨i,hi,rfl⟩:=List.mem_iff_getElem.1 hx
 have h1:=ok.len hi
 have h2:=ok.arg i hi
 have h3:=ok.v24
 have h4:=ok.n128
 rw [show f.nodes.getD i fn0=f.nodes[i] from by rw [List.getD_eq_getElem?_getD,List.getElem?_eq_getElem hi];rfl] at h1 h2
 exact⟨by omega,fun y hy=>by have:=h2 y hy;omega⟩
end Go.PN
namespace Go.Proofs.YtfcnbgmclfkfcaaGreat
open Go.AI Go.PN
attribute [local irreducible] aw Fa Fh DrK
theorem topR_fa {f:FM} {p:List RD} (hk:WFn f p):Fa Tryz.prog 22 [.agg (fmc false f),.c (rats false p)] (.agg (rdc (rd (wV f p)))):=by
 have hpl:=hk.l
 have h6:=hk.h6
 have hvp:f.vars.toNat=p.length:=by omega
 have hfa:=formula_fa f (fm_of (fr_ok hk.c)) om
 have hfl:=formTo_len f (2^f.vars.toNat)
 have htv:=top_wV f p
 rw [hvp] at hfa hfl
 generalize formTo f (2^p.length)=tb at hfa hfl htv
 have htf:=table37_fa tb p 4 om om hk.w om hfl
 rw [hfl,htv] at htf
 refine fa_of_body Tryz.func22 rfl rfl (by simp [Tryz.ntmps22]) fun C hC=> ?_
 simp only [initS,Nat.reduceAdd]
 refine xG ?_
 refine xB fun g2 hn_g2=>?_
 refine yG hn_g2 ?_
 refine yA hn_g2 fun g4 hn_g4=>?_
 have J1:=oj hn_g2 hn_g4
 refine yG J1 ?_
 refine yC J1 (hfa) ?_
 refine yG J1 ?_
 refine yC J1 (htf) ?_
 refine yGWSGT hC J1 ?_
 exact ler_rd rfl
theorem rdw {q:Rat} {L:Nat} (h:fits q L) (hL:L≤1073741824):(rd q).wf 1073741824:=rd_wf (fits_mono h hL)
set_option maxHeartbeats 1600000 in
theorem checkR43_fa (f:FM) (p:List RD) (hn:f.nodes.length≤1099511627776) (ha:ArgsOk f) (ht0: -9223372036854775808≤f.top) (ht:f.top≤9223372036854775807) (hw:∀r∈p,r.wf 500000000) (hl:p.length≤1099511627776):Fa Tryz.prog 13 [.agg (fmc false f),.c (rats false p)] (.c (.int .i64 (wcode f p))):=by
 unfold wcode
 refine fa_of_body Tryz.func13 rfl rfl (by simp [Tryz.ntmps13]) fun C hC=> ?_
 simp only [initS,Nat.reduceAdd]
 refine xG ?_
 refine xB fun g2 hn_g2=>?_
 refine yG hn_g2 ?_
 refine yC hn_g2 (fcheckR_fa f hn ha ht0 ht) ?_
 by_cases h1:fcode f=0
 ·have z1:=ieq_t h1
  rw [if_neg (fun h=>h h1)]
  have J1:=oj hn_g2 z1
  refine yGNG J1 ?_
  refine yC J1 (coherent_fa f (fr_ok h1)) ?_
  refine yG J1 ?_
  cases hc:cohTo f f.nodes.length
  ·refine ySGPG J1 ?_
   refine yT hC J1 ?_
   exact .one (.c (.int _ _))
  ·refine ySGNG J1 ?_
   refine yC J1 (check37_fa p f.vars hw hl) ?_
   refine yGT hC J1 ?_
   exact .one (.c (.int _ _))
 ·have z1:=ieq_f h1
  rw [if_pos h1]
  have J2:=oj hn_g2 z1
  refine yGPGT hC J2 ?_
  exact .one (.c (.int _ _))
end Go.Proofs.YtfcnbgmclfkfcaaGreat
