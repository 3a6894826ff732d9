/- Parts of one proof, laid by a program. -/
import Derived.Test.YtefekdejgbceiaaGreatM00
import Derived.Test.YtefekdejgbceiaaGreatM14
set_option linter.unusedSimpArgs false
set_option linter.unusedVariables false
set_option maxRecDepth 100000
set_option maxHeartbeats 12800000
namespace Go.PN
open Go.AI Go.Proofs.YtefekdejgbceiaaGreat
theorem sgp {x:Rat} (h:0<x):signQ x=1:=by
 unfold signQ
 rw [if_neg (by grind),if_neg (by grind)]
end Go.PN
namespace Go.Proofs.YtefekdejgbceiaaGreat
open Go.AI Go.PN
attribute [local irreducible] aw Fa Fh DrK
def bigW (r:RD):Bool:=decide ((r.num.length:Int)>2)||decide ((r.den.length:Int)>2)
noncomputable def largeWA (f:FM) (p:List RD):Bool:=decide ((p.length:Int)>100)||((decide (f.vars>6)&&((p.length:Int)==f.vars))&&(fcode f==0))
noncomputable def largeW (f:FM) (p:List RD):Bool:=largeWA f p||p.any bigW
noncomputable def validW (f:FM) (p:List RD):Bool:= !largeW f p&&(decide (wcode f p=0)&&decide (0<wV f p))
theorem ws_of {f:FM} {p:List RD} (hn:f.nodes.length≤1099511627776) (ha:ArgsOk f) (ht0: -9223372036854775808≤f.top) (ht:f.top≤9223372036854775807) (hw:WordsOk p) (h:largeW f p=false):WSm f p:=by
 unfold largeW largeWA at h
 simp only [Bool.or_eq_false_iff,Bool.and_eq_false_iff,decide_eq_false_iff_not,beq_eq_false_iff_ne] at h
 obtain⟨⟨h1,h2⟩,h3⟩:=h
 refine⟨hn,ha,ht0,ht,fun r hr=> ?_,by omega,fun hc hl=> ?_⟩
 ·have hb:bigW r=false:=by
   cases hb:bigW r with
   |false=>rfl
   |true=>rw [List.any_eq_true.2 ⟨r,hr,hb⟩] at h3;cases h3
  unfold bigW at hb
  simp only [Bool.or_eq_false_iff,decide_eq_false_iff_not] at hb
  obtain⟨w1,w2⟩:=hw r hr
  exact⟨w1,w2,by omega,by omega⟩
 ·rcases h2 with (h2|h2)|h2
  ·omega
  ·exact absurd hl h2
  ·exact absurd hc h2
theorem WSm.fn {f:FM} {p:List RD} (h:WSm f p) (hk:WOk f p):WFn f p:=⟨hk.c,hk.len,by have:=h.v6 hk;have:=hk.len;omega,h.w⟩
theorem part43_fa (n d:Int) (h0: -9223372036854775808≤n) (h1:n≤9223372036854775807) (h2: -9223372036854775808≤d) (h3:d≤9223372036854775807) (hd:d≠0):
  Fa Tryz.prog 19 [.c (.int .i64 n),.c (.int .i64 d)] (.agg (rdc (rd ((n:Rat)/(d:Rat))))):=by
 refine fa_of_body Tryz.func19 rfl rfl (by simp [Tryz.ntmps19]) fun C hC=> ?_
 simp only [initS,Nat.reduceAdd]
 refine xG ?_
 refine xA fun g4 hn_g4=>?_
 refine yG hn_g4 ?_
 refine yC hn_g4 (smake_fa n d h0 h1 h2 h3 hd) ?_
 refine yG hn_g4 ?_
 refine yA hn_g4 fun g5 hn_g5=>?_
 have J1:=oj hn_g4 hn_g5
 refine yGWSG J1 ?_
 refine yW J1 ?_
 refine ySGT hC J1 ?_
 exact ler_rd rfl
theorem example43_fa:Fa Tryz.prog 21 [] (.agg (fmc true exG)):=by
 refine fa_of_body Tryz.func21 rfl rfl (by simp [Tryz.ntmps21]) fun C hC=> ?_
 simp only [initS,Nat.reduceAdd]
 refine xG ?_
 refine xA fun g0 hn_g0=>?_
 refine yG hn_g0 ?_
 refine aw_buildSlice (xs:=[.const (.int .i64 1),.const (.int .i64 2)]) (cells:=[.int .i64 1,.int .i64 2]) rfl rfl rfl (zE hn_g0) (by refine yS hn_g0 ?_;rfl) rfl om om (by intro x hx;simp only [List.mem_cons,List.not_mem_nil,or_false] at hx;rcases hx with rfl|rfl<;>exact⟨rfl,rfl,rfl⟩) rfl fun g1 hn_g1=> ?_
 replace hn_g1:=Heap.ne_of hn_g1
 dsimp only [Heap.ne] at hn_g1
 have J1:=oj hn_g0 hn_g1
 refine yS J1 ?_
 refine aw_frzT (t:=1) (isF [1,2]) (zE J1) (zE J1) om (hC g1) (fun j hj=>by match j,hj with|0,_=>rfl|1,_=>rfl) rfl (zE J1) ?_
 refine ySG J1 ?_
 refine aw_buildSlice (xs:=[.const (.int .i64 0),.const (.int .i64 3)]) (cells:=[.int .i64 0,.int .i64 3]) rfl rfl rfl (zE J1) (by refine yS J1 ?_;rfl) rfl om om (by intro x hx;simp only [List.mem_cons,List.not_mem_nil,or_false] at hx;rcases hx with rfl|rfl<;>exact⟨rfl,rfl,rfl⟩) rfl fun g3 hn_g3=> ?_
 replace hn_g3:=Heap.ne_of hn_g3
 dsimp only [Heap.ne] at hn_g3
 have J2:=oj hn_g0 (oj hn_g1 hn_g3)
 refine yS J2 ?_
 refine aw_frzT (t:=3) (isF [0,3]) (zE J2) (zE J2) om (hC g3) (fun j hj=>by match j,hj with|0,_=>rfl|1,_=>rfl) rfl (zE J2) ?_
 refine ySG J2 ?_
 refine aw_buildSlice (xs:=[.tmp 2,.tmp 4]) (cells:=[.int .i64 2,.int .i64 0,is true [1,2],.int .i64 3,.int .i64 0,is true [0,3]]) rfl rfl rfl (zE J2) (by refine yS J2 ?_;rfl) rfl om om (by intro x hx;simp only [List.mem_cons,List.not_mem_nil,or_false] at hx;rcases hx with rfl|rfl<;>exact⟨rfl,rfl,rfl⟩) rfl fun g5 hn_g5=> ?_
 replace hn_g5:=Heap.ne_of hn_g5
 dsimp only [Heap.ne] at hn_g5
 have J3:=oj hn_g0 (oj hn_g1 (oj hn_g3 hn_g5))
 refine yS J3 ?_
 refine aw_frzT (t:=5) (fnsF exG.nodes) (zE J3) (zE J3) om (hC g5) (fun j hj=>by match j,hj with|0,_=>rfl|1,_=>rfl|2,_=>rfl|3,_=>rfl|4,_=>rfl|5,_=>rfl) rfl (zE J3) ?_
 refine ySGWSG J3 ?_
 refine yT hC J3 ?_
 exact .one (.agg ⟨.int _ _,ler_fns (t:=true) (ps:=[⟨2,0,[1,2]⟩,⟨3,0,[0,3]⟩]),.int _ _,trivial⟩)
theorem exG_wsm:WSm exG exGP:=⟨by decide,exG_argsOk,by decide,by decide,exGP_wf,by decide,fun _ _=>by decide⟩
theorem exG_mcode:mcode exG exGP=0:=m_ok exG_ok.code (by rw [exG_top];decide+kernel)
theorem exG_rcode:rcode exG exGP 1=0:=by
 unfold rcode
 rw [if_neg (fun k=>k exG_ok.code),if_pos ⟨by decide,by decide⟩,if_neg]
 intro h
 rw [show(1:Int).toNat=1 from rfl,show rd0=rd 0 from rd0_rd,exG_set] at h
 revert h
 decide+kernel
theorem awake43_of (P:List RD) (hP:P=exGP) (hf:Fa Tryz.prog 20 [.agg (fmc false exG),.c (rats false P)] (.tup [.c (rats true [rd (4/7),rd (4/7),rd (4/7)]),.c .nilI])) (hv:Fa Tryz.prog 11 [.agg (fmc false exG),.c (rats false P)] (.tup [.c (rats true [rd (16/7),rd (10/7),rd (10/7)]),.c .nilI])) (hr:Fa Tryz.prog 16 [.agg (fmc false exG),.c (rats false P),.c (.int .i64 1)] (.tup [.agg (rdc (rd (7/4))),.c .nilI])):
  Fa Tryz.prog 4 [] (.c (.bool true)):=by
 refine fa_of_body Tryz.func4 rfl rfl (by simp [Tryz.ntmps4]) fun C hC=> ?_
 simp only [initS,Nat.reduceAdd]
 refine xG ?_
 refine xC (part43_fa 1 4 ?_ ?_ ?_ ?_ ?_) ?_
 ·omega
 ·omega
 ·omega
 ·omega
 ·omega
 refine xG ?_
 refine xC (part43_fa 1 2 ?_ ?_ ?_ ?_ ?_) ?_
 ·omega
 ·omega
 ·omega
 ·omega
 ·omega
 refine xG ?_
 refine xC (part43_fa 1 2 ?_ ?_ ?_ ?_ ?_) ?_
 ·omega
 ·omega
 ·omega
 ·omega
 ·omega
 refine xG ?_
 refine aw_buildSlice (xs:=[.tmp 8,.tmp 9,.tmp 10]) (cells:=rdc (rd (1/4))++(rdc (rd (1/2))++rdc (rd (1/2)))) rfl rfl rfl eE (by refine xS ?_;rfl) rfl om om (by intro x hx;simp only [List.mem_cons,List.not_mem_nil,or_false] at hx;rcases hx with rfl|rfl|rfl<;>exact⟨rfl,rfl,rfl⟩) rfl fun g11 hn_g11=> ?_
 refine xS ?_
 refine aw_frzT (t:=11) (ratsF exGP) eE eE om (hC g11) (fun j hj=>by match j,hj with|0,_=>rfl|1,_=>rfl|2,_=>rfl|3,_=>rfl|4,_=>rfl|5,_=>rfl|6,_=>rfl|7,_=>rfl|8,_=>rfl) rfl eE ?_
 refine xSG ?_
 refine aw_weak (σ':=[(0,.c (.bool false)),(1,.c (rats true P))]) (h':=[]) (Sl.sub_le (by subst hP;exact⟨rfl,rfl,trivial⟩)) (List.nil_sublist _) ?_
 refine xG ?_
 refine xC (example43_fa) ?_
 refine xG ?_
 refine aw_callq hf rfl rfl rfl (by refine xS ?_;exact⟨.agg ⟨.refl _,le_any_row (by simp),.refl _,trivial⟩,.c wl2⟩) ?_
 refine xSG ?_
 refine xC (example43_fa) ?_
 refine xG ?_
 refine aw_callq hv rfl rfl rfl (by refine xS ?_;exact⟨.agg ⟨.refl _,le_any_row (by simp),.refl _,trivial⟩,.c wl2⟩) ?_
 refine xSG ?_
 refine xC (example43_fa) ?_
 refine xG ?_
 refine aw_callq hr rfl rfl rfl (by refine xS ?_;exact⟨.agg ⟨.refl _,le_any_row (by simp),.refl _,trivial⟩,.c wl2,.c (.refl _)⟩) ?_
 refine xSG ?_
 refine xA fun g6 hn_g6=>?_
 refine yGWSG hn_g6 ?_
 refine aw_cw ([(g6,.cells 41 3 (ofL (rdc (rd (7/4)))))]) [(0,0),(1,0),(2,0),(3,0),(4,0),(5,0),(6,0),(7,0),(8,0),(9,0),(10,0),(11,0),(12,0),(13,0),(14,0),(15,0),(16,0),(17,0),(18,0),(19,0),(20,1),(21,1),(22,0),(23,0),(24,0),(25,0),(26,0),(27,0),(28,1),(29,1),(30,0),(31,0)] ty_mixed (by kernel_rfl) eI ?_
 refine yG hn_g6 ?_
 refine cw_callq rfl (part43_fa 7 4 om om om om om) rfl rfl rfl (fun _ _=>(zL hn_g6)) ?_
 refine ySG hn_g6 ?_
 refine cw_callq rfl (ratEq_fa (rd (7/4)) (rd (((7:Int):Rat)/((4:Int):Rat))) (rd_wf (fits_mono (L:=1) ⟨by decide+kernel,by decide+kernel⟩ om))) rfl rfl rfl (fun _ _=>(zL hn_g6)) ?_
 rw [rdec_eq (show rd (7/4)=rd (((7:Int):Rat)/((4:Int):Rat)) from rfl)]
 refine ySG hn_g6 ?_
 refine cw_callq rfl (part43_fa 4 7 om om om om om) rfl rfl rfl (fun _ _=>(zL hn_g6)) ?_
 refine yS hn_g6 ?_
 refine cw_callq rfl (part43_fa 4 7 om om om om om) rfl rfl rfl (fun _ _=>(zL hn_g6)) ?_
 refine yS hn_g6 ?_
 refine cw_callq rfl (part43_fa 4 7 om om om om om) rfl rfl rfl (fun _ _=>(zL hn_g6)) ?_
 refine yS hn_g6 ?_
 refine cw_buildSlice (xs:=[.tmp 47,.tmp 48,.tmp 49]) (cells:=rdc (rd (4/7))++(rdc (rd (4/7))++rdc (rd (4/7)))) rfl rfl rfl rfl (zE hn_g6) (by refine yS hn_g6 ?_;rfl) rfl om om (by intro x hx;simp only [List.mem_cons,List.not_mem_nil,or_false] at hx;rcases hx with rfl|rfl|rfl<;>exact⟨rfl,rfl,rfl⟩) rfl (by simp [Op.operands]) eI (fun g20 hn_g20=> ?_) (hm:=.inr ⟨rfl,rfl⟩)
 refine yS hn_g6 ?_
 refine cw_callqP rfl (rats_fa [rd (4/7),rd (4/7),rd (4/7)] [rd (4/7),rd (4/7),rd (4/7)] (by
  intro r hr
  simp only [List.mem_cons,List.not_mem_nil,or_false] at hr
  rcases hr with rfl|rfl|rfl<;>exact rd_wf (fits_mono (L:=1) ⟨by decide+kernel,by decide+kernel⟩ om)) (by simp)) rfl rfl rfl (by refine yS hn_g6 ?_;exact⟨.c wl2,.c (.osl (m:=9) (zE hn_g6) om (fun j hj=>by match j,hj with|0,_=>exact .refl _|1,_=>exact .refl _|2,_=>exact .refl _|3,_=>exact .refl _|4,_=>exact .refl _|5,_=>exact .refl _|6,_=>exact .refl _|7,_=>exact .refl _|8,_=>exact .refl _))⟩) eI ?_ (hm:=.inr ⟨rfl,rfl⟩)
 rw [decide_eq_true (rfl:[rd (4/7),rd (4/7),rd (4/7)]=_)]
 refine ySG hn_g6 ?_
 refine cw_callq rfl (part43_fa 16 7 om om om om om) rfl rfl rfl (fun _ _=>(zL hn_g6)) ?_
 refine yS hn_g6 ?_
 refine cw_callq rfl (part43_fa 10 7 om om om om om) rfl rfl rfl (fun _ _=>(zL hn_g6)) ?_
 refine yS hn_g6 ?_
 refine cw_callq rfl (part43_fa 10 7 om om om om om) rfl rfl rfl (fun _ _=>(zL hn_g6)) ?_
 refine yS hn_g6 ?_
 refine cw_buildSlice (xs:=[.tmp 55,.tmp 56,.tmp 57]) (cells:=rdc (rd (16/7))++(rdc (rd (10/7))++rdc (rd (10/7)))) rfl rfl rfl rfl (zE hn_g6) (by refine yS hn_g6 ?_;rfl) rfl om om (by intro x hx;simp only [List.mem_cons,List.not_mem_nil,or_false] at hx;rcases hx with rfl|rfl|rfl<;>exact⟨rfl,rfl,rfl⟩) rfl (by simp [Op.operands]) eI (fun g28 hn_g28=> ?_) (hm:=.inr ⟨rfl,rfl⟩)
 refine yS hn_g6 ?_
 refine cw_callqP rfl (rats_fa [rd (16/7),rd (10/7),rd (10/7)] [rd (16/7),rd (10/7),rd (10/7)] (by
  intro r hr
  simp only [List.mem_cons,List.not_mem_nil,or_false] at hr
  rcases hr with rfl|rfl|rfl<;>exact rd_wf (fits_mono (L:=1) ⟨by decide+kernel,by decide+kernel⟩ om)) (by simp)) rfl rfl rfl (by refine yS hn_g6 ?_;exact⟨.c wl2,.c (.osl (m:=9) (zE hn_g6) om (fun j hj=>by match j,hj with|0,_=>exact .refl _|1,_=>exact .refl _|2,_=>exact .refl _|3,_=>exact .refl _|4,_=>exact .refl _|5,_=>exact .refl _|6,_=>exact .refl _|7,_=>exact .refl _|8,_=>exact .refl _))⟩) eI ?_ (hm:=.inr ⟨rfl,rfl⟩)
 rw [decide_eq_true (rfl:[rd (16/7),rd (10/7),rd (10/7)]=_)]
 refine ySGT hC hn_g6 ?_
 exact .one (.c (.bool _))
theorem awake43_fa:Fa Tryz.prog 4 [] (.c (.bool true)):=by
 have hf:=fus_fa exG_wsm
 rw [exG_mcode,if_pos rfl,exG_fus,show errA 0=CV.nilI from rfl] at hf
 have hv:=ach_fa exG_wsm
 rw [exG_mcode,if_pos rfl,exG_ach,show errA 0=CV.nilI from rfl] at hv
 have hr:=red_fa exG_wsm 1
 rw [exG_rcode,if_pos rfl,show(1:Int).toNat=1 from rfl,exG_red,show errA 0=CV.nilI from rfl] at hr
 exact awake43_of exGP rfl hf hv hr
theorem large43_fa (f:FM) (p:List RD) (hn:f.nodes.length≤1099511627776) (ha:ArgsOk f) (ht0: -9223372036854775808≤f.top) (ht:f.top≤9223372036854775807) (hl:p.length≤1099511627776):Fa Tryz.prog 24 [.agg (fmc false f),.c (rats false p)] (.c (.bool (largeW f p))):=by
 have hA:largeWA f p=true→largeW f p=true:=fun h=>by unfold largeW;rw [h];rfl
 refine fa_of_body Tryz.func24 rfl rfl (by simp [Tryz.ntmps24]) fun C hC=> ?_
 simp only [initS,Nat.reduceAdd]
 apply aw_seq
 apply aw_region
 refine xB fun g2 hn_g2=>?_
 refine yH hn_g2 ?_
 apply aw_seq
 refine aw_cut (fun _:Unit=>[(1,.c (rats false p))]) (fun _=>[]) (fun _=>largeWA f p=false) ?_ ?_
 ·refine yG hn_g2 ?_
  refine aw_split 9 (zE hn_g2) (fun a1=> ?_) (fun a1=> ?_)<;>refine yS hn_g2 ?_
  ·rw [hA (by unfold largeWA;rw [a1];rfl)]
   repeat first
    |refine yO hn_g2 ?_
    |(refine aw_skipU (zE hn_g2) rfl ?_;refine yS hn_g2 ?_)
    |(refine aw_skipN rfl rfl (zE hn_g2) rfl ?_;refine yS hn_g2 ?_)
   refine yGPGT hC hn_g2 ?_
   exact .one (.c (.bool _))
  refine yG hn_g2 ?_
  refine aw_split 13 (zE hn_g2) (fun a2=> ?_) (fun a2=> ?_)<;>refine yS hn_g2 ?_
  ·refine yG hn_g2 ?_
   refine aw_split 20 (zE hn_g2) (fun a3=> ?_) (fun a3=> ?_)<;>refine yS hn_g2 ?_
   ·refine yG hn_g2 ?_
    refine yC hn_g2 (fcheckR_fa f hn ha ht0 ht) ?_
    refine yG hn_g2 ?_
    refine yF hn_g2 (fun a4=>?_) fun a4=>?_
    ·rw [hA (by unfold largeWA;rw [a1,a2,a3,a4];rfl)]
     refine yGT hC hn_g2 ?_
     exact .one (.c (.bool _))
    ·refine yG hn_g2 ?_
     exact aw_stop ⟨(),(zB hn_g2),List.nil_sublist _,by unfold largeWA;rw [a1,a2,a3,a4];rfl⟩
   ·refine yGNG hn_g2 ?_
    exact aw_stop ⟨(),(zB hn_g2),List.nil_sublist _,by unfold largeWA;rw [a1,a2,a3];rfl⟩
  ·refine yGNG hn_g2 ?_
   exact aw_stop ⟨(),(zB hn_g2),List.nil_sublist _,by unfold largeWA;rw [a1,a2];rfl⟩
 rintro _ hLA
 have hB:largeW f p=p.any bigW:=by unfold largeW;rw [hLA];rfl
 rw [hB]
 refine yG hn_g2 ?_
 refine aw_lp (fun x:Nat=>[(1,.c (rats false p)),(5,.c (.int .i64 x))]) (fun x=>[]) (fun x=>x≤p.length∧∀j,j<x→bigW (p.getD j rd0)=false) (fun x=>p.length-x) 0 (zB hn_g2) zZ ⟨Nat.zero_le _,by omega⟩ ?_
 rintro i ⟨hi,hs⟩
 refine yG hn_g2 ?_
 refine yF hn_g2 (fun h1=>?_) fun h1=>?_
 ·have h1':i<p.length:=dT h1
  have hmem:p.getD i rd0∈p:=by rw [List.getD_eq_getElem?_getD,List.getElem?_eq_getElem h1'];exact List.getElem_mem h1'
  refine yG hn_g2 ?_
  refine aw_split 39 (zE hn_g2) (fun h2=> ?_) (fun h2=> ?_)<;>refine yS hn_g2 ?_
  ·rw [List.any_eq_true.2 ⟨_,hmem,by unfold bigW;rw [h2];rfl⟩]
   refine yGPGT hC hn_g2 ?_
   exact .one (.c (.bool _))
  ·refine yG hn_g2 ?_
   refine yF hn_g2 (fun h3=>?_) fun h3=>?_
   ·rw [List.any_eq_true.2 ⟨_,hmem,by unfold bigW;rw [h2,h3];rfl⟩]
    refine yGT hC hn_g2 ?_
    exact .one (.c (.bool _))
   ·refine yG hn_g2 ?_
    refine aw_stop ⟨i+1,by omega,(zB hn_g2),zZ,by omega,fun j hj=> ?_⟩
    rcases Nat.lt_succ_iff_lt_or_eq.1 hj with h|h
    ·exact hs j h
    ·rw [h];unfold bigW;rw [h2,h3];rfl
 ·have h1':i=p.length:=dF h1
  subst h1'
  refine yGT hC hn_g2 ?_
  refine .one (.c (ler_bool ?_))
  cases ha:p.any bigW with
  |false=>rfl
  |true=>
   obtain⟨x,hx,hxb⟩:=List.any_eq_true.1 ha
   obtain⟨j,hj,e⟩:=List.mem_iff_getElem.1 hx
   have:=hs j hj
   rw [List.getD_eq_getElem?_getD,List.getElem?_eq_getElem hj,Option.getD_some,e,hxb] at this
   cases this
theorem valid43_fa (f:FM) (p:List RD) (hn:f.nodes.length≤1099511627776) (ha:ArgsOk f) (ht0: -9223372036854775808≤f.top) (ht:f.top≤9223372036854775807) (hw:WordsOk p) (hl:p.length≤1099511627776):Fa Tryz.prog 5 [.agg (fmc false f),.c (rats false p)] (.c (.bool (validW f p))):=by
 refine fa_of_body Tryz.func5 rfl rfl (by simp [Tryz.ntmps5]) fun C hC=> ?_
 simp only [initS,Nat.reduceAdd]
 refine xG ?_
 refine xB fun g2 hn_g2=>?_
 refine yG hn_g2 ?_
 refine yC hn_g2 (large43_fa f p hn ha ht0 ht hl) ?_
 by_cases hL:largeW f p=true
 ·have hv:validW f p=false:=by unfold validW;rw [hL];rfl
  rw [hv,hL]
  refine yGT hC hn_g2 ?_
  exact .one (.c (.bool _))
 have hL':largeW f p=false:=by simpa using hL
 have hs:=ws_of hn ha ht0 ht hw hL'
 rw [hL']
 refine yG hn_g2 ?_
 refine yC hn_g2 (checkR43_fa f p hn ha ht0 ht hs.w5 hl) ?_
 by_cases hc:wcode f p=0
 ·have z:=ieq_t hc
  have hk:=wok_of hc
  have h6:=hs.v6 hk
  have e6:decide (f.vars≤6)=true:=decide_eq_true h6
  have hX:=wV_fits (f:=f) hs.w (by have:=hk.len;omega)
  have h0:=(wV_unit (f:=f) hk.prob).1
  have J1:=oj hn_g2 (oj z e6)
  refine yG J1 ?_
  refine yC J1 (topR_fa (hs.fn hk)) ?_
  refine yG J1 ?_
  refine yC J1 (ssign_fa (rd (wV f p)) (rdw hX ?_)) ?_
  ·omega
  rw [rd_q]
  refine yGT hC J1 ?_
  refine .one (.c (ler_bool ?_))
  unfold validW
  rw [hL',decide_eq_true hc]
  by_cases hx:0<wV f p
  ·rw [sgp hx,decide_eq_true hx];rfl
  ·have:wV f p=0:=by grind
   rw [this];rfl
 ·have z:=ieq_f hc
  have hv:validW f p=false:=by unfold validW;rw [decide_eq_false hc];simp
  rw [hv]
  refine yGT hC (oj hn_g2 z) ?_
  exact .one (.c (.bool _))
theorem vw_of {f:FM} {p:List RD} (h:validW f p=true):largeW f p=false∧wcode f p=0∧0<wV f p:=by
 unfold validW at h
 simp only [Bool.and_eq_true,Bool.not_eq_true',decide_eq_true_eq] at h
 exact h
end Go.Proofs.YtefekdejgbceiaaGreat
namespace Go.PN
open Go.AI
structure SeenOk (f:FM) (l:List Int):Prop where
 nodup:l.Nodup
 range:∀x∈l,0≤x∧x<f.vars+f.nodes.length
theorem SeenOk.len {f:FM} {l:List Int} (h:SeenOk f l) (v0:0≤f.vars):l.length≤f.vars.toNat+f.nodes.length:=by
 have:=nodup_le (m:=(List.range (f.vars.toNat+f.nodes.length)).map fun(i:Nat)=>(i:Int)) h.nodup (fun x hx=>by
  have h1:=h.range x hx
  exact List.mem_map.2 ⟨x.toNat,List.mem_range.2 om,by omega⟩)
 simpa using this
theorem SeenOk.push {f:FM} {l:List Int} (h:SeenOk f l) {a:Int} (h0:0≤a) (h1:a<f.vars+f.nodes.length) (hn:a∉l):SeenOk f (l++[a]):=by
 refine⟨?_,fun x hx=> ?_⟩
 ·rw [List.nodup_append]
  refine⟨h.nodup,by simp,fun x hx y hy=> ?_⟩
  rw [List.mem_singleton] at hy
  subst hy
  intro he
  subst he
  exact hn hx
 ·rcases List.mem_append.1 hx with hx|hx
  ·exact h.range x hx
  ·rw [List.mem_singleton] at hx;subst hx;exact⟨h0,h1⟩
theorem place_neg {l:List Int} {n:Int}:(placeZ l n≥0)↔n∈l:=by
 unfold placeZ
 split
 ·rename_i h
  exact⟨fun _=>h,fun _=>by omega⟩
 ·rename_i h
  exact⟨fun k=>by omega,fun k=>absurd k h⟩
structure DpOk (f:FM) (i:Nat) (e:List Int):Prop where
 nodup:e.Nodup
 range:∀x∈e,0≤x∧x<f.vars
 low:∀x:Int,0≤x→x<i→x∈e
theorem DpOk.le {f:FM} {i:Nat} {e:List Int} (h:DpOk f i e):e.length≤f.vars.toNat:=by
 have:=nodup_le (m:=(List.range f.vars.toNat).map fun(i:Nat)=>(i:Int)) h.nodup (fun x hx=>by
  have h1:=h.range x hx
  exact List.mem_map.2 ⟨x.toNat,List.mem_range.2 om,by omega⟩)
 simpa using this
def evsL (f:FM) (l:List Int):List Int:=l.filter fun x=>decide (x<f.vars)
theorem evsL_step {f:FM} {l:List Int} {k:Nat} (hk:k<l.length):evsL f (l.take (k+1))=if l.getD k 0<f.vars then evsL f (l.take k)++[l.getD k 0] else evsL f (l.take k):=by
 unfold evsL
 rw [List.take_succ_eq_append_getElem hk,List.filter_append,getDZ hk]
 split
 ·rename_i h
  rw [List.filter_cons_of_pos (by simpa using h)];rfl
 ·rename_i h
  rw [List.filter_cons_of_neg (by simpa using h)];simp
theorem SeenOk.evs {f:FM} {l:List Int} (h:SeenOk f l):DpOk f 0 (evsL f l):=
 ⟨h.nodup.sublist List.filter_sublist,fun x hx=>by
  have:=List.mem_filter.1 hx
  exact⟨(h.range x this.1).1,of_decide_eq_true this.2⟩,fun x h0 h1=>by omega⟩
theorem evsL_le (f:FM) (l:List Int):(evsL f l).length≤l.length:=List.length_filter_le ..
theorem DpOk.skip {f:FM} {i:Nat} {e:List Int} (h:DpOk f i e) (hi:(i:Int)∈e):DpOk f (i+1) e:=
 ⟨h.nodup,h.range,fun x h0 h1=>by
  by_cases e1:x=i
  ·subst e1;exact hi
  ·exact h.low x h0 om⟩
theorem DpOk.push {f:FM} {i:Nat} {e:List Int} (h:DpOk f i e) (hi:(i:Int)<f.vars) (hn:(i:Int)∉e):DpOk f (i+1) (e++[(i:Int)]):=by
 refine⟨?_,fun x hx=> ?_,fun x h0 h1=> ?_⟩
 ·rw [List.nodup_append]
  refine⟨h.nodup,by simp,fun x hx y hy=> ?_⟩
  rw [List.mem_singleton] at hy
  subst hy
  intro he
  subst he
  exact hn hx
 ·rcases List.mem_append.1 hx with hx|hx
  ·exact h.range x hx
  ·rw [List.mem_singleton] at hx;subst hx;exact⟨by omega,hi⟩
 ·by_cases e1:x=i
  ·subst e1;simp
  ·exact List.mem_append_left _ (h.low x h0 om)
theorem DpOk.done {f:FM} {i:Nat} {e:List Int} (h:DpOk f i e) (v0:0≤f.vars) (hi:f.vars≤i):Perm0 e∧e.length=f.vars.toNat:=by
 have h1:=h.le
 have h2:=nodup_le (l:=(List.range f.vars.toNat).map fun(i:Nat)=>(i:Int)) (m:=e) (List.Pairwise.map _ (fun a b (h:a≠b) (e:(a:Int)=b)=>h om) List.nodup_range) (fun x hx=>by
  obtain⟨q,hq,rfl⟩:=List.mem_map.1 hx
  rw [List.mem_range] at hq
  exact h.low _ om om)
 rw [List.length_map,List.length_range] at h2
 have h3:e.length=f.vars.toNat:=by omega
 exact⟨⟨fun x hx=>by have:=h.range x hx;omega,h.nodup⟩,h3⟩
def RelOk (v:Nat→Bool) (n s i out:Nat):Prop:=∀j,j<n→out.testBit j=false→(∀t,t<s→v t=v (setB t j true))∧(j<i→v s=v (setB s j true))
theorem RelOk.start (v:Nat→Bool) (n:Nat):RelOk v n 0 0 0:=fun j _ _=>⟨fun t ht=>by omega,fun h=>by omega⟩
theorem RelOk.same {v:Nat→Bool} {n s i out:Nat} (h:RelOk v n s i out) (he:v s=v (setB s i true)):RelOk v n s (i+1) out:=fun j hj hb=>by
 obtain⟨h1,h2⟩:=h j hj hb
 refine⟨h1,fun hji=> ?_⟩
 by_cases e:j=i
 ·subst e;exact he
 ·exact h2 om
theorem RelOk.add {v:Nat→Bool} {n s i out:Nat} (h:RelOk v n s i out):RelOk v n s (i+1) (out|||2^i):=fun j hj hb=>by
 rw [Nat.testBit_or,Bool.or_eq_false_iff] at hb
 obtain⟨h1,h2⟩:=h j hj hb.1
 refine⟨h1,fun hji=> ?_⟩
 by_cases e:j=i
 ·subst e;rw [Nat.testBit_two_pow_self] at hb;cases hb.2
 ·exact h2 om
end Go.PN
namespace Go.Proofs.YtefekdejgbceiaaGreat
open Go.AI Go.PN
theorem rsub0 {a b:Rat} (h:a=b):a-b=0:=by subst h;grind
theorem fits1:fits (1:Rat) 1:=⟨by decide,by decide⟩
structure ValL (L:List RD) (n:Nat) (v:Nat→Rat):Prop where
 len:L.length=n
 get:∀i,i<n→L.getD i rd0=rd (v i)
 fit:∀i,i<n→fits (v i) 24000
theorem eachL_val {val:Nat→Rat} {X:Rat} {n:Nat} (hX:fits X 4000) (hz:X≠0) (hv:∀i,i<n→fits (val i) 20000):ValL (eachL val X n) n fun i=>val i/X:=
 ⟨eachL_len ..,fun i hi=>eachL_get hi,fun i hi=>fits_mono (fits_div (hv i hi) hX hz) om⟩
theorem crit_val {f:FM} {p:List RD} (hw:∀r∈p,r.wf 4) (hv:∀r∈p,r.prob=true) (h6:p.length≤6) (hz:wV f p≠0):ValL (critL f p) p.length fun i=>critV f p i/wV f p:=
 eachL_val (wV_fits hw h6) hz fun i hi=>fits_mono (critV_fits hw hv h6 hi) om
theorem ach_val {f:FM} {p:List RD} (hw:∀r∈p,r.wf 4) (h6:p.length≤6) (hz:wV f p≠0):ValL (achL f p) p.length fun i=>wV f (p.set i (rd 1))/wV f p:=
 eachL_val (wV_fits hw h6) hz fun i hi=>fits_mono (wV1_fits hw h6 i) om
attribute [local irreducible] aw Fa Fh DrK
end Go.Proofs.YtefekdejgbceiaaGreat
namespace Go.Proofs.YtefekdejgbceiaaGreat
open Go.AI
theorem yG {F X G:Prop} (f:F) (x:X) (k:F→Hold X→G:=by intro f x;(repeat first|apply wa1|apply wa2|apply wa3|apply wa4|apply wa5 rfl|apply wa6|apply wa7|(refine wb1 rfl fun R r=>?_;simp only[go_sem,f];with_reducible show R (some _);with_reducible refine r _ _ ?_;clear r R)|apply wa8|(refine wd1 rfl fun R r=>?_;simp only[go_sem,f];with_reducible show R (some _);with_reducible refine r _ _ ?_;clear r R)|apply wc2|(refine wc1 rfl rfl fun R r=>?_;simp only[go_sem,f];with_reducible show R (some _);with_reducible refine r _ _ ?_;clear r R));exact x.out):G:=k f ⟨x⟩
theorem xG {X G:Prop} (x:X) (k:Hold X→G:=by intro x;(repeat first|apply wa1|apply wa2|apply wa3|apply wa4|apply wa5 rfl|apply wa6|apply wa7|(refine wb1 rfl fun R r=>?_;simp only[go_sem];with_reducible show R (some _);with_reducible refine r _ _ ?_;clear r R)|apply wa8|(refine wd1 rfl fun R r=>?_;simp only[go_sem];with_reducible show R (some _);with_reducible refine r _ _ ?_;clear r R)|apply wc2|(refine wc1 rfl rfl fun R r=>?_;simp only[go_sem];with_reducible show R (some _);with_reducible refine r _ _ ?_;clear r R));exact x.out):G:=k ⟨x⟩
theorem yH {F X G:Prop} (f:F) (x:X) (k:F→Hold X→G:=by intro f x;(repeat first|apply wa7|(refine wb1 rfl fun R r=>?_;simp only[go_sem,f];with_reducible show R (some _);with_reducible refine r _ _ ?_;clear r R)|apply wa8|(refine wd1 rfl fun R r=>?_;simp only[go_sem,f];with_reducible show R (some _);with_reducible refine r _ _ ?_;clear r R)|apply wc2|(refine wc1 rfl rfl fun R r=>?_;simp only[go_sem,f];with_reducible show R (some _);with_reducible refine r _ _ ?_;clear r R));exact x.out):G:=k f ⟨x⟩
theorem xH {X G:Prop} (x:X) (k:Hold X→G:=by intro x;(repeat first|apply wa7|(refine wb1 rfl fun R r=>?_;simp only[go_sem];with_reducible show R (some _);with_reducible refine r _ _ ?_;clear r R)|apply wa8|(refine wd1 rfl fun R r=>?_;simp only[go_sem];with_reducible show R (some _);with_reducible refine r _ _ ?_;clear r R)|apply wc2|(refine wc1 rfl rfl fun R r=>?_;simp only[go_sem];with_reducible show R (some _);with_reducible refine r _ _ ?_;clear r R));exact x.out):G:=k ⟨x⟩
theorem yI {F X G:Prop} (f:F) (x:X) (k:F→Hold X→G:=by intro f x;(repeat first|apply wa1|apply wa3|apply wa4|apply wa5 rfl|apply wa6|apply wa7|(refine wb1 rfl fun R r=>?_;simp only[go_sem,f];with_reducible show R (some _);with_reducible refine r _ _ ?_;clear r R)|apply wa8|(refine wd1 rfl fun R r=>?_;simp only[go_sem,f];with_reducible show R (some _);with_reducible refine r _ _ ?_;clear r R)|apply wc2|(refine wc1 rfl rfl fun R r=>?_;simp only[go_sem,f];with_reducible show R (some _);with_reducible refine r _ _ ?_;clear r R));exact x.out):G:=k f ⟨x⟩
theorem xI {X G:Prop} (x:X) (k:Hold X→G:=by intro x;(repeat first|apply wa1|apply wa3|apply wa4|apply wa5 rfl|apply wa6|apply wa7|(refine wb1 rfl fun R r=>?_;simp only[go_sem];with_reducible show R (some _);with_reducible refine r _ _ ?_;clear r R)|apply wa8|(refine wd1 rfl fun R r=>?_;simp only[go_sem];with_reducible show R (some _);with_reducible refine r _ _ ?_;clear r R)|apply wc2|(refine wc1 rfl rfl fun R r=>?_;simp only[go_sem];with_reducible show R (some _);with_reducible refine r _ _ ?_;clear r R));exact x.out):G:=k ⟨x⟩
theorem yO {F X G:Prop} (f:F) (x:X) (k:F→Hold X→G:=by intro f x;(first|(refine wb1 rfl fun R r=>?_;simp only[go_sem,f];with_reducible show R (some _);with_reducible refine r _ _ ?_;clear r R)|(refine wd1 rfl fun R r=>?_;simp only[go_sem,f];with_reducible show R (some _);with_reducible refine r _ _ ?_;clear r R)|apply wc2|(refine wc1 rfl rfl fun R r=>?_;simp only[go_sem,f];with_reducible show R (some _);with_reducible refine r _ _ ?_;clear r R));exact x.out):G:=k f ⟨x⟩
theorem xO {X G:Prop} (x:X) (k:Hold X→G:=by intro x;(first|(refine wb1 rfl fun R r=>?_;simp only[go_sem];with_reducible show R (some _);with_reducible refine r _ _ ?_;clear r R)|(refine wd1 rfl fun R r=>?_;simp only[go_sem];with_reducible show R (some _);with_reducible refine r _ _ ?_;clear r R)|apply wc2|(refine wc1 rfl rfl fun R r=>?_;simp only[go_sem];with_reducible show R (some _);with_reducible refine r _ _ ?_;clear r R));exact x.out):G:=k ⟨x⟩
end Go.Proofs.YtefekdejgbceiaaGreat
namespace Go.AI
def addE:List Oper→Nat→Nat→List Oper
 |[],_,_=>[]
 |o::l,0,i=>{o with after:=o.after.push {on:=i,ground:=.data}}::l
 |o::l,j+1,i=>o::addE l j i
theorem addE_len:∀(l:List Oper) (j i:Nat),(addE l j i).length=l.length
 |[],_,_=>rfl
 |o::l,0,i=>rfl
 |o::l,j+1,i=>by simp [addE,addE_len l j i]
theorem addE_ne:∀(l:List Oper) (j i k:Nat),k≠j→(addE l j i)[k]?=l[k]?
 |[],_,_,_,_=>rfl
 |o::l,0,i,0,h=>absurd rfl h
 |o::l,0,i,k+1,_=>by simp [addE]
 |o::l,j+1,i,0,_=>by simp [addE]
 |o::l,j+1,i,k+1,h=>by simp [addE,addE_ne l j i k (fun e=>h om)]
theorem addE_eq:∀(l:List Oper) (j i:Nat),(addE l j i)[j]?=(l[j]?).map fun o=>{o with after:=o.after.push {on:=i,ground:=.data}}
 |[],_,_=>rfl
 |o::l,0,i=>by simp [addE]
 |o::l,j+1,i=>by simp [addE,addE_eq l j i]
section
variable {P : Program} {Q : Exit → Act → World → Prop} {l : List Oper} {i0 j0 : Nat}
theorem rdy_iff {ops:Array Oper} {listed:Array Bool} {i:Nat}:i∈Region.ready .any ops listed↔i<ops.size∧listed.getD i true=false∧∃o,ops[i]?=some o∧∀e∈o.after,Region.binds .any e=true→listed.getD e.on false=true:=by
 unfold Region.ready
 rw [List.mem_filter,List.mem_range]
 constructor
 ·rintro ⟨h1,h2⟩
  rw [Bool.and_eq_true,Bool.not_eq_true'] at h2
  obtain⟨h2,h3⟩:=h2
  refine⟨h1,h2,ops[i],by simp [h1],fun e he hb=> ?_⟩
  rw [show ops[i]?=some ops[i] from by simp [h1]] at h3
  simp only [Option.map_some,Option.getD_some,Array.all_eq_true'] at h3
  have:=h3 e he
  rw [hb] at this
  simpa using this
 ·rintro ⟨h1,h2,o,ho,h3⟩
  refine⟨h1,?_⟩
  rw [h2,ho]
  simp only [Bool.not_false,Bool.true_and,Option.map_some,Option.getD_some,Array.all_eq_true']
  intro e he
  cases hb:Region.binds .any e with
  |false=>rfl
  |true=>rw [h3 e he hb];rfl
theorem ready_less {listed:Array Bool} {i:Nat} (h:i∈Region.ready .any (addE l j0 i0).toArray listed):i∈Region.ready .any l.toArray listed:=by
 rw [rdy_iff] at h⊢
 obtain⟨h1,h2,o,ho,h3⟩:=h
 simp only [List.size_toArray,addE_len,List.getElem?_toArray] at h1 ho⊢
 refine⟨h1,h2,?_⟩
 by_cases e:i=j0
 ·subst e
  rw [addE_eq] at ho
  obtain⟨o',ho',rfl⟩:=Option.map_eq_some_iff.1 ho
  exact⟨o',ho',fun e he hb=>h3 e (by simp [he]) hb⟩
 ·rw [addE_ne _ _ _ _ e] at ho
  exact⟨o,ho,h3⟩
theorem ready_more {listed:Array Bool} {i:Nat} (h:i∈Region.ready .any l.toArray listed) (hi:i≠j0∨listed.getD i0 false=true):i∈Region.ready .any (addE l j0 i0).toArray listed:=by
 rw [rdy_iff] at h⊢
 obtain⟨h1,h2,o,ho,h3⟩:=h
 simp only [List.size_toArray,addE_len,List.getElem?_toArray] at h1 ho⊢
 refine⟨h1,h2,?_⟩
 by_cases e:i=j0
 ·subst e
  have hl:=hi.resolve_left (fun h=>h rfl)
  rw [addE_eq,ho]
  refine⟨_,rfl,fun e he hb=> ?_⟩
  simp only [Array.mem_push] at he
  rcases he with he|rfl
  ·exact h3 e he hb
  ·exact hl
 ·rw [addE_ne _ _ _ _ e]
  exact⟨o,ho,h3⟩
def Ord (ops:Array Oper):Nat→Array Bool→List Nat→Prop
 |0,_,π=>π=[]
 |_+1,listed,[]=>Region.ready .any ops listed=[]
 |n+1,listed,i::π=>i∈Region.ready .any ops listed∧Ord ops n (listed.setIfInBounds i true) π
theorem ord_any {ops:Array Oper}:∀(n:Nat) (listed:Array Bool) (π:List Nat) (a:Act) (w:World),wpAny P .any ops Q n listed a w→Ord ops n listed π→wpOps P ops Q π a w:=by
 intro n
 induction n with
 |zero=>intro listed π a w h ho;obtain rfl:π=[]:=ho;simpa [wpOps] using h.2
 |succ n ih=>
  intro listed π a w h ho
  cases π with
  |nil=>simpa [wpOps] using h.1 ho
  |cons i π=>
   rw [wpOps_cons]
   exact wpOp_mono (fun a w k=>ih _ π a w k ho.2) (h.2 i ho.1)
theorem ord_go {ops:Array Oper}:∀(fuel t:Nat) (listed:Array Bool),Ord ops fuel listed (Region.linearise.go .any ops fuel t listed []):=by
 intro fuel
 induction fuel with
 |zero=>intro t listed;rfl
 |succ fuel ih=>
  intro t listed
  simp only [Region.linearise.go]
  change Ord ops (fuel+1) listed (match (Region.ready .any ops listed)[t%(Region.ready .any ops listed).length]? with
   |some i=>Region.linearise.go .any ops fuel (t/(Region.ready .any ops listed).length) (listed.setIfInBounds i true) [i]
   |none=>[].reverse)
  cases hi:(Region.ready .any ops listed)[t%(Region.ready .any ops listed).length]? with
  |none=>
   show Region.ready .any ops listed=[]
   cases hr:Region.ready .any ops listed with
   |nil=>rfl
   |cons x xs=>
    rw [hr] at hi
    have hlt:t%(x::xs).length<(x::xs).length:=Nat.mod_lt _ (by simp)
    simp at hi
    simp at hlt
    omega
  |some i=>
   simp only []
   rw [linearise_go_acc,List.reverse_singleton,List.singleton_append]
   exact⟨List.mem_of_getElem? hi,ih _ _⟩
theorem set_get {listed:Array Bool} {i k:Nat} (h:listed.getD k false=true):(listed.setIfInBounds i true).getD k false=true:=by
 rw [Array.getD_eq_getD_getElem?] at h⊢
 rw [Array.getElem?_setIfInBounds]
 split
 ·split
  ·rfl
  ·rename_i h1 h2
   subst h1
   rw [Array.getElem?_eq_none om] at h
   cases h
 ·exact h
theorem set_self {listed:Array Bool} {i:Nat} (h:listed.getD i true=false):(listed.setIfInBounds i true).getD i false=true:=by
 rw [Array.getD_eq_getD_getElem?] at h⊢
 by_cases hi:i<listed.size
 ·rw [Array.getElem?_setIfInBounds_self_of_lt hi];rfl
 ·rw [Array.getElem?_eq_none om] at h;cases h
theorem ord_done:∀(n:Nat) (listed:Array Bool) (π:List Nat),listed.getD i0 false=true→Ord l.toArray n listed π→Ord (addE l j0 i0).toArray n listed π:=by
 intro n
 induction n with
 |zero=>intro listed π _ h;exact h
 |succ n ih=>
  intro listed π hl h
  cases π with
  |nil=>
   show Region.ready .any (addE l j0 i0).toArray listed=[]
   have h':Region.ready .any l.toArray listed=[]:=h
   refine List.eq_nil_iff_forall_not_mem.2 fun i hi=> ?_
   have:=ready_less hi
   rw [h'] at this
   cases this
  |cons i π=>exact⟨ready_more h.1 (.inr hl),ih _ π (set_get hl) h.2⟩
theorem ord_alt (hne:i0≠j0):∀(n:Nat) (listed:Array Bool) (π:List Nat),Ord l.toArray n listed π→Ord (addE l j0 i0).toArray n listed π∨Ord (addE l i0 j0).toArray n listed π:=by
 intro n
 induction n with
 |zero=>intro listed π h;exact .inl h
 |succ n ih=>
  intro listed π h
  cases π with
  |nil=>
   refine .inl ?_
   show Region.ready .any (addE l j0 i0).toArray listed=[]
   have h':Region.ready .any l.toArray listed=[]:=h
   refine List.eq_nil_iff_forall_not_mem.2 fun i hi=> ?_
   have:=ready_less hi
   rw [h'] at this
   cases this
  |cons i π=>
   obtain⟨h1,h2⟩:=h
   have hnl:=(rdy_iff.1 h1).2.1
   by_cases e1:i=i0
   ·subst e1
    exact .inl ⟨ready_more h1 (.inl hne),ord_done n _ π (set_self hnl) h2⟩
   ·by_cases e2:i=j0
    ·subst e2
     exact .inr ⟨ready_more h1 (.inl e1),ord_done n _ π (set_self hnl) h2⟩
    ·rcases ih _ π h2 with h|h
     ·exact .inl ⟨ready_more h1 (.inl e2),h⟩
     ·exact .inr ⟨ready_more h1 (.inl e1),h⟩
theorem wpOp_addE {k:Nat} {K:Act→World→Prop} {a:Act} {w:World}:wpOp P (addE l j0 i0).toArray Q k K a w=wpOp P l.toArray Q k K a w:=by
 have hy:yielded (addE l j0 i0).toArray a.tmps=yielded l.toArray a.tmps:=by
  funext j
  have:((addE l j0 i0).toArray[j]?).bind (·.dst)=(l.toArray[j]?).bind (·.dst):=by
   simp only [List.getElem?_toArray]
   by_cases e:j=j0
   ·subst e;rw [addE_eq];cases l[j]?<;>rfl
   ·rw [addE_ne _ _ _ _ e]
  unfold yielded
  rw [this]
 unfold wpOp
 rw [hy]
 simp only [List.getElem?_toArray]
 by_cases e:k=j0
 ·subst e
  rw [addE_eq]
  cases l[k]?<;>rfl
 ·rw [addE_ne _ _ _ _ e]
theorem wpOps_addE:∀(π:List Nat) (a:Act) (w:World),wpOps P (addE l j0 i0).toArray Q π a w→wpOps P l.toArray Q π a w:=by
 intro π
 induction π with
 |nil=>intro a w h;exact h
 |cons k π ih=>
  intro a w h
  rw [wpOps_cons] at h⊢
  rw [wpOp_addE] at h
  exact wpOp_mono (fun a w k=>ih a w k) h
end
section
variable {E : Env} {K : List It} {l : List Oper} {σ : Sl} {h : Heap}
def AwAny (E:Env) (K:List It) (l:List Oper) (σ:Sl) (h:Heap):Prop:=
 ∀(a:Act) (w:World),St E.N E.C σ h a w→∀π,Ord l.toArray l.length (Array.replicate l.length false) π→wpOps E.P l.toArray (exW E K) π a {w with drawn:=w.drawn+1}
theorem any_alt (i0 j0:Nat) (hne:i0≠j0) (k1:AwAny E K (addE l j0 i0) σ h) (k2:AwAny E K (addE l i0 j0) σ h):AwAny E K l σ h:=fun a w s π ho=>by
 rcases ord_alt hne _ _ _ ho with h|h
 ·exact wpOps_addE π _ _ (k1 a w s π (by rw [addE_len];exact h))
 ·exact wpOps_addE π _ _ (k2 a w s π (by rw [addE_len];exact h))
theorem aw_any {id:Nat} (hm:E.P.follows .mixedOrders=true) (k:AwAny E K l σ h):aw E (.code (.region id l.toArray true)::K) σ h:=fun a w s=>by
 refine wp_region_draw fun t=> ?_
 simp only [Region.schedule,hm,Bool.true_or,if_true]
 have:=k a w s _ (ord_go l.toArray.size t (Array.replicate l.toArray.size false))
 exact this
theorem go_rank {l:List Oper}:∀(cs:List (Nat×Nat)) (seen pn fr:List Nat),cwGo l seen pn fr cs=true→∀i o,i∈cs.map (·.1)→l[i]?=some o→∀e∈o.after,Region.binds .any e=true→e.on∈seen∨(e.on∈cs.map (·.1)∧(cs.map (·.1)).idxOf e.on<(cs.map (·.1)).idxOf i):=by
 intro cs
 induction cs with
 |nil=>intro seen pn fr _ i o hi;cases hi
 |cons c cs ih=>
  intro seen pn fr hg i o hi ho e he hb
  obtain⟨c,b⟩:=c
  have hnew:=cwGo_new hg
  simp only [cwGo,Bool.and_eq_true] at hg
  obtain⟨h1,h2⟩:=hg
  by_cases hic:i=c
  ·subst hic
   split at h1
   ·cases h1
   ·rename_i o' ho'
    rw [ho] at ho'
    injection ho' with ho'
    subst ho'
    simp only [Bool.and_eq_true] at h1
    exact .inl (deps_mem h1.1.1.2 he hb)
  ·have hi':i∈cs.map (·.1):=by
    simp only [List.map_cons,List.mem_cons] at hi
    exact hi.resolve_left hic
   rcases ih _ _ _ h2 i o hi' ho e he hb with h|⟨h3,h4⟩
   ·rcases List.mem_cons.1 h with h|h
    ·refine .inr ⟨by rw [h];simp,?_⟩
     rw [h]
     have b1:(c==i)=false:=beq_eq_false_iff_ne.2 fun h=>hic h.symm
     simp only [List.map_cons,List.idxOf_cons,b1,cond_false,beq_self_eq_true,cond_true]
     omega
    ·exact .inl h
   ·refine .inr ⟨by simp only [List.map_cons,List.mem_cons];exact .inr h3,?_⟩
    by_cases hec:e.on=c
    ·exact absurd (List.mem_cons_self ..) (cwGo_new h2 _ (hec▸h3))
    ·have b1:(c==i)=false:=beq_eq_false_iff_ne.2 fun h=>hic h.symm
     have b2:(c==e.on)=false:=beq_eq_false_iff_ne.2 fun h=>hec h.symm
     simp only [List.map_cons,List.idxOf_cons,b1,b2,cond_false]
     omega
theorem cwGo_lt {l:List Oper}:∀{cs:List (Nat×Nat)} {seen pn fr:List Nat},cwGo l seen pn fr cs=true→∀i∈cs.map (·.1),i<l.length:=by
 intro cs
 induction cs with
 |nil=>intro seen pn fr _ i hi;cases hi
 |cons c cs ih=>
  intro seen pn fr hg i hi
  obtain⟨c,b⟩:=c
  simp only [cwGo,Bool.and_eq_true] at hg
  obtain⟨h1,h2⟩:=hg
  simp only [List.map_cons,List.mem_cons] at hi
  rcases hi with rfl|hi
  ·split at h1
   ·cases h1
   ·rename_i o ho
    exact(List.getElem?_eq_some_iff.1 ho).1
  ·exact ih h2 i hi
theorem any_cw (FP:Heap) (cs:List (Nat×Nat)) (hok:(lexP l&&cwGo l [] [] [] cs&&((List.range l.length).all fun i=>(cs.map (·.1)).contains i))=true) (hFP:Has0 FP h) (k:CW E l K FP cs σ h):AwAny E K l σ h:=fun a w s π ho=>by
 simp only [Bool.and_eq_true] at hok
 obtain⟨⟨hlx,hgo⟩,hall⟩:=hok
 have hrk:Ranked l:=⟨fun i=>(cs.map (·.1)).idxOf i,fun i o ho e he hb=>by
  have hi:=(List.getElem?_eq_some_iff.1 ho).1
  have hm:∀q,q<l.length→q∈cs.map (·.1):=fun q hq=>by simpa using List.all_eq_true.1 hall q (List.mem_range.2 hq)
  rcases go_rank cs [] [] [] hgo i o (hm i hi) ho e he hb with h|⟨h3,h4⟩
  ·cases h
  ·exact⟨cwGo_lt hgo _ h3,h4⟩⟩
 have s':=s.later (Fr.drew (fun _=>False) w (w.drawn+1))
 have e0:∀j,(Array.replicate l.length false).getD j false=false:=fun j=>by
  rw [Array.getD_eq_getD_getElem?]
  simp only [Array.getElem?_replicate]
  split<;>rfl
 have hun:∀m,unl (fun j=>(Array.replicate l.length false).getD j false) m=m:=by
  intro m
  induction m with
  |zero=>rfl
  |succ m ih=>rw [unl,ih,e0];rfl
 refine ord_any _ _ _ _ _ ?_ ho
 have:=draw_cw (E:=E) (K:=K) (σ0:=σ) hlx hrk l.length FP (Array.replicate l.length false) σ h a {w with drawn:=w.drawn+1} (hun _) ⟨[],[],[],cs,σ,fun _=>.c .any,by simp,fun i o _ hl=>(by rw [e0] at hl;cases hl),hgo,fun i hi=>absurd hi List.not_mem_nil,fun i hi=>.inr ?_,k,hFP,fun j hj=>absurd hj List.not_mem_nil,⟨fun j _ _ hj=>absurd hj List.not_mem_nil,fun _ _=>rfl⟩,fun i hi=>absurd hi List.not_mem_nil,fun p hp=>absurd hp List.not_mem_nil,⟨fun j _ _ hj=>(by rw [e0] at hj;cases hj),fun _ _=>rfl⟩,fun i _ hl=>(by rw [e0] at hl;cases hl)⟩ s'
 ·simpa using this
 ·have:=List.all_eq_true.1 hall i (List.mem_range.2 hi)
  simpa using this
end
end Go.AI
namespace Go.Proofs.YtefekdejgbceiaaGreat
open Go.AI Go.PN
attribute [local irreducible] aw Fa Fh DrK
theorem walk14_fh (f:FM) (ok:FrOk f):∀(m a:Nat) (og:Option Nat) (l:List Int),a<m→(a:Int)<f.vars+f.nodes.length→SeenOk f l→(og=none→l.length=0)→
  Fh Tryz.prog 35 (gh og 3 l.length (isF l)) [.agg (fmc false f),.c (.int .i64 a),.c (gs og 1 l.length)] (fun x h=>∃og' l',SeenOk f l'∧(og'=none→l'.length=0)∧x=.c (gs og' 1 l'.length)∧h=gh og' 3 l'.length (isF l')):=by
 have v0:=ok.v0
 have v24:=ok.v24
 have n128:=ok.n128
 intro m
 induction m with
 |zero=>intro a og l h;omega
 |succ m ih=>
  intro a og l ham han hl hog
  have hlen:=hl.len v0
  refine fh_of_body Tryz.func35 rfl rfl (by simp [Tryz.ntmps35]) fun C hC=> ?_
  simp only [initS,Nat.reduceAdd]
  refine xG ?_
  refine xB fun g3 hn_g3=>?_
  refine yG hn_g3 ?_
  refine aw_callq (place_fa l (a:Int) om) rfl rfl rfl (by refine yS hn_g3 ?_;exact⟨.c (le_gsi (pre:=[(g3,_)]) hog (fun g e=>by subst e;exact fun k=>of_eq_false hn_g3.1.2 (by simpa [Heap.keys] using k)) rfl),.c (.refl _)⟩) ?_
  refine ySG hn_g3 ?_
  refine yF hn_g3 (fun hb=>?_) fun hb=>?_
  ·refine yG hn_g3 ?_
   refine aw_rethw (h':=gh og 3 l.length (isF l)) rfl (List.Sublist.cons _ (List.Sublist.refl _)) (fun R hR=> ?_)
   simp only [go_sem,hn_g3]
   refine hR _ rfl ?_
   clear hR R
   exact⟨og,l,hl,hog,rfl,rfl⟩
  ·have hm:(a:Int)∉l:=fun h=>by
    have:=place_neg.2 h
    have h2:=of_decide_eq_false hb
    omega
   have hl2:=hl.push (a:=(a:Int)) om han hm
   have hll:(l++[(a:Int)]).length=l.length+1:=by simp
   have hlen2:=hl2.len v0
   refine yG hn_g3 ?_
   refine aw_push (pre:=[(g3,.cells 24 3 (ofL (fmc false f)))]) rfl rfl rfl rfl rfl rfl rfl (zE hn_g3) (zE hn_g3) (by rfl) om om (zE hn_g3) om (by exact hog) (zE hn_g3) (by rfl) (by rfl) (by first|rfl|simp only [Nat.mul_one,List.nil_append,List.cons_append]<;>rfl) (by unfold maxLen;omega) om (by exact is_push rfl (a:Int)) fun g hn_g=> ?_
   replace hn_g:=Heap.ne_of hn_g
   first|dsimp only [Heap.ne,gh] at hn_g|dsimp only [Heap.ne] at hn_g|skip
   have J1:=oj hn_g3 hn_g
   refine yS J1 ?_
   generalize l++[(a:Int)]=l2 at*
   rw [←hll]
   refine yG J1 ?_
   refine yF J1 (fun hv=>?_) fun hv=>?_
   ·refine yG J1 ?_
    refine aw_rethw (h':=gh (some g) 3 l2.length (isF l2)) rfl (List.Sublist.cons _ (List.Sublist.refl _)) (fun R hR=> ?_)
    simp only [go_sem,hn_g3,hn_g]
    refine hR _ rfl ?_
    clear hR R
    exact⟨some g,l2,hl2,some_ne,rfl,rfl⟩
   ·have hv':f.vars≤a:=dF hv
    have hak:(a:Int)-f.vars=((a-f.vars.toNat:Nat):Int):=by omega
    have hkl:a-f.vars.toNat<f.nodes.length:=by omega
    have hln:=ok.len hkl
    have hargs:∀j,j<(f.nodes.getD (a-f.vars.toNat) fn0).args.length→0≤(f.nodes.getD (a-f.vars.toNat) fn0).args.getD j 0∧(f.nodes.getD (a-f.vars.toNat) fn0).args.getD j 0<a:=fun j hj=>by
     obtain⟨a0,a1⟩:=ok.at hkl hj
     exact⟨a0,by omega⟩
    generalize hk:a-f.vars.toNat=k at*
    generalize hx:f.nodes.getD k fn0=x at*
    clear hb hl hlen
    have J2:=oj hn_g3 (oj hn_g (oj hak hx))
    refine yG J2 ?_
    refine yA J2 fun g7 hn_g7=>?_
    refine aw_nd fun hnd=> ?_
    have hq:(g7=g3)=False∧(g3=g7)=False:=by
     have:¬g7=g3:=fun h=>by
      subst h
      exact(List.nodup_cons.1 hnd).1 (List.mem_cons_self ..)
     exact⟨eq_false this,eq_false (Ne.symm this)⟩
    clear hnd J2
    clear hn_g7 hn_g3
    have J3:=oj hak (oj hx hq)
    refine yGWSG J3 ?_
    refine aw_perm (h':=[(g7,.cells 68 3 (ofL [.int .i64 x.kind,.int .i64 x.k,is true x.args])),(g3,.cells 24 3 (ofL (fmc false f)))]++gh (some g) 3 l2.length (isF l2)) (.refl _) ?_
    refine aw_lp (fun y:Nat×Option Nat×List Int=>[(2,.c (gs y.2.1 1 y.2.2.length)),(3,.c (.optr g3 0)),(7,.c (.optr g7 0)),(8,.c (.int .i64 y.1))]) (fun y=>[(g7,.cells 68 3 (ofL [.int .i64 x.kind,.int .i64 x.k,is true x.args])),(g3,.cells 24 3 (ofL (fmc false f)))]++gh y.2.1 3 y.2.2.length (isF y.2.2))
     (fun y=>y.1≤x.args.length∧SeenOk f y.2.2∧(y.2.1=none→y.2.2.length=0)) (fun y=>x.args.length-y.1) (0,some g,l2) (zB J3) zZ ⟨Nat.zero_le _,hl2,some_ne⟩ ?_
    clear hl2 hlen2 hm hn_g J3
    rintro ⟨j,og1,l1⟩ ⟨hj,hw1,hog1⟩
    dsimp only at hj hw1 hog1⊢
    have J4:=oj hak (oj hx hq)
    refine yG J4 ?_
    refine yF J4 (fun h2=>?_) fun h2=>?_
    ·have h2':j<x.args.length:=dT h2
     obtain⟨a0,a1⟩:=hargs j h2'
     obtain⟨i2,hi2⟩:=Int.eq_ofNat_of_zero_le a0
     rw [hi2] at a1
     have J5:=oj hak (oj hx (oj hq hi2))
     refine yG J5 ?_
     refine aw_cw ([(g7,.cells 68 3 (ofL [.int .i64 x.kind,.int .i64 x.k,is true x.args])),(g3,.cells 24 3 (ofL (fmc false f)))]) [(0,0),(1,0),(2,0),(3,0),(4,0),(5,0),(6,0),(7,1),(8,0)] ty_mixed (by kernel_rfl) eI ?_
     refine yG J5 ?_
     refine cw_callh (hc:=gh og1 3 l1.length (isF l1)) (hr:=[(g7,.cells 68 3 (ofL [.int .i64 x.kind,.int .i64 x.k,is true x.args])),(g3,.cells 24 3 (ofL (fmc false f)))]) rfl (ih i2 og1 l1 om om hw1 hog1) rfl rfl rfl List.perm_append_comm (zL J5) (by
      rintro _ _ ⟨_,_,_,_,rfl,rfl⟩;exact has0_app2 eI) ?_ (hm:=.inr ⟨rfl,rfl⟩)
     rintro _ _ ⟨og3,l3,hw3,hog3,rfl,rfl⟩ _
     refine yS J5 ?_
     refine cw_perm List.perm_append_comm ?_
     refine ySG J5 ?_
     exact aw_stop ⟨(j+1,og3,l3),by dsimp only;omega,(zB J5),zZ,by dsimp only;omega,hw3,hog3⟩
    ·refine yG J4 ?_
     refine aw_rethw (h':=gh og1 3 l1.length (isF l1)) rfl (List.sublist_append_right _ _) (fun R hR=> ?_)
     simp only [go_sem,hak,hx,hq]
     refine hR _ rfl ?_
     clear hR R
     exact⟨og1,l1,hw1,hog1,rfl,rfl⟩
theorem depth14_fh (f:FM) (ok:FrOk f):Fh Tryz.prog 7 [] [.agg (fmc false f)] (fun x h=>h=[]∧∃o,Perm0 o∧o.length=f.vars.toNat∧x=.c (is true o)):=by
 have v0:=ok.v0
 have v24:=ok.v24
 have n128:=ok.n128
 have t0:=ok.t0
 have t1:=ok.t1
 obtain⟨tp,htp⟩:=Int.eq_ofNat_of_zero_le t0
 refine fh_of_body Tryz.func7 rfl rfl (by simp [Tryz.ntmps7]) fun C hC=> ?_
 simp only [initS,Nat.reduceAdd]
 refine xG ?_
 refine xB fun g1 hn_g1=>?_
 have hwk:=walk14_fh f ok (tp+1) tp none [] om om ⟨List.nodup_nil,fun x hx=>absurd hx List.not_mem_nil⟩ (fun _=>rfl)
 rw [←htp] at hwk
 refine yG hn_g1 ?_
 refine aw_callh (hc:=[]) (hr:=[(g1,.cells 24 3 (ofL (fmc false f)))]) hwk rfl rfl rfl (.refl _) (zL hn_g1) ?_
 rintro _ _ ⟨og,l,hl,hog,rfl,rfl⟩ _
 have hlen:=hl.len v0
 refine ySG hn_g1 ?_
 refine aw_perm (h':=gh og 3 (l.length*1) (isF l)++[(g1,.cells 24 3 (ofL (fmc false f)))]) (by rw [Nat.mul_one]) ?_
 refine aw_frzGT (t:=3) (f':=isF l) hog rfl (zE hn_g1) ?_ (fun _ _=>rfl) rfl ?_
 ·exact fun g _ h=>by have:=(hC g).1 h;simp [Heap.keys] at this
 refine ySG hn_g1 ?_
 refine aw_lp (fun y:Nat×Option Nat=>[(1,.c (.optr g1 0)),(3,.c (is true l)),(4,.c (gs y.2 1 (evsL f (l.take y.1)).length)),(5,.c (.int .i64 y.1))]) (fun y=>[(g1,.cells 24 3 (ofL (fmc false f)))]++gh y.2 3 (evsL f (l.take y.1)).length (isF (evsL f (l.take y.1))))
  (fun y=>y.1≤l.length∧(y.2=none→(evsL f (l.take y.1)).length=0)) (fun y=>l.length-y.1) (0,none) (zB hn_g1) zZ ⟨Nat.zero_le _,fun _=>rfl⟩ ?_
 rintro ⟨k,oe⟩ ⟨hk,hoe⟩
 dsimp only at hk hoe⊢
 refine yG hn_g1 ?_
 refine yF hn_g1 (fun h1=>?_) fun h1=>?_
 ·have hkl:k<l.length:=dT h1
  have hst:=evsL_step (f:=f) hkl
  have hel:=evsL_le f (l.take k)
  have htl:=List.length_take_le k l
  refine yG hn_g1 ?_
  refine aw_cw ([(g1,.cells 24 3 (ofL (fmc false f)))]) [(0,0),(1,0),(2,0),(3,0),(4,0),(5,0),(6,0)] ty_mixed (by kernel_rfl) eI ?_
  refine yG hn_g1 ?_
  refine yF hn_g1 (fun h2=>?_) fun h2=>?_
  ·have h2':l.getD k 0<f.vars:=of_decide_eq_true h2
   rw [if_pos h2'] at hst
   have hll:(evsL f (l.take k)++[l.getD k 0]).length=(evsL f (l.take k)).length+1:=by simp
   refine yG hn_g1 ?_
   refine aw_push (pre:=[(g1,.cells 24 3 (ofL (fmc false f)))]) rfl rfl rfl rfl rfl rfl rfl (zE hn_g1) (zE hn_g1) (by rfl) om om (zE hn_g1) om (by exact hoe) (zE hn_g1) (by rfl) (by rfl) (by first|rfl|simp only [Nat.mul_one,List.nil_append,List.cons_append]<;>rfl) (by unfold maxLen;omega) om (by exact is_push rfl (l.getD k 0)) fun g hn_g=> ?_
   replace hn_g:=Heap.ne_of hn_g
   first|dsimp only [Heap.ne,gh] at hn_g|dsimp only [Heap.ne] at hn_g|skip
   have J1:=oj hn_g1 hn_g
   refine yS J1 ?_
   rw [←hll,←hst]
   refine yG J1 ?_
   exact aw_stop ⟨(k+1,some g),by dsimp only;omega,(zB J1),zZ,by dsimp only;omega,some_ne⟩
  ·have h2':¬l.getD k 0<f.vars:=of_decide_eq_false h2
   rw [if_neg h2'] at hst
   refine yG hn_g1 ?_
   rw [←hst]
   rw [←hst] at hoe
   exact aw_stop ⟨(k+1,oe),by dsimp only;omega,(zB hn_g1),zZ,by dsimp only;omega,hoe⟩
 ·have hkl:k=l.length:=dF h1
  subst hkl
  rw [List.take_length] at hoe⊢
  have hd0:=hl.evs
  generalize evsL f l=e0 at*
  refine yG hn_g1 ?_
  refine aw_lp (fun y:Nat×Option Nat×List Int=>[(1,.c (.optr g1 0)),(4,.c (gs y.2.1 1 y.2.2.length)),(6,.c (.int .i64 y.1))]) (fun y=>[(g1,.cells 24 3 (ofL (fmc false f)))]++gh y.2.1 3 y.2.2.length (isF y.2.2))
   (fun y=>(y.1:Int)≤f.vars∧DpOk f y.1 y.2.2∧(y.2.1=none→y.2.2.length=0)) (fun y=>f.vars.toNat-y.1) (0,oe,e0) (zB hn_g1) zZ ⟨v0,hd0,hoe⟩ ?_
  clear hd0 hoe
  clear oe
  rintro ⟨i,oe,e⟩ ⟨hi,hd,hoe⟩
  dsimp only at hi hd hoe⊢
  have hel:=hd.le
  refine aw_nd fun hnd=> ?_
  have hg1:∀g,oe=some g→g∉Heap.keys [(g1,AObj.cells 24 3 (ofL (fmc false f)))]:=fun g e=>by
   subst e
   simp only [Heap.keys,gh,List.cons_append,List.nil_append,List.map_cons,List.map_nil,List.nodup_cons,List.mem_singleton] at hnd
   simp only [Heap.keys,List.map_cons,List.map_nil,List.mem_singleton]
   exact fun e=>hnd.1 e.symm
  refine yG hn_g1 ?_
  refine yF hn_g1 (fun h3=>?_) fun h3=>?_
  ·have h3':(i:Int)<f.vars:=of_decide_eq_true h3
   refine yG hn_g1 ?_
   refine aw_callq (place_fa e (i:Int) om) rfl rfl rfl (by refine yS hn_g1 ?_;exact⟨.c (le_gsi (pre:=[(g1,_)]) hoe hg1 rfl),.c (.refl _)⟩) ?_
   refine ySG hn_g1 ?_
   refine yF hn_g1 (fun h4=>?_) fun h4=>?_
   ·have hm:(i:Int)∉e:=fun h=>by
     have:=place_neg.2 h
     have h2:=of_decide_eq_true h4
     omega
    have hd2:=hd.push h3' hm
    have hll:(e++[(i:Int)]).length=e.length+1:=by simp
    refine yG hn_g1 ?_
    refine aw_push (pre:=[(g1,.cells 24 3 (ofL (fmc false f)))]) rfl rfl rfl rfl rfl rfl rfl (zE hn_g1) (zE hn_g1) (by rfl) om om (zE hn_g1) om (by exact hoe) (zE hn_g1) (by rfl) (by rfl) (by first|rfl|simp only [Nat.mul_one,List.nil_append,List.cons_append]<;>rfl) (by unfold maxLen;omega) om (by exact is_push rfl (i:Int)) fun g hn_g=> ?_
    replace hn_g:=Heap.ne_of hn_g
    first|dsimp only [Heap.ne,gh] at hn_g|dsimp only [Heap.ne] at hn_g|skip
    have J2:=oj hn_g1 hn_g
    refine yS J2 ?_
    rw [←hll]
    refine yG J2 ?_
    exact aw_stop ⟨(i+1,some g,e++[(i:Int)]),by dsimp only;omega,(zB J2),zZ,by dsimp only;omega,hd2,some_ne⟩
   ·have hm:(i:Int)∈e:=place_neg.1 (by have h2:=of_decide_eq_false h4;omega)
    refine yG hn_g1 ?_
    exact aw_stop ⟨(i+1,oe,e),by dsimp only;omega,(zB hn_g1),zZ,by dsimp only;omega,hd.skip hm,hoe⟩
  ·have h3':f.vars≤i:=dF h3
   obtain⟨hp,hol⟩:=hd.done v0 h3'
   refine yG hn_g1 ?_
   refine aw_perm (h':=gh oe 3 (e.length*1) (isF e)++[(g1,.cells 24 3 (ofL (fmc false f)))]) (by rw [Nat.mul_one];exact List.perm_append_comm (l₁:=([(g1,_)]:Heap))) ?_
   refine aw_frzGT (t:=2) (f':=isF e) hoe rfl (zE hn_g1) ?_ (fun _ _=>rfl) rfl ?_
   ·exact fun g _ h=>by have:=(hC g).1 h;simp [Heap.keys] at this
   refine yS hn_g1 ?_
   refine aw_rethw (h':=[]) rfl (List.nil_sublist _) (fun R hR=> ?_)
   simp only [go_sem,hn_g1]
   refine hR _ rfl ?_
   exact⟨rfl,e,hp,hol,rfl⟩
end Go.Proofs.YtefekdejgbceiaaGreat
namespace Go.Proofs.YtefekdejgbceiaaGreat
open Go.AI Go.PN
theorem cmp0 {x:Rat} (h:x=0):(signQ x !=0)=false∧(signQ x==0)=true:=by subst h;exact⟨rfl,rfl⟩
theorem imp_val {D:DG} {f:FM} {o:List Int} {p:List RD} (hs:Small D p) (hdp:dpcode D p=0) (hD:DOut o (fun s=>valF f s f.top) D) (hl:D.order.length=p.length):ValL (impL D p p.length) p.length fun i=>wV f (p.set i (rd 1))-wV f (p.set i rd0):=
 ⟨impL_len ..,fun i hi=>by
  rw [←impQ_wV hD hl i]
  unfold impL
  rw [List.getD_eq_getElem?_getD]
  simp [hi],fun i hi=>by rw [←impQ_wV hD hl i];exact fits_mono (imp_fits hs hdp i) om⟩
attribute [local irreducible] aw Fa Fh DrK
theorem lawWIdentities_fa (f:FM) (p:List RD) (i:Int) (hw:WordsOk p) (hl:p.length≤1099511627776) (hn:f.nodes.length≤1099511627776) (ha:ArgsOk f) (ht0: -9223372036854775808≤f.top) (ht:f.top≤9223372036854775807):
  Fa Tryz.prog 3 [.agg (fmc false f),.c (rats false p),.c (.int .i64 i)] (.c (.bool true)):=by
 refine fa_of_body Tryz.func3 rfl rfl (by simp [Tryz.ntmps3]) fun C hC=> ?_
 simp only [initS,Nat.reduceAdd]
 refine xG ?_
 refine xB fun g3 hn_g3=>?_
 refine yG hn_g3 ?_
 refine yC hn_g3 (awake43_fa) ?_
 refine yG hn_g3 ?_
 refine yC hn_g3 (valid43_fa f p hn ha ht0 ht hw hl) ?_
 by_cases hV:validW f p=true
 ·obtain⟨hL,hc,hX⟩:=vw_of hV
  have hs:=ws_of hn ha ht0 ht hw hL
  have hk:=wok_of hc
  have hz:wV f p≠0:=fun e=>by rw [e] at hX;exact absurd hX (by decide)
  have hpl:=hk.len
  have hwf:=hs.fn hk
  have h6:=hwf.h6
  have fX:=wV_fits (f:=f) hs.w hwf.h6
  have ok:=fr_ok hk.c
  rw [hV]
  by_cases hi0:i<0
  ·have d1:decide (i<0)=true:=decide_eq_true hi0
   have J1:=oj hn_g3 d1
   refine ySG J1 ?_
   refine yP J1 ?_
   refine yG J1 ?_
   refine yC J1 (awake43_fa) ?_
   refine yGT hC J1 ?_
   exact .one (.c (.bool _))
  obtain⟨k,rfl⟩:=Int.eq_ofNat_of_zero_le (show 0≤i from by omega)
  have d1:decide ((k:Int)<0)=false:=decide_eq_false hi0
  by_cases hi1:(k:Int)≥f.vars
  ·have d2:decide ((k:Int)≥f.vars)=true:=decide_eq_true hi1
   have J2:=oj hn_g3 (oj d1 d2)
   refine ySG J2 ?_
   refine yP J2 ?_
   refine yG J2 ?_
   refine yC J2 (awake43_fa) ?_
   refine yGT hC J2 ?_
   exact .one (.c (.bool _))
  have d2:decide ((k:Int)≥f.vars)=false:=decide_eq_false hi1
  have hkp:k<p.length:=by omega
  have J3:=oj hn_g3 (oj d1 d2)
  refine ySGNG J3 ?_
  refine aw_cut (fun x:Nat×DG=>[(1,.c (rats false p)),(2,.c (.int .i64 k)),(3,.c (.optr g3 0)),(7,.c (.optr x.1 0)),(8,.c .nilI)]) (fun x=>[(x.1,.cells 31 3 (ofL (dgc true x.2))),(g3,.cells 24 3 (ofL (fmc false f)))]) (fun x=>∃o,DOut o (fun s=>valF f s f.top) x.2∧o.length=p.length) ?_ ?_
  ·refine aw_any ty_mixed ?_
   refine any_alt 7 2 (by decide) ?_ ?_
   ·refine any_cw ([(g3,.cells 24 3 (ofL (fmc false f)))]) [(0,0),(1,0),(7,1),(2,1),(3,1),(4,0),(5,0),(6,3),(8,2),(9,0)] (by kernel_rfl) eI ?_
    refine yG J3 ?_
    refine cw_alloc rfl rfl rfl rfl (zE J3) eI (fun g7 hn_g7=> ?_) (hm:=.inr ⟨rfl,rfl⟩)
    replace hn_g7:=Heap.ne_of hn_g7
    dsimp only [Heap.ne] at hn_g7
    have J4:=oj hn_g3 (oj d1 (oj d2 hn_g7))
    refine ySG J4 ?_
    refine cw_callh (hc:=[]) rfl (depth14_fh f ok) rfl rfl rfl (.refl _) (zL J4) (by rintro _ _ ⟨rfl,_⟩;exact eI) ?_ (hm:=.inr ⟨rfl,rfl⟩)
    rintro _ _ ⟨rfl,o,hpo,hol,rfl⟩ _
    have hoc:ocode o o.length=0:=perm_code hpo om
    refine ySG J4 ?_
    refine cw_callh (hc:=[]) rfl (build_fh f hn ha hk.c o hoc hol om) rfl rfl rfl (.refl _) (zL J4) (by rintro _ _ ⟨rfl,_⟩;exact eI) ?_ (hm:=.inr ⟨rfl,rfl⟩)
    rintro _ _ ⟨rfl,D,hD,rfl⟩ _
    refine ySG J4 ?_
    iterate 1 (refine wc3 rfl rfl fun R r=> ?_;simp only [go_sem,hn_g3,d1,d2,hn_g7];with_reducible show R (some _);with_reducible refine r _ _ ?_;clear r R)
    have J5:=oj hn_g3 (oj d1 (oj d2 hn_g7))
    refine yS J5 ?_
    refine cw_store (FP':=[]) rfl rfl rfl rfl rfl (zE J5) (zE J5) (zE J5) (zE J5) (fun _ e=>by cases e) rfl rfl (Nat.le_refl 3) rfl has0_nil ?_
    refine ySG J5 ?_
    exact aw_stop ⟨(g7,D),(zB J5),List.Sublist.refl _,o,hD,by omega⟩
   ·refine any_alt 7 3 (by decide) ?_ ?_
    ·refine any_cw ([(g3,.cells 24 3 (ofL (fmc false f)))]) [(0,0),(1,0),(2,1),(7,1),(3,1),(4,0),(5,0),(6,3),(8,2),(9,0)] (by kernel_rfl) eI ?_
     have J6:=oj hn_g3 (oj d1 d2)
     refine yG J6 ?_
     refine cw_callh (hc:=[]) rfl (depth14_fh f ok) rfl rfl rfl (.refl _) (zL J6) (by rintro _ _ ⟨rfl,_⟩;exact eI) ?_ (hm:=.inr ⟨rfl,rfl⟩)
     rintro _ _ ⟨rfl,o,hpo,hol,rfl⟩ _
     have hoc:ocode o o.length=0:=perm_code hpo om
     refine ySG J6 ?_
     refine cw_alloc rfl rfl rfl rfl (zE J6) eI (fun g7 hn_g7=> ?_) (hm:=.inr ⟨rfl,rfl⟩)
     replace hn_g7:=Heap.ne_of hn_g7
     dsimp only [Heap.ne] at hn_g7
     have J7:=oj hn_g3 (oj d1 (oj d2 hn_g7))
     refine ySG J7 ?_
     refine cw_callh (hc:=[]) rfl (build_fh f hn ha hk.c o hoc hol om) rfl rfl rfl (.refl _) (zL J7) (by rintro _ _ ⟨rfl,_⟩;exact eI) ?_ (hm:=.inr ⟨rfl,rfl⟩)
     rintro _ _ ⟨rfl,D,hD,rfl⟩ _
     refine ySG J7 ?_
     iterate 1 (refine wc3 rfl rfl fun R r=> ?_;simp only [go_sem,hn_g3,d1,d2,hn_g7];with_reducible show R (some _);with_reducible refine r _ _ ?_;clear r R)
     have J8:=oj hn_g3 (oj d1 (oj d2 hn_g7))
     refine yS J8 ?_
     refine cw_store (FP':=[]) rfl rfl rfl rfl rfl (zE J8) (zE J8) (zE J8) (zE J8) (fun _ e=>by cases e) rfl rfl (Nat.le_refl 3) rfl has0_nil ?_
     refine ySG J8 ?_
     exact aw_stop ⟨(g7,D),(zB J8),List.Sublist.refl _,o,hD,by omega⟩
    ·refine any_cw ([(g3,.cells 24 3 (ofL (fmc false f)))]) [(0,0),(1,0),(2,1),(3,1),(4,0),(5,0),(6,3),(7,1),(8,2),(9,0)] (by kernel_rfl) eI ?_
     have J9:=oj hn_g3 (oj d1 d2)
     refine yG J9 ?_
     refine cw_callh (hc:=[]) rfl (depth14_fh f ok) rfl rfl rfl (.refl _) (zL J9) (by rintro _ _ ⟨rfl,_⟩;exact eI) ?_ (hm:=.inr ⟨rfl,rfl⟩)
     rintro _ _ ⟨rfl,o,hpo,hol,rfl⟩ _
     have hoc:ocode o o.length=0:=perm_code hpo om
     refine ySG J9 ?_
     refine cw_callh (hc:=[]) rfl (build_fh f hn ha hk.c o hoc hol om) rfl rfl rfl (.refl _) (zL J9) (by rintro _ _ ⟨rfl,_⟩;exact eI) ?_ (hm:=.inr ⟨rfl,rfl⟩)
     rintro _ _ ⟨rfl,D,hD,rfl⟩ _
     refine ySG J9 ?_
     iterate 1 (refine wc3 rfl rfl fun R r=> ?_;simp only [go_sem,hn_g3,d1,d2];with_reducible show R (some _);with_reducible refine r _ _ ?_;clear r R)
     refine yS (oj hn_g3 (oj d1 d2)) ?_
     refine cw_alloc rfl rfl rfl rfl (zE (oj hn_g3 (oj d1 d2))) eI (fun g7 hn_g7=> ?_) (hm:=.inr ⟨rfl,rfl⟩)
     replace hn_g7:=Heap.ne_of hn_g7
     dsimp only [Heap.ne] at hn_g7
     have J10:=oj hn_g3 (oj d1 (oj d2 hn_g7))
     refine ySG J10 ?_
     refine cw_store (FP':=[]) rfl rfl rfl rfl rfl (zE J10) (zE J10) (zE J10) (zE J10) (fun _ e=>by cases e) rfl rfl (Nat.le_refl 3) rfl has0_nil ?_
     refine ySG J10 ?_
     exact aw_stop ⟨(g7,D),(zB J10),List.Sublist.refl _,o,hD,by omega⟩
  rintro ⟨g7,D⟩ ⟨o,hD,hol⟩
  dsimp only at hD hol⊢
  refine aw_nd fun hnd=> ?_
  simp only [Heap.keys,List.map_cons,List.map_nil] at hnd
  replace hnd:=ndP_of hnd
  dsimp only [ndP,neA] at hnd
  obtain⟨hDl,hsD,hdp⟩:=sysD hk om hs.w hD hol
  have hb:=birnbaum_fa D p hsD
  rw [hdp,if_pos rfl,show errA 0=CV.nilI from rfl] at hb
  have vB:=imp_val hsD hdp hD hDl
  have hA:=crit_fa hs
  have hC':=ach_fa hs
  rw [m_ok hc hz,if_pos rfl,show errA 0=CV.nilI from rfl] at hA hC'
  have vA:=crit_val (f:=f) hs.w hk.prob hwf.h6 hz
  have vC:=ach_val (f:=f) hs.w hwf.h6 hz
  generalize impL D p p.length=LB at*
  generalize critL f p=LA at*
  generalize achL f p=LC at*
  have nA:((LA.length:Int) !=f.vars)=false:=by rw [vA.len,hpl];simp
  have nB:((LB.length:Int) !=f.vars)=false:=by rw [vB.len,hpl];simp
  have nC:((LC.length:Int) !=f.vars)=false:=by rw [vC.len,hpl];simp
  have lA:=vA.len
  have lB:=vB.len
  have lC:=vC.len
  have J11:=oj hnd (oj d1 d2)
  refine yG J11 ?_
  refine yC J11 (hb) ?_
  refine yG J11 ?_
  refine aw_callh (hc:=[]) (hr:=[(g7,.cells 31 3 (ofL (dgc true D))),(g3,.cells 24 3 (ofL (fmc false f)))]) (stop_fh f p hn ha hk.c om (fun r hr=>wf_mono (hs.w r hr) om) hk.pc hpl) rfl rfl rfl (.refl _) (zL J11) ?_
  rintro _ _ ⟨rfl,D2,hD2,hDl2,rfl⟩ _
  rw [show sumQ p (tabL D2) (2^p.length)=wV f p from prS_wV hD2 hDl2]
  refine ySG J11 ?_
  refine yA J11 fun g11 hn_g11=>?_
  have J12:=oj hnd (oj d1 (oj d2 hn_g11))
  refine yGWSG J12 ?_
  refine yC J12 (hA) ?_
  refine yG J12 ?_
  refine yC J12 (hC') ?_
  have J13:=oj hnd (oj d1 (oj d2 (oj hn_g11 (oj nA (oj nB nC)))))
  refine yGNG J13 ?_
  refine yC J13 (sof_fa 1 ?_ ?_) ?_
  ·omega
  ·omega
  rw [cast1]
  refine yG J13 ?_
  refine yA J13 fun g17 hn_g17=>?_
  have J14:=oj hnd (oj d1 (oj d2 (oj hn_g11 (oj nA (oj nB (oj nC hn_g17))))))
  refine yGWSG J14 ?_
  have gA:=vA.get k hkp
  have gB:=vB.get k hkp
  have gC:=vC.get k hkp
  have fA:=vA.fit k hkp
  have fB:=vB.fit k hkp
  have fC:=vC.fit k hkp
  have i1:=wId1 (f:=f) hX hkp
  have i2:=wId2 (f:=f) hX hkp
  have i3:=wId3 (f:=f) hX hkp
  have f0:=wV0_fits (f:=f) hs.w hwf.h6 k
  have hr:=red_fa hs (k:Int)
  have w4:=getD_q_fits hs.w hk.prob hkp
  have fq:fits (p.getD k rd0).q 10:=RD.fits (wf_mono w4 om) om
  unfold critV at gA fA i2 i3
  generalize hq:(p.getD k rd0).q=q at*
  generalize hB:wV f (p.set k rd0)=B at*
  generalize hAv:wV f (p.set k (rd 1))=A at*
  generalize hXv:wV f p=X at*
  generalize hav:(A-B)*q/X=a at*
  generalize hcv:A/X=c at*
  have fc1:fits (c-1) 30000:=fits_mono (fits_sub fC fits1) om
  have fa1:fits (1-a) 30000:=fits_mono (fits_sub fits1 fA) om
  have fq1:fits (1-q) 100:=fits_mono (fits_sub fits1 fq) om
  have f3:fits ((c-1)*X) 50000:=fits_mono (fits_mul fc1 fX) om
  have f5:fits ((1-q)*(A-B)) 50000:=fits_mono (fits_mul fq1 fB) om
  have s1:=ssub_fa (rd 1) (rd a) (rdw fits1 om) (rdw fA om)
  have s2:=ssub_fa (rd c) (rd 1) (rdw fC om) (rdw fits1 om)
  have s3:=smul_fa (rd (c-1)) (rd X) (rdw fc1 om) (rdw fX om)
  have s4:=ssub_fa (rd 1) (p.getD k rd0) (rdw fits1 om) (wf_mono w4 om)
  have s5:=smul_fa (rd (1-q)) (rd (A-B)) (rdw fq1 om) (rdw fB om)
  have s6:=scmp_fa (rd ((c-1)*X)) (rd ((1-q)*(A-B))) (rd_wf (fits_mono f3 om)) (rd_wf (fits_mono f5 om))
  simp only [rd_q,hq] at s1 s2 s3 s4 s5 s6
  have t6:=(cmp0 (x:=(c-1)*X-(1-q)*(A-B)) (rsub0 i1)).1
  generalize signQ ((c-1)*X-(1-q)*(A-B))=k6 at*
  refine aw_cw ([(g17,.cells 41 3 (ofL (rdc (rd 1))))]) [(0,0),(1,0),(2,0),(3,0),(4,0),(5,0),(6,1),(7,2)] ty_mixed (by kernel_rfl) eI ?_
  have J15:=oj hnd (oj d1 (oj d2 (oj hn_g11 (oj nA (oj nB (oj nC (oj hn_g17 (oj gA (oj gB (oj gC t6))))))))))
  refine yG J15 ?_
  refine cw_callq rfl s1 rfl rfl rfl (fun _ _=>(zL J15)) ?_
  refine ySG J15 ?_
  refine cw_alloc rfl rfl rfl rfl (zE J15) eI (fun g18 hn_g18=> ?_) (hm:=.inr ⟨rfl,rfl⟩)
  replace hn_g18:=Heap.ne_of hn_g18
  dsimp only [Heap.ne] at hn_g18
  have J16:=oj hnd (oj d1 (oj d2 (oj hn_g11 (oj nA (oj nB (oj nC (oj hn_g17 (oj gA (oj gB (oj gC (oj t6 hn_g18)))))))))))
  refine yS J16 ?_
  refine cw_store (FP':=[]) rfl rfl rfl rfl rfl (zE J16) (zE J16) (zE J16) (zE J16) (fun _ e=>by cases e) rfl rfl (Nat.le_refl 3) rfl has0_nil ?_
  refine ySG J16 ?_
  refine aw_cw ([(g17,.cells 41 3 (ofL (rdc (rd 1)))),(g11,.cells 41 3 (ofL (rdc (rd X))))]) [(0,0),(1,0),(2,0),(3,0),(4,0),(5,0),(6,0),(7,0),(8,0),(9,0),(10,0),(11,0),(12,0),(13,0),(14,0),(15,0),(16,0),(17,0),(18,0),(19,0),(20,0)] ty_mixed (by kernel_rfl) eI ?_
  refine yG J16 ?_
  refine cw_callq rfl s2 rfl rfl rfl (fun _ _=>(zL J16)) ?_
  refine ySG J16 ?_
  refine cw_callq rfl s3 rfl rfl rfl (fun _ _=>(zL J16)) ?_
  refine ySG J16 ?_
  refine cw_callq rfl s4 rfl rfl rfl (fun _ _=>(zL J16)) ?_
  refine ySG J16 ?_
  refine cw_callq rfl s5 rfl rfl rfl (fun _ _=>(zL J16)) ?_
  refine ySG J16 ?_
  refine cw_callq rfl s6 rfl rfl rfl (fun _ _=>(zL J16)) ?_
  refine ySGNG J16 ?_
  by_cases h0:B=0
  ·rw [r_zero hc hkp (hB.trans h0),if_neg (by decide)] at hr
   have t7:=(cmp0 (i2 h0)).2
   have s7:=ssign_fa (rd (1-a)) (rdw fa1 om)
   simp only [rd_q] at s7
   generalize signQ (1-a)=k7 at*
   have q8:decide ((8:Int)=0)=false:=rfl
   have his:=is_fa 8 8 om
   rw [decide_eq_true rfl] at his
   have J17:=oj hnd (oj d1 (oj d2 (oj hn_g11 (oj nA (oj nB (oj nC (oj hn_g17 (oj gA (oj gB (oj gC (oj t6 (oj hn_g18 (oj t7 q8)))))))))))))
   refine yC J17 (hr) ?_
   refine yG J17 ?_
   refine yA J17 fun g19 hn_g19=>?_
   have J18:=oj hnd (oj d1 (oj d2 (oj hn_g11 (oj nA (oj nB (oj nC (oj hn_g17 (oj gA (oj gB (oj gC (oj t6 (oj hn_g18 (oj t7 (oj q8 hn_g19))))))))))))))
   refine yGWSG J18 ?_
   refine yP J18 ?_
   refine yG J18 ?_
   refine yC J18 (his) ?_
   refine yG J18 ?_
   refine yC J18 (s7) ?_
   refine yGT hC J18 ?_
   exact .one (.c (.bool _))
  ·rw [r_ok hc hkp (fun e=>h0 (hB.symm.trans e)),if_pos rfl,Int.toNat_natCast,show errA 0=CV.nilI from rfl,hB] at hr
   have fQ:=fits_div fX f0 h0
   have i3':=i3 h0
   generalize X/B=y at*
   have f8:fits (y*(1-a)) 200000:=fits_mono (fits_mul fQ fa1) om
   have s7:=smul_fa (rd y) (rd (1-a)) (rdw fQ om) (rdw fa1 om)
   have s8:=scmp_fa (rd (y*(1-a))) (rd 1) (rd_wf (fits_mono f8 om)) (rd_wf (fits_mono fits1 om))
   simp only [rd_q] at s7 s8
   have t8:=(cmp0 (x:=y*(1-a)-1) (rsub0 i3')).2
   generalize signQ (y*(1-a)-1)=k8 at*
   have J19:=oj hnd (oj d1 (oj d2 (oj hn_g11 (oj nA (oj nB (oj nC (oj hn_g17 (oj gA (oj gB (oj gC (oj t6 (oj hn_g18 t8))))))))))))
   refine yC J19 (hr) ?_
   refine yG J19 ?_
   refine yA J19 fun g19 hn_g19=>?_
   have J20:=oj hnd (oj d1 (oj d2 (oj hn_g11 (oj nA (oj nB (oj nC (oj hn_g17 (oj gA (oj gB (oj gC (oj t6 (oj hn_g18 (oj t8 hn_g19)))))))))))))
   refine yGWSGNG J20 ?_
   refine aw_cw ([(g19,.cells 41 3 (ofL (rdc (rd y)))),(g18,.cells 41 3 (ofL (rdc (rd (1-a))))),(g17,.cells 41 3 (ofL (rdc (rd 1))))]) [(0,0),(1,0),(2,0),(3,0),(4,0),(5,0),(6,0)] ty_mixed (by kernel_rfl) eI ?_
   refine yG J20 ?_
   refine cw_callq rfl s7 rfl rfl rfl (fun _ _=>(zL J20)) ?_
   refine ySG J20 ?_
   refine cw_callq rfl s8 rfl rfl rfl (fun _ _=>(zL J20)) ?_
   refine ySGT hC J20 ?_
   exact .one (.c (.bool _))
 ·have hV':validW f p=false:=by simpa using hV
  rw [hV']
  refine yGPG hn_g3 ?_
  refine yC hn_g3 (awake43_fa) ?_
  refine yGT hC hn_g3 ?_
  exact .one (.c (.bool _))
end Go.Proofs.YtefekdejgbceiaaGreat
