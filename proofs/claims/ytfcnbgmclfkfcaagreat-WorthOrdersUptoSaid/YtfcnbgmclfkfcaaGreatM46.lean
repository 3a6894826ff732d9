/- Parts of one proof, laid by a program. -/
import Derived.Test.YtfcnbgmclfkfcaaGreatM00
import Derived.Test.YtfcnbgmclfkfcaaGreatM41
set_option linter.unusedSimpArgs false
set_option linter.unusedVariables false
namespace Go.PN
open Go.AI
theorem ex_sub {p:Nat→Rat}:∀(m:Nat) (f g:Nat→Rat),exQ p m (fun s=>f s-g s)=exQ p m f-exQ p m g
 |0,f,g=>rfl
 |m+1,f,g=>by rw [exQ,exQ,exQ,ex_sub m f g,ex_sub m (fun s=>f (s+2^m)) (fun s=>g (s+2^m))];grind
end Go.PN

namespace Go.PN
open Go.AI
theorem ex_le {p:Nat→Rat}:∀(m:Nat) (f g:Nat→Rat),(∀i,i<m→0≤p i∧p i≤1)→(∀s,s<2^m→f s≤g s)→exQ p m f≤exQ p m g
 |0,f,g,_,h=>h 0 (by simp)
 |m+1,f,g,hp,h=>by
  have e:2^(m+1)=2^m+2^m:=by rw [Nat.pow_succ];omega
  have h1:=ex_le m f g (fun i hi=>hp i om) fun s hs=>h s om
  have h2:=ex_le m (fun s=>f (s+2^m)) (fun s=>g (s+2^m)) (fun i hi=>hp i om) fun s hs=>h _ om
  obtain⟨p0,p1⟩:=hp m om
  rw [exQ,exQ]
  have h3:=Rat.mul_le_mul_of_nonneg_left h1 (show 0≤1-p m by grind)
  have h4:=Rat.mul_le_mul_of_nonneg_left h2 p0
  grind
end Go.PN
namespace Go.PN
open Go.AI Go.Proofs.YtfcnbgmclfkfcaaGreat
theorem setB_same {s v:Nat} {b:Bool} (h:s.testBit v=b):setB s v b=s:=by
 unfold setB
 rw [if_pos h]
end Go.PN
namespace Go.Proofs.YtfcnbgmclfkfcaaGreat
open Go.AI Go.PN
theorem set_indep {n i:Nat} (b:Bool) (h:Nat→Rat):Indep n i fun s=>h (setB s i b):=fun s t hs ht hst=>by
 have:setB s i b=setB t i b:=Nat.eq_of_testBit_eq fun j=>by
  rw [setB_bit,setB_bit]
  by_cases e:j=i
  ·rw [if_pos e,if_pos e]
  ·rw [if_neg e,if_neg e]
   by_cases hj:j<n
   ·exact hst j hj e
   ·rw [Nat.testBit_lt_two_pow (Nat.lt_of_lt_of_le hs (Nat.pow_le_pow_right om om)),Nat.testBit_lt_two_pow (Nat.lt_of_lt_of_le ht (Nat.pow_le_pow_right om om))]
 show h _=h _
 rw [this]
theorem critW_ex {f:FM} {p:List RD} {i:Nat} (hi:i<p.length):(wV f (p.set i (rd 1))-wV f (p.set i rd0))*(p.getD i rd0).q=exQ (prP p) p.length fun s=>if s.testBit i then evB (valF f (setB s i true) f.top)-evB (valF f (setB s i false) f.top) else 0:=by
 have h:=ex_shan (p:=prP p) (v:=i) p.length (fun _=>0) (fun s=>evB (valF f (setB s i true) f.top)-evB (valF f (setB s i false) f.top)) hi (fun _ _ _ _ _=>rfl) (fun s t hs ht hst=>by
  have e1:=set_indep (n:=p.length) true (fun s=>evB (valF f s f.top)) s t hs ht hst
  have e2:=set_indep (n:=p.length) false (fun s=>evB (valF f s f.top)) s t hs ht hst
  dsimp only at e1 e2⊢
  rw [e1,e2])
 rw [h,ex_const,ex_sub,←wV_one hi,←wV_zero hi]
 unfold prP
 grind
theorem evB_le {a b:Bool} (h:a=true→b=true):evB a≤evB b:=by
 cases a with
 |true=>rw [h rfl];exact Rat.le_refl
 |false=>exact(evB_unit b).1
theorem sub_set1 (s i:Nat):Sub s (setB s i true):=fun j hj=>by
 rw [setB_bit]
 split
 ·rfl
 ·exact hj
theorem wV_mid {f:FM} {p:List RD} (ok:FrOk f) (hc:cohTo f f.nodes.length=true) (hp:∀r∈p,r.prob=true) {i:Nat} (hi:i<p.length):wV f (p.set i rd0)≤wV f p∧wV f p≤wV f (p.set i (rd 1)):=by
 rw [wV_one hi,wV_zero hi]
 exact⟨ex_le _ _ _ (prP_unit hp) fun s _=>evB_le (coh_mono ok hc (sub_set0 s i)),ex_le _ _ _ (prP_unit hp) fun s _=>evB_le (coh_mono ok hc (sub_set1 s i))⟩
theorem fails_iff {l:List Nat} {s:Nat}:failsB l s=true↔∃c∈l,SubN c s:=by
 unfold failsB
 rw [List.any_eq_true]
 exact⟨fun⟨c,h,k⟩=>⟨c,h,subT_iff.1 k⟩,fun⟨c,h,k⟩=>⟨c,h,subT_iff.2 k⟩⟩
theorem cutsI_iff {l:List Nat} {i s:Nat}:failsB (cutsI l i) s=true↔∃c∈l,c.testBit i=true∧SubN c s:=by
 rw [fails_iff]
 unfold cutsI
 constructor
 ·rintro ⟨c,h,k⟩
  rw [List.mem_filter] at h
  exact⟨c,h.1,h.2,k⟩
 ·rintro ⟨c,h,h2,k⟩
  exact⟨c,List.mem_filter.2 ⟨h,h2⟩,k⟩
theorem wF_le {f:FM} {l:List Nat} {p:List RD} (ok:FrOk f) (hc:cohTo f f.nodes.length=true) (hl:CutL (fun s=>valF f s f.top) l) (hp:∀r∈p,r.prob=true) (i:Nat):wF l p i≤wV f p:=
 ex_le _ _ _ (prP_unit hp) fun s _=>evB_le fun h=>by
  obtain⟨c,h1,_,h3⟩:=cutsI_iff.1 h
  exact coh_mono ok hc h3 ((hl.2 c).1 h1).1
theorem crit_le {f:FM} {l:List Nat} {p:List RD} (ok:FrOk f) (hc:cohTo f f.nodes.length=true) (hl:CutL (fun s=>valF f s f.top) l) (hp:∀r∈p,r.prob=true) {i:Nat} (hi:i<p.length):(wV f (p.set i (rd 1))-wV f (p.set i rd0))*(p.getD i rd0).q≤wF l p i:=by
 rw [critW_ex hi]
 refine ex_le _ _ _ (prP_unit hp) fun s _=> ?_
 split
 ·rename_i hb
  rw [setB_same hb]
  have u:=(evB_unit (failsB (cutsI l i) s)).1
  cases h1:valF f s f.top
  ·have:=(evB_unit (valF f (setB s i false) f.top)).1
   show(0:Rat)-_≤_
   grind
  ·cases h0:valF f (setB s i false) f.top
   ·have:failsB (cutsI l i) s=true:=by
     obtain⟨c,h2,h3⟩:=min_ex (f:=fun s=>valF f s f.top) s h1
     refine cutsI_iff.2 ⟨c,(hl.2 c).2 h3,?_,h2⟩
     cases hci:c.testBit i with
     |true=>rfl
     |false=>
      have:valF f (setB s i false) f.top=true:=coh_mono ok hc (s:=c) (fun j hj=>by
       rw [setB_bit]
       split
       ·rename_i e;subst e;rw [hci] at hj;exact hj
       ·exact h2 j hj) h3.1
      rw [this] at h0;cases h0
    rw [this]
    show(1:Rat)-0≤1
    grind
   ·show(1:Rat)-1≤_
    grind
 ·exact(evB_unit _).1
end Go.Proofs.YtfcnbgmclfkfcaaGreat
namespace Go.Proofs.YtfcnbgmclfkfcaaGreat
open Go.AI Go.PN
theorem q_unit {p:List RD} (hp:∀r∈p,r.prob=true) {i:Nat} (hi:i<p.length):0≤(p.getD i rd0).q∧(p.getD i rd0).q≤1:=prP_unit hp i hi
theorem div_le_of {a b X:Rat} (hX:0<X) (h:a≤b):a/X≤b/X:=by
 rw [Rat.div_def,Rat.div_def]
 exact Rat.mul_le_mul_of_nonneg_right h (Rat.le_of_lt (Rat.inv_pos.2 hX))
theorem wOrd1 {f:FM} {p:List RD} (ok:WOk f p) (hX:0<wV f p) {i:Nat} (hi:i<p.length):0≤critV f p i/wV f p:=by
 have h0:=wV_mid (fr_ok ok.c) ok.coh ok.prob hi
 have hq:=(q_unit ok.prob hi).1
 have:0≤critV f p i:=Rat.mul_nonneg (by grind) hq
 have h:=div_le_of hX this
 rwa [Rat.div_def,Rat.zero_mul] at h
theorem wOrd2 {f:FM} {l:List Nat} {p:List RD} (ok:WOk f p) (hl:CutL (fun s=>valF f s f.top) l) (hX:0<wV f p) {i:Nat} (hi:i<p.length):critV f p i/wV f p≤wF l p i/wV f p:=div_le_of hX (crit_le (fr_ok ok.c) ok.coh hl ok.prob hi)
theorem wOrd3 {f:FM} {l:List Nat} {p:List RD} (ok:WOk f p) (hl:CutL (fun s=>valF f s f.top) l) (hX:0<wV f p) (i:Nat):wF l p i/wV f p≤1:=by
 have h:=div_le_of hX (wF_le (fr_ok ok.c) ok.coh hl ok.prob i)
 rwa [div_self_of hX] at h
theorem wOrd4 {f:FM} {p:List RD} (ok:WOk f p) (hX:0<wV f p) {i:Nat} (hi:i<p.length):1≤wV f (p.set i (rd 1))/wV f p:=by
 have h:=div_le_of hX (wV_mid (fr_ok ok.c) ok.coh ok.prob hi).2
 rwa [div_self_of hX] at h
theorem set_prob {p:List RD} (hp:∀r∈p,r.prob=true) (i:Nat) {q:RD} (hq:q.prob=true):∀r∈p.set i q,r.prob=true:=fun r hr=>by
 rcases List.mem_or_eq_of_mem_set hr with hr|rfl
 ·exact hp r hr
 ·exact hq
theorem wV0_pos {f:FM} {p:List RD} (ok:WOk f p) (i:Nat) (h0:wV f (p.set i rd0)≠0):0<wV f (p.set i rd0):=by
 have h1:=(wV_unit (f:=f) (set_prob ok.prob i rd0_prob)).1
 exact Rat.lt_of_le_of_ne h1 (fun e=>h0 e.symm)
theorem wOrd5 {f:FM} {p:List RD} (ok:WOk f p) {i:Nat} (hi:i<p.length) (h0:wV f (p.set i rd0)≠0):1≤wV f p/wV f (p.set i rd0):=by
 have hp:=wV0_pos ok i h0
 have h:=div_le_of hp (wV_mid (fr_ok ok.c) ok.coh ok.prob hi).1
 rwa [div_self_of hp] at h
end Go.Proofs.YtfcnbgmclfkfcaaGreat
namespace Go.Proofs.YtfcnbgmclfkfcaaGreat
open Go.AI Go.PN
attribute [local irreducible] aw Fa Fh DrK
theorem is_fa (c d:Int) (hd:d≠0):Fa Tryz.prog 31 [.c (errA c),.c (.int .i64 d)] (.c (.bool (decide (c=d)))):=by
 by_cases h:c=0
 ·have e:errA c=.nilI:=by unfold errA errC;rw [if_pos h]
  rw [e,decide_eq_false om]
  refine fa_of_body Tryz.func31 rfl rfl (by simp [Tryz.ntmps31]) fun C hC=> ?_
  simp only [initS,Nat.reduceAdd]
  refine xGT hC ?_
  exact .one (.c (.bool _))
 ·have e:errA c=.ifc 51 (.int .i64 c):=by unfold errA errC;rw [if_neg h]
  rw [e]
  refine fa_of_body Tryz.func31 rfl rfl (by simp [Tryz.ntmps31]) fun C hC=> ?_
  simp only [initS,Nat.reduceAdd]
  refine xGT hC ?_
  exact .one (.c (ler_bool (by by_cases e:c=d<;>simp [e])))
end Go.Proofs.YtfcnbgmclfkfcaaGreat
namespace Go.PN
open Go.AI Go.Proofs.YtfcnbgmclfkfcaaGreat
theorem sg_ge {x:Rat} (h:0≤x):0≤signQ x:=by
 unfold signQ
 split
 ·omega
 ·rw [if_neg (by grind)];omega
theorem sg_le {x:Rat} (h:x≤0):signQ x≤0:=by
 unfold signQ
 split
 ·omega
 ·rw [if_pos (by grind)];omega
end Go.PN

namespace Go.Proofs.YtfcnbgmclfkfcaaGreat
open Go.AI Go.PN
theorem slt {x:Rat} (h:0≤x):decide (signQ x<0)=false:=decide_eq_false (by have:=sg_ge h;omega)
theorem sgt {x:Rat} (h:x≤0):decide (signQ x>0)=false:=decide_eq_false (by have:=sg_le h;omega)
theorem rsubN {a b:Rat} (h:a≤b):a-b≤0:=by grind
theorem rsubP {a b:Rat} (h:b≤a):0≤a-b:=by grind
attribute [local irreducible] aw Fa Fh DrK
set_option maxRecDepth 100000 in
set_option maxHeartbeats 12800000 in
theorem lawWOrders_fa (f:FM) (p:List RD) (hw:WordsOk p) (hl:p.length≤1099511627776) (hn:f.nodes.length≤1099511627776) (ha:ArgsOk f) (ht0: -9223372036854775808≤f.top) (ht:f.top≤9223372036854775807):
 Fa Tryz.prog 5 [.agg (fmc false f),.c (rats false p)] (.c (.bool true)):=by
 refine fa_of_body Tryz.func5 rfl rfl (by simp [Tryz.ntmps5]) fun C hC=> ?_
 simp only [initS,Nat.reduceAdd]
 refine xG ?_
 refine xB fun g2 hn_g2=>?_
 refine yG hn_g2 ?_
 refine yC hn_g2 (awake43_fa) ?_
 refine yG hn_g2 ?_
 refine yC hn_g2 (valid43_fa f p hn ha ht0 ht hw hl) ?_
 refine yG hn_g2 ?_
 refine yF hn_g2 (fun hV=>?_) fun hV=>?_
 ·refine yG hn_g2 ?_
  refine yC hn_g2 (awake43_fa) ?_
  refine yGT hC hn_g2 ?_
  exact .one (.c (.bool _))
 obtain⟨hL,hc,hX⟩:=vw_of (by simpa using hV:validW f p=true)
 have hs:=ws_of hn ha ht0 ht hw hL
 have hk:=wok_of hc
 have hz:wV f p≠0:=fun e=>by rw [e] at hX;exact absurd hX (by decide)
 have hpl:=hk.len
 have hwf:=hs.fn hk
 have fX:=wV_fits (f:=f) hs.w hwf.h6
 have ok:=fr_ok hk.c
 have hcl:=cutsF_cut ok
 have hA:=crit_fa hs
 have hB:=fus_fa hs
 have hC':=ach_fa hs
 rw [m_ok hc hz,if_pos rfl,show errA 0=CV.nilI from rfl] at hA hB hC'
 have vA:=crit_val (f:=f) hs.w hk.prob hwf.h6 hz
 have vB:=fus_val (f:=f) hs.w hwf.h6 hz
 have vC:=ach_val (f:=f) hs.w hwf.h6 hz
 have o1:=fun i (hi:i<p.length)=>wOrd1 hk hX hi
 have o2:=fun i (hi:i<p.length)=>wOrd2 hk hcl hX hi
 have o3:=fun i=>wOrd3 hk hcl hX i
 have o4:=fun i (hi:i<p.length)=>wOrd4 hk hX hi
 generalize critL f p=LA at*
 generalize fusL f p=LB at*
 generalize achL f p=LC at*
 have nA:((LA.length:Int) !=f.vars)=false:=by rw [vA.len,hpl];simp
 have nB:((LB.length:Int) !=f.vars)=false:=by rw [vB.len,hpl];simp
 have nC:((LC.length:Int) !=f.vars)=false:=by rw [vC.len,hpl];simp
 have lA:=vA.len
 have lB:=vB.len
 have lC:=vC.len
 refine yG hn_g2 ?_
 refine yC hn_g2 (hA) ?_
 refine yG hn_g2 ?_
 refine yC hn_g2 (hB) ?_
 refine yG hn_g2 ?_
 refine yC hn_g2 (hC') ?_
 have J1:=oj hn_g2 (oj nA (oj nB nC))
 refine yGNG J1 ?_
 refine yC J1 (sof_fa 1 ?_ ?_) ?_
 ·omega
 ·omega
 rw [cast1]
 refine yG J1 ?_
 refine yA J1 fun g11 hn_g11=>?_
 have J2:=oj hn_g2 (oj nA (oj nB (oj nC hn_g11)))
 refine yGWSG J2 ?_
 refine aw_lp (fun x:Nat=>[(1,.c (rats false p)),(2,.c (.optr g2 0)),(5,.c (rats true LA)),(7,.c (rats true LB)),(9,.c (rats true LC)),(11,.c (.optr g11 0)),(12,.c (.int .i64 x))]) (fun x=>[(g11,.cells 30 3 (ofL (rdc (rd 1)))),(g2,.cells 24 3 (ofL (fmc false f)))]) (fun x=>x≤p.length) (fun x=>p.length-x) 0 (zB J2) zZ (Nat.zero_le _) ?_
 rintro i hi
 refine yG J2 ?_
 refine yF J2 (fun h1=>?_) fun h1=>?_
 ·have h1':i<p.length:=dT h1
  have gA:=vA.get i h1'
  have gB:=vB.get i h1'
  have gC:=vC.get i h1'
  have fA:=vA.fit i h1'
  have fB:=vB.fit i h1'
  have fC:=vC.fit i h1'
  have p1:=o1 i h1'
  have p2:=o2 i h1'
  have p3:=o3 i
  have p4:=o4 i h1'
  generalize critV f p i/wV f p=a at*
  generalize wF (cutsF f) p i/wV f p=b at*
  generalize wV f (p.set i (rd 1))/wV f p=c at*
  have s1:=ssign_fa (rd a) (rdw fA om)
  have s2:=scmp_fa (rd a) (rd b) (rd_wf (fits_mono fA om)) (rd_wf (fits_mono fB om))
  have s3:=scmp_fa (rd b) (rd 1) (rd_wf (fits_mono fB om)) (rd_wf (fits_mono fits1 om))
  have s4:=scmp_fa (rd c) (rd 1) (rd_wf (fits_mono fC om)) (rd_wf (fits_mono fits1 om))
  simp only [rd_q] at s1 s2 s3 s4
  have t1:=slt p1
  have t2:=sgt (x:=a-b) (rsubN p2)
  have t3:=sgt (x:=b-1) (rsubN p3)
  have t4:=slt (x:=c-1) (rsubP p4)
  generalize signQ a=k1 at*
  generalize signQ (a-b)=k2 at*
  generalize signQ (b-1)=k3 at*
  generalize signQ (c-1)=k4 at*
  have J3:=oj hn_g2 (oj nA (oj nB (oj nC (oj hn_g11 (oj gA (oj gB (oj gC (oj t1 (oj t2 (oj t3 t4))))))))))
  refine yG J3 ?_
  refine aw_cw ([(g11,.cells 30 3 (ofL (rdc (rd 1)))),(g2,.cells 24 3 (ofL (fmc false f)))]) [(0,0),(1,0),(2,0),(3,0),(4,0),(5,0),(6,0),(7,0),(8,0),(9,0),(10,0),(11,0),(12,0),(13,0),(14,0),(15,0),(16,0),(17,0),(18,0),(19,0),(20,0),(21,0),(22,0),(23,0),(24,0),(25,0),(26,0),(27,0),(28,0),(29,0),(30,0),(31,0),(32,0),(33,0),(34,0),(35,0)] ty_mixed (by kernel_rfl) eI ?_
  refine yG J3 ?_
  refine cw_callq rfl s1 rfl rfl rfl (fun _ _=>(zL J3)) ?_
  refine ySG J3 ?_
  refine cw_callq rfl s2 rfl rfl rfl (fun _ _=>(zL J3)) ?_
  refine ySG J3 ?_
  refine cw_callq rfl s3 rfl rfl rfl (fun _ _=>(zL J3)) ?_
  refine ySG J3 ?_
  refine cw_callq rfl s4 rfl rfl rfl (fun _ _=>(zL J3)) ?_
  refine ySGNG J3 ?_
  have hr:=red_fa hs (i:Int)
  by_cases h0:wV f (p.set i rd0)=0
  ·rw [r_zero hc h1' h0,if_neg (by decide)] at hr
   have q8:decide ((8:Int)=0)=false:=rfl
   have his:=is_fa 8 8 om
   rw [decide_eq_true rfl] at his
   have J4:=oj hn_g2 (oj nA (oj nB (oj nC (oj hn_g11 (oj gA (oj gB (oj gC (oj t1 (oj t2 (oj t3 (oj t4 q8)))))))))))
   refine yC J4 (hr) ?_
   refine yG J4 ?_
   refine yA J4 fun g13 hn_g13=>?_
   have J5:=oj hn_g2 (oj nA (oj nB (oj nC (oj hn_g11 (oj gA (oj gB (oj gC (oj t1 (oj t2 (oj t3 (oj t4 (oj q8 hn_g13))))))))))))
   refine yGWSG J5 ?_
   refine yC J5 (his) ?_
   refine yGNG J5 ?_
   exact aw_stop ⟨i+1,by omega,(zB J5),List.Sublist.cons _ (List.Sublist.refl _),by omega⟩
  ·rw [r_ok hc h1' h0,if_pos rfl,Int.toNat_natCast,show errA 0=CV.nilI from rfl] at hr
   have f0:=wV0_fits (f:=f) hs.w hwf.h6 i
   have fQ:=fits_div fX f0 h0
   have p5:=wOrd5 hk h1' h0
   generalize wV f p/wV f (p.set i rd0)=q at*
   have s5:=scmp_fa (rd q) (rd 1) (rd_wf (fits_mono fQ om)) (rd_wf (fits_mono fits1 om))
   simp only [rd_q] at s5
   have t5:=slt (x:=q-1) (rsubP p5)
   generalize signQ (q-1)=k5 at*
   have J6:=oj hn_g2 (oj nA (oj nB (oj nC (oj hn_g11 (oj gA (oj gB (oj gC (oj t1 (oj t2 (oj t3 (oj t4 t5)))))))))))
   refine yC J6 (hr) ?_
   refine yG J6 ?_
   refine yA J6 fun g13 hn_g13=>?_
   have J7:=oj hn_g2 (oj nA (oj nB (oj nC (oj hn_g11 (oj gA (oj gB (oj gC (oj t1 (oj t2 (oj t3 (oj t4 (oj t5 hn_g13))))))))))))
   refine yGWSG J7 ?_
   refine yC J7 (s5) ?_
   refine yGNG J7 ?_
   exact aw_stop ⟨i+1,by omega,(zB J7),List.Sublist.cons _ (List.Sublist.refl _),by omega⟩
 ·refine yGT hC J2 ?_
  exact .one (.c (.bool _))
end Go.Proofs.YtfcnbgmclfkfcaaGreat
