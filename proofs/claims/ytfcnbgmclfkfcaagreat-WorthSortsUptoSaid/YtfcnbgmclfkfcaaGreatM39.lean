/- Parts of one proof, laid by a program. -/
import Derived.Test.YtfcnbgmclfkfcaaGreatM00
import Derived.Test.YtfcnbgmclfkfcaaGreatM32
import Derived.Test.YtfcnbgmclfkfcaaGreatM34
import Derived.Test.YtfcnbgmclfkfcaaGreatM38
set_option linter.unusedSimpArgs false
set_option linter.unusedVariables false
namespace Go.PN
open Go.AI
theorem half_u {i j c:Nat} (h:i+j<4611686018427387904) (hc:c=(i+j)/2):wrapZ .u64 ((i:Int)+(j:Int))=(i:Int)+(j:Int)∧shrZ .u64 ((i:Int)+(j:Int)) 1=(c:Int)∧wrapZ .i64 (c:Int)=(c:Int):=by
 refine⟨?_,?_,?_⟩
 ·rw [wrapZ_eq,wrap_inRange (by simp only [inRange];omega)]
 ·rw [hc,←Int.natCast_add];exact shr_u64 (i+j) 1 om
 ·rw [wrapZ_eq,wrap_inRange (by simp only [inRange];omega)]
end Go.PN
namespace Go.Proofs.YtfcnbgmclfkfcaaGreat
open Go.AI Go.PN
attribute [local irreducible] aw Fa Fh DrK
set_option maxRecDepth 100000 in
set_option maxHeartbeats 6400000 in
theorem sym_fh (g:Nat) (fc:FuncId) (caps:List Nat) (Hc:Heap) (N:Nat) (cb lt:Int→Int→Bool) (hcb:CmpK Tryz.prog fc caps Hc N cb) (hlt:∀x y:Int,y<x→cb x y=lt x y) (ok:LtOk lt) (hN:N≤1000000):∀(fuel a m b:Nat) (z:Nat→Int),b-a≤fuel→a<m→m<b→b≤N→InR z a b N→AscR lt z a m→AscR lt z m b→CrossR z a m b→
 Fh Tryz.prog 184 ((g,.cells 3 N (gF z))::Hc) [.c (.osl g 1 0 N),.c (.int .i64 a),.c (.int .i64 m),.c (.int .i64 b),.c (fnC fc caps)] (fun r h=>∃y,ShufR z y a b∧AscR lt y a b∧r=.tup []∧h=(g,.cells 3 N (gF y))::Hc):=by
 intro fuel
 induction fuel with
 |zero=>intro a m b z h1 h2 h3;omega
 |succ fuel ih=>
  intro a m b z hfu ham hmb hbN hin hal har hcr
  by_cases c1:m=a+1
  ·have e1:(((m:Int)-(a:Int))==1)=true:=by simp;omega
   subst c1
   refine fh_of_body Tryz.func184 rfl rfl (by simp [Tryz.ntmps184]) fun C hC=> ?_
   simp only [initS,Nat.reduceAdd]
   refine yGPG e1 ?_
   refine aw_lp (fun x:Nat×Nat=>[(0,.c (.osl g 1 0 N)),(1,.c (.int .i64 a)),(3,.c (.int .i64 b)),(4,.c (fnC fc caps)),(10,.c (.int .i64 x.1)),(11,.c (.int .i64 x.2))]) (fun x=>(g,.cells 3 N (gF z))::Hc)
    (fun x=>a+1≤x.1∧x.1≤x.2∧x.2≤b∧(a+1<x.1→lt (z (x.1-1)) (z a)=true)∧(x.2<b→lt (z a) (z x.2)=true)) (fun x=>x.2-x.1) (a+1,b) (zB e1) (List.Sublist.refl _) ⟨Nat.le_refl _,by dsimp only;omega,Nat.le_refl _,fun h=>by dsimp only at h;omega,fun h=>by dsimp only at h;omega⟩ ?_
   rintro ⟨i,j⟩ ⟨hi,hij,hjb,hlo,hhi⟩
   dsimp only at hi hij hjb hlo hhi⊢
   by_cases hlt2:i<j
   ·have e2:decide ((i:Int)<(j:Int))=true:=decide_eq_true om
    obtain⟨c,hc⟩:∃c,c=(i+j)/2:=⟨_,rfl⟩
    have hf:=half_u (i:=i) (j:=j) om hc
    have hci:i≤c:=by omega
    have hcj:c<j:=by omega
    have ex:=hcr a c (Nat.le_refl _) om om om
    obtain⟨v0,v1⟩:=hin c om om
    obtain⟨u0,u1⟩:=hin a om om
    have hcl:=hlt (z c) (z a) ex
    have J1:=oj e1 (oj e2 hf)
    refine yGPG J1 ?_
    refine aw_cw ([(g,.cells 3 N (gF z))]) [(0,0),(1,0),(2,0),(3,0),(4,0),(5,0),(6,0),(7,0),(8,0),(9,1),(10,0)] ty_mixed (by kernel_rfl) eI ?_
    refine yG J1 ?_
    refine cw_callhv (gs:=caps) (hc:=Hc) (hr:=[(g,.cells 3 N (gF z))]) rfl (hcb (z c) (z a) v0 v1 u0 u1) rfl rfl rfl (zE J1) (List.perm_append_comm (l₁:=[(g,_)])) (zL J1) (by
     rintro _ _ ⟨_,rfl,_,rfl⟩;exact has0_app2 eI) ?_ (hm:=.inr ⟨rfl,rfl⟩)
    rintro _ _ ⟨cv,rfl,hcv,rfl⟩ _
    refine cw_perm List.perm_append_comm ?_
    simp only [List.cons_append,List.nil_append]
    rw [hcl] at hcv
    have J2:=oj e1 (oj e2 (oj hf hcv))
    refine ySG J2 ?_
    cases hb:lt (z c) (z a)
    ·refine ySGNG J2 ?_
     exact aw_stop ⟨(i,c),by dsimp only;omega,(zB J2),List.Sublist.refl _,hi,hci,by dsimp only;omega,hlo,fun _=>ok.total (z c) (z a) (fun e=>by omega) hb⟩
    ·refine ySGPG J2 ?_
     exact aw_stop ⟨(c+1,j),by dsimp only;omega,(zB J2),List.Sublist.refl _,by dsimp only;omega,by dsimp only;omega,hjb,fun _=>hb,hhi⟩
   ·have e2:decide ((i:Int)<(j:Int))=false:=decide_eq_false om
    have hij':i=j:=by omega
    subst hij'
    have b1:=asc_above (x:=z a) ok (har.sub (Nat.le_refl _) (show i≤b from hjb)) (fun h=>hlo h)
    have b2:=asc_below (x:=z a) ok (har.sub hi (Nat.le_refl b)) hhi
    refine yGNG (oj e1 e2) ?_
    refine aw_lp (fun x:Nat×(Nat→Int)=>[(0,.c (.osl g 1 0 N)),(4,.c (fnC fc caps)),(10,.c (.int .i64 i)),(13,.c (.int .i64 x.1))]) (fun x=>(g,.cells 3 N (gF x.2))::Hc)
     (fun x=>a≤x.1∧x.1+1≤i∧RotR z x.2 a (a+1) (x.1+1)) (fun x=>i-x.1) (a,z) (zB (oj e1 e2)) (List.Sublist.refl _) ⟨Nat.le_refl _,hi,RotR.refl z a (a+1)⟩ ?_
    rintro ⟨k,w⟩ ⟨k1,k2,hr⟩
    dsimp only at k1 k2 hr⊢
    by_cases hk:k+1<i
    ·have e3:decide ((k:Int)<(i:Int)-1)=true:=decide_eq_true om
     have ex:((k:Int)+1).toNat=k+1:=by omega
     have J3:=oj e1 (oj e2 (oj e3 ex))
     refine yGPG J3 ?_
     refine aw_cw ([(g,.cells 3 N (gF w))]) [(0,0),(1,0),(5,0),(6,0),(7,0),(8,0),(9,0),(10,0),(11,0),(12,0),(13,0),(14,0),(2,3),(3,3),(4,3),(15,2),(16,0),(17,2)] ty_mixed (by kernel_rfl) eI ?_
     refine yG J3 ?_
     iterate 3 (refine wc3 rfl rfl fun R r=> ?_;simp only [go_sem,e1,e2,e3,ex];with_reducible show R (some _);with_reducible refine r _ _ ?_;clear r R)
     have J4:=oj e1 (oj e2 (oj e3 ex))
     refine yS J4 ?_
     refine cw_store (FP':=[]) rfl rfl rfl rfl rfl (zE J4) (zE J4) (zE J4) (zE J4) (fun _ e=>by cases e) rfl rfl (by show k+1≤N;omega) rfl has0_nil ?_
     simp only [AV.cells]
     refine ySG J4 ?_
     refine cw_store (FP':=[]) rfl rfl rfl rfl rfl (zE J4) (zE J4) (zE J4) (zE J4) (fun _ e=>by cases e) rfl rfl (by show(k+1)+1≤N;omega) rfl has0_nil ?_
     simp only [AV.cells]
     rw [updF_gF,updF_gF,swap_upd]
     refine ySG J4 ?_
     exact aw_stop ⟨(k+1,swapR w k (k+1)),by dsimp only;omega,(zB J4),List.Sublist.refl _,by dsimp only;omega,by dsimp only;omega,rot_up hr k1⟩
    ·have e3:decide ((k:Int)<(i:Int)-1)=false:=decide_eq_false om
     have hki:k+1=i:=by omega
     have J5:=oj e1 (oj e2 e3)
     refine yGNG J5 ?_
     refine yU J5 ?_
     rw [hki] at hr
     obtain⟨s1,s2⟩:=ins_first (lt:=lt) hi hjb har hr b1 b2
     exact⟨w,s1,s2,rfl,rfl⟩
  ·have e1:(((m:Int)-(a:Int))==1)=false:=by simp;omega
   by_cases c2:b=m+1
   ·have e2:(((b:Int)-(m:Int))==1)=true:=by simp;omega
    subst c2
    refine fh_of_body Tryz.func184 rfl rfl (by simp [Tryz.ntmps184]) fun C hC=> ?_
    simp only [initS,Nat.reduceAdd]
    have J6:=oj e1 e2
    refine yGNG J6 ?_
    refine yP J6 ?_
    refine yG J6 ?_
    refine aw_lp (fun x:Nat×Nat=>[(0,.c (.osl g 1 0 N)),(2,.c (.int .i64 m)),(4,.c (fnC fc caps)),(14,.c (.int .i64 x.1)),(15,.c (.int .i64 x.2))]) (fun x=>(g,.cells 3 N (gF z))::Hc)
     (fun x=>a≤x.1∧x.1≤x.2∧x.2≤m∧(a<x.1→lt (z (x.1-1)) (z m)=true)∧(x.2<m→lt (z m) (z x.2)=true)) (fun x=>x.2-x.1) (a,m) (zB J6) (List.Sublist.refl _) ⟨Nat.le_refl _,by dsimp only;omega,Nat.le_refl _,fun h=>by dsimp only at h;omega,fun h=>by dsimp only at h;omega⟩ ?_
    rintro ⟨i,j⟩ ⟨hi,hij,hjb,hlo,hhi⟩
    dsimp only at hi hij hjb hlo hhi⊢
    by_cases hlt2:i<j
    ·have e3:decide ((i:Int)<(j:Int))=true:=decide_eq_true om
     obtain⟨c,hc⟩:∃c,c=(i+j)/2:=⟨_,rfl⟩
     have hf:=half_u (i:=i) (j:=j) om hc
     have hci:i≤c:=by omega
     have hcj:c<j:=by omega
     have ex:=hcr c m om om (Nat.le_refl _) om
     obtain⟨v0,v1⟩:=hin m om om
     obtain⟨u0,u1⟩:=hin c om om
     have hcl:=hlt (z m) (z c) ex
     have J7:=oj e1 (oj e2 (oj e3 hf))
     refine yGPG J7 ?_
     refine aw_cw ([(g,.cells 3 N (gF z))]) [(0,0),(1,0),(2,0),(3,0),(4,0),(5,0),(6,0),(7,0),(8,0),(9,1),(10,0),(11,0)] ty_mixed (by kernel_rfl) eI ?_
     refine yG J7 ?_
     refine cw_callhv (gs:=caps) (hc:=Hc) (hr:=[(g,.cells 3 N (gF z))]) rfl (hcb (z m) (z c) v0 v1 u0 u1) rfl rfl rfl (zE J7) (List.perm_append_comm (l₁:=[(g,_)])) (zL J7) (by
      rintro _ _ ⟨_,rfl,_,rfl⟩;exact has0_app2 eI) ?_ (hm:=.inr ⟨rfl,rfl⟩)
     rintro _ _ ⟨cv,rfl,hcv,rfl⟩ _
     refine cw_perm List.perm_append_comm ?_
     simp only [List.cons_append,List.nil_append]
     rw [hcl] at hcv
     have J8:=oj e1 (oj e2 (oj e3 (oj hf hcv)))
     refine ySG J8 ?_
     cases hb:lt (z m) (z c)
     ·refine ySGPG J8 ?_
      exact aw_stop ⟨(c+1,j),by dsimp only;omega,(zB J8),List.Sublist.refl _,by dsimp only;omega,by dsimp only;omega,hjb,fun _=>ok.total (z m) (z c) (fun e=>by omega) hb,hhi⟩
     ·refine ySGNG J8 ?_
      exact aw_stop ⟨(i,c),by dsimp only;omega,(zB J8),List.Sublist.refl _,hi,hci,by dsimp only;omega,hlo,fun _=>hb⟩
    ·have e3:decide ((i:Int)<(j:Int))=false:=decide_eq_false om
     have hij':i=j:=by omega
     subst hij'
     have b1:=asc_above (x:=z m) ok (hal.sub (Nat.le_refl _) (show i≤m from hjb)) (fun h=>hlo h)
     have b2:=asc_below (x:=z m) ok (hal.sub hi (Nat.le_refl m)) hhi
     have J9:=oj e1 (oj e2 e3)
     refine yGNG J9 ?_
     refine aw_lp (fun x:Nat×(Nat→Int)=>[(0,.c (.osl g 1 0 N)),(4,.c (fnC fc caps)),(14,.c (.int .i64 i)),(17,.c (.int .i64 x.1))]) (fun x=>(g,.cells 3 N (gF x.2))::Hc)
      (fun x=>i≤x.1∧x.1≤m∧RotR z x.2 x.1 m (m+1)) (fun x=>x.1) (m,z) (zB J9) (List.Sublist.refl _) ⟨hjb,Nat.le_refl _,RotR.refl' z m (m+1)⟩ ?_
     rintro ⟨k,w⟩ ⟨k1,k2,hr⟩
     dsimp only at k1 k2 hr⊢
     by_cases hk:i<k
     ·have e4:decide ((k:Int)>(i:Int))=true:=decide_eq_true om
      have ex:((k:Int)-1).toNat=k-1:=by omega
      have J10:=oj e1 (oj e2 (oj e3 (oj e4 ex)))
      refine yGPG J10 ?_
      refine aw_cw ([(g,.cells 3 N (gF w))]) [(0,0),(1,0),(5,0),(6,0),(7,0),(8,0),(9,0),(10,0),(11,0),(12,0),(13,0),(14,0),(2,3),(3,3),(4,3),(15,2),(16,0),(17,2)] ty_mixed (by kernel_rfl) eI ?_
      refine yG J10 ?_
      iterate 3 (refine wc3 rfl rfl fun R r=> ?_;simp only [go_sem,e1,e2,e3,e4,ex];with_reducible show R (some _);with_reducible refine r _ _ ?_;clear r R)
      have J11:=oj e1 (oj e2 (oj e3 (oj e4 ex)))
      refine yS J11 ?_
      refine cw_store (FP':=[]) rfl rfl rfl rfl rfl (zE J11) (zE J11) (zE J11) (zE J11) (fun _ e=>by cases e) rfl rfl (by show k+1≤N;omega) rfl has0_nil ?_
      simp only [AV.cells]
      refine ySG J11 ?_
      refine cw_store (FP':=[]) rfl rfl rfl rfl rfl (zE J11) (zE J11) (zE J11) (zE J11) (fun _ e=>by cases e) rfl rfl (by show(k-1)+1≤N;omega) rfl has0_nil ?_
      simp only [AV.cells]
      rw [updF_gF,updF_gF,swap_upd]
      refine ySG J11 ?_
      exact aw_stop ⟨(k-1,swapR w k (k-1)),by dsimp only;omega,(zB J11),List.Sublist.refl _,by dsimp only;omega,by dsimp only;omega,rot_down hr om k2⟩
     ·have e4:decide ((k:Int)>(i:Int))=false:=decide_eq_false om
      have hki:k=i:=by omega
      subst hki
      have J12:=oj e1 (oj e2 (oj e3 e4))
      refine yGNG J12 ?_
      refine yU J12 ?_
      obtain⟨s1,s2⟩:=ins_last (lt:=lt) hi hjb hal hr b1 b2
      exact⟨w,s1,s2,rfl,rfl⟩
   ·have e2:(((b:Int)-(m:Int))==1)=false:=by simp;omega
    obtain⟨mid,hmid⟩:∃c,c=(a+b)/2:=⟨_,rfl⟩
    have hf:=half_u (i:=a) (j:=b) om hmid
    obtain⟨n,hn⟩:∃n,n=mid+m:=⟨_,rfl⟩
    refine fh_of_body Tryz.func184 rfl rfl (by simp [Tryz.ntmps184]) fun C hC=> ?_
    simp only [initS,Nat.reduceAdd]
    have J13:=oj e1 (oj e2 hf)
    refine yGNG J13 ?_
    refine yN J13 ?_
    refine yG J13 ?_
    refine aw_cut (fun x:Nat×Nat=>[(0,.c (.osl g 1 0 N)),(1,.c (.int .i64 a)),(2,.c (.int .i64 m)),(3,.c (.int .i64 b)),(4,.c (fnC fc caps)),(18,.c (.int .i64 mid)),(19,.c (.int .i64 n)),(20,.c (.int .i64 x.1)),(21,.c (.int .i64 x.2))]) (fun _=>(g,.cells 3 N (gF z))::Hc) (fun x=>(mid<m∧x.1=n-b∧x.2=mid)∨(m≤mid∧x.1=a∧x.2=m)) ?_ ?_
    ·by_cases c3:mid<m
     ·have e3:decide ((m:Int)>(mid:Int))=true:=decide_eq_true om
      have J14:=oj e1 (oj e2 (oj hf e3))
      refine yS J14 ?_
      refine yP J14 ?_
      refine yG J14 ?_
      exact aw_stop ⟨(n-b,mid),(zB J14),List.Sublist.refl _,.inl ⟨c3,rfl,rfl⟩⟩
     ·have e3:decide ((m:Int)>(mid:Int))=false:=decide_eq_false om
      have J15:=oj e1 (oj e2 (oj hf e3))
      refine yS J15 ?_
      refine yN J15 ?_
      refine yG J15 ?_
      exact aw_stop ⟨(a,m),(zB J15),List.Sublist.refl _,.inr ⟨by omega,rfl,rfl⟩⟩
    rintro ⟨s0,r0⟩ h0
    dsimp only at h0⊢
    have b0:a≤s0∧s0≤r0∧r0≤m∧r0≤mid∧n≤s0+b:=by omega
    refine yG J13 ?_
    refine aw_lp (fun x:Nat×Nat=>[(0,.c (.osl g 1 0 N)),(1,.c (.int .i64 a)),(2,.c (.int .i64 m)),(3,.c (.int .i64 b)),(4,.c (fnC fc caps)),(18,.c (.int .i64 mid)),(19,.c (.int .i64 n)),(20,.c (.int .i64 x.1)),(21,.c (.int .i64 x.2)),(22,.c (.int .i64 (n-1:Nat)))]) (fun x=>(g,.cells 3 N (gF z))::Hc)
     (fun x=>s0≤x.1∧x.1≤x.2∧x.2≤r0∧(s0<x.1→lt (z (x.1-1)) (z (n-x.1))=true)∧(x.2<r0→lt (z (n-1-x.2)) (z x.2)=true)) (fun x=>x.2-x.1) (s0,r0) (zB J13) (List.Sublist.refl _) ⟨Nat.le_refl _,b0.2.1,Nat.le_refl _,fun h=>by dsimp only at h;omega,fun h=>by dsimp only at h;omega⟩ ?_
    rintro ⟨i,j⟩ ⟨hi,hij,hjb,hlo,hhi⟩
    dsimp only at hi hij hjb hlo hhi⊢
    by_cases hlt2:i<j
    ·have e3:decide ((i:Int)<(j:Int))=true:=decide_eq_true om
     obtain⟨c,hc⟩:∃c,c=(i+j)/2:=⟨_,rfl⟩
     have hf2:=half_u (i:=i) (j:=j) om hc
     have hci:i≤c:=by omega
     have hcj:c<j:=by omega
     have q1:m≤n-1-c:=by omega
     have q2:n-1-c<b:=by omega
     have ei:(((n-1:Nat):Int)-(c:Int)).toNat=n-1-c:=by omega
     have ex:=hcr c (n-1-c) om om q1 q2
     obtain⟨v0,v1⟩:=hin (n-1-c) om om
     obtain⟨u0,u1⟩:=hin c om om
     have hcl:=hlt (z (n-1-c)) (z c) ex
     have J16:=oj e1 (oj e2 (oj hf (oj e3 (oj hf2 ei))))
     refine yGPG J16 ?_
     refine aw_cw ([(g,.cells 3 N (gF z))]) [(0,0),(1,0),(2,0),(3,0),(4,0),(5,0),(6,0),(7,0),(8,0),(9,0),(10,0),(11,1),(12,0),(13,0)] ty_mixed (by kernel_rfl) eI ?_
     refine yG J16 ?_
     refine cw_callhv (gs:=caps) (hc:=Hc) (hr:=[(g,.cells 3 N (gF z))]) rfl (hcb (z (n-1-c)) (z c) v0 v1 u0 u1) rfl rfl rfl (zE J16) (List.perm_append_comm (l₁:=[(g,_)])) (zL J16) (by
      rintro _ _ ⟨_,rfl,_,rfl⟩;exact has0_app2 eI) ?_ (hm:=.inr ⟨rfl,rfl⟩)
     rintro _ _ ⟨cv,rfl,hcv,rfl⟩ _
     refine cw_perm List.perm_append_comm ?_
     simp only [List.cons_append,List.nil_append]
     rw [hcl] at hcv
     have J17:=oj e1 (oj e2 (oj hf (oj e3 (oj hf2 (oj ei hcv)))))
     refine ySG J17 ?_
     cases hb:lt (z (n-1-c)) (z c)
     ·refine ySGPG J17 ?_
      exact aw_stop ⟨(c+1,j),by dsimp only;omega,(zB J17),List.Sublist.refl _,by dsimp only;omega,by dsimp only;omega,hjb,fun _=>(by
       dsimp only
       rw [show c+1-1=c from by omega,show n-(c+1)=n-1-c from by omega]
       exact ok.total (z (n-1-c)) (z c) (fun e=>by omega) hb),hhi⟩
     ·refine ySGNG J17 ?_
      exact aw_stop ⟨(i,c),by dsimp only;omega,(zB J17),List.Sublist.refl _,hi,hci,by dsimp only;omega,hlo,fun _=>hb⟩
    ·have e3:decide ((i:Int)<(j:Int))=false:=decide_eq_false om
     have hij':i=j:=by omega
     subst hij'
     obtain⟨hq,hE⟩:=sym_of ok ham hmb hmid hn h0 hal har hi hjb hlo hhi
     obtain⟨e,he⟩:∃e,e=n-i:=⟨_,rfl⟩
     rw [←he] at hq hE
     have qa:=hq.aS
     have qs:=hq.sm
     have qm:=hq.me
     have qe:=hq.eb
     clear hlo hhi h0 b0 hi hij hjb hlt2 J13
     have J18:=oj e1 (oj e2 (oj hf e3))
     refine yG J18 ?_
     refine yN J18 ?_
     apply wa5 rfl
     apply wa1
     apply wa6
     refine yH J18 ?_
     apply wa1
     refine aw_cut (fun w:Nat→Int=>[(0,.c (.osl g 1 0 N)),(1,.c (.int .i64 a)),(3,.c (.int .i64 b)),(4,.c (fnC fc caps)),(18,.c (.int .i64 mid)),(20,.c (.int .i64 i)),(24,.c (.int .i64 e))]) (fun w=>(g,.cells 3 N (gF w))::Hc) (fun w=>RotR z w i m e) ?_ ?_
     ·have ee:(n:Int)-(i:Int)=(e:Int):=by omega
      by_cases c4:i<m
      ·have d1:decide ((i:Int)<(m:Int))=true:=decide_eq_true om
       by_cases c5:m<e
       ·have d2:decide ((m:Int)<(e:Int))=true:=decide_eq_true om
        have J19:=oj e1 (oj e2 (oj hf (oj e3 (oj ee (oj d1 d2)))))
        refine ySGPG J19 ?_
        refine aw_callh (hc:=[(g,.cells 3 N (gF z))]) (hr:=Hc) (rotate_fh g fc caps N i m e c4 c5 om hN z) rfl rfl rfl (.refl _) (zL J19) ?_
        rintro _ _ ⟨y,hx,rfl,rfl⟩ _
        refine ySG J19 ?_
        exact aw_stop ⟨y,(zB J19),List.Sublist.refl _,hx⟩
       ·have d2:decide ((m:Int)<(e:Int))=false:=decide_eq_false om
        have:e=m:=by omega
        have J20:=oj e1 (oj e2 (oj hf (oj e3 (oj ee (oj d1 d2)))))
        refine ySGNG J20 ?_
        exact aw_stop ⟨z,(zB J20),List.Sublist.refl _,by rw [this];exact RotR.refl z i m⟩
      ·have d1:decide ((i:Int)<(m:Int))=false:=decide_eq_false om
       have:i=m:=by omega
       have J21:=oj e1 (oj e2 (oj hf (oj e3 (oj ee d1))))
       refine ySGNG J21 ?_
       exact aw_stop ⟨z,(zB J21),List.Sublist.refl _,by rw [this];exact RotR.refl' z m e⟩
     intro w hr
     obtain⟨p1,p2,p3,p4,p5⟩:=hq.parts hr
     have hinw:=hin.shuf (hr.shuf qs qm) qa qe
     have x1:=hcr.rot1 hr qs qe
     have x2:=hcr.rot2 hr qa qs qm
     rw [hE] at p2 p3 x1 x2
     apply wa1
     refine aw_cut (fun w:Nat→Int=>[(0,.c (.osl g 1 0 N)),(3,.c (.int .i64 b)),(4,.c (fnC fc caps)),(18,.c (.int .i64 mid)),(24,.c (.int .i64 e))]) (fun w=>(g,.cells 3 N (gF w))::Hc) (fun k=>ShufR w k a mid∧AscR lt k a mid) ?_ ?_
     ·by_cases c4:a<i
      ·have d1:decide ((a:Int)<(i:Int))=true:=decide_eq_true om
       by_cases c5:i<mid
       ·have d2:decide ((i:Int)<(mid:Int))=true:=decide_eq_true om
        have J22:=oj e1 (oj e2 (oj hf (oj e3 (oj d1 d2))))
        refine ySGPG J22 ?_
        refine aw_callh (hc:=(g,.cells 3 N (gF w))::Hc) (hr:=[]) (ih a i mid w om c4 c5 om (hinw.sub (Nat.le_refl _) om) p1 p2 x1) rfl rfl rfl (by rw [List.append_nil]) (zL J22) ?_
        rintro _ _ ⟨y,y1,y2,rfl,rfl⟩ _
        refine ySG J22 ?_
        exact aw_stop ⟨y,(zB J22),List.Sublist.refl _,y1,y2⟩
       ·have d2:decide ((i:Int)<(mid:Int))=false:=decide_eq_false om
        have:mid=i:=by omega
        have J23:=oj e1 (oj e2 (oj hf (oj e3 (oj d1 d2))))
        refine ySGNG J23 ?_
        exact aw_stop ⟨w,(zB J23),List.Sublist.refl _,ShufR.refl _ _ _,by rw [this];exact p1⟩
      ·have d1:decide ((a:Int)<(i:Int))=false:=decide_eq_false om
       have:i=a:=by omega
       have J24:=oj e1 (oj e2 (oj hf (oj e3 d1)))
       refine ySGNG J24 ?_
       exact aw_stop ⟨w,(zB J24),List.Sublist.refl _,ShufR.refl _ _ _,by rw [this] at p2;exact p2⟩
     rintro k ⟨k1,k2⟩
     have kin:=hinw.shuf k1 (Nat.le_refl _) om
     have p3':=p3.same (h:=k) fun j j1 _=>k1.out j (.inr j1)
     have p4':=p4.same (h:=k) fun j j1 _=>k1.out j (.inr om)
     have x2':=x2.same (h:=k) fun j j1 _=>k1.out j (.inr j1)
     have fin:∀y,ShufR k y mid b→AscR lt y mid b→ShufR z y a b∧AscR lt y a b:=fun y y1 y2=>by
      rw [←hE] at k1 k2 y1 y2
      exact hq.done hr k1 k2 y1 y2
     by_cases c4:mid<e
     ·have d1:decide ((mid:Int)<(e:Int))=true:=decide_eq_true om
      by_cases c5:e<b
      ·have d2:decide ((e:Int)<(b:Int))=true:=decide_eq_true om
       have J25:=oj e1 (oj e2 (oj hf (oj e3 (oj d1 d2))))
       refine ySGPG J25 ?_
       refine aw_callh (hc:=(g,.cells 3 N (gF k))::Hc) (hr:=[]) (ih mid e b k om c4 c5 hbN (kin.sub om (Nat.le_refl _)) p3' p4' x2') rfl rfl rfl (by rw [List.append_nil]) (zL J25) ?_
       rintro _ _ ⟨y,y1,y2,rfl,rfl⟩ _
       obtain⟨f1,f2⟩:=fin y y1 y2
       refine ySG J25 ?_
       refine yV J25 ?_
       exact⟨y,f1,f2,rfl,rfl⟩
      ·have d2:decide ((e:Int)<(b:Int))=false:=decide_eq_false om
       have:e=b:=by omega
       obtain⟨f1,f2⟩:=fin k (ShufR.refl _ _ _) (by rw [←this];exact p3')
       have J26:=oj e1 (oj e2 (oj hf (oj e3 (oj d1 d2))))
       refine ySGNG J26 ?_
       refine yV J26 ?_
       exact⟨k,f1,f2,rfl,rfl⟩
     ·have d1:decide ((mid:Int)<(e:Int))=false:=decide_eq_false om
      have:e=mid:=by omega
      obtain⟨f1,f2⟩:=fin k (ShufR.refl _ _ _) (by rw [this] at p4';exact p4')
      have J27:=oj e1 (oj e2 (oj hf (oj e3 d1)))
      refine ySGNG J27 ?_
      refine yV J27 ?_
      exact⟨k,f1,f2,rfl,rfl⟩
end Go.Proofs.YtfcnbgmclfkfcaaGreat
namespace Go.PN
theorem gap_le {s a x:Nat} (ha:s∣a) (hx:s∣x) (h:x<a):x+s≤a:=by
 rcases Nat.lt_or_ge a (x+s) with h2|h2
 ·have:=dvd_gap hx ha om h2
  omega
 ·exact h2
def BlkR (lt:Int→Int→Bool) (y:Nat→Int) (s n:Nat):Prop:=∀x,s∣x→x<n→GoodR lt y s n x
theorem BlkR.done {lt:Int→Int→Bool} {y:Nat→Int} {s n:Nat} (h:BlkR lt y s n) (hs:n≤s):IdR y 0 n∧AscR lt y 0 n:=by
 rcases Nat.eq_zero_or_pos n with h0|h0
 ·subst h0
  exact⟨fun x=>⟨fun⟨i,_,i2,_⟩=>by omega,fun h=>by omega⟩,fun i j _ _ h3=>by omega⟩
 ·have:=h 0 (Nat.dvd_zero s) h0
  unfold GoodR at this
  rwa [Nat.zero_add,Nat.min_eq_right hs] at this
structure MrgR (lt:Int→Int→Bool) (y:Nat→Int) (s n a:Nat):Prop where
 dvd:2*s∣a
 lo:∀x,2*s∣x→x<a→GoodR lt y (2*s) n x
 hi:∀x,s∣x→a≤x→x<n→GoodR lt y s n x
theorem MrgR.start {lt:Int→Int→Bool} {y:Nat→Int} {s n:Nat} (h:BlkR lt y s n):MrgR lt y s n 0:=⟨Nat.dvd_zero _,fun x _ hx=>by omega,fun x h1 _ h3=>h x h1 h3⟩
theorem MrgR.sdvd {lt:Int→Int→Bool} {y:Nat→Int} {s n a:Nat} (h:MrgR lt y s n a):s∣a:=Nat.dvd_trans (Nat.dvd_mul_left s 2) h.dvd
theorem MrgR.pre {lt:Int→Int→Bool} {y:Nat→Int} {s n a b:Nat} (h:MrgR lt y s n a) (hs:0<s) (hm:a+s<n) (hb:b=min (a+2*s) n):IdR y a b∧AscR lt y a (a+s)∧AscR lt y (a+s) b∧CrossR y a (a+s) b:=by
 obtain⟨i1,q1⟩:=h.hi a h.sdvd (Nat.le_refl _) om
 obtain⟨i2,q2⟩:=h.hi (a+s) (Nat.dvd_add h.sdvd (Nat.dvd_refl s)) om hm
 rw [show min (a+s) n=a+s from by omega] at i1 q1
 rw [show min (a+s+s) n=b from by omega] at i2 q2
 exact⟨i1.join om om i2,q1,q2,cross_id i1 i2⟩
theorem MrgR.step {lt:Int→Int→Bool} {y y':Nat→Int} {s n a:Nat} (h:MrgR lt y s n a) (hs:0<s) (hb:a+2*s≤n) (p:ShufR y y' a (a+2*s)) (q:AscR lt y' a (a+2*s)):MrgR lt y' s n (a+2*s):=by
 have hp:=(h.pre hs om (show a+2*s=min (a+2*s) n by omega)).1
 refine⟨Nat.dvd_add h.dvd (Nat.dvd_refl _),fun x h1 h2=> ?_,fun x h1 h2 h3=> ?_⟩
 ·rcases Nat.lt_or_ge x a with hx|hx
  ·have:=gap_le h.dvd h1 hx
   exact(h.lo x h1 hx).same fun i i1 i2=>p.out i (.inl om)
  ·have:=dvd_gap h.dvd h1 hx h2
   subst this
   unfold GoodR
   rw [show min (x+2*s) n=x+2*s from by omega]
   exact⟨hp.shuf p,q⟩
 ·exact(h.hi x h1 om h3).same fun i i1 _=>p.out i (.inr om)
theorem MrgR.last {lt:Int→Int→Bool} {y y':Nat→Int} {s n a:Nat} (h:MrgR lt y s n a) (hs:0<s) (hb:n<a+2*s) (hk:(a+s<n∧ShufR y y' a n∧AscR lt y' a n)∨(n≤a+s∧y'=y)):BlkR lt y' (2*s) n:=fun x h1 h2=>by
 rcases Nat.lt_or_ge x a with hx|hx
 ·have:=gap_le h.dvd h1 hx
  refine(h.lo x h1 hx).same fun i i1 i2=> ?_
  rcases hk with ⟨_,p,_⟩|⟨_,rfl⟩
  ·exact p.out i (.inl om)
  ·rfl
 ·have:=dvd_gap h.dvd h1 hx om
  subst this
  rcases hk with ⟨hm,p,q⟩|⟨hm,rfl⟩
  ·have hp:=(h.pre hs hm (show n=min (x+2*s) n by omega)).1
   unfold GoodR
   rw [show min (x+2*s) n=n from by omega]
   exact⟨hp.shuf p,q⟩
  ·have:=h.hi x h.sdvd (Nat.le_refl _) h2
   unfold GoodR at this⊢
   rw [show min (x+s) n=n from by omega] at this
   rw [show min (x+2*s) n=n from by omega]
   exact this
structure FstR (lt:Int→Int→Bool) (y:Nat→Int) (s n a:Nat):Prop where
 dvd:s∣a
 lo:∀x,s∣x→x<a→GoodR lt y s n x
 hi:∀i,a≤i→i<n→y i=i
theorem FstR.step {lt:Int→Int→Bool} {y y':Nat→Int} {s n a b:Nat} (h:FstR lt y s n a) (hs:0<s) (hab:a≤b) (hb:b=min (a+s) n) (p:ShufR y y' a b) (q:AscR lt y' a b):(∀x,s∣x→x<a+s→x<n→GoodR lt y' s n x)∧∀i,b≤i→i<n→y' i=i:=by
 refine⟨fun x h1 h2 h3=> ?_,fun i i1 i2=>by rw [p.out i (.inr i1)];exact h.hi i om i2⟩
 rcases Nat.lt_or_ge x a with hx|hx
 ·have:=gap_le h.dvd h1 hx
  exact(h.lo x h1 hx).same fun i i1 i2=>p.out i (.inl om)
 ·have:=dvd_gap h.dvd h1 hx h2
  subst this
  unfold GoodR
  rw [←hb]
  exact⟨(idR_start fun i i1 i2=>h.hi i i1 om).shuf p,q⟩
end Go.PN
namespace Go.Proofs.YtfcnbgmclfkfcaaGreat
open Go.AI Go.PN
attribute [local irreducible] aw Fa Fh DrK
set_option maxRecDepth 100000 in
set_option maxHeartbeats 6400000 in
theorem stable_fh (g:Nat) (fc:FuncId) (caps:List Nat) (Hc:Heap) (N:Nat) (cb lt:Int→Int→Bool) (hcb:CmpK Tryz.prog fc caps Hc N cb) (hlt:∀x y:Int,y<x→cb x y=lt x y) (ok:LtOk lt) (hN:N≤1000000) (z:Nat→Int) (hz:∀i,i<N→z i=i) (hgc:g∉Hc.keys):
 Fh Tryz.prog 145 ((g,.cells 3 N (gF z))::Hc) [.c (.osl g 1 0 N),.c (.int .i64 N),.c (fnC fc caps)] (fun r h=>∃y,IdR y 0 N∧AscR lt y 0 N∧r=.tup []∧h=(g,.cells 3 N (gF y))::Hc):=by
 refine fh_of_body Tryz.func145 rfl rfl (by simp [Tryz.ntmps145]) fun C hC=> ?_
 simp only [initS,Nat.reduceAdd]
 refine xG ?_
 refine aw_lp (fun x:Nat×(Nat→Int)=>[(0,.c (.osl g 1 0 N)),(1,.c (.int .i64 N)),(2,.c (fnC fc caps)),(6,.c (.int .i64 20)),(7,.c (.int .i64 x.1)),(8,.c (.int .i64 (x.1+20:Nat)))]) (fun x=>(g,.cells 3 N (gF x.2))::Hc)
  (fun x=>x.1≤N∧FstR lt x.2 20 N x.1) (fun x=>N-x.1) (0,z) eB (List.Sublist.refl _) ⟨Nat.zero_le _,Nat.dvd_zero _,fun x _ h=>by dsimp only at h;omega,fun i _ h=>hz i h⟩ ?_
 rintro ⟨a,y⟩ ⟨ha,hy⟩
 dsimp only at ha hy⊢
 by_cases h1:a+20≤N
 ·have e1:decide (((a+20:Nat):Int)≤(N:Int))=true:=decide_eq_true om
  refine yGPG e1 ?_
  refine aw_callh (hc:=(g,.cells 3 N (gF y))::Hc) (hr:=[]) (isort_fh g fc caps Hc N cb lt hcb hlt ok a (a+20) om h1 hN y (fun i i1 i2=>hy.hi i i1 om) hgc) rfl rfl rfl (by rw [List.append_nil]) (zL e1) ?_
  rintro _ _ ⟨y',p,q,rfl,rfl⟩ _
  have hs:=hy.step om om (show a+20=min (a+20) N by omega) p q
  rw [List.append_nil]
  refine ySG e1 ?_
  exact aw_stop ⟨(a+20,y'),by dsimp only;omega,(zB e1),List.Sublist.refl _,h1,Nat.dvd_add hy.dvd (Nat.dvd_refl _),fun x x1 x2=>hs.1 x x1 x2 (by dsimp only at x2;omega),fun i i1 i2=>hs.2 i i1 i2⟩
 ·have e1:decide (((a+20:Nat):Int)≤(N:Int))=false:=decide_eq_false om
  refine yGNG e1 ?_
  refine aw_callh (hc:=(g,.cells 3 N (gF y))::Hc) (hr:=[]) (isort_fh g fc caps Hc N cb lt hcb hlt ok a N ha (Nat.le_refl _) hN y (fun i i1 i2=>hy.hi i i1 om) hgc) rfl rfl rfl (by rw [List.append_nil]) (zL e1) ?_
  rintro _ _ ⟨y',p,q,rfl,rfl⟩ _
  have hs:=hy.step om ha (show N=min (a+20) N by omega) p q
  have hblk:BlkR lt y' 20 N:=fun x x1 x2=>hs.1 x x1 om x2
  clear hs p q hy e1 h1 ha
  rw [List.append_nil]
  refine xSG ?_
  refine aw_lp (fun x:Nat×(Nat→Int)=>[(0,.c (.osl g 1 0 N)),(1,.c (.int .i64 N)),(2,.c (fnC fc caps)),(6,.c (.int .i64 x.1))]) (fun x=>(g,.cells 3 N (gF x.2))::Hc)
   (fun x=>20≤x.1∧x.1≤2*N+20∧BlkR lt x.2 x.1 N) (fun x=>N-x.1) (20,y') eB (List.Sublist.refl _) ⟨Nat.le_refl _,by dsimp only;omega,hblk⟩ ?_
  clear hblk
  rintro ⟨s,y⟩ ⟨hs,hs2,hy⟩
  dsimp only at hs hs2 hy⊢
  by_cases h2:s<N
  ·have e2:decide ((s:Int)<(N:Int))=true:=decide_eq_true om
   refine yGPG e2 ?_
   refine aw_lp (fun x:Nat×(Nat→Int)=>[(0,.c (.osl g 1 0 N)),(1,.c (.int .i64 N)),(2,.c (fnC fc caps)),(6,.c (.int .i64 s)),(7,.c (.int .i64 x.1)),(8,.c (.int .i64 (x.1+2*s:Nat)))]) (fun x=>(g,.cells 3 N (gF x.2))::Hc)
    (fun x=>x.1≤N∧MrgR lt x.2 s N x.1) (fun x=>N-x.1) (0,y) (zB e2) (List.Sublist.refl _) ⟨Nat.zero_le _,MrgR.start hy⟩ ?_
   rintro ⟨a,w⟩ ⟨ha,hw⟩
   dsimp only at ha hw⊢
   by_cases h3:a+2*s≤N
   ·have e3:decide (((a+2*s:Nat):Int)≤(N:Int))=true:=decide_eq_true om
    have hp:=hw.pre om om (show a+2*s=min (a+2*s) N by omega)
    have hsy:=sym_fh g fc caps Hc N cb lt hcb hlt ok hN (a+2*s) a (a+s) (a+2*s) w om om om h3 (hp.1.inR h3) hp.2.1 hp.2.2.1 hp.2.2.2
    have c1:((a+s:Nat):Int)=(a:Int)+(s:Int):=by omega
    rw [c1] at hsy
    have J1:=oj e2 e3
    refine yGPG J1 ?_
    refine aw_callh (hc:=(g,.cells 3 N (gF w))::Hc) (hr:=[]) hsy rfl rfl rfl (by rw [List.append_nil]) (zL J1) ?_
    rintro _ _ ⟨w',p,q,rfl,rfl⟩ _
    rw [List.append_nil]
    refine ySG J1 ?_
    exact aw_stop ⟨(a+2*s,w'),by dsimp only;omega,(zB J1),List.Sublist.refl _,h3,hw.step om h3 p q⟩
   ·have e3:decide (((a+2*s:Nat):Int)≤(N:Int))=false:=decide_eq_false om
    by_cases h4:a+s<N
    ·have e4:decide ((a:Int)+(s:Int)<(N:Int))=true:=decide_eq_true om
     have hp:=hw.pre om h4 (show N=min (a+2*s) N by omega)
     have hsy:=sym_fh g fc caps Hc N cb lt hcb hlt ok hN N a (a+s) N w om om h4 (Nat.le_refl _) (hp.1.inR (Nat.le_refl _)) hp.2.1 hp.2.2.1 hp.2.2.2
     have c1:((a+s:Nat):Int)=(a:Int)+(s:Int):=by omega
     rw [c1] at hsy
     have J2:=oj e2 (oj e3 e4)
     refine yGNG J2 ?_
     refine yP J2 ?_
     refine yG J2 ?_
     refine aw_callh (hc:=(g,.cells 3 N (gF w))::Hc) (hr:=[]) hsy rfl rfl rfl (by rw [List.append_nil]) (zL J2) ?_
     rintro _ _ ⟨w',p,q,rfl,rfl⟩ _
     rw [List.append_nil]
     refine ySG J2 ?_
     exact aw_stop ⟨(2*s,w'),by dsimp only;omega,(zB J2),List.Sublist.refl _,by dsimp only;omega,by dsimp only;omega,hw.last om om (.inl ⟨h4,p,q⟩)⟩
    ·have e4:decide ((a:Int)+(s:Int)<(N:Int))=false:=decide_eq_false om
     have J3:=oj e2 (oj e3 e4)
     refine yGNG J3 ?_
     refine yN J3 ?_
     refine yG J3 ?_
     exact aw_stop ⟨(2*s,w),by dsimp only;omega,(zB J3),List.Sublist.refl _,by dsimp only;omega,by dsimp only;omega,hw.last om om (.inr ⟨by omega,rfl⟩)⟩
  ·have e2:decide ((s:Int)<(N:Int))=false:=decide_eq_false om
   obtain⟨f1,f2⟩:=hy.done om
   refine yGNG e2 ?_
   refine yV e2 ?_
   exact⟨y,f1,f2,rfl,rfl⟩
set_option maxRecDepth 100000 in
theorem sortS_fh (g:Nat) (fc:FuncId) (caps:List Nat) (Hc:Heap) (N:Nat) (cb lt:Int→Int→Bool) (hcb:CmpK Tryz.prog fc caps Hc N cb) (hlt:∀x y:Int,y<x→cb x y=lt x y) (ok:LtOk lt) (hN:N≤1000000) (z:Nat→Int) (hz:∀i,i<N→z i=i) (hgc:g∉Hc.keys):
 Fh Tryz.prog 92 ((g,.cells 3 N (gF z))::Hc) [.c (.osl g 1 0 N),.c (fnC fc caps)] (fun r h=>∃y,IdR y 0 N∧AscR lt y 0 N∧r=.tup []∧h=(g,.cells 3 N (gF y))::Hc):=by
 refine fh_of_body Tryz.func92 rfl rfl (by simp [Tryz.ntmps92]) fun C hC=> ?_
 simp only [initS,Nat.reduceAdd]
 refine xG ?_
 refine aw_callh (hc:=(g,.cells 3 N (gF z))::Hc) (hr:=[]) (stable_fh g fc caps Hc N cb lt hcb hlt ok hN z hz hgc) rfl rfl rfl (by rw [List.append_nil]) eL ?_
 rintro _ _ ⟨y,p,q,rfl,rfl⟩ _
 rw [List.append_nil]
 refine xSG ?_
 refine xV ?_
 exact⟨y,p,q,rfl,rfl⟩
end Go.Proofs.YtfcnbgmclfkfcaaGreat
namespace Go.PN
open Go.AI
def ltQ (k:Int→Rat) (x y:Int):Bool:=decide (k y<k x)||(decide (k x=k y)&&decide (x<y))
theorem ltQ_iff {k:Int→Rat} {x y:Int}:ltQ k x y=true↔k y<k x∨(k x=k y∧x<y):=by
 unfold ltQ
 simp
theorem ltQ_ok (k:Int→Rat):LtOk (ltQ k):=by
 refine⟨fun x=> ?_,fun x y z h1 h2=> ?_,fun x y hn h=> ?_⟩
 ·cases hb:ltQ k x x with
  |false=>rfl
  |true=>
   rcases ltQ_iff.1 hb with h|h
   ·exact absurd h Rat.lt_irrefl
   ·omega
 ·rw [ltQ_iff] at h1 h2⊢
  rcases h1 with h1|⟨h1,h1'⟩<;>rcases h2 with h2|⟨h2,h2'⟩
  ·left;grind
  ·left;grind
  ·left;grind
  ·right;exact⟨h1.trans h2,by omega⟩
 ·rw [ltQ_iff]
  have h':¬(k y<k x∨(k x=k y∧x<y)):=fun e=>by rw [ltQ_iff.2 e] at h;cases h
  by_cases h1:k y<k x
  ·exact absurd (.inl h1) h'
  ·by_cases h2:k x=k y
   ·right
    refine⟨h2.symm,?_⟩
    have:¬x<y:=fun e=>h' (.inr ⟨h2,e⟩)
    omega
   ·left
    have h3:k x≤k y:=Rat.not_lt.1 h1
    exact Rat.lt_of_le_of_ne h3 h2
theorem ltQ_cb {k:Int→Rat} {x y:Int} (h:y<x):decide (k y<k x)=ltQ k x y:=by
 unfold ltQ
 rw [decide_eq_false (show¬x<y by omega),Bool.and_false,Bool.or_false]
theorem signQ_lt0 (x:Rat):decide (signQ x<0)=decide (x<0):=by
 unfold signQ
 by_cases h0:x=0
 ·subst h0;rfl
 ·rw [if_neg h0]
  by_cases h1:x<0
  ·rw [if_pos h1,decide_eq_true h1];rfl
  ·rw [if_neg h1,decide_eq_false h1];rfl
theorem sub_lt0 (a b:Rat):decide (a-b<0)=decide (a<b):=by
 by_cases h:a<b
 ·rw [decide_eq_true h,decide_eq_true (by grind)]
 ·rw [decide_eq_false h,decide_eq_false (by grind)]
structure RnkOk (k:Int→Rat) (n:Nat) (L:List Int):Prop where
 asc:L.Pairwise fun x y=>ltQ k x y=true
 mem:∀x,x∈L↔0≤x∧x<n
theorem RnkOk.nodup {k:Int→Rat} {n:Nat} {L:List Int} (h:RnkOk k n L):L.Nodup:=h.asc.imp fun {a b} hl e=>by
 subst e
 rw [(ltQ_ok k).irrefl] at hl
 cases hl
theorem RnkOk.len {k:Int→Rat} {n:Nat} {L:List Int} (h:RnkOk k n L):L.length=n:=by
 have h1:=nodup_le (m:=(List.range n).map fun(i:Nat)=>(i:Int)) h.nodup (fun x hx=>by
  have:=(h.mem x).1 hx
  exact List.mem_map.2 ⟨x.toNat,List.mem_range.2 om,by omega⟩)
 have h2:=nodup_le (l:=(List.range n).map fun(i:Nat)=>(i:Int)) (m:=L) (List.Pairwise.map _ (fun a b (h:a≠b) (e:(a:Int)=b)=>h om) List.nodup_range) (fun x hx=>by
  obtain⟨q,hq,rfl⟩:=List.mem_map.1 hx
  rw [List.mem_range] at hq
  exact(h.mem _).2 ⟨by omega,by omega⟩)
 rw [List.length_map,List.length_range] at h1 h2
 omega
theorem RnkOk.asc0 {k:Int→Rat} {n:Nat} {L:List Int} (h:RnkOk k n L):AscR (ltQ k) (fun i=>L.getD i 0) 0 n:=fun i j _ h2 h3=>by
 have hl:=h.len
 have:=List.pairwise_iff_getElem.1 h.asc i j om om h2
 dsimp only
 rw [getDZ om,getDZ om]
 exact this
theorem rnk_of {k:Int→Rat} {n:Nat} {y:Nat→Int} (hi:IdR y 0 n) (ha:AscR (ltQ k) y 0 n):RnkOk k n ((List.range n).map y):=by
 refine⟨?_,fun x=> ?_⟩
 ·rw [List.pairwise_map]
  exact(List.pairwise_lt_range).imp_of_mem fun {a b} _ hb h=>ha a b (Nat.zero_le _) h (List.mem_range.1 hb)
 ·have:=hi x
  simp only [Int.natCast_zero] at this
  rw [←this]
  simp only [List.mem_map,List.mem_range,MemR]
  exact⟨fun⟨i,h1,h2⟩=>⟨i,Nat.zero_le _,h1,h2⟩,fun⟨i,_,h1,h2⟩=>⟨i,h1,h2⟩⟩
theorem RnkOk.le {k:Int→Rat} {n:Nat} {L:List Int} (h:RnkOk k n L) {i j:Nat} (hij:i≤j) (hj:j<L.length):k (L.getD j 0)≤k (L.getD i 0):=by
 rcases Nat.lt_or_ge i j with hl|hl
 ·have:=List.pairwise_iff_getElem.1 h.asc i j om om hl
  rw [getDZ om,getDZ om]
  rcases ltQ_iff.1 this with e|e
  ·exact Rat.le_of_lt e
  ·rw [e.1];exact Rat.le_refl
 ·rw [show i=j from by omega];exact Rat.le_refl
end Go.PN
namespace Go.AI
theorem make_gF:(fun j=>ofL [CV.int .i64 0] (j%1))=gF (fun _=>0):=by
 funext j
 show ofL [CV.int .i64 0] (j%1)=_
 rw [Nat.mod_one];rfl
end Go.AI
namespace Go.Proofs.YtfcnbgmclfkfcaaGreat
open Go.AI Go.PN
attribute [local irreducible] aw Fa Fh DrK
def kQ (p:List RD) (x:Int):Rat:=(p.getD x.toNat rd0).q
theorem kQ_nat (p:List RD) (i:Nat):kQ p (i:Int)=(p.getD i rd0).q:=by unfold kQ;rw [Int.toNat_natCast]
theorem getD_wf {p:List RD} {L:Nat} (hw:∀r∈p,r.wf L) {i:Nat} (hi:i<p.length):(p.getD i rd0).wf L:=by
 rw [List.getD_eq_getElem?_getD,List.getElem?_eq_getElem hi]
 exact hw _ (List.getElem_mem hi)
set_option maxHeartbeats 800000 in
theorem rank1_fh (gl:Nat) (p:List RD) (hw:∀r∈p,r.wf 500000000) (hpl:p.length≤1000000):CmpK Tryz.prog 93 [gl] [(gl,.cells 25 1 (ofL [rats false p]))] p.length (fun x y=>decide (kQ p y<kQ p x)):=by
 intro x y x0 x1 y0 y1
 obtain⟨i,rfl⟩:=Int.eq_ofNat_of_zero_le x0
 obtain⟨j,rfl⟩:=Int.eq_ofNat_of_zero_le y0
 simp only [List.cons_append,List.nil_append,List.map_cons,List.map_nil]
 have hc:=rcmp_fa (p.getD j rd0) (p.getD i rd0) (getD_wf hw om) (getD_wf hw om)
 refine fh_of_body Tryz.func93 rfl rfl (by simp [Tryz.ntmps93]) fun C hC=> ?_
 simp only [initS,Nat.reduceAdd]
 refine xG ?_
 refine aw_cw ([(gl,.cells 25 1 (ofL [rats false p]))]) [(0,0),(1,0),(2,0),(3,0),(4,0),(5,0),(6,0),(7,0),(8,0),(9,0)] ty_mixed (by kernel_rfl) eI ?_
 refine xG ?_
 refine cw_callq rfl hc rfl rfl rfl (fun _ _=>eL) ?_
 refine xSGU ?_
 refine⟨_,rfl,?_,rfl⟩
 rw [signQ_lt0,sub_lt0,kQ_nat,kQ_nat]
set_option maxRecDepth 100000 in
set_option maxHeartbeats 1600000 in
theorem rank_fh (p:List RD) (hw:∀r∈p,r.wf 500000000) (hpl:p.length≤1000000):Fh Tryz.prog 40 [] [.c (rats false p)] (fun x h=>h=[]∧∃L,RnkOk (kQ p) p.length L∧x=.c (is true L)):=by
 obtain⟨N,hN⟩:∃N,N=p.length:=⟨_,rfl⟩
 have hcmp:=fun gl=>rank1_fh gl p hw hpl
 rw [←hN] at hcmp hpl⊢
 refine fh_of_body Tryz.func40 rfl rfl (by simp [Tryz.ntmps40]) fun C hC=> ?_
 simp only [initS,Nat.reduceAdd]
 refine yG hN ?_
 refine yB hN fun g1 hn_g1=>?_
 refine yG (oj hN hn_g1) ?_
 rw [←hN]
 refine aw_make (n:=N) (c:=N) (size:=1) (z:=[.int .i64 0]) rfl rfl rfl (zE (oj hN hn_g1)) (zE (oj hN hn_g1)) rfl om (zE (oj hN hn_g1)) (zE (oj hN hn_g1)) om om om om om fun g hn_g=> ?_
 rw [make_gF]
 replace hn_g:=Heap.ne_of hn_g
 dsimp only [Heap.ne] at hn_g
 refine ySG hn_g ?_
 refine aw_lp (fun x:Nat×(Nat→Int)=>[(1,.c (.optr g1 0)),(3,.c (.osl g 1 0 N)),(9,.c (.int .i64 N)),(10,.c (.int .i64 x.1))]) (fun x=>[(g,.cells 3 N (gF x.2)),(g1,.cells 25 1 (ofL [rats false p]))])
  (fun x=>x.1≤N∧∀j,j<x.1→x.2 j=j) (fun x=>N-x.1) (0,fun _=>0) (zB hn_g) zZ ⟨Nat.zero_le _,fun j hj=>by dsimp only at hj;omega⟩ ?_
 rintro ⟨i,w⟩ ⟨hi,hz⟩
 dsimp only at hi hz⊢
 refine yG hn_g ?_
 refine yF hn_g (fun h1=>?_) fun h1=>?_
 ·have hin:i<N:=dT h1
  refine yGWS hn_g ?_
  rw [updF_gF]
  refine yG hn_g ?_
  refine aw_stop ⟨(i+1,updR w i i),by dsimp only;omega,(zB hn_g),zZ,by dsimp only;omega,fun j hj=> ?_⟩
  dsimp only at hj⊢
  unfold updR
  by_cases e:j=i
  ·rw [if_pos e,e]
  ·rw [if_neg e];exact hz j om
 ·have hin:i=N:=dF h1
  subst hin
  refine yG hn_g ?_
  refine aw_makeFunc (gs:=[g1]) rfl rfl rfl (zE hn_g) ?_
  refine ySG hn_g ?_
  refine aw_callh (hc:=(g,.cells 3 i (gF w))::[(g1,.cells 25 1 (ofL [rats false p]))]) (hr:=[]) (sortS_fh g 93 [g1] [(g1,.cells 25 1 (ofL [rats false p]))] i _ (ltQ (kQ p)) (hcmp g1) (fun x y h=>ltQ_cb h) (ltQ_ok _) hpl w hz (fun k=>of_eq_false hn_g.1.1 (by simpa [Heap.keys] using k))) rfl rfl rfl (.refl _) (zL hn_g) ?_
  rintro _ _ ⟨y,y1,y2,rfl,rfl⟩ _
  have hR:=rnk_of y1 y2
  have hRl:=hR.len
  generalize hLe:(List.range i).map y=L at hR hRl
  refine ySG hn_g ?_
  refine aw_frzT (t:=2) (isF L) (zE hn_g) (zE hn_g) om ?_ (fun j hj=> ?_) rfl (zE hn_g) ?_
  ·exact fun h=>by have:=(hC g).1 h;simp [Heap.keys] at this
  ·rw [Nat.zero_add,gF_at]
   show _=CV.int .i64 (L.getD j 0)
   rw [←hLe,List.getD_eq_getElem?_getD]
   simp [show j<i by omega]
  refine yS hn_g ?_
  refine aw_rethw (h':=[]) rfl (List.nil_sublist _) (fun R hR2=> ?_)
  simp only [go_sem,hn_g]
  refine hR2 _ rfl ?_
  exact⟨rfl,L,hR,by unfold is;rw [hRl]⟩
end Go.Proofs.YtfcnbgmclfkfcaaGreat
namespace Go.Proofs.YtfcnbgmclfkfcaaGreat
open Go.AI Go.PN
attribute [local irreducible] aw Fa Fh DrK
abbrev fm0:FM:=⟨0,[],0⟩
theorem fm0_args:ArgsOk fm0:=fun x hx=>absurd hx List.not_mem_nil
theorem fm0_wf {p:List RD} (hw:WordsOk p) (h:largeW fm0 p=false):∀r∈p,r.wf 4:=(ws_of (by decide) fm0_args (by decide) (by decide) hw h).w
end Go.Proofs.YtfcnbgmclfkfcaaGreat
