/- Parts of one proof, laid by a program. -/
import Derived.Test.YtngjgahldnnapaaGreatDoorM00
import Derived.Test.YtngjgahldnnapaaGreatDoorM03
import Derived.Test.YtngjgahldnnapaaGreatDoorRows
import Derived.WalkKit
import Derived.ProofKit
import Derived.OpenShut
import Derived.JoinedCond
import Derived.Carry
import Derived.ShutString
import Derived.MapKept
import Derived.Laws.Cover3
import Derived.Lib.Bytealg
set_option linter.unusedSimpArgs false
set_option linter.unusedVariables false
set_option maxRecDepth 100000
set_option maxHeartbeats 12800000
namespace Go.Proofs.YtngjgahldnnapaaGreatDoor
open Go.AI Go.PN Proofs.Tryz
attribute [local irreducible] aw Fa ZN ZZ Fh YE
theorem Qk5 {n:Nat}:((Q8 n:Int)==1)=decide (n=1):=by
 rw [Bool.eq_iff_iff]
 simp only [beq_iff_eq,Dq]
 unfold Q8
 constructor
 ·intro h
  split at h
  ·omega
  ·rename_i h0
   have h1:Nat.log2 n=0:=by omega
   have h2:=(Nat.log2_lt h0 (k:=1)).1 om
   omega
 ·intro h;subst h;rfl
theorem Qk6 {xs:List Nat} (h:xs.length≠0):((xs.length:Int)==0)=false:=by
 rw [beq_eq_false_iff_ne];omega
theorem Qk7 {xs:List Nat} (h:xs.length=0):((xs.length:Int)==0)=true:=by rw [h];rfl
theorem QcF (r:RD) (hw:r.wf 34359738368):Fa prog 149 [.agg (Y1 r)] (.c (.bool r.valid)):=by
 have hl1:=hw.2.2.1
 have hl2:=hw.2.2.2
 refine fA func149 fun C hC=>?_
 refine xG ?_
 refine xB fun g1 n_1=>?_
 refine yG n_1 ?_
 refine Xv 8 Qg kR ?_
 refine yG n_1 ?_
 by_cases hn:r.num.length=0
 ·have hn':=Qk7 hn
  by_cases hd:r.den.length=0
  ·have hd':=Qk7 hd
   have J1:=oj n_1 (oj hn' hd')
   refine yG J1 ?_
   refine yP J1 ?_
   refine yGT hC J1 ?_
   exact .one (.c (Qp (QeB hn' hd')))
  ·have hd':=Qk6 hd
   have J2:=oj n_1 (oj hn' hd')
   refine yG J2 ?_
   refine yP J2 ?_
   refine yGT hC J2 ?_
   refine .one (.c (Qp ?_))
   rw [W5 (.inr hd'),QeA om,Bool.false_and,Bool.false_and]
 ·have hn':=Qk6 hn
  by_cases hd:r.den.length=0
  ·have hd':=Qk7 hd
   have J3:=oj n_1 (oj hn' hd')
   refine yG J3 ?_
   refine yP J3 ?_
   refine yGT hC J3 ?_
   refine .one (.c (Qp ?_))
   rw [W5 (.inl hn'),QeA (xs:=r.den) om,Bool.and_false,Bool.false_and]
  ·have hd':=Qk6 hd
   have J4:=oj n_1 (oj hn' hd')
   refine yG J4 ?_
   refine yN J4 ?_
   refine yG J4 ?_
   rw [W5 (.inl hn'),Qez (xs:=r.num) om,Qez (xs:=r.den) om]
   refine ZD 35 (zE (oj n_1 (oj hn' hd'))) (fun h1=> ?_) (fun h1=> ?_)<;>refine yS (oj n_1 (oj hn' hd')) ?_
   ·have J5:=oj n_1 (oj hn' hd')
    refine yG J5 ?_
    refine ZD 44 (zE J5) (fun h2=> ?_) (fun h2=> ?_)<;>refine yS J5 ?_
    ·refine yG J5 ?_
     refine yC J5 (QmQ _ _ hw.1 hw.2.1 ?_ ?_) ?_
     ·omega
     ·omega
     refine yG J5 ?_
     have hg:(Qc (Nat.gcd (val r.num) (val r.den))).length≤68719476736:=by
      by_cases h:val r.num=0
      ·rw [h,Nat.gcd_zero_left];have:=QV _ hw.2.1;omega
      ·have h3:=QL (Nat.gcd_le_left (val r.den) (Nat.pos_of_ne_zero h));have:=QV _ hw.1;omega
     refine yC J5 (QeE _ (Qr _) hg) ?_
     rw [Qd]
     refine yGT hC J5 ?_
     refine .one (.c (Qp ?_))
     rw [h1,h2,Qk5];rfl
    ·refine yGT hC J5 ?_
     refine .one (.c (Qp ?_))
     rw [h2,Bool.and_false,Bool.false_and]
   ·refine yGT hC (oj n_1 (oj hn' hd')) ?_
    refine .one (.c (Qp ?_))
    rw [h1,Bool.false_and,Bool.false_and]
theorem QmR {h:Qa} {t:Bool} {g:Nat} {ty:TypeId} (hg:h.get g=some (.cells ty 1 (ofL [.int .u32 1]))):Ut h (.osl g 1 0 1) (ws t [1]):=
 VW hg om rfl (fun j hj=>by match j,hj with|0,_=>rfl)
theorem Wq (r:RD) (hw:r.wf 1073741824):Fa prog 128 [.agg (Y1 r)] (Qhq r):=by
 refine fA func128 fun C hC=>?_
 refine xG ?_
 refine xB fun g1 n_1=>?_
 refine yG n_1 ?_
 refine yC n_1 (QcF r (Zu hw ?_)) ?_
 ·omega
 refine yG n_1 ?_
 refine ZD 8 (zE n_1) (fun hv=> ?_) (fun hv=> ?_)<;>refine yS n_1 ?_
 ·have hs:=RD.pn_none (QdR (r:=r) (.inl (by simpa using hv)))
  refine yG n_1 ?_
  refine yP n_1 ?_
  refine yG n_1 ?_
  refine Qn (xs:=[.const (.int .u32 1)]) (cells:=[.int .u32 1]) rfl rfl rfl Xy (by rw [Qdw,Xt];rfl) rfl om om (by intro x hx;simp only [Lb,Lj,or_false] at hx;subst hx;exact⟨rfl,rfl,rfl⟩) rfl fun g hg=> ?_
  replace hg:=Qa.ne_of hg
  dsimp only [Qa.ne] at hg
  have J1:=oj n_1 hg
  refine Qdy hC J1 ?_
  refine .tup ⟨.c (Qp hs.2.2.symm),.c ?_,.c ?_,trivial⟩
  ·rw [hs.1];exact .nils
  ·rw [hs.2.1];exact QmR (zE J1)
 ·have hv':r.valid=true:=by simpa using hv
  refine yG n_1 ?_
  refine yF n_1 (fun hn=>?_) fun hn=>?_
  ·have hs:=RD.pn_none (QdR (r:=r) (.inr hn))
   refine yG n_1 ?_
   refine Qn (xs:=[.const (.int .u32 1)]) (cells:=[.int .u32 1]) rfl rfl rfl Xy (by rw [Qdw,Xt];rfl) rfl om om (by intro x hx;simp only [Lb,Lj,or_false] at hx;subst hx;exact⟨rfl,rfl,rfl⟩) rfl fun g hg=> ?_
   replace hg:=Qa.ne_of hg
   dsimp only [Qa.ne] at hg
   have J2:=oj n_1 hg
   refine Qdy hC J2 ?_
   refine .tup ⟨.c (Qp hs.2.2.symm),.c ?_,.c ?_,trivial⟩
   ·rw [hs.1];exact .nils
   ·rw [hs.2.1];exact QmR (zE J2)
  ·have hs:=RD.pn_words hw (QmM hv' hn)
   refine yG n_1 ?_
   refine Xv 9 Qg kR ?_
   refine yGT hC n_1 ?_
   refine .tup ⟨.c (Qp hs.2.2.symm),.c ?_,.c ?_,trivial⟩
   ·rw [hs.1];exact Xc
   ·rw [hs.2.1];exact Xc
theorem Qi8 (neg:Bool) (xs ys:List Nat) (hx:∀x∈xs,x<4294967296) (hy:∀x∈ys,x<4294967296) (hlx:xs.length≤34359738368) (hly:ys.length≤34359738368) (h0:val ys≠0):
  Fa prog 342 [.c (.bool neg),.c (ws false xs),.c (ws false ys)] (.tup [.agg (Y1 (rd (sq neg (val xs) (val ys)))),.c (.int .i64 0)]):=by
 refine fA func342 fun C hC=>?_
 refine xG ?_
 refine xA fun g6 n_6=>?_
 refine yG n_6 ?_
 refine yC n_6 (QeE ys hy ?_) ?_
 ·omega
 refine yG n_6 ?_
 refine yF n_6 (fun hb=>?_) fun hb=>?_
 ·exact absurd (UH.1 (by have:=eq_of_beq hb;omega)) h0
 refine yG n_6 ?_
 refine yC n_6 (QeE xs hx ?_) ?_
 ·omega
 refine yG n_6 ?_
 refine yF n_6 (fun hc=>?_) fun hc=>?_
 ·have hz:val xs=0:=UH.1 (by have:=eq_of_beq hc;omega)
  refine Kz hC n_6 ?_
  rw [hz,Qbz,rd_zero]
  exact .tup ⟨.agg ⟨.bool _,.nils,.nils,trivial⟩,.c (.int _ _),trivial⟩
 ·have hz:val xs≠0:=fun e=>by rw [e] at hc;cases hc
  have hg:Nat.gcd (val xs) (val ys)≠0:=fun e=>h0 (Nat.eq_zero_of_gcd_eq_zero_right e)
  have hgl:(Qc (Nat.gcd (val xs) (val ys))).length≤34359738368:=by
   have h3:=QL (Nat.gcd_le_left (val ys) (Nat.pos_of_ne_zero hz));have:=QV _ hx;omega
  refine yG n_6 ?_
  refine yC n_6 (QmQ xs ys hx hy hlx hly) ?_
  refine yG n_6 ?_
  refine yC n_6 (QdT xs (Qc (Nat.gcd (val xs) (val ys))) hx (Qr _) hlx hgl ?_) ?_
  ·rw [Qd];exact hg
  rw [Qd]
  refine yG n_6 ?_
  refine yC n_6 (QdT ys (Qc (Nat.gcd (val xs) (val ys))) hy (Qr _) hly hgl ?_) ?_
  ·rw [Qd];exact hg
  rw [Qd]
  refine Kz hC n_6 ?_
  rw [QqB hz h0]
  exact .tup ⟨.agg ⟨.bool _,Xc,Xc,trivial⟩,.c (.int _ _),trivial⟩
theorem Qhv (neg:Bool) (n d:Nat) (hn:(Qc n).length≤34359738368) (hd:(Qc d).length≤34359738368) (h0:d≠0):
  Fa prog 342 [.c (.bool neg),.c (ws false (Qc n)),.c (ws false (Qc d))] (.tup [.agg (Y1 (rd (sq neg n d))),.c (.int .i64 0)]):=by
 have:=Qi8 neg (Qc n) (Qc d) (Qr n) (Qr d) hn hd (by rw [Qd];exact h0)
 rwa [Qd,Qd] at this
def two (u:Nat):List Nat:=[u%4294967296,u/4294967296]
theorem Qhw (u:Nat):val (two u)=u:=by simp only [two,val];omega
theorem QqS {u:Nat} (h:u<18446744073709551616):∀x∈two u,x<4294967296:=fun x hx=>by
 simp only [two,Lb,Lj,or_false] at hx
 rcases hx with rfl|rfl<;>omega
theorem Qhx {n:Int} (h0: -9223372036854775808≤n) (h1:n<0):XE .u64 (0-XE .u64 n)=(n.natAbs:Int):=by
 rw [QN,QN,IntKind.wrap_u64,IntKind.wrap_u64];omega
theorem Qhy {n:Int} (h0:0≤n) (h1:n≤9223372036854775807):XE .u64 n=(n.natAbs:Int):=by
 rw [QN,IntKind.wrap_u64];omega
theorem Qi9 (n:Int) (h0: -9223372036854775808≤n) (h1:n≤9223372036854775807):Fa prog 343 [.c (.int .i64 n)] (.c (ws true (two n.natAbs))):=by
 refine fA func343 fun C hC=>?_
 apply Yd
 apply Zd
 refine xH ?_
 apply Yd
 apply Zd
 refine xH ?_
 apply Yd
 refine Yy (fun _:Unit=>[(3,.c (.int .u64 n.natAbs))]) (fun _=>[]) (fun _=>n≤9223372036854775807) ?_ ?_
 ·refine xG ?_
  refine xF (fun hb=>?_) fun hb=>?_
  ·have hn:n<0:=of_decide_eq_true hb
   have e1:=Qhx h0 hn
   refine yG e1 ?_
   exact Qb ⟨(),(zB e1),zZ,h1⟩
  ·have hn:0≤n:=dF hb
   have e1:=Qhy hn h1
   refine yG e1 ?_
   exact Qb ⟨(),(zB e1),zZ,h1⟩
 rintro _ _
 have hu:n.natAbs<18446744073709551616:=by omega
 generalize n.natAbs=u at hu⊢
 have e1:=QO u
 have e2:=W0 u
 have e3:XE .u32 ((u/4294967296:Nat):Int)=((u/4294967296:Nat):Int):=by rw [QO,Nat.mod_eq_of_lt om]
 have J1:=oj e1 (oj e2 e3)
 refine yG J1 ?_
 refine Qn (xs:=[.tmp 11,.tmp 14]) (cells:=[.int .u32 (u%4294967296:Nat),.int .u32 (u/4294967296:Nat)]) rfl rfl rfl Xy (by rw [Qdw,Xt];rfl) rfl om om (by intro x hx;simp only [Lb,Lj,or_false] at hx;rcases hx with rfl|rfl<;>exact⟨rfl,rfl,rfl⟩) rfl fun g hg=> ?_
 refine Qdy hC J1 ?_
 exact .one (.c (VW (zE J1) (by simp) rfl (fun j hj=>by match j,hj with|0,_=>rfl|1,_=>rfl)))
theorem Qja (d:Rat):(-d)⁻¹= -d⁻¹:=by
 by_cases h:d=0
 ·subst h;rw [Rat.neg_zero,Rat.inv_zero,Rat.neg_zero]
 ·have h1:d*d⁻¹=1:=Rat.mul_inv_cancel d h
  have h2:(-d)*(-d)⁻¹=1:=Rat.mul_inv_cancel (-d) (by grind)
  grind
theorem QtK (n d:Int):sq (decide (n<0) !=decide (d<0)) n.natAbs d.natAbs=(n:Rat)/(d:Rat):=by
 have e:∀m:Int,((m.natAbs:Int)=m∧¬m<0)∨((m.natAbs:Int)= -m∧m<0):=fun m=>by omega
 unfold sq
 rw [Rat.mkRat_eq_div]
 have hs:((U5 (decide (n<0) !=decide (d<0)) n.natAbs:Int):Rat)/((d.natAbs:Nat):Rat)=(n:Rat)/(d:Rat):=by
  have hd:((d.natAbs:Nat):Rat)=((d.natAbs:Int):Rat):=rfl
  rw [hd]
  unfold U5
  rcases e n with ⟨h1,h2⟩|⟨h1,h2⟩<;>rcases e d with ⟨h3,h4⟩|⟨h3,h4⟩
  ·simp only [h2,h4,decide_false,bne_self_eq_false,Bool.false_eq_true,if_false,h1,h3]
  ·simp only [h2,h4,decide_false,decide_true,bne,h1,h3]
   simp only [show(false==true)=false from rfl,Bool.not_false,if_true]
   rw [Rat.intCast_neg,Rat.intCast_neg,Rat.div_def,Rat.div_def,Qja]
   grind
  ·simp only [h2,h4,decide_false,decide_true,bne,h1,h3]
   simp only [show(true==false)=false from rfl,Bool.not_false,if_true]
   rw [Int.neg_neg]
  ·simp only [h2,h4,decide_true,bne_self_eq_false,Bool.false_eq_true,if_false,h1,h3]
   rw [Rat.intCast_neg,Rat.intCast_neg,Rat.div_def,Rat.div_def,Qja]
   grind
 exact hs
theorem QqT (n d:Int) (h0: -9223372036854775808≤n) (h1:n≤9223372036854775807) (h2: -9223372036854775808≤d) (h3:d≤9223372036854775807) (hd:d≠0):
  Fa prog 267 [.c (.int .i64 n),.c (.int .i64 d)] (.tup [.agg (Y1 (rd ((n:Rat)/(d:Rat)))),.c (.int .i64 0)]):=by
 refine fA func267 fun C hC=>?_
 refine xG ?_
 refine xA fun g4 n_4=>?_
 refine yG n_4 ?_
 refine yC n_4 (Qi9 n h0 h1) ?_
 refine yG n_4 ?_
 refine yC n_4 (Qi9 d h2 h3) ?_
 refine yG n_4 ?_
 refine yC n_4 (Qi8 _ (two n.natAbs) (two d.natAbs) (QqS ?_) (QqS ?_) ?_ ?_ ?_) ?_
 ·omega
 ·omega
 ·simp [two]
 ·simp [two]
 ·rw [Qhw];omega
 rw [Qhw,Qhw,QtK]
 refine Kz hC n_4 ?_
 exact .tup ⟨.agg UJ,.c (.int _ _),trivial⟩
theorem Qwv (n:Int) (h0: -9223372036854775808≤n) (h1:n≤9223372036854775807):Fa prog 152 [.c (.int .i64 n)] (.agg (Y1 (rd (n:Rat)))):=by
 refine fA func152 fun C hC=>?_
 refine xG ?_
 refine xA fun g2 n_2=>?_
 refine yG n_2 ?_
 refine yC n_2 (QqT n 1 h0 h1 ?_ ?_ ?_) ?_
 ·omega
 ·omega
 ·omega
 refine yG n_2 ?_
 refine yA n_2 fun g3 n_3=>?_
 have J1:=oj n_2 n_3
 refine yG J1 ?_
 refine yW J1 ?_
 refine Xp J1 ?_
 refine yW J1 ?_
 refine Qdy hC J1 ?_
 exact JX (by congr 1;rw [Rat.intCast_one];grind)
theorem QtL (r:RD) (hw:r.wf 1073741824):Fa prog 341 [.agg (Y1 r)] (.agg (Y1 (rd (-r.q)))):=by
 obtain⟨hl1,hl2⟩:=RD.p_len hw om
 refine fA func341 fun C hC=>?_
 refine xG ?_
 refine xB fun g1 n_1=>?_
 refine yA n_1 fun g2 n_2=>?_
 have J1:=oj n_1 n_2
 refine yG J1 ?_
 refine yC J1 (Wq r hw) ?_
 refine yG J1 ?_
 refine yC J1 (Qhv _ r.pn r.pd ?_ ?_ (RD.pd_ne hw)) ?_
 ·omega
 ·omega
 refine yG J1 ?_
 refine yA J1 fun g6 n_6=>?_
 have J2:=oj n_1 (oj n_2 n_6)
 refine yG J2 ?_
 refine yW J2 ?_
 refine Xp J2 ?_
 refine yW J2 ?_
 refine Qdy hC J2 ?_
 exact JX (by rw [Qwo];rfl)
theorem QbB (r:RD) (hw:r.wf 1073741824):Fa prog 150 [.agg (Y1 r)] (.c (.int .i64 (YJ r.q))):=by
 refine fA func150 fun C hC=>?_
 refine xG ?_
 refine xB fun g1 n_1=>?_
 refine yG n_1 ?_
 refine yC n_1 (Wq r hw) ?_
 refine yG n_1 ?_
 refine yF n_1 (fun hb=>?_) fun hb=>?_
 ·refine yGT hC n_1 ?_
  exact .one (.c (Qo (sign_zero hw hb)))
 ·refine yG n_1 ?_
  refine yF n_1 (fun hp=>?_) fun hp=>?_
  ·refine yGT hC n_1 ?_
   refine .one (.c (Qo ?_))
   rw [Qan hw hb,hp];rfl
  ·refine yGT hC n_1 ?_
   refine .one (.c (Qo ?_))
   rw [Qan hw hb,hp];rfl
theorem QqU (a b:Nat) (ha:(Qc a).length≤68719476736) (hb:(Qc b).length≤68719476736):Fa prog 301 [.c (ws false (Qc a)),.c (ws false (Qc b))] (.c (ws true (Qc (a*b)))):=by
 have:=QmP (Qc a) (Qc b) (Qr a) (Qr b) ha hb
 rwa [Qd,Qd] at this
theorem Qx9 (a b:Nat) (ha:(Qc a).length≤68719476736) (hb:(Qc b).length≤68719476736):Fa prog 371 [.c (ws false (Qc a)),.c (ws false (Qc b))] (.c (ws true (Qc (a+b)))):=by
 have:=QtE (Qc a) (Qc b) (Qr a) (Qr b) ha hb
 rwa [Qd,Qd] at this
theorem QvQ (a b:Nat) (ha:(Qc a).length≤68719476736) (hb:(Qc b).length≤68719476736) (h:b≤a):Fa prog 302 [.c (ws false (Qc a)),.c (ws false (Qc b))] (.tup [.c (ws true (Qc (a-b))),.c (.int .i64 0)]):=by
 have:=Qhs (Qc a) (Qc b) (Qr a) (Qr b) ha hb (by rw [Qd,Qd];exact h)
 rwa [Qd,Qd] at this
theorem QvR (a b:Nat) (ha:(Qc a).length≤68719476736) (hb:(Qc b).length≤68719476736):Fa prog 130 [.c (ws false (Qc a)),.c (ws false (Qc b))] (.c (.int .i64 (ZQ a b))):=by
 have:=Qhr (Qc a) (Qc b) (Qr a) (Qr b) ha hb
 rwa [Qd,Qd] at this
theorem QtM (a b:RD) (ha:a.wf 1073741824) (hb:b.wf 1073741824):Fa prog 340 [.agg (Y1 a),.agg (Y1 b)] (.agg (Y1 (rd (a.q+b.q)))):=by
 obtain⟨l1,l2⟩:=RD.p_len ha om
 obtain⟨l3,l4⟩:=RD.p_len hb om
 have d1:=RD.pd_ne ha
 have d2:=RD.pd_ne hb
 have dd:a.pd*b.pd≠0:=Nat.mul_ne_zero d1 d2
 have m1:=XR a.pn b.pd
 have m2:=XR b.pn a.pd
 have m3:=XR a.pd b.pd
 have m4:=QaK (m:=a.pn*b.pd) (n:=b.pn*a.pd) (k:=2147483648) om om
 refine fA func340 fun C hC=>?_
 refine xG ?_
 refine xB fun g2 n_2=>?_
 refine yB n_2 fun g3 n_3=>?_
 refine yA (oj n_2 n_3) fun g4 n_4=>?_
 have J1:=oj n_2 (oj n_3 n_4)
 refine yG J1 ?_
 refine yC J1 (Wq a ha) ?_
 refine yG J1 ?_
 refine yC J1 (Wq b hb) ?_
 refine yG J1 ?_
 refine yC J1 (QqU a.pn b.pd ?_ ?_) ?_
 ·omega
 ·omega
 refine yG J1 ?_
 refine yC J1 (QqU b.pn a.pd ?_ ?_) ?_
 ·omega
 ·omega
 refine yG J1 ?_
 refine yC J1 (QqU a.pd b.pd ?_ ?_) ?_
 ·omega
 ·omega
 refine yG J1 ?_
 refine yF J1 (fun hs=>?_) fun hs=>?_
 ·have hs':a.ps=b.ps:=eq_of_beq hs
  refine yG J1 ?_
  refine yC J1 (Qx9 _ _ ?_ ?_) ?_
  ·omega
  ·omega
  refine yG J1 ?_
  refine yC J1 (Qhv _ _ _ ?_ ?_ dd) ?_
  ·omega
  ·omega
  refine yG J1 ?_
  refine yA J1 fun g14 n_14=>?_
  have J2:=oj n_2 (oj n_3 (oj n_4 n_14))
  refine yG J2 ?_
  refine yW J2 ?_
  refine Xp J2 ?_
  refine yW J2 ?_
  refine Qdy hC J2 ?_
  refine JX ?_
  rw [Qdn _ d1 d2]
  unfold RD.q;rw [hs']
 ·have hs':b.ps= !a.ps:=QeD hs
  refine yG J1 ?_
  refine yC J1 (QvR _ _ ?_ ?_) ?_
  ·omega
  ·omega
  refine yG J1 ?_
  refine yF J1 (fun hc=>?_) fun hc=>?_
  ·have hle:a.pn*b.pd≤b.pn*a.pd:=by
    have:=of_decide_eq_true hc
    unfold ZQ at this
    split at this
    ·omega
    ·split at this<;>omega
   have hl5:=QL (Nat.sub_le (b.pn*a.pd) (a.pn*b.pd))
   refine yG J1 ?_
   refine yC J1 (QvQ _ _ ?_ ?_ hle) ?_
   ·omega
   ·omega
   refine yG J1 ?_
   refine yC J1 (Qhv _ _ _ ?_ ?_ dd) ?_
   ·omega
   ·omega
   refine yG J1 ?_
   refine yA J1 fun g18 n_18=>?_
   have J3:=oj n_2 (oj n_3 (oj n_4 n_18))
   refine yG J3 ?_
   refine yW J3 ?_
   refine Xp J3 ?_
   refine yW J3 ?_
   refine Qdy hC J3 ?_
   refine JX ?_
   rw [hs',Qgl _ d1 d2 hle]
   unfold RD.q;rw [hs']
  ·have hle:b.pn*a.pd≤a.pn*b.pd:=by
    have:=of_decide_eq_false hc
    unfold ZQ at this
    split at this
    ·omega
    ·omega
   have hl5:=QL (Nat.sub_le (a.pn*b.pd) (b.pn*a.pd))
   refine yG J1 ?_
   refine yC J1 (QvQ _ _ ?_ ?_ hle) ?_
   ·omega
   ·omega
   refine yG J1 ?_
   refine yC J1 (Qhv _ _ _ ?_ ?_ dd) ?_
   ·omega
   ·omega
   refine yG J1 ?_
   refine yA J1 fun g18 n_18=>?_
   have J4:=oj n_2 (oj n_3 (oj n_4 n_18))
   refine yG J4 ?_
   refine yW J4 ?_
   refine Xp J4 ?_
   refine yW J4 ?_
   refine Qdy hC J4 ?_
   refine JX ?_
   rw [QcC _ d1 d2 hle]
   unfold RD.q;rw [hs']
theorem QtN (a b:RD) (ha:a.wf 1073741824) (hb:b.wf 1073741824):Fa prog 266 [.agg (Y1 a),.agg (Y1 b)] (.agg (Y1 (rd (a.q-b.q)))):=by
 refine fA func266 fun C hC=>?_
 refine xG ?_
 refine xB fun g2 n_2=>?_
 refine yB n_2 fun g3 n_3=>?_
 refine yA (oj n_2 n_3) fun g4 n_4=>?_
 have J1:=oj n_2 (oj n_3 n_4)
 refine yG J1 ?_
 refine Xv 4 Qg kR ?_
 refine yG J1 ?_
 refine yD J1 (QtL b hb) ?_
 refine yG J1 ?_
 refine yD J1 (QtM a (rd (-b.q)) ha (Qwq hb)) ?_
 refine Kz hC J1 ?_
 exact JX (by rw [Ow,Rat.sub_eq_add_neg])
theorem Qww {a b:RD} {L:Nat} (hL:1≤L) (ha:a.wf L) (hb:b.wf L) (h:2*L+1≤1073741824):(rd (a.q-b.q)).wf 1073741824:=
 UI (YF (QqE (RD.fits ha hL) (RD.fits hb hL)) om)
theorem QtO (a b:RD) (ha:a.wf 500000000) (hb:b.wf 500000000):Fa prog 151 [.agg (Y1 a),.agg (Y1 b)] (.c (.int .i64 (YJ (a.q-b.q)))):=by
 refine fA func151 fun C hC=>?_
 refine xG ?_
 refine xB fun g2 n_2=>?_
 refine yB n_2 fun g3 n_3=>?_
 have J1:=oj n_2 n_3
 refine yG J1 ?_
 refine yC J1 (QtN a b (Zu ha ?_) (Zu hb ?_)) ?_
 ·omega
 ·omega
 refine yG J1 ?_
 refine yC J1 (QbB _ ?_) ?_
 ·exact Qww om ha hb om
 rw [Ow]
 refine yGT hC J1 ?_
 exact .one (.c (.int _ _))
end Go.Proofs.YtngjgahldnnapaaGreatDoor
namespace Go.AI
open Go.PN
def isF (xs:List Int) (j:Nat):CV:=.int .i64 (xs.getD j 0)
@[go_sem] theorem Qzj (xs:List Int) (j:Nat):isF xs j=.int .i64 (xs.getD j 0):=rfl
abbrev is (t:Bool) (xs:List Int):CV:=.row t 1 xs.length (isF xs)
def bsF (xs:List Bool) (j:Nat):CV:=.bool (xs.getD j false)
@[go_sem] theorem Qzk (xs:List Bool) (j:Nat):bsF xs j=.bool (xs.getD j false):=rfl
abbrev bs (t:Bool) (xs:List Bool):CV:=.row t 1 xs.length (bsF xs)
def rd0:RD:=⟨false,[],[]⟩
def Vv (ps:List RD):Nat→CV:=lf 3 (fun r:RD=>[CV.bool r.neg,ws true r.num,ws true r.den]) rd0 ps
@[go_sem] theorem Qy8 (ps:List RD) (i:Nat):Vv ps (i*3)=.bool (ps.getD i rd0).neg:=by
  have:=QY (s:=3) (c:=fun r:RD=>[CV.bool r.neg,ws true r.num,ws true r.den]) (d:=rd0) (xs:=ps) (i:=i) (k:=0) om
  exact this
@[go_sem] theorem Qy9 (ps:List RD) (i:Nat):Vv ps (i*3+1)=ws true (ps.getD i rd0).num:=by
  have:=QY (s:=3) (c:=fun r:RD=>[CV.bool r.neg,ws true r.num,ws true r.den]) (d:=rd0) (xs:=ps) (i:=i) (k:=1) om
  exact this
@[go_sem] theorem Qza (ps:List RD) (i:Nat):Vv ps (i*3+2)=ws true (ps.getD i rd0).den:=by
  have:=QY (s:=3) (c:=fun r:RD=>[CV.bool r.neg,ws true r.num,ws true r.den]) (d:=rd0) (xs:=ps) (i:=i) (k:=2) om
  exact this
abbrev VQ (t:Bool) (ps:List RD):CV:=.row t 3 ps.length (Vv ps)
structure DN where
 v:Int
 lo:Int
 hi:Int
 deriving DecidableEq
def dn0:DN:=⟨0,0,0⟩
def Qwx (ns:List DN):Nat→CV:=lf 3 (fun r:DN=>[CV.int .i64 r.v,.int .i64 r.lo,.int .i64 r.hi]) dn0 ns
@[go_sem] theorem Qzl (ps:List DN) (i:Nat):Qwx ps (i*3)=.int .i64 (ps.getD i dn0).v:=by
  have:=QY (s:=3) (c:=fun r:DN=>[CV.int .i64 r.v,.int .i64 r.lo,.int .i64 r.hi]) (d:=dn0) (xs:=ps) (i:=i) (k:=0) om
  exact this
@[go_sem] theorem Qzm (ps:List DN) (i:Nat):Qwx ps (i*3+1)=.int .i64 (ps.getD i dn0).lo:=by
  have:=QY (s:=3) (c:=fun r:DN=>[CV.int .i64 r.v,.int .i64 r.lo,.int .i64 r.hi]) (d:=dn0) (xs:=ps) (i:=i) (k:=1) om
  exact this
@[go_sem] theorem Qzn (ps:List DN) (i:Nat):Qwx ps (i*3+2)=.int .i64 (ps.getD i dn0).hi:=by
  have:=QY (s:=3) (c:=fun r:DN=>[CV.int .i64 r.v,.int .i64 r.lo,.int .i64 r.hi]) (d:=dn0) (xs:=ps) (i:=i) (k:=2) om
  exact this
structure DG where
 order:List Int
 nodes:List DN
 root:Int
structure FN where
 kind:Int
 k:Int
 args:List Int
def fn0:FN:=⟨0,0,[]⟩
def Qwy (ns:List FN):Nat→CV:=lf 3 (fun r:FN=>[CV.int .i64 r.kind,.int .i64 r.k,is true r.args]) fn0 ns
@[go_sem] theorem Qzo (ps:List FN) (i:Nat):Qwy ps (i*3)=.int .i64 (ps.getD i fn0).kind:=by
  have:=QY (s:=3) (c:=fun r:FN=>[CV.int .i64 r.kind,.int .i64 r.k,is true r.args]) (d:=fn0) (xs:=ps) (i:=i) (k:=0) om
  exact this
@[go_sem] theorem Qzp (ps:List FN) (i:Nat):Qwy ps (i*3+1)=.int .i64 (ps.getD i fn0).k:=by
  have:=QY (s:=3) (c:=fun r:FN=>[CV.int .i64 r.kind,.int .i64 r.k,is true r.args]) (d:=fn0) (xs:=ps) (i:=i) (k:=1) om
  exact this
@[go_sem] theorem Qzq (ps:List FN) (i:Nat):Qwy ps (i*3+2)=is true (ps.getD i fn0).args:=by
  have:=QY (s:=3) (c:=fun r:FN=>[CV.int .i64 r.kind,.int .i64 r.k,is true r.args]) (d:=fn0) (xs:=ps) (i:=i) (k:=2) om
  exact this
structure FM where
 vars:Int
 nodes:List FN
 top:Int
def Wr (T:TypeId) (c:Int):CV:=if c=0 then .nilI else .ifc T (.int .i64 c)
@[go_sem] theorem Qwz (T:TypeId) (c:Int):(Wr T c).solid=true:=by unfold Wr;split<;>rfl
theorem Qk8 {P:Program} {nw:Bool} {t T:TypeId} {y:Operand} {c:Int} (hy:Qge y=true):We P nw .eql t y (.c (Wr T c)) (.c .nilI)=some (QaT P t=true,.c (.bool (decide (c=0)))):=by
 unfold Wr
 split
 ·rename_i h;simp [We,hy,nilAV,h]
 ·rename_i h;simp [We,hy,nilAV,h]
theorem Qk9 {P:Program} {nw:Bool} {t T:TypeId} {y:Operand} {c:Int} (hy:Qge y=true):We P nw .neq t y (.c (Wr T c)) (.c .nilI)=some (QaT P t=true,.c (.bool (!decide (c=0)))):=by
 unfold Wr
 split
 ·rename_i h;simp [We,hy,nilAV,h]
 ·rename_i h;simp [We,hy,nilAV,h]
@[go_sem ↓] theorem QvS (P:Program) (nw:Bool) (t T:TypeId) (c:Int):We P nw .eql t (.const .nilIface) (.c (Wr T c)) (.c .nilI)=some (QaT P t=true,.c (.bool (decide (c=0)))):=Qk8 rfl
@[go_sem ↓] theorem QvT (P:Program) (nw:Bool) (t T:TypeId) (c:Int):We P nw .neq t (.const .nilIface) (.c (Wr T c)) (.c .nilI)=some (QaT P t=true,.c (.bool (!decide (c=0)))):=Qk9 rfl
theorem Zv {h:Qa} {T:TypeId} {c:Int}:Ut h (Wr T c) (Wr T c):=by unfold Wr;split;exact .nilI;exact .ifc (.int _ _)
theorem Z6 {h:Qa} {T:TypeId} {c:Int} (e:c=0):Ut h .nilI (Wr T c):=by unfold Wr;rw [iP e];exact .nilI
theorem Ws {h:Qa} {T:TypeId} {n c:Int} (e:n=c) (h0:c≠0):Ut h (.ifc T (.int .i64 n)) (Wr T c):=by unfold Wr;rw [iN h0,e];exact .ifc (.int _ _)
theorem lf_ler {α:Type} {h:Qa} {s:Nat} {c:α→List CV} {d:α} {xs:List α} (hs:0<s) (hc:∀x∈xs,∀k,k<s→Ut h (ofL (c x) k) (ofL (c x) k)):∀j,j<xs.length*s→Ut h (lf s c d xs j) (lf s c d xs j):=fun j hj=>by
 unfold lf
 have h1:j/s<xs.length:=(Nat.div_lt_iff_lt_mul hs).2 hj
 rw [Lg,Li h1]
 exact hc _ (Le h1) _ (Nat.mod_lt _ hs)
theorem QqV {h:Qa} {t:Bool} {ps:List RD}:Ut h (VQ true ps) (VQ t ps):=
 .row (lf_ler om fun x _ k hk=>by match k,hk with|0,_=>exact .bool _|1,_=>exact Xc|2,_=>exact Xc)
end Go.AI
namespace Go.Proofs.YtngjgahldnnapaaGreatDoor
open Go.AI Go.PN Proofs.Tryz
attribute [local irreducible] aw Fa ZN ZZ Fh YE
abbrev Y2 (c:Int):CV:=Wr 49 c
theorem Qla (c:Int):Fa prog 11 [.c (Y2 c)] (.c (.int .i64 c)):=by
 by_cases h:c=0
 ·have e:Y2 c=.nilI:=by unfold Y2 Wr;rw [iP h]
  rw [e]
  refine fA func11 fun C hC=>?_
  refine Qhm ?_
  refine xT hC ?_
  exact .one (.c (Qo h.symm))
 ·have e:Y2 c=.ifc 49 (.int .i64 c):=by unfold Y2 Wr;rw [iN h]
  rw [e]
  refine fA func11 fun C hC=>?_
  refine xG ?_
  refine xN ?_
  refine Qhm ?_
  refine xT hC ?_
  exact .one (.c (.int _ _))
instance:DecidableEq RD:=fun a b=>decidable_of_iff (a.neg=b.neg∧a.num=b.num∧a.den=b.den) (by cases a;cases b;simp)
end Go.Proofs.YtngjgahldnnapaaGreatDoor
namespace Go.AI
open Go.PN
def QcG (w:World):Bool→Nat→Prop:=fun _ b=>b<w.heap.size
theorem FaQ.below {T:(Bool→Nat→Prop)→World→Prop} {P:Program} {f:FuncId} {args:List AV} {b:Bool} (hf:FaQ T P f args (.c (.bool b))) {w:World} {vs:List Value} (hT:T (QcG w) w) (hr:Vc (QcG w) w args vs):
  Calls P f vs.toArray w fun e w'=>e=.returned (.bool b)∧RowKit.Below w.heap.size w w':=by
 refine(hf.2 (QcG w) w vs (fun _ h=>h) (fun _ _ h=>h) hT hr).mono ?_
 rintro e w' ⟨v,rfl,hv,hfr⟩
 have hv':v=.bool b:=hv
 subst hv'
 exact⟨rfl,hfr.os,hfr.tape,hfr.output,hfr.size,fun k hk=>hfr.block k hk (fun x=>x)⟩
theorem Fa.below {P:Program} {f:FuncId} {args:List AV} {b:Bool} (hf:Fa P f args (.c (.bool b))) {w:World} {vs:List Value} (hr:Vc (QcG w) w args vs):
 Calls P f vs.toArray w fun e w'=>e=.returned (.bool b)∧RowKit.Below w.heap.size w w':=FaQ.below (T:=fun _ _=>True) hf trivial hr
end Go.AI
namespace Go.Proofs.YtngjgahldnnapaaGreatDoor
open Go.AI Go.PN Go.ChangeShapes
section
variable {P : Program}
def Rdr (P:Program) (t:TypeId) {α:Type} (c:α→List CV) (B:α→Nat→Prop):Prop:=
 ∀(H:Type) (enc:TypeId×Value→H) (w:World) (fuel:Nat) (cs:List Value) (x:DataW H×List MemPlace),DataW.trod enc P w 0 (fun _=>true) true fuel t cs=some x→∃y,X4 (QcG w) w (c y) cs∧B y (Rows.uptoBulk x.1)
theorem QtP {t:TypeId} {k:IntKind} (ht:P.underlying t=some (.int k)):Rdr P t (fun n:Int=>[.int k n]) (fun n _=>(Lit.int k n).wf=true):=fun H enc w fuel cs x h=>by
 obtain⟨n,rfl,rfl,hw⟩:=DataW.trod_int ht h
 exact⟨n,⟨rfl,trivial⟩,hw⟩
theorem QqW {t:TypeId} (ht:P.underlying t=some (.int .u32)):Rdr P t (fun n:Nat=>[.int .u32 n]) (fun n _=>n<4294967296):=fun H enc w fuel cs x h=>by
 obtain⟨n,rfl,rfl,hw⟩:=DataW.trod_int ht h
 have hb:0≤n∧n≤4294967295:=by simpa [Lit.wf,IntKind.min,IntKind.max,IntKind.signed,IntKind.bits] using hw
 refine⟨n.toNat,⟨?_,trivial⟩,by omega⟩
 show Value.int .u32 n=Value.int .u32 ((n.toNat:Nat):Int)
 rw [show((n.toNat:Nat):Int)=n from by omega]
theorem QqX {t:TypeId} (ht:P.underlying t=some .bool):Rdr P t (fun b:Bool=>[.bool b]) (fun _ _=>True):=fun H enc w fuel cs x h=>by
 obtain⟨n,rfl,rfl⟩:=DataW.trod_bool ht h
 exact⟨n,⟨rfl,trivial⟩,trivial⟩
theorem Qjb {H:Type} {d:DataW H}:∀{l:List (DataW H)},d∈l→Rows.uptoBulk d≤Rows.uptoBulkAll l
 |x::r,h=>by
  simp only [Rows.uptoBulkAll]
  cases Lb.1 h with
  |inl e=>subst e;omega
  |inr e=>have:=Qjb e;omega
theorem QqY {H:Type} (d:DataW H):1≤Rows.uptoBulk d:=by
 cases d with
 |lit l=>cases l<;>simp [Rows.uptoBulk]
 |nil=>simp [Rows.uptoBulk]
 |ptr d=>simp [Rows.uptoBulk]
 |slice elems spare=>simp [Rows.uptoBulk]
 |agg parts=>simp [Rows.uptoBulk]
 |iface t d=>simp [Rows.uptoBulk]
 |map entries=>simp [Rows.uptoBulk]
 |held h=>simp [Rows.uptoBulk]
theorem Qjc {H:Type}:∀(l:List (DataW H)),l.length≤Rows.uptoBulkAll l
 |[]=>by simp [Rows.uptoBulkAll]
 |x::r=>by have:=QqY x;have:=Qjc r;simp only [Rows.uptoBulkAll,Lc];omega
theorem ZO {t e:TypeId} {α:Type} {c:α→List CV} {B:α→Nat→Prop} {s:Nat} (z:α) (tg:Bool) (ht:P.underlying t=some (.slice e)) (hs:P.cellsOf e=s) (hs0:0<s) (hB:∀y m n,B y m→m≤n→B y n) (hr:Rdr P e c B):
  Rdr P t (fun ys:List α=>[CV.row tg s ys.length (lf s c z ys)]) (fun ys n=>ys.length≤n∧∀y∈ys,B y n):=fun H enc w fuel cs x h=>by
 rcases DataW.trod_slice ht h with ⟨rfl,rfl⟩|⟨a,len,cap,elems,rest,n,rfl,rfl,rfl,_,hlc,_,hlen,hel,_,_⟩
 ·exact⟨[],⟨⟨none,0,rfl,Ac _,fun h0=>by simp at h0⟩,trivial⟩,by simp,by simp⟩
 ·have key:∀i,∃y:α,i<len→∃d∈elems.map (·.1),B y (Rows.uptoBulk d)∧∀k,k<s→∃u,w.cell? (a.add (i*s+k))=some u∧XX (QcG w) w (ofL (c y) k) u:=by
   intro i
   by_cases hi:i<len
   ·have h1:=hel i hi
    have h2:i<elems.length:=by omega
    rw [Li h2,hs] at h1
    obtain⟨us,hus,htr⟩:=Option.bind_eq_some_iff.1 h1
    obtain⟨y,hy,hb⟩:=hr H enc w n us _ htr
    obtain⟨_,hul,hue⟩:=World.cells?_some hus
    refine⟨y,fun _=>⟨_,List.mem_map.2 ⟨_,Le h2,rfl⟩,hb,fun k hk=> ?_⟩⟩
    have hlen2:=hy.length
    obtain⟨u,hu,hru⟩:=hy.get k ((c y)[k]'om) (Li om)
    refine⟨u,?_,by rw [Qak (c y) k _ (Li om)];exact hru⟩
    rw [←QdH]
    exact(hue k hk).trans hu
   ·exact⟨z,fun h=>absurd h hi⟩
  obtain⟨g,hg⟩:∃g:Nat→α,∀i,i<len→∃d∈elems.map (·.1),B (g i) (Rows.uptoBulk d)∧∀k,k<s→∃u,w.cell? (a.add (i*s+k))=some u∧XX (QcG w) w (ofL (c (g i)) k) u:=⟨fun i=>Classical.choose (key i),fun i=>Classical.choose_spec (key i)⟩
  have hbl:∀d∈elems.map (·.1),Rows.uptoBulk d≤Rows.uptoBulk (.slice (elems.map (·.1)) (rest.map (·.1))):=fun d hd=>by
   have:=Qjb hd
   simp only [Rows.uptoBulk];omega
  refine⟨(List.range len).map g,⟨⟨some a,cap,by simp,by simpa using hlc,fun h0=>⟨a,rfl,?_,fun j hj=> ?_⟩⟩,trivial⟩,?_,fun y hy=> ?_⟩
  ·simp only [Lw,List.length_range] at h0
   have hl0:0<len:=Nat.pos_of_ne_zero (fun e=>by subst e;simp at h0)
   obtain⟨_,_,_,hk⟩:=hg 0 hl0
   obtain⟨u,hu,_⟩:=hk 0 hs0
   have hb:=AI.block_add a (0*s+0)
   unfold World.cell? at hu
   rw [hb] at hu
   show a.block<w.heap.size
   by_cases hlt:a.block<w.heap.size
   ·exact hlt
   ·rw [Array.getElem?_eq_none om] at hu
    cases hu
  ·simp only [Lw,List.length_range] at hj
   have hi:j/s<len:=(Nat.div_lt_iff_lt_mul hs0).2 hj
   obtain⟨_,_,_,hk⟩:=hg (j/s) hi
   obtain⟨u,hu,hru⟩:=hk (j%s) (Nat.mod_lt _ hs0)
   refine⟨u,?_,?_⟩
   ·rw [Nc,Nat.div_add_mod] at hu;exact hu
   ·unfold lf
    rw [Lg]
    simpa [hi] using hru
  ·rw [Lw,List.length_range]
   have:=Qjc (elems.map (·.1))
   simp only [Rows.uptoBulk]
   rw [Lw] at this
   omega
  ·obtain⟨i,hi,rfl⟩:=List.mem_map.1 hy
   obtain⟨d,hd,hb,_⟩:=hg i (List.mem_range.1 hi)
   exact hB _ _ _ hb (hbl d hd)
theorem Rdr.to {t:TypeId} {α β:Type} {c:α→List CV} {c':β→List CV} {B:α→Nat→Prop} {B':β→Nat→Prop} (hr:Rdr P t c B) (f:α→β) (hc:∀y,c' (f y)=c y) (hB:∀y n,B y n→B' (f y) n):Rdr P t c' B':=fun H enc w fuel cs x h=>by
 obtain⟨y,h1,h2⟩:=hr H enc w fuel cs x h
 exact⟨f y,by rw [hc];exact h1,hB _ _ h2⟩
end
end Go.Proofs.YtngjgahldnnapaaGreatDoor
namespace Go.Proofs.YtngjgahldnnapaaGreatDoor
open Go.AI Go.PN Go.ChangeShapes Go.WideShapes Go.RowKit Proofs.Tryz
theorem Qgn:laidOutB prog=true:=by kernel_rfl
theorem own:ownKnob prog.godebug=none:=by kernel_rfl
section
variable {H : Type} {enc : TypeId × Value → H} {P : Program}
theorem QaL (hl:laidOutB P=true) {W W':World} {sp:Nat→Bool}:∀{ts:List TypeId} {vs:List Value} {ds:List (DataW H)} {p:List MemPlace},(∀t∈ts,P.readableRec t=true∧t<P.types.size)→DataW.TrodAll enc P W 0 (fun _=>true) true ts vs ds p→(∀x∈p,W.sameAt W' x)→(∀x∈p,sp x.block=true)→DataW.TrodAll enc P W' 0 sp true ts vs ds p
 |[],_,_,_,_,h,_,_=>by
  obtain⟨rfl,rfl,rfl⟩:=trodAll_nil h
  exact rfl
 |t::ts,_,_,_,hts,h,hs,hp=>by
  obtain⟨v,vs,d,ds,a,b,rfl,rfl,rfl,h1,h2⟩:=trodAll_cons h
  exact⟨a,b,WideElems.Trod_stays hl (hts t (Lf ..)).1 (hts t (Lf ..)).2 h1 (fun x hx=>hs x (List.mem_append_left _ hx)) (fun x hx=>hp x (List.mem_append_left _ hx)),
   QaL hl (fun t' ht=>hts t' (Lm _ ht)) h2 (fun x hx=>hs x (List.mem_append_right _ hx)) (fun x hx=>hp x (List.mem_append_right _ hx)),rfl⟩
theorem QaM {fn:Func} {s:ChangeSpec} {W W':World} {args:Array Value} {ds gs:List (DataW H)} {before:List MemPlace} {tb:TypeId} (hl:laidOutB P=true) (hts:∀t∈fn.params.toList,P.readableRec t=true∧t<P.types.size) (hrt:fn.resultTypes= #[tb]) (hbt:P.underlying tb=some .bool) (hvars:s.vars=[])
  (hW:DataW.Whole enc P fn.params.toList s.vars false W args.toList ds gs before) (hfn:∀gs':List (DataW H),gs'=[]→s.fn H (ds++gs')={results:=[.lit (.bool true)],args:=ds}) (hb:Below W.heap.size W W'):s.post enc P fn false true false false W args (.bool true) W':=by
 have hWk:=hW
 obtain⟨p,q,hA,hV,rfl,hfz,_⟩:=hW
 rw [hvars] at hV
 obtain⟨rfl,rfl⟩:=trodVars_none hV
 have hlt:∀x∈p++[],x.block<W.heap.size:=fun x hx=>by simpa using hWk.lt x hx
 have hlt':∀x∈p,x.block<W.heap.size:=fun x hx=>hlt x (List.mem_append_left _ hx)
 have hres:∀(b:Nat) (sp:Nat→Bool) (hd:Bool),DataW.TrodAll enc P W' b sp hd fn.resultTypes.toList ((Value.bool true).resultList fn.resultTypes.size) (s.fn H (ds++[])).results []:=fun b sp hd=>by
  rw [hrt,hfn [] rfl]
  exact trodAll_cons_mk (shut_bool hbt _) trodAll_mk0
 have hargs:∀sp:Nat→Bool,(∀x∈p,sp x.block=true)→DataW.TrodAll enc P W' 0 sp true fn.params.toList args.toList (s.fn H (ds++[])).args p:=fun sp hsp=>by
  rw [hfn [] rfl]
  exact QaL hl hts hA (fun x hx=>hb.same (hlt' x hx)) hsp
 have hvr:∀sp:Nat→Bool,DataW.TrodVars enc P W' sp s.vars (s.fn H (ds++[])).vars []:=fun sp=>by
  rw [hvars,hfn [] rfl];exact rfl
 refine⟨ds,[],p++[],[],p,[],hWk,hres _ _ _,hargs _ (fun x hx=>by simpa using hlt' x hx),hvr _,hb.frame _,fun _=> ?_⟩
 refine⟨ok_one hrt rfl (okWide_bool_mk hbt _),_,_,([]++p)++[],⟨[]++p,[],trodAll_append (hargs _ (fun _ _=>rfl)) (hres _ _ _),hvr _,rfl,?_,fun h=>by cases h⟩,?_⟩
 ·intro b off hp
  have hp':MemPlace.cell b off∈p++[]:=by simpa using hp
  rw [Below.frozen hb (hlt _ hp')]
  exact hfz b off hp'
 ·intro x hx _
  simpa using hx
theorem QmS {α:Type} {c:α→List CV} {B:α→Nat→Prop} {t:TypeId} {fs:Array Field} (hr:Rdr P t c B) (ht:P.underlying t=some (.struct fs)) {W:World} {base:Nat} {v:Value} {d:DataW H} {p:List MemPlace} (ho:Value.okWide P W .any base t v) (h:DataW.Trod enc P W 0 (fun _=>true) true t v d p):
  ∃y,OH (QcG W) W (.agg (c y)) v∧B y (Rows.uptoBulk d):=by
 obtain⟨cs,rfl,_⟩:=okWide_struct ht ho
 obtain⟨fuel,hf⟩:=h
 obtain⟨y,h1,h2⟩:=hr H enc W fuel _ _ hf
 exact⟨y,⟨cs.toList,by simp,h1⟩,h2⟩
end
theorem QmT {P:Program} {t:TypeId} (ht:P.underlying t=some .string):Rdr P t (fun l:BS=>[.str (sB l)]) (fun l n=>l.length+1≤n):=fun H enc w fuel cs x h=>by
 obtain⟨s,rfl,rfl,_⟩:=DataW.trod_string ht h
 exact⟨s.data.toList,⟨rfl,trivial⟩,Ac _⟩
end Go.Proofs.YtngjgahldnnapaaGreatDoor
namespace Go.AI
def fAsk {α:Type} [DecidableEq α] (a:α):List α→List MapEntry→Nat→Option (Nat×Value)
 |k::ks,e::es,i=>if a=k then some (i,e.val) else fAsk a ks es (i+1)
 |_,_,_=>none
structure Oq (P:Program) (kt:TypeId) {α:Type} [DecidableEq α] (K:α→Value):Prop where
 check:∀b a w,(Instr.checkKey b 10000 kt (K a)).run P w=.ok () w
 find:∀(a:α) (ks:List α) (es:List MapEntry) w,es.map (·.key)=ks.map K→(Instr.findKey kt (K a) es).run P w=.ok (fAsk a ks es 0) w
section
variable {P : Program}
theorem JY {α:Type} [DecidableEq α] {K:α→Value} {kt:TypeId} (heq:∀a b w,(Op.equal kt (K a) (K b)).run P w=.ok (decide (a=b)) w) (a:α):∀(ks:List α) (es:List MapEntry) (i:Nat) (w:World),es.map (·.key)=ks.map K→(Instr.findAsking kt (K a) es i).run P w=.ok (fAsk a ks es i) w
 |[],[],i,w,_=>by simp [Instr.findAsking,fAsk]
 |k::ks,e::es,i,w,h=>by
  simp only [Ld,List.cons.injEq] at h
  simp only [Instr.findAsking,fAsk,Sem.run_bind,h.1,heq,Result.andThen_ok]
  by_cases hk:a=k
  ·simp [hk]
  ·simp only [hk,decide_false,Bool.false_eq_true,if_false]
   exact JY heq a ks es (i+1) w h.2
 |[],e::es,i,w,h=>by simp at h
 |k::ks,[],i,w,h=>by simp at h
def Qjd (ns:List Int):Value:=.agg (ns.map (Value.int .i64)).toArray
theorem Or {n:Nat} {ns:List Int} (w:World) (b:Bool):∀(fs:List Field) (k:Nat),(fs.zipIdx k).all (fun p=>p.1.name != "_" &&p.1.offset==p.2&&(Z4 P p.1.type).isSome)=true→k+fs.length≤ns.length→
  (forIn fs PUnit.unit (fun f (_:PUnit)=>(do
   if f.name≠ "_" then
    let __do_lift←part f.type (ns.map (Value.int .i64)).toArray f.offset
    Instr.checkKey b (n+1) f.type __do_lift
   pure (ForInStep.yield PUnit.unit):Sem (ForInStep PUnit)))).run P w=.ok PUnit.unit w
 |[],k,_,_=>by simp
 |f::fs,k,hf,hk=>by
  simp only [List.zipIdx_cons,List.all_cons,Ba,bne_iff_ne,ne_eq,beq_iff_eq] at hf
  obtain⟨⟨⟨hn,ho⟩,hi⟩,hr⟩:=hf
  simp only [Lc] at hk
  have hka:k<ns.length:=by omega
  obtain⟨kk,hkk⟩:=Option.isSome_iff_exists.1 hi
  have hu:=Kx hkk
  have hag:(isAgg f.type).run P w=.ok false w:=by simp [isAgg,run_underlying hu]
  have e1:(ns.map (Value.int .i64)).toArray[k]?=some (Value.int .i64 (ns[k])):=by simp [hka]
  have p1:(part f.type (ns.map (Value.int .i64)).toArray f.offset).run P w=.ok (.int .i64 (ns[k])) w:=by
   unfold part
   simp only [Sem.run_bind,hag,Result.andThen_ok,Bool.false_eq_true,if_false,ho,e1,Sem.run_pure]
  have p2:(Instr.checkKey b (n+1) f.type (.int .i64 (ns[k]))).run P w=.ok () w:=by
   simp [Instr.checkKey,run_underlying hu]
  have ih:=Or (n:=n) (ns:=ns) w b fs (k+1) (by simpa using hr) om
  rw [List.forIn_cons]
  simp only [hn,not_false_eq_true,if_true,Sem.run_bind,p1,p2,Result.andThen_ok,Sem.run_pure,ne_eq]
  exact ih
theorem QtQ {kt n:Nat} (ht:Qeo P kt=some n):Oq P kt (fun ns:{l:List Int//l.length=n}=>Qjd ns.1):=by
 have hstr:P.underlying kt=some (.struct (P.fieldsOf kt))∧(P.fieldsOf kt).toList.zipIdx.all (fun p=>p.1.name != "_" &&p.1.offset==p.2&&(Z4 P p.1.type).isSome)=true∧(P.fieldsOf kt).size=n:=by
  unfold Qeo at ht
  split at ht
  ·rename_i hc
   simp only [Ba,Bool.not_eq_true'] at hc
   obtain⟨⟨⟨h1,h2⟩,h3⟩,h4⟩:=hc
   injection ht with ht
   exact⟨QaZ h4,h3,ht⟩
  ·cases ht
 obtain⟨hu,hf,hs⟩:=hstr
 have heq:∀(a b:{l:List Int//l.length=n}) (w:World),(Op.equal kt (Qjd a.1) (Qjd b.1)).run P w=.ok (decide (a=b)) w:=fun a b w=>by
  have:=(Qep ht a.2 b.2 w).1
  unfold Op.equal Op.maxDepth Qjd
  rw [this,Qqq]
  congr 1
  rw [Bool.eq_iff_iff];simp [Subtype.ext_iff]
 refine⟨fun b a w=> ?_,fun a ks es w h=> ?_⟩
 ·unfold Qjd
  rw [show(10000:Nat)=9999+1 from rfl,Instr.checkKey]
  simp only [Sem.run_bind,run_underlying hu,Result.andThen_ok]
  rw [←Array.forIn_toList]
  have:=Or (P:=P) (n:=9998) (ns:=a.1) w b (P.fieldsOf kt).toList 0 hf (by simp [hs,a.2])
  rw [this]
  rfl
 ·unfold Instr.findKey
  simp only [Sem.run_bind,run_underlying hu,Result.andThen_ok]
  cases es with
  |nil=>
   cases ks with
   |nil=>simp [Instr.findNow,fAsk]
   |cons k ks=>simp at h
  |cons e es=>
   have hn:Instr.findNow (.struct (P.fieldsOf kt)) (Qjd a.1) (e::es) 0=none:=by
    simp [Instr.findNow,Instr.sameNow]
   rw [hn]
   exact JY heq a ks (e::es) 0 w h
def Uu {α:Type} (K:α→Value) (kv:List (α×Value)) (o:Obj):Prop:=∃es c,o=.map es c∧es.toList.map (fun e=>(e.key,e.val))=kv.map (fun p=>(K p.1,p.2))
def Ya {α:Type} [DecidableEq α] (a:α):List (α×Value)→Option Value
 |[]=>none
 |p::kv=>if a=p.1 then some p.2 else Ya a kv
theorem JZ {α:Type} [DecidableEq α] {K:α→Value} (a:α):∀(kv:List (α×Value)) (es:List MapEntry) (i:Nat),es.map (fun e=>(e.key,e.val))=kv.map (fun p=>(K p.1,p.2))→(fAsk a (kv.map (·.1)) es i).map (·.2)=Ya a kv
 |[],[],i,_=>rfl
 |p::kv,e::es,i,h=>by
  simp only [Ld,List.cons.injEq,Ab] at h
  simp only [Ld,fAsk,Ya]
  split
  ·simp [h.1.2]
  ·exact JZ a kv es (i+1) h.2
 |[],e::es,i,h=>by simp at h
 |p::kv,[],i,h=>by simp at h
def QbC (P:Program) (t:TypeId):Option (TypeId×TypeId):=match P.underlying t with
 |some (.map k e)=>some (k,e)
 |_=>none
theorem VZ {t k e:TypeId} (h:QbC P t=some (k,e)):P.underlying t=some (.map k e):=by
 unfold QbC at h
 split at h
 ·rename_i hu;simp only [Aa,Ab] at h;rw [hu,h.1,h.2]
 ·cases h
def tZ1 (P:Program) (t:TypeId):Option Value:=match (P.info? t).bind (·.zero) with
 |some (.int k n)=>some (.int k n)
 |some (.bool b)=>some (.bool b)
 |_=>none
theorem QmU {t:TypeId} {z:Value} (h:tZ1 P t=some z) (w:World):(zeroValue t).run P w=.ok z w:=by
 unfold tZ1 at h
 cases hi:P.info? t with
 |none=>simp [hi] at h
 |some i=>
  cases hz:i.zero with
  |none=>simp [hi,hz] at h
  |some v=>
   simp only [hi,hz,Option.bind_some] at h
   split at h
   ·rename_i he;injection he with he;injection h with h;subst h;simp [zeroValue,typeInfo,hi,hz,he]
   ·rename_i he;injection he with he;injection h with h;subst h;simp [zeroValue,typeInfo,hi,hz,he]
   ·cases h
theorem OW {w:World} {r:Nat} {es:Array MapEntry} {c:Nat} (hb:w.heap[r]?=some (.map es c)):(getObj r).run P w=.ok (.map es c) w:=by simp [getObj,Sem.run,hb]
theorem Qhz {w:World} {r:Nat} {es:Array MapEntry} {c:Nat} (o':Obj) (hb:w.heap[r]?=some (.map es c)):(setObj r o').run P w=.ok () {w with heap:=w.heap.setIfInBounds r o'}:=by simp [setObj,Sem.run,hb]
variable {E : Vl} {K : List It} {σ σ' : Sl} {h : Qa} {all rest : List Oper} {o : Oper}
theorem QeF {α:Type} {Kf:α→Value} {t:TypeId} (hop:o.op=.makeMap t none) (hw:Qx all σ o=some true) (hd:Qw E.N o.dst=true)
  (k:∀g,g∉h.keys→aw E (.ops all rest::K) (σ.setO o.dst (.c (.raw (.map (some g))))) ((g,.gen (Uu Kf []))::h)):aw E (.ops all (o::rest)::K) σ h:=by
 refine UU (r:=fun g=>.c (.raw (.map (some g)))) (ob:=.gen (Uu Kf [])) hw hd (fun a w s=> ?_) k
 refine⟨.map (some w.heap.size),w.alloc (.map #[] 0),?_,Fr.alloc _ _ _,by simp,⟨_,heap_alloc_new w _,_,_,rfl,rfl⟩,rfl⟩
 simp only [execOp,hop]
 rfl
theorem QoB {α:Type} [DecidableEq α] {Kf:α→Value} {t kt et g:TypeId} {kv:List (α×Value)} {x ky:Operand} {ck:AV} {a:α} {z:Value} (hop:o.op=.lookup t x ky false) (hw:Qx all σ o=some true) (hd:Qw E.N o.dst=true)
  (ht:QbC E.P t=some (kt,et)) (hK:Oq E.P kt Kf) (hz:tZ1 E.P et=some z) (hx:ev σ x=.c (.raw (.map (some g)))) (hg:h.get g=some (.gen (Uu Kf kv))) (hk:ev σ ky=ck) (hka:∀S w v,VK S w ck v→v=Kf a)
  (k:aw E (.ops all rest::K) (σ.setO o.dst (.c (U7 ((Ya a kv).getD z)))) h):aw E (.ops all (o::rest)::K) σ h:=by
 refine V9 hw (fun ac w s=> ?_) k
 have h1:=QK s x
 rw [hx] at h1
 have h1':ac.eval x=.map (some g):=h1
 have h2:=QK s ky
 rw [hk] at h2
 have h2':=hka _ _ _ h2
 obtain⟨ob,hb,es,c,rfl,hes⟩:=s.heap g _ (Qa.get_mem hg)
 have hkeys:es.toList.map (·.key)=(kv.map (·.1)).map Kf:=by
  have:=congrArg (List.map Prod.fst) hes
  rw [List.map_map,List.map_map] at this
  rw [List.map_map]
  exact this
 have hfind:=hK.find a (kv.map (·.1)) es.toList w hkeys
 have hget:=JZ (K:=Kf) a kv es.toList 0 hes
 refine⟨(Ya a kv).getD z,w,.inl ?_,s.put hd (U8 _ _ _)⟩
 have hlk:(Instr.lookup t (ac.eval x) (ac.eval ky) false).run E.P w=.ok ((Ya a kv).getD z) w:=by
  rw [h1',h2']
  unfold Instr.lookup
  simp only [Sem.run_bind,run_underlying (VZ ht),Result.andThen_ok,OW hb,Sem.run_pure,hK.check,hfind]
  rw [←hget]
  cases hf:fAsk a (kv.map (·.1)) es.toList 0 with
  |none=>simp [QmU hz]
  |some p=>obtain⟨i,v⟩:=p;simp
 simp only [execOp,hop,Sem.run_bind,hlk,Result.andThen_ok]
 rfl
theorem JI {α:Type} [DecidableEq α] {Kf:α→Value} {t kt et g:TypeId} {kv:List (α×Value)} {x ky vl:Operand} {ck cv:AV} {a:α} {v:Value} (hop:o.op=.mapUpdate t x ky vl) (hdn:o.dst=none) (hw:Qx all σ o=some true)
  (ht:QbC E.P t=some (kt,et)) (hK:Oq E.P kt Kf) (hx:ev σ x=.c (.raw (.map (some g)))) (hg:h.get g=some (.gen (Uu Kf kv))) (hk:ev σ ky=ck) (hka:∀S w u,VK S w ck u→u=Kf a) (hv:ev σ vl=cv) (hva:∀S w u,VK S w cv u→u=v)
  (hnew:Ya a kv=none) {h':Qa} (hh:h.set g (.gen (Uu Kf (kv++[(a,v)])))=h') (k:aw E (.ops all rest::K) σ h'):aw E (.ops all (o::rest)::K) σ h:=by
 subst hh
 refine V9 hw (fun ac w s=> ?_) k
 have h1:=QK s x
 rw [hx] at h1
 have h1':ac.eval x=.map (some g):=h1
 have h2:=QK s ky
 rw [hk] at h2
 have h2':=hka _ _ _ h2
 have h3:=QK s vl
 rw [hv] at h3
 have h3':=hva _ _ _ h3
 obtain⟨ob,hb,es,c,rfl,hes⟩:=s.heap g _ (Qa.get_mem hg)
 have hkeys:es.toList.map (·.key)=(kv.map (·.1)).map Kf:=by
  have:=congrArg (List.map Prod.fst) hes
  rw [List.map_map,List.map_map] at this
  rw [List.map_map]
  exact this
 have hfind:=hK.find a (kv.map (·.1)) es.toList w hkeys
 have hget:=JZ (K:=Kf) a kv es.toList 0 hes
 have hnone:fAsk a (kv.map (·.1)) es.toList 0=none:=by
  cases hf:fAsk a (kv.map (·.1)) es.toList 0 with
  |none=>rfl
  |some p=>rw [hf,hnew] at hget;cases hget
 have hgl:g<w.heap.size:=(Array.getElem?_eq_some_iff.1 hb).1
 let w':World:={w with heap:=w.heap.setIfInBounds g (.map (es.push {key:=Kf a,val:=v,born:=c}) (c+1))}
 have hrun:(Instr.mapUpdate t (ac.eval x) (ac.eval ky) (ac.eval vl)).run E.P w=.ok () w':=by
  rw [h1',h2',h3']
  unfold Instr.mapUpdate
  simp only [Sem.run_bind,run_underlying (VZ ht),Result.andThen_ok,OW hb,hK.check,hfind,hnone,Qhz _ hb]
  rfl
 refine⟨undef,w',.inr ⟨?_,rfl⟩,?_⟩
 ·simp only [execOp,hop,Sem.run_bind,hrun,Result.andThen_ok]
  rfl
 ·rw [hdn]
  have hfr:Fr (fun b=>b=g) w w':=by
   refine⟨rfl,rfl,rfl,by simp [w'],Ac _,fun b _ hne=> ?_,fun g' m hh=> ?_⟩
   ·simp only [w'];rw [Array.getElem?_setIfInBounds_ne (fun e=>hne e.symm)]
   ·obtain⟨cs,ty,⟨fr,hc⟩,hs⟩:=hh
    refine⟨cs,ty,⟨fr,?_⟩,hs⟩
    have hne:g'≠g:=fun e=>by rw [e,hb] at hc;cases hc
    simp only [w']
    rw [Array.getElem?_setIfInBounds_ne (fun e=>hne e.symm)];exact hc
  refine s.setObj hg hfr ⟨_,by simp only [w'];rw [Array.getElem?_setIfInBounds_self_of_lt hgl],_,_,rfl,?_⟩
  simp only [Array.toList_push,List.map_append,Ld,List.map_nil,hes]
end
end Go.AI
namespace Go.AI
section
variable {E : Vl} {K : List It} {σ σ' : Sl} {h : Qa} {all rest : List Oper} {o : Oper}
theorem QeG {t e:TypeId} {t2:TypeId} {x:Operand} {tg:Bool} {s n:Nat} {f:Nat→CV} (hop:o.op=.binOp .eql t x (.const (.slice none 0 0)) t2) (hw:Qx all σ o=some true) (hd:Qw E.N o.dst=true) (ht:E.P.underlying t=some (.slice e)) (hx:ev σ x=.c (.row tg s n f)) (hs:0<s)
  (k:∀b:Bool,(b=true→n=0)→aw E (.ops all rest::K) (σ.setO o.dst (.c (.bool b))) h):aw E (.ops all (o::rest)::K) σ h:=fun a w st=>by
 have h1:=QK st x
 rw [hx] at h1
 obtain⟨A,c,hv,hc,hn⟩:=h1
 show wpList _ _ _ _ _ _
 unfold wpList
 rw [iP (st.wanted hw)]
 refine .inl ?_
 unfold Oper.wp
 have hrun:(execOp a.eval o).run E.P w=.ok (.value (.bool A.isNone)) w:=by
  have e2:a.eval (.const (.slice none 0 0))=.slice none 0 0:=rfl
  have h3:(eqGuard .eql t x (.const (.slice none 0 0)) (.slice A n c) (.slice none 0 0)).run E.P w=.ok () w:=by
   simp [eqGuard]
  have h4:(binOp .eql t (.slice A n c) (.slice none 0 0)).run E.P w=.ok (.bool A.isNone) w:=by
   unfold binOp
   simp [run_equal_slice_nil w t e A n c ht]
  simp only [execOp,hop,hv,e2,Sem.run_bind,h3,h4,Result.andThen_ok]
  rfl
 rw [hrun]
 refine k A.isNone (fun hb=> ?_) _ _ (st.put hd rfl)
 cases A with
 |none=>
  rcases Nat.eq_zero_or_pos n with h0|h0
  ·exact h0
  ·obtain⟨ad,e,_⟩:=hn (Nat.mul_pos h0 hs)
   cases e
 |some a=>cases hb
def ptrs (gs:List Nat):List Value:=gs.map fun g=>.pointer (some ⟨g,0,none⟩)
def fnC (f:FuncId) (gs:List Nat):CV:=.raw (.func (.func f) #[] (ptrs gs).toArray)
theorem Z7 {f:FuncId} {cs:List Operand} {gs:List Nat} (hop:o.op=.makeFunc (.func f) #[] cs.toArray) (hw:Qx all σ o=some true) (hd:Qw E.N o.dst=true) (hc:cs.map (ev σ)=gs.map fun g=>.c (.optr g 0))
  (k:aw E (.ops all rest::K) (σ.setO o.dst (.c (fnC f gs))) h):aw E (.ops all (o::rest)::K) σ h:=by
 refine V9 hw (fun a w s=> ?_) k
 have hev:∀(cs:List Operand) (gs:List Nat),cs.map (ev σ)=gs.map (fun g=>AV.c (.optr g 0))→cs.map a.eval=ptrs gs:=by
  intro cs
  induction cs with
  |nil=>intro gs hg;cases gs with
   |nil=>rfl
   |cons g gs=>cases hg
  |cons x cs ih=>intro gs hg;cases gs with
   |nil=>cases hg
   |cons g gs=>
    simp only [Ld,List.cons.injEq] at hg
    have h1:=QK s x
    rw [hg.1] at h1
    have h1':a.eval x=.pointer (some ⟨g,0,none⟩):=h1
    simp only [Ld,ptrs]
    rw [h1',ih gs hg.2]
    rfl
 refine⟨.func (.func f) #[] (ptrs gs).toArray,w,.inl ?_,s.put hd rfl⟩
 simp only [execOp,hop,Instr.makeFunc,List.map_toArray,hev cs gs hc]
 rfl
theorem Vc.ptrs {S:Bool→Nat→Prop} {w:World}:∀{A:List AV} {vs:List Value} (gs:List Nat),Vc S w A vs→Vc S w (A++gs.map fun g=>.c (.optr g 0)) (vs++AI.ptrs gs)
 |[],[],gs,_=>by
  induction gs with
  |nil=>trivial
  |cons g gs ih=>exact⟨rfl,ih⟩
 |_::_,_::_,gs,h=>⟨h.1,Vc.ptrs gs h.2⟩
 |[],_::_,_,h=>h.elim
 |_::_,[],_,h=>h.elim
theorem QoC {f:FuncId} {x:Operand} {gs:List Nat} {xs:List Operand} {ts:Array TypeId} {hc hr:Qa} {args:List AV} {Q:AV→Qa→Prop} (hf:Fh E.P f hc (args++gs.map fun g=>.c (.optr g 0)) Q) (hop:o.op=.call {callee:=.value x,args:=xs.toArray,argTypes:=ts}) (hw:Qx all σ o=some true) (hd:Qw E.N o.dst=true) (hx:ev σ x=.c (fnC f gs))
  (hp:h.Perm (hc++hr)) (le:Us [] (xs.map (ev σ)) args) (k:∀r h',Q r h'→(∀g∈h'.keys,g∉hr.keys)→aw E (.ops all rest::K) (σ.setO o.dst r) (h'++hr)):aw E (.ops all (o::rest)::K) σ h:=fun a w s=>by
 show wpList _ _ _ _ _ _
 unfold wpList
 rw [iP (s.wanted hw)]
 refine .inl ?_
 unfold Oper.wp
 have hv:a.eval x=.func (.func f) #[] (ptrs gs).toArray:=by
  have:=QK s x
  rw [hx] at this
  exact this
 have hrun:(execOp a.eval o).run E.P w=.ok (.enter f (xs.map a.eval++ptrs gs).toArray) w:=by
  simp only [execOp,hop,resolve,hv,Deferred.ofValue,invoke,Sem.run_bind]
  have:=hf.1.run (#[]++(Array.map a.eval xs.toArray)++(ptrs gs).toArray) w
  simp only [Sem.run_pure,Result.andThen_ok]
  rw [show((xs.map a.eval++ptrs gs).toArray)=(#[]++(Array.map a.eval xs.toArray)++(ptrs gs).toArray) from by simp]
  exact this
 rw [hrun]
 show Calls _ _ _ _ _
 refine(hf.use s hp (Vc.ptrs gs (Us.rep0 s le))).mono ?_
 rintro e w' ⟨v,r,h',rfl,hq,hfr,s',hrep⟩
 exact k r h' hq hfr _ _ (s'.put hd hrep)
theorem QcH {f:FuncId} {x:Operand} {xs:List Operand} {ts:Array TypeId} {args:List AV} {r:AV} (hf:Fa E.P f args r) (hop:o.op=.call {callee:=.value x,args:=xs.toArray,argTypes:=ts}) (hw:Qx all σ o=some true) (hd:Qw E.N o.dst=true) (hx:ev σ x=.c (.raw (.func (.func f) #[] #[])))
  (le:Us h (xs.map (ev σ)) args) (k:aw E (.ops all rest::K) (σ.setO o.dst r) h):aw E (.ops all (o::rest)::K) σ h:=fun a w s=>by
 show wpList _ _ _ _ _ _
 unfold wpList
 rw [iP (s.wanted hw)]
 refine .inl ?_
 unfold Oper.wp
 have hv:a.eval x=.func (.func f) #[] #[]:=by
  have:=QK s x
  rw [hx] at this
  exact this
 have hrun:(execOp a.eval o).run E.P w=.ok (.enter f (xs.map a.eval).toArray) w:=by
  simp only [execOp,hop,resolve,hv,Deferred.ofValue,invoke,Sem.run_bind]
  have:=hf.1.run (#[]++(Array.map a.eval xs.toArray)++ #[]) w
  simp only [Sem.run_pure,Result.andThen_ok]
  rw [show((xs.map a.eval).toArray)=(#[]++(Array.map a.eval xs.toArray)++ #[]) from by simp]
  exact this
 rw [hrun]
 show Calls _ _ _ _ _
 refine(hf.use s le).mono ?_
 rintro e w' ⟨v,rfl,hr,hfr⟩
 exact k _ _ ((s.later hfr).put hd hr)
end
end Go.AI
namespace Go.AI
section
variable {E : Vl} {K : List It} {σ σ' : Sl} {h : Qa} {all l rest : List Oper} {o o1 o2 : Oper}
theorem Ov.buildSlice {t e size bytes len:Nat} {xs:List Operand} {cells:List CV} (hop:o.op=.buildSlice t len (Qdh 0 xs).toArray) (hw:Qx l σ o=some true) (hd:Qw E.N o.dst=true) (ht:QR E.P t=some (e,size,bytes))
  (hz:(Qj E.P e).isSome=true) (hl:xs.length=len) (hsm:len*size≤16777216) (hlm:len≤16777216) (hx:∀x∈xs,(ev σ x).flat=true∧(ev σ x).cells.all CV.solid=true∧(ev σ x).cells.length=size) (hc:(xs.map (ev σ)).flatMap AV.cells=cells) (hops:∀x∈xs,x∈o.op.operands):
  Ov E h l σ o (fun g=>.c (.osl g size 0 len)) (.cells e (len*size) (ofL cells)):=by
 subst hc
 refine Ov.of_run hw hd fun σ' ext a w he s=> ?_
 have hmap:xs.map (ev σ')=xs.map (ev σ):=List.map_congr_left fun x hx'=>he x (hops x hx')
 have hx2:∀x∈xs,(ev σ' x).flat=true∧(ev σ' x).cells.all CV.solid=true∧(ev σ' x).cells.length=size:=fun x hx'=>by rw [he x (hops x hx')];exact hx x hx'
 rw [←hmap]
 obtain⟨hu,inf,hi,hsz,_⟩:=Xg ht
 obtain⟨z,hz'⟩:=Option.isSome_iff_exists.1 hz
 obtain⟨i',zv,hi',hzv,_⟩:=YI hz'
 rw [hi] at hi'
 injection hi' with hi'
 subst hi'
 obtain⟨hL,hcs⟩:=Qcr s size xs hx2
 have hnk:w.heap.size∉(ext++h).keys:=fun hm=>Nat.lt_irrefl _ (s.klt hm)
 generalize hvs:xs.map a.eval=vs at hL hcs
 have hlv:vs.length=len:=by rw [←hvs];simpa using hl
 have hfl:(vs.flatMap fun v=>v.cells.toList).length=len*size:=by
  rw [←hlv]
  clear hL hvs hlv
  induction vs with
  |nil=>simp
  |cons v vs ih=>simp only [List.flatMap_cons,La,Lc,ih (fun x hx=>hcs x (Lm _ hx)),Nat.add_mul];have:=hcs v (by simp);simp [this];omega
 refine⟨.slice (some ⟨w.heap.size,0,none⟩) len len,w.alloc (.cells (vs.flatMap fun v=>v.cells.toList).toArray e),?_,Fr.alloc _ _ _,by simp,?_,?_⟩
 ·have hm:(Array.map (fun x:Nat×Operand=>(x.1,a.eval x.2)) (Qdh 0 xs).toArray).toList=enumL 0 vs:=by
   rw [←hvs,←Qel];simp
  have hfill:∀zc:Array Value,Instr.fill (fun i=>some (i*size,size)) ((Array.range (len*size)).map (fun x=>zc[x%zc.size]!)) (enumL 0 vs)=some (vs.flatMap fun v=>v.cells.toList).toArray:=fun zc=>by
   rw [Qek size vs 0 _ hcs (by simp [hlv])]
   rw [Nat.zero_mul,Qgf _ _ (by simp [hfl])]
  simp only [execOp,hop,Instr.buildSlice,Sem.run_bind,run_underlying hu,Result.andThen_ok,sizeOf,typeInfo,Sem.run_pure]
  simp only [run_program,hi,Result.andThen_ok,Sem.run_pure,hsz]
  rw [iN om]
  rw [hm]
  by_cases h0:len*size=0
  ·rw [iP h0]
   simp only [Sem.run_bind,Sem.run_pure,Result.andThen_ok,hfill]
   rfl
  ·rw [iN h0]
   simp only [Sem.run_bind,Sem.run_pure,Result.andThen_ok,zeroValue,typeInfo,run_program,hi,hzv,hfill]
   rfl
 ·have hr:=Wc (C:=E.C) (w:=w) (ty:=e) (h':=((w.heap.size,XD.cells e (len*size) (ofL ((xs.map (ev σ')).flatMap AV.cells)))::(ext++h))) (hL.keep (OM hnk))
  have hcl:((xs.map (ev σ')).flatMap AV.cells).length=len*size:=by rw [←hL.length,hfl]
  rw [hcl] at hr
  exact hr
 ·exact⟨len,rfl,Ac _,by unfold maxLen;omega,(vs.flatMap fun v=>v.cells.toList).toArray,e,⟨_,heap_alloc_new w _⟩,by simp [hfl]⟩
end
end Go.AI
namespace Go.AI
theorem eI {P:Prop} (k:P:=by(repeat' first|exact Qf|refine Qm ?_ ?_)<;>simp):P:=k
theorem Fh.mono {P:Program} {f:FuncId} {hc:Qa} {args:List AV} {Q Q':AV→Qa→Prop} (hf:Fh P f hc args Q) (h:∀r h',Q r h'→Q' r h'):Fh P f hc args Q':=
 ⟨hf.1,fun C vs h1 h2 h3 h4=>(hf.2 C vs h1 h2 h3 h4).mono (by
  rintro e w ⟨v,r,h',he,hq,rest⟩
  exact⟨v,r,h',he,h _ _ hq,rest⟩)⟩
def neA (a:Nat):List Nat→Prop
 |[]=>True
 |b::l=>((a=b)=False∧(b=a)=False)∧neA a l
def ndP:List Nat→Prop
 |[]=>True
 |a::l=>neA a l∧ndP l
theorem QqZ {a:Nat}:∀{l:List Nat},a∉l→neA a l
 |[],_=>trivial
 |b::l,h=>by
  rw [Lb,not_or] at h
  exact⟨⟨eq_false h.1,eq_false fun e=>h.1 e.symm⟩,QqZ h.2⟩
theorem Qlb:∀{l:List Nat},l.Nodup→ndP l
 |[],_=>trivial
 |a::l,h=>by
  rw [List.nodup_cons] at h
  exact⟨QqZ h.1,Qlb h.2⟩
section
variable {E : Vl} {K : List It} {l : List Oper} {FP : Qa} {σ σ' : Sl} {h : Qa} {o : Oper} {i : Nat} {cs : List (Nat × Nat)}
theorem QhA {h':Qa} (hp:h.Perm h') (k:CW E l K FP cs σ h'):CW E l K FP cs σ h:=by
 induction cs generalizing σ h h' with
 |nil=>
  cases k with
  |nil k=>exact .nil (Qi hp k)
 |cons c cs ih=>
  cases k with
  |flt ho hf k=>exact .flt ho hf (ih hp k)
  |fre ho hf k=>exact .fre ho hf (ih hp k)
  |pin ho hmk hpn hfp k=>exact .pin ho hmk (fun σ' K hs=>Qi hp (hpn σ' K hs)) hfp k
theorem Ov.makeMap {α:Type} {Kf:α→Value} {t:TypeId} (hop:o.op=.makeMap t none) (hw:Qx l σ o=some true) (hd:Qw E.N o.dst=true):Ov E h l σ o (fun g=>.c (.raw (.map (some g)))) (.gen (Uu Kf [])):=by
 refine Ov.of_run hw hd fun σ' ext a w he s=> ?_
 refine⟨.map (some w.heap.size),w.alloc (.map #[] 0),?_,Fr.alloc _ _ _,by simp,⟨_,heap_alloc_new w _,_,_,rfl,rfl⟩,rfl⟩
 simp only [execOp,hop]
 rfl
end
end Go.AI
namespace Go.AI
section
variable {E : Vl} {K : List It} {σ σ' : Sl} {h : Qa} {all rest : List Oper} {o : Oper}
theorem Wt {g n:Nat} {ty:TypeId} {f f':Nat→CV} {h:Qa} (hf:∀j,j<n→∀S w u,XX S w (f j) u→XX S w (f' j) u) (k:aw E K σ ((g,.cells ty n f')::h)):aw E K σ ((g,.cells ty n f)::h):=fun a w s=>by
 refine k a w ⟨s.size,s.defers,s.slots,fun g' o' hm=> ?_,s.nodup,s.keys,s.frame⟩
 rcases Lb.1 hm with e|hm
 ·injection e with e1 e2
  subst e1 e2
  obtain⟨cs,hb,hc,hj⟩:=s.heap _ _ (Lf ..)
  exact⟨cs,hb,hc,fun j hjl=>by obtain⟨u,hu,hr⟩:=hj j hjl;exact⟨u,hu,hf j hjl _ _ _ hr⟩⟩
 ·exact s.heap g' o' (Lm _ hm)
theorem XS {S:Bool→Nat→Prop} {w:World} {u:Value} {t:Bool} {s:Nat} {f:Nat→CV} (h:XX S w .nils u):XX S w (.row t s 0 f) u:=by
 obtain⟨A,hv⟩:=h
 exact⟨A,0,hv,Ac _,fun h0=>by simp at h0⟩
theorem Sl.set_set (t:Nat) (u v:AV):∀σ:Sl,(σ.set t u).set t v=σ.set t v
 |[]=>by simp [Sl.set]
 |(t',x)::σ=>by
  simp only [Sl.set]
  by_cases e:t'=t
  ·rw [iP e,iP e];simp [Sl.set]
  ·rw [iN e,iN e];simp only [Sl.set,iN e];rw [Sl.set_set t u v σ]
theorem QhB {t g s off n m:Nat} {ty:TypeId} {f:Nat→CV} (f':Nat→CV) {σ':Sl} {h':Qa} (ht:σ.get t=.c (.osl g s off n)) (hg:h.get g=some (.cells ty m f)) (hm:off+n*s≤m) (hn:¬E.C.own0 g) (hf:∀j,j<n*s→f (off+j)=f' j) (hσ:σ.set t (.c (.row true s n f'))=σ') (hh:h.del g=h')
  (k:aw E K σ' h'):aw E K σ h:=by
 refine Qqk ht hg hm hn rfl hh ?_
 refine Zs (t:=t) (v:=.c (.row true s n f')) (σ':=σ') (fun S w u hr=> ?_) ?_ k
 ·rw [Sl.get_set,iP rfl] at hr
  obtain⟨A,c,hv,hc,hn⟩:=hr
  refine⟨A,c,hv,hc,fun h0=> ?_⟩
  obtain⟨ad,hA,hS,hj⟩:=hn h0
  refine⟨ad,hA,hS,fun j hjl=> ?_⟩
  obtain⟨u,hu,hru⟩:=hj j hjl
  exact⟨u,hu,by rw [←hf j hjl];exact hru⟩
 ·rw [←hσ,Sl.set_set]
theorem QW {P:Program} {fn:Func} {C:Vk} {Q:AV→Qa→Prop} {rvs:List ResultVar} (hrs:fn.results=rvs.toArray) {h':Qa} (hsub:h'.Sublist h) (k:∀R:Option AV→Prop,(∀x,Qeh x=true→Q x h'→R (some x))→R (Vm P σ h rvs)):
  aw (Ky P fn C Q) (.code .ret::K) σ h:=by
 have hr:∀x,Qeh x=true→Q x h'→some x=Vm P σ h rvs→aw (Ky P fn C Q) (.code .ret::K) σ h:=fun x hf hq e a w s=>by
  refine wp_ret (WT a w ?_)
  obtain⟨v,hv,hrep⟩:=ON s hrs e.symm (JS hf)
  have hks:∀b,b∈h'.keys→b∈h.keys:=fun b hb=>by
   obtain⟨p,hp,e⟩:=List.mem_map.1 hb
   exact List.mem_map.2 ⟨p,hsub.subset hp,e⟩
  have kp:YA (QH C h w) (QH C h' w) w w:=⟨fun t b hb=>⟨hb.1,hb.2.1,fun hm=>hb.2.2 (hks b hm)⟩,fun _ _ _=>rfl,fun _ _ e=>e⟩
  exact⟨s.defers,v,hv,v,x,h',rfl,hq,(hsub.map _).nodup s.nodup,fun g hg=>s.keys g (hks g hg),hrep.keep kp,fun g o hm=>Y0.keep kp rfl (s.heap g o (hsub.subset hm)),s.frame⟩
 have:=k (fun y=>y=Vm P σ h rvs→aw (Ky P fn C Q) (.code .ret::K) σ h) hr
 exact this rfl
theorem Xi {gT m s n j0:Nat} {og:Option Nat} {ty tp:TypeId} {f f' fp:Nat→CV} (hf:f j0=gs og s n) (hf':f' j0=.row true s n fp) (hfo:∀j,j<m→j≠j0→f' j=f j) (hog:og=none→n=0) (ho:∀g,og=some g→¬E.C.own0 g)
  (k:aw E K σ ((gT,.cells ty m f')::h)):aw E K σ ((gT,.cells ty m f)::(gh og tp (n*s) fp++h)):=by
 cases og with
 |none=>
  have hn:=hog rfl
  subst hn
  refine Wt (f':=f') (fun j hj S w u hr=> ?_) k
  by_cases e:j=j0
  ·subst e
   rw [hf] at hr
   rw [hf']
   exact XS hr
  ·rw [hfo j hj e];exact hr
 |some gP=>
  have ho:=ho gP rfl
  show aw E K σ ((gT,.cells ty m f)::(gP,.cells tp (n*s) fp)::h)
  intro a w st
  refine k a w ?_
  have hnd:=st.nodup
  simp only [Qa.keys,Ld,List.nodup_cons,Lb,not_or] at hnd
  obtain⟨⟨hTP,hTh⟩,hPh,hh⟩:=hnd
  have hgm:(gP,XD.cells tp (n*s) fp)∈(gT,XD.cells ty m f)::(gP,.cells tp (n*s) fp)::h:=Lm _ (Lf ..)
  have hkg:gP∈Qa.keys ((gT,XD.cells ty m f)::(gP,.cells tp (n*s) fp)::h):=List.mem_map.2 ⟨_,hgm,rfl⟩
  have hks:∀b,b∈Qa.keys ((gT,XD.cells ty m f')::h)→b∈Qa.keys ((gT,XD.cells ty m f)::(gP,.cells tp (n*s) fp)::h):=fun b hb=>by
   simp only [Qa.keys,Ld,Lb] at hb⊢
   exact hb.imp id .inr
  have kp:YA (QH E.C ((gT,.cells ty m f)::(gP,.cells tp (n*s) fp)::h) w) (QH E.C ((gT,.cells ty m f')::h) w) w w:=⟨fun t b hb=>⟨hb.1,hb.2.1,fun hm=>hb.2.2 (hks b hm)⟩,fun _ _ _=>rfl,fun _ _ e=>e⟩
  refine⟨st.size,st.defers,fun t=>VK.keep kp (st.slots t),fun g ob hm=> ?_,?_,fun g hg=>st.keys g (hks g hg),st.frame⟩
  ·rcases Lb.1 hm with e|hm
   ·rw [Ab] at e
    obtain⟨e1,e2⟩:=e
    rw [e1,e2]
    clear hm e1 e2
    obtain⟨cs,hb,hcs,hj⟩:=st.heap gT _ (Lf ..)
    refine⟨cs,hb,hcs,fun j hjm=> ?_⟩
    obtain⟨u,hu,hr⟩:=hj j hjm
    refine⟨u,hu,?_⟩
    by_cases e:j=j0
    ·subst e
     rw [hf] at hr
     rw [hf']
     obtain⟨c,hv,hc,_,_⟩:=hr
     obtain⟨cs2,hb2,hcs2,hj2⟩:=st.heap gP _ hgm
     refine⟨some ⟨gP,0,none⟩,c,hv,hc,fun _=>⟨⟨gP,0,none⟩,rfl,⟨.inr ((st.keys gP hkg).resolve_left ho),st.klt hkg,?_⟩,fun q hq=> ?_⟩⟩
     ·simp only [Qa.keys,Ld,Lb,not_or]
      exact⟨fun e=>hTP e.symm,hPh⟩
     ·obtain⟨u2,hu2,hr2⟩:=hj2 q hq
      exact⟨u2,by rw [ZP,Nz,Zf hb2];exact hu2,hr2.keep kp⟩
    ·rw [hfo j hjm e]
     exact hr.keep kp
   ·exact Y0.keep kp rfl (st.heap g ob (Lm _ (Lm _ hm)))
  ·simp only [Qa.keys,Ld,List.nodup_cons]
   exact⟨hTh,hh⟩
theorem Vw {t s n n':Nat} {og:Option Nat} {ty:TypeId} {f f':Nat→CV} (hog:og=none→n=0) (hnn:n=n') (ht:σ.get t=.c (gs og s n)) (hn:∀g,og=some g→¬E.C.own0 g) (hf:∀j,j<n*s→f j=f' j) (hσ:σ.set t (.c (.row true s n' f'))=σ') (k:aw E K σ' h):aw E K σ (gh og ty (n*s) f++h):=by
 subst hnn
 cases og with
 |none=>
  have h0:=hog rfl
  subst h0
  refine Zs (t:=t) (v:=.c (.row true s 0 f')) (fun S w u hr=> ?_) hσ k
  rw [ht] at hr
  exact XS hr
 |some g=>
  refine QhB (t:=t) (g:=g) (s:=s) (off:=0) (n:=n) (m:=n*s) (ty:=ty) (f:=f) f' ht ?_ om (hn g rfl) (fun j hj=>by rw [Nz];exact hf j hj) hσ ?_ k
  ·show Qa.get ((g,_)::h) g=_
   simp [Qa.get]
  ·show Qa.del ((g,_)::h) g=_
   simp [Qa.del]
end
end Go.AI
namespace Go.AI
attribute [go_sem] List.size_toArray Int.reduceBEq Int.reduceBNe Int.reduceLT Int.reduceLE Int.reduceGT Int.reduceGE decide_true decide_false
@[go_sem] theorem QxO (a b:Nat):((a+b:Nat):Int)=(a:Int)+(b:Int):=rfl
@[go_sem] theorem QxP:((1:Nat):Int)=1:=rfl
@[go_sem] theorem QwA:((0:Nat):Int)=0:=rfl
@[go_sem] theorem QmV (a b:Nat):((a:Int)==(b:Int))=(a==b):=by rw [Bool.eq_iff_iff,beq_iff_eq,beq_iff_eq];omega
@[go_sem] theorem Xaz (a k:Nat):((a:Int)==(no_index (OfNat.ofNat k):Int))=(a==OfNat.ofNat k):=QmV a k
@[go_sem] theorem XaA (a:Nat):((a:Int)==0)=(a==0):=QmV a 0
@[go_sem] theorem XaB (a:Nat):((a:Int)==1)=(a==1):=QmV a 1
@[go_sem] theorem Qq0 (a b:Nat):((a:Int) !=(b:Int))=(a !=b):=by unfold bne;rw [QmV]
@[go_sem] theorem XaC (a k:Nat):((a:Int) !=(no_index (OfNat.ofNat k):Int))=(a !=OfNat.ofNat k):=Qq0 a k
@[go_sem] theorem XaD (a:Nat):((a:Int) !=0)=(a !=0):=Qq0 a 0
@[go_sem] theorem XaE (a:Nat):((a:Int) !=1)=(a !=1):=Qq0 a 1
@[go_sem] theorem QoD (a b:Nat):decide ((a:Int)<(b:Int))=decide (a<b):=by rw [decide_eq_decide];omega
@[go_sem] theorem QwB (a b:Nat):decide ((a:Int)≤(b:Int))=decide (a≤b):=by rw [decide_eq_decide];omega
@[go_sem] theorem XaG (a k:Nat):decide ((a:Int)<(no_index (OfNat.ofNat k):Int))=decide (a<OfNat.ofNat k):=QoD a k
@[go_sem] theorem XaH (a k:Nat):decide ((a:Int)≤(no_index (OfNat.ofNat k):Int))=decide (a≤OfNat.ofNat k):=QwB a k
@[go_sem] theorem XaI (a k:Nat):decide ((a:Int)>(no_index (OfNat.ofNat k):Int))=decide (a>OfNat.ofNat k):=QoD k a
@[go_sem] theorem XaJ (a k:Nat):decide ((a:Int)≥(no_index (OfNat.ofNat k):Int))=decide (a≥OfNat.ofNat k):=QwB k a
@[go_sem] theorem XaK (a:Nat):decide ((a:Int)>0)=decide (0<a):=QoD 0 a
@[go_sem] theorem XaL (a b:Nat):decide ((a:Int)≥(b:Int))=decide (a≥b):=QwB b a
@[go_sem] theorem XaM (a b:Nat):decide ((a:Int)>(b:Int))=decide (a>b):=QoD b a
@[go_sem] theorem XaN (a b:Nat):decide ((a:Int)+1<(b:Int))=decide (a+1<b):=QoD (a+1) b
@[go_sem] theorem XaO (a:Nat):decide ((a:Int)<1)=decide (a<1):=QoD a 1
@[go_sem] theorem QvU (a:Nat):((a:Int)+1).toNat=a+1:=rfl
theorem QtR (l:List CV) (k:Nat) (c:CV) (h:k<l.length):(fun j=>if j=k then c else ofL l j)=ofL (l.set k c):=by
 funext j
 induction l generalizing k j with
 |nil=>simp at h
 |cons x l ih=>
  cases k with
  |zero=>cases j with
   |zero=>rfl
   |succ j=>rfl
  |succ k=>cases j with
   |zero=>rfl
   |succ j=>
    have:=ih k (by simpa using h) j
    simpa [ofL] using this
@[go_sem] theorem QxQ (l:List CV) (k:Nat) (c:CV) (cs:List CV) (h:k<l.length):VL (ofL l) k (c::cs)=VL (ofL (l.set k c)) (k+1) cs:=by
  show VL (fun j=>if j=k then c else ofL l j) (k+1) cs=_
  rw [QtR l k c h]
@[go_sem] theorem QxR (l:List CV) (k:Nat):VL (ofL l) k []=ofL l:=rfl
theorem Qa.get_perm:∀{h:Qa} {g:Nat} {ob:XD},h.get g=some ob→h.Perm ((g,ob)::h.del g)
 |[],_,_,e=>by simp [Qa.get] at e
 |(g',x)::h,g,ob,e=>by
  by_cases hg:g'=g
  ·subst hg
   simp [Qa.get] at e
   subst e
   simp [Qa.del]
  ·simp only [Qa.get,iN hg] at e
   simp only [Qa.del,iN hg]
   exact((Qa.get_perm e).cons _).trans (List.Perm.swap _ _ _)
theorem Qa.set_perm:∀{h:Qa} {g:Nat} {ob ob':XD},h.get g=some ob→(h.set g ob').Perm ((g,ob')::h.del g)
 |[],_,_,_,e=>by simp [Qa.get] at e
 |(g',x)::h,g,ob,ob',e=>by
  by_cases hg:g'=g
  ·subst hg
   simp [Qa.set,Qa.del]
  ·simp only [Qa.get,iN hg] at e
   simp only [Qa.set,Qa.del,iN hg]
   exact((Qa.set_perm e).cons _).trans (List.Perm.swap _ _ _)
def Fg (P:Program) (f:FuncId) (g:Nat) (ob:XD) (args:List AV) (r:AV) (ob':XD):Prop:=Fh P f [(g,ob)] args fun x h=>x=r∧h=[(g,ob')]
section
variable {E : Vl} {K : List It} {σ σ' : Sl} {h : Qa} {all l rest : List Oper} {o : Oper}
theorem QbD {f:FuncId} {xs:List Operand} {ts:Array TypeId} {g:Nat} {ob ob':XD} {args:List AV} {r:AV} (hf:Fg E.P f g ob args r ob') (hop:o.op=.call {callee:=.value (.func f),args:=xs.toArray,argTypes:=ts}) (hw:Qx all σ o=some true) (hd:Qw E.N o.dst=true)
  (hg:h.get g=some ob) (le:Us [] (xs.map (ev σ)) args) (k:aw E (.ops all rest::K) (σ.setO o.dst r) (h.set g ob')):aw E (.ops all (o::rest)::K) σ h:=by
 refine Ql hf hop hw hd (hr:=h.del g) (Qa.get_perm hg) le ?_
 rintro _ _ ⟨rfl,rfl⟩ _
 exact Qi (Qa.set_perm hg).symm k
theorem Ko.pok {r:AV} (hw:Qx l σ o=some true) (hp:QA E.P h (ev σ) o.op r) (hd:Qw E.N o.dst=true):Ko E h l σ o r:=by
 refine⟨hd,fun σ' a w Q hs s=> ?_⟩
 rw [iP (s.wanted ((Xh hs).trans hw))]
 obtain⟨v,hrun,hr⟩:=hp (QH E.C h w) w a.eval QH.mono' (fun x hx=>by rw [←XI hx hs];exact QK s x) s.heap
 unfold Oper.wp
 rw [hrun o rfl]
 exact s.put hd hr
theorem KR {n:Nat} {r:AV} (hp:QA E.P h (ev σ) o.op r) (hw:Qx l σ o=some true) (hd:Qw E.N o.dst=true) (k:YE E h l K n rest (σ.setO o.dst r)):YE E h l K (n+1) (o::rest) σ:=Wg (Ko.pok hw hp hd) k
theorem QT {r:AV} (hp:QA E.P h (ev σ) o.op r) (hw:Qx all σ o=some true) (hd:Qw E.N o.dst=true) (k:aw E (.ops all rest::K) (σ.setO o.dst r) h):aw E (.ops all (o::rest)::K) σ h:=QdL hw hp hd rfl k
theorem Vq {FP:Qa} {i:Nat} {cs:List (Nat×Nat)} {r:AV} (ho:l[i]?=some o) (hp:∀h,Kp FP h→QA E.P h (ev σ) o.op r) (hw:Qx l σ o=some true) (hd:Qw E.N o.dst=true) (k:CW E l K FP cs (σ.setO o.dst r) h):CW E l K FP ((i,0)::cs) σ h:=
 .flt ho ⟨hd,fun h hfp=>Ko.pok hw (hp h hfp) hd⟩ k
theorem yA1 {F X G:Prop} (f:F) (x:X) (k:F→X9 X→G:=by
 intro f x
 (first|apply wa1|apply wa2|apply wa3|apply wa4|apply wa5 rfl|apply wa6|apply wa7|(refine wb1 rfl fun R r=>?_;simp only[go_sem,f];with_reducible show R (some _);with_reducible refine r _ _ ?_;clear r R)|apply wa8|(refine wd1 rfl fun R r=>?_;simp only[go_sem,f];with_reducible show R (some _);with_reducible refine r _ _ ?_;clear r R))
 (repeat first|apply wa1|apply wa2|apply wa3|apply wa4|apply wa5 rfl|apply wa6|apply wa7|(refine wb1 rfl fun R r=>?_;simp only[go_sem,f];with_reducible show R (some _);with_reducible refine r _ _ ?_;clear r R)|apply wa8|(refine wd1 rfl fun R r=>?_;simp only[go_sem,f];with_reducible show R (some _);with_reducible refine r _ _ ?_;clear r R))
 exact x.out):G:=k f ⟨x⟩
theorem zL2 {F P:Prop} (f:F) (k:F→P:=by intro f;first|exact True.intro|(simp only[go_sem,f]<;>and_intros<;>first|exact True.intro|exact .c (.refl _)|exact .c wl2|exact .agg (ZC _)|(refine .agg ?_;simp only[LeL];and_intros<;>first|exact True.intro|exact .refl _|exact wl2|exact .nils)|exact .c .nils)):P:=k f
theorem yC2 {f:FuncId} {xs:List Operand} {ts:Array TypeId} {args:List AV} {r:AV} {X F:Prop} (q:F) (hf:Fa E.P f args r) (x:X) (hop:o.op=.call {callee:=.value (.func f),args:=xs.toArray,argTypes:=ts}:=by exact rfl) (hw:Qx all σ o=some true:=by exact rfl) (hd:Qw E.N o.dst=true:=by exact rfl)
 (le:F→Us h (xs.map (ev σ)) args:=by intro f;first|exact True.intro|(simp only[go_sem,f]<;>and_intros<;>first|exact True.intro|exact .c (.refl _)|exact .c wl2|exact .agg (ZC _)|(refine .agg ?_;simp only[LeL];and_intros<;>first|exact True.intro|exact .refl _|exact wl2|exact .nils)|exact .c .nils)) (k:F→X9 X→aw E (.ops all rest::K) (σ.setO o.dst r) h:=by intro f x;(try simp only[go_sem,f]);exact x.out):aw E (.ops all (o::rest)::K) σ h:=Qu hf hop hw hd (le q) (k q ⟨x⟩)
theorem yD2 {f:FuncId} {xs:List Operand} {ts:Array TypeId} {args:List AV} {r:AV} {n:Nat} {X F:Prop} (q:F) (hf:Fa E.P f args r) (x:X) (hop:o.op=.call {callee:=.value (.func f),args:=xs.toArray,argTypes:=ts}:=by exact rfl) (hw:Qx l σ o=some true:=by exact rfl) (hd:Qw E.N o.dst=true:=by exact rfl)
 (le:F→Us h (xs.map (ev σ)) args:=by intro f;first|exact True.intro|(simp only[go_sem,f]<;>and_intros<;>first|exact True.intro|exact .c (.refl _)|exact .c wl2|exact .agg (ZC _)|(refine .agg ?_;simp only[LeL];and_intros<;>first|exact True.intro|exact .refl _|exact wl2|exact .nils)|exact .c .nils)) (k:F→X9 X→YE E h l K n rest (σ.setO o.dst r):=by intro f x;(try simp only[go_sem,f]);exact x.out):YE E h l K (n+1) (o::rest) σ:=Qbq hf hop hw hd (le q) (k q ⟨x⟩)
theorem yC3 {f:FuncId} {xs:List Operand} {ts:Array TypeId} {args:List AV} {r:AV} {X F:Prop} (q:F) (hf:ZZ E.C E.P f args r) (x:X) (hop:o.op=.call {callee:=.value (.func f),args:=xs.toArray,argTypes:=ts}:=by exact rfl) (hw:Qx all σ o=some true:=by exact rfl) (hd:Qw E.N o.dst=true:=by exact rfl)
 (le:F→Us h (xs.map (ev σ)) args:=by intro f;first|exact True.intro|(simp only[go_sem,f]<;>and_intros<;>first|exact True.intro|exact .c (.refl _)|exact .c wl2|exact .agg (ZC _)|(refine .agg ?_;simp only[LeL];and_intros<;>first|exact True.intro|exact .refl _|exact wl2|exact .nils)|exact .c .nils)) (k:F→X9 X→aw E (.ops all rest::K) (σ.setO o.dst r) h:=by intro f x;(try simp only[go_sem,f]);exact x.out):aw E (.ops all (o::rest)::K) σ h:=Qil hf hop hw hd (le q) rfl (k q ⟨x⟩)
theorem yD3 {f:FuncId} {xs:List Operand} {ts:Array TypeId} {args:List AV} {r:AV} {n:Nat} {X F:Prop} (q:F) (hf:ZZ E.C E.P f args r) (x:X) (hop:o.op=.call {callee:=.value (.func f),args:=xs.toArray,argTypes:=ts}:=by exact rfl) (hw:Qx l σ o=some true:=by exact rfl) (hd:Qw E.N o.dst=true:=by exact rfl)
 (le:F→Us h (xs.map (ev σ)) args:=by intro f;first|exact True.intro|(simp only[go_sem,f]<;>and_intros<;>first|exact True.intro|exact .c (.refl _)|exact .c wl2|exact .agg (ZC _)|(refine .agg ?_;simp only[LeL];and_intros<;>first|exact True.intro|exact .refl _|exact wl2|exact .nils)|exact .c .nils)) (k:F→X9 X→YE E h l K n rest (σ.setO o.dst r):=by intro f x;(try simp only[go_sem,f]);exact x.out):YE E h l K (n+1) (o::rest) σ:=Qok hf hop hw hd (le q) (k q ⟨x⟩)
end
end Go.AI
namespace Go.PN
def Jn (n:Nat):Bool:=(decide (65≤n)&&decide (n≤90))||(decide (97≤n)&&decide (n≤122))
def QE (n:Nat):Bool:=decide (48≤n)&&decide (n≤57)
def Yp (n:Nat):Bool:=((Jn n||QE n)||n==95)||n==46
def QbE (n:Nat):Bool:=n==32||(n==9||(n==10||n==13))
def QeH (n:Nat):Bool:=n==123||(n==125||(n==59||(n==58||n==64)))
theorem QcI (l:BS) (i:Nat):XF l i<256:=UInt8.toNat_lt _
def Xx (p:Nat→Bool) (l:BS) (i:Nat):Nat:=i+((l.drop i).takeWhile fun b=>p b.toNat).length
theorem Wu {p:Nat→Bool} {l:BS} {i:Nat} (h:l.length≤i):Xx p l i=i:=by
 unfold Xx
 rw [List.drop_eq_nil_of_le h];rfl
theorem Qje {l:BS} {i:Nat} (h:i<l.length):l.drop i=l[i]::l.drop (i+1):=List.drop_eq_getElem_cons h
theorem QhC {l:BS} {i:Nat} (h:i<l.length):XF l i=l[i].toNat:=by
 unfold XF
 rw [Lg,Li h];rfl
theorem Vf {p:Nat→Bool} {l:BS} {i:Nat} (h:i<l.length) (hp:p (XF l i)=true):Xx p l i=Xx p l (i+1):=by
 unfold Xx
 rw [Qje h,List.takeWhile_cons_of_pos (by rw [←QhC h];exact hp),Lc]
 omega
theorem OX {p:Nat→Bool} {l:BS} {i:Nat} (h:i<l.length) (hp:p (XF l i)=false):Xx p l i=i:=by
 unfold Xx
 rw [Qje h,List.takeWhile_cons_of_neg (by rw [←QhC h,hp];simp)]
 rfl
theorem Qjf {p:Nat→Bool} {l:BS}:∀(k i:Nat),Xx p l i=i+k→∀j,i≤j→j<i+k→p (XF l j)=true:=by
 intro k
 induction k with
 |zero=>intro i _ j h1 h2;omega
 |succ k ih=>
  intro i h j h1 h2
  by_cases hi:i<l.length
  ·cases hp:p (XF l i) with
   |false=>rw [OX hi hp] at h;omega
   |true=>
    by_cases e:j=i
    ·rw [e];exact hp
    ·rw [Vf hi hp] at h
     exact ih (i+1) om j om om
  ·rw [Wu om] at h;omega
structure TK where
 kind:Nat
 text:BS
deriving DecidableEq,Inhabited
inductive Stp where
 |err (c:Int)
 |skip (e:Nat)
 |tok (k e:Nat)
structure Qzr (t:TK):Prop where
 kind:t.kind≤2
 ne:t.text≠[]
 word:t.kind=0→Jn (XF t.text 0)=true
 num:t.kind=1→QE (XF t.text 0)=true
 U5:t.kind=2→t.text.length=1∧QeH (XF t.text 0)=true
end Go.PN
namespace Go.AI
structure Bq (b:Bool) (p q:Prop):Prop where
 t:b=true→p
 f:b=false→q
theorem bqd {p:Prop} [Decidable p]:Bq (decide p) p (¬p):=⟨of_decide_eq_true,of_decide_eq_false⟩
theorem bqe {α:Type} [BEq α] [LawfulBEq α] {a b:α}:Bq (a==b) (a=b) (a≠b):=⟨fun e=>by simpa using e,fun e=>by simpa using e⟩
theorem bqn {α:Type} [BEq α] [LawfulBEq α] {a b:α}:Bq (a !=b) (a≠b) (a=b):=⟨fun e=>by simpa using e,fun e=>by simpa using e⟩
theorem bqm {α:Type} [BEq α] [LawfulBEq α] {a b:α}:Bq (!(a==b)) (a≠b) (a=b):=⟨fun e=>by simpa using e,fun e=>by simpa using e⟩
theorem bqt {b:Bool}:Bq b (b=true) (b=false):=⟨id,id⟩
theorem bqT:Bq true (true=true) (true=false):=⟨id,id⟩
theorem bqF:Bq false (false=true) (false=false):=⟨id,id⟩
section
variable {E : Vl} {K : List It} {σ : Sl} {h : Qa} {all l rest : List Oper} {o : Oper} {F X Y : Prop}
theorem zW {t g off m n:Nat} {ty:TypeId} {ag:Bool} {fc:Nat→CV} {a y:Operand} {v:AV} {h':Qa} (q:F) (x:X) (hop:o.op=.store t a y:=by exact rfl) (hw:Qx all σ o=some true:=by exact rfl) (hd:Qw E.N o.dst=true:=by exact rfl) (hdn:o.dst=none:=by exact rfl) (ha:F→ev σ a=.c (.optr g off):=by intro f;simp only[go_sem,f]<;>rfl) (hx:F→ev σ y=v:=by intro f;simp only[go_sem,f]<;>rfl)
 (hg:F→h.get g=some (.cells ty m fc):=by intro f;simp only[go_sem,f]<;>rfl) (ht:F→XN E.P t=some (ag,n):=by intro f;simp only[go_sem,f]<;>rfl) (hnt:∀xs,v≠.tup xs:=by exact fun _ e=>by cases e) (hs:v.cells.all CV.solid=true:=by first|rfl|exact solid_gs3) (hlen:v.cells.length=n:=by rfl) (hle:off+n≤m:=by first|omega|simp)
 (hh:h.set g (.cells ty m (VL fc off v.cells))=h':=by exact rfl) (k:F→X9 X→aw E (.ops all rest::K) σ h':=by intro f x;(try simp only[go_sem,f]);exact x.out):aw E (.ops all (o::rest)::K) σ h:=KV hop hw hd hdn (ha q) (hx q) (hg q) (ht q) hnt hs hlen hle hh (k q ⟨x⟩)
theorem zg {f:FuncId} {xs:List Operand} {ts:Array TypeId} {g:Nat} {ob ob':XD} {args:List AV} {r:AV} (q:F) (hf:Fg E.P f g ob args r ob') (x:X) (hop:o.op=.call {callee:=.value (.func f),args:=xs.toArray,argTypes:=ts}:=by exact rfl) (hw:Qx all σ o=some true:=by exact rfl) (hd:Qw E.N o.dst=true:=by exact rfl)
 (hg:F→h.get g=some ob:=by intro f;simp only[go_sem,f]<;>rfl) (le:F→Us [] (xs.map (ev σ)) args:=by intro f;exact zL2 f) (k:F→X9 X→aw E (.ops all rest::K) (σ.setO o.dst r) (h.set g ob'):=by intro f x;(try simp only[go_sem,f]);exact x.out):aw E (.ops all (o::rest)::K) σ h:=QbD hf hop hw hd (hg q) (le q) (k q ⟨x⟩)
theorem zC {t:Nat} {y z:Code} {b:Bool} {p1 p2:Prop} (q:F) (k1:p1→aw E (.code y::K) σ h) (k2:p2→aw E (.code z::K) σ h) (hb:F→σ.get t=.c (.bool b):=by intro f;simp only[go_sem,f]<;>rfl) (hp:Bq b p1 p2:=by first|(with_reducible exact bqd)|(with_reducible exact bqe)|(with_reducible exact bqn)|(with_reducible exact bqm)|((fail_if_success (with_reducible exact bqT));(fail_if_success (with_reducible exact bqF));exact bqt)):aw E (.code (.cond (.tmp t) y z)::K) σ h:=
 QS (hb q) (fun e=>k1 (hp.t e)) fun e=>k2 (hp.f e)
theorem zG {t j:Nat} {want b:Bool} {p1 p2:Prop} (q:F) (x:p1→X) (y:p2→Y) (hg:o.guard=some (j,want):=by exact rfl) (hj:(all[j]?).bind (·.dst)=some t:=by exact rfl) (hb:F→σ.get t=.c (.bool b):=by intro f;simp only[go_sem,f]<;>rfl) (hp:Bq b p1 p2:=by first|(with_reducible exact bqd)|(with_reducible exact bqe)|(with_reducible exact bqn)|(with_reducible exact bqm)|((fail_if_success (with_reducible exact bqT));(fail_if_success (with_reducible exact bqF));exact bqt))
 (k1:F→X9 X→aw E (.ops all (o::rest)::K) (σ.set t (.c (.bool true))) h:=by intro f x;(try simp only[go_sem,f]);exact x.out) (k2:F→X9 Y→aw E (.ops all (o::rest)::K) (σ.set t (.c (.bool false))) h:=by intro f x;(try simp only[go_sem,f]);exact x.out):aw E (.ops all (o::rest)::K) σ h:=ZD t (hb q) (fun e=>k1 q ⟨x (hp.t e)⟩) fun e=>k2 q ⟨y (hp.f e)⟩
theorem zD {t j n:Nat} {want b:Bool} {p1 p2:Prop} (q:F) (x:p1→X) (y:p2→Y) (hg:o.guard=some (j,want):=by exact rfl) (hj:(l[j]?).bind (·.dst)=some t:=by exact rfl) (hb:F→σ.get t=.c (.bool b):=by intro f;simp only[go_sem,f]<;>rfl) (hp:Bq b p1 p2:=by first|(with_reducible exact bqd)|(with_reducible exact bqe)|(with_reducible exact bqn)|(with_reducible exact bqm)|((fail_if_success (with_reducible exact bqT));(fail_if_success (with_reducible exact bqF));exact bqt))
 (k1:F→X9 X→YE E h l K n (o::rest) (σ.set t (.c (.bool true))):=by intro f x;(try simp only[go_sem,f]);exact x.out) (k2:F→X9 Y→YE E h l K n (o::rest) (σ.set t (.c (.bool false))):=by intro f x;(try simp only[go_sem,f]);exact x.out):YE E h l K n (o::rest) σ:=Qcv t (hb q) (fun e=>k1 q ⟨x (hp.t e)⟩) fun e=>k2 q ⟨y (hp.f e)⟩
theorem zV {G:Prop} (f:F) (x:X) (k:F→X9 X→G:=by intro f x;first|exact yA1 f x.out|exact zW f x.out|exact yP f x.out|exact yN f x.out|fail):G:=k f ⟨x⟩
theorem zH {G p q:Prop} (f:F) (x:p→X) (y:q→Y) (k:F→X9 (p→X)→X9 (q→Y)→G:=by intro f x y;first|exact zC f x.out y.out|exact zG f x.out y.out|exact zD f x.out y.out|fail):G:=k f ⟨x⟩ ⟨y⟩
end
end Go.AI
namespace Go.AI
theorem yQ {F A X G:Prop} (f:F) (a:A) (x:X) (k:F→A→X9 X→G:=by intro f a x;first|exact yC2 f a x.out|exact yD2 f a x.out|exact zg f a x.out|fail):G:=k f a ⟨x⟩
theorem zA {F X G:Prop} (f:F) (x:X) (k:F→X9 X→G:=by intro f x;((repeat' first|refine zV f ?_|fail);exact x.out)):G:=k f ⟨x⟩
theorem Zo {F A X G:Prop} (f:F) (a:A) (x:X) (k:F→A→X9 X→G:=by intro f a x;((repeat' first|refine zV f ?_|refine yQ f a ?_|fail);exact x.out)):G:=k f a ⟨x⟩
theorem zA2 {F A B X G:Prop} (f:F) (a:A) (b:B) (x:X) (k:F→A→B→X9 X→G:=by intro f a b x;((repeat' first|refine zV f ?_|refine yQ f a ?_|refine yQ f b ?_|fail);exact x.out)):G:=k f a b ⟨x⟩
end Go.AI
namespace Go.Proofs.YtngjgahldnnapaaGreatDoor
open Go.AI Go.PN Proofs.Tryz
attribute [local irreducible] aw Fa ZN ZZ Fh YE
theorem QhD (n:Nat):Fa prog 176 [.c (.int .u8 n)] (.c (.bool (Jn n))):=by
 refine fA func176 fun C hC=>?_
 repeat' first|refine zV o0 ?_|refine zH o0 ?_ ?_<;>intro hb|fail
 all_goals
  refine xT hC ?_
  exact .one (.c (Qp (by rw [Bool.eq_iff_iff];simp [Jn];omega)))
theorem UL (n:Nat):Fa prog 275 [.c (.int .u8 n)] (.c (.bool (QE n))):=by
 refine fA func275 fun C hC=>?_
 repeat' first|refine zV o0 ?_|refine zH o0 ?_ ?_<;>intro hb|fail
 all_goals
  refine xT hC ?_
  exact .one (.c (Qp (by rw [Bool.eq_iff_iff];simp [QE];omega)))
theorem QmW (n:Nat):Fa prog 147 [.c (.int .u8 n)] (.c (.bool (Jn n))):=by
 refine fA func147 fun C hC=>?_
 repeat' first|refine zV o0 ?_|refine zH o0 ?_ ?_<;>intro hb|fail
 all_goals
  refine xT hC ?_
  exact .one (.c (Qp (by rw [Bool.eq_iff_iff];simp [Jn];omega)))
theorem QtS (n:Nat):Fa prog 263 [.c (.int .u8 n)] (.c (.bool (QE n))):=by
 refine fA func263 fun C hC=>?_
 repeat' first|refine zV o0 ?_|refine zH o0 ?_ ?_<;>intro hb|fail
 all_goals
  refine xT hC ?_
  exact .one (.c (Qp (by rw [Bool.eq_iff_iff];simp [QE];omega)))
theorem QtT (n:Nat):Fa prog 148 [.c (.int .u8 n)] (.c (.bool (Yp n))):=by
 refine fA func148 fun C hC=>?_
 repeat' first|refine zV o0 ?_|refine yQ o0 (QmW _) ?_|refine yQ o0 (QtS _) ?_|refine zH o0 ?_ ?_<;>intro hb|fail
 all_goals
  refine xT hC ?_
  exact .one (.c (Qp (by rw [Bool.eq_iff_iff];simp_all [Yp];try omega)))
end Go.Proofs.YtngjgahldnnapaaGreatDoor
namespace Go.PN
def Qdo (s:BS):Bool:=decide (0<s.length)&&decide (s.length≤24)&&Jn (XF s 0)&&decide (Xx Yp s 0=s.length)
theorem Qgo {p:Nat→Bool} {l:BS}:∀(k i:Nat),l.length=i+k→(∀j,i≤j→j<l.length→p (XF l j)=true)→Xx p l i=l.length
 |0,i,h,_=>by rw [Wu om];omega
 |k+1,i,h,hp=>by rw [Vf om (hp i om om)];exact Qgo k (i+1) om fun j h1 h2=>hp j om h2
theorem Qq1 {l:BS} (h:¬(0<l.length∧l.length≤24)∨Jn (XF l 0)=false):Qdo l=false:=by
 unfold Qdo
 rcases h with h|h
 ·rw [←Bool.decide_and,De h];rfl
 ·rw [h];simp
end Go.PN
namespace Go.Proofs.YtngjgahldnnapaaGreatDoor
open Go.AI Go.PN Proofs.Tryz
attribute [local irreducible] aw Fa ZN ZZ Fh YE
theorem QeI (l:BS) (i:Nat) (hl:l.length≤1099511627776) (hi:i≤l.length):Fa prog 177 [.c (.str (sB l)),.c (.int .i64 i)] (.c (.int .i64 (Xx Yp l i:Nat))):=by
 refine fA func177 fun C hC=>?_
 refine xG ?_
 generalize hS:Xx Yp l i=S
 refine Qh (fun x:Nat=>[(0,.c (.str (sB l))),(1,.c (.int .i64 x))]) (fun _=>[]) (fun x=>x≤l.length∧Xx Yp l x=S) (fun x=>l.length-x) i eB zZ ⟨hi,hS⟩ ?_
 rintro x ⟨hx,hs⟩
 repeat' first|refine zV o0 ?_|refine yQ o0 (QhD _) ?_|refine yQ o0 (UL _) ?_|refine zH o0 ?_ ?_<;>intro hb|fail
 all_goals first
  |(refine Qb ⟨x+1,by omega,eB,zZ,by omega,?_⟩
    rw [←Vf om (by unfold Yp;simp_all)];exact hs)
  |(refine xT hC ?_
    refine .one (.c (Qo ?_))
    first
     |(rw [←hs,Wu om];done)
     |(rw [←hs,OX om (by unfold Yp;simp_all)]))
theorem J0 (l:BS) (hl:l.length≤1099511627776):Fa prog 113 [.c (.str (sB l))] (.c (.bool (Qdo l))):=by
 have hw:=QeI l 0 hl (Lz _)
 unfold Qdo
 refine fA func113 fun C hC=>?_
 repeat' first|refine zV o0 ?_|refine yQ o0 (QhD _) ?_|refine yQ o0 hw ?_|refine zH o0 ?_ ?_<;>intro hb|fail
 all_goals
  refine xT hC ?_
  refine .one (.c (Qp ?_))
  first|(simp_all;done)|(simp_all;omega)|(rw [Bool.eq_iff_iff];simp_all;done)|(rw [Bool.eq_iff_iff];simp_all;omega)
theorem Ua (l:BS) (hl:l.length≤1099511627776):Fa prog 93 [.c (.str (sB l))] (.c (.bool (Qdo l))):=by
 refine fA func93 fun C hC=>?_
 repeat' first|refine zV o0 ?_|refine yQ o0 (QmW _) ?_|refine zH o0 ?_ ?_<;>intro hb|fail
 all_goals first
  |(refine xT hC ?_
    refine .one (.c (Qp (Qq1 ?_).symm))
    first|(left;omega)|(right;simp_all))
  |skip
 refine Qh (fun x:Nat=>[(0,.c (.str (sB l))),(19,.c (.int .i64 l.length)),(20,.c (.int .i64 x))]) (fun _=>[]) (fun x=>x≤l.length∧∀j,j<x→Yp (XF l j)=true) (fun x=>l.length-x) 0 eB zZ ⟨Lz _,by omega⟩ ?_
 rintro x ⟨hx,hs⟩
 repeat' first|refine zV o0 ?_|refine yQ o0 (QtT _) ?_|refine zH o0 ?_ ?_<;>intro hb|fail
 ·refine xT hC ?_
  refine .one (.c (Qp (Eq.symm ?_)))
  cases hn:Qdo l with
  |false=>rfl
  |true=>
   unfold Qdo at hn
   simp only [Ba,Dq] at hn
   have h1:=Qjf (p:=Yp) (l:=l) l.length 0 om x om om
   simp_all
 ·refine Qb ⟨x+1,by omega,eB,zZ,by omega,fun j hj=> ?_⟩
  by_cases e:j=x
  ·subst e;simp_all
  ·exact hs j om
 ·refine xT hC ?_
  refine .one (.c (Qp ?_))
  unfold Qdo
  rw [Qgo l.length 0 om fun j _ hj=>hs j om,Dt (show 0<l.length from by omega),Dt (show l.length≤24 from by omega),Dt (rfl:l.length=l.length)]
  simp_all
end Go.Proofs.YtngjgahldnnapaaGreatDoor
namespace Go.PN
open Go.AI
structure X3 where
 name:BS
 p:RD
 fail:RD
 rep:RD
 cost:Int
structure Vx where
 name:BS
 on:Bool
structure Xe where
 name:BS
 kind:Int
 k:Int
 inputs:List BS
 dorm:RD
structure Yz where
 name:BS
 top:BS
 gates:List Xe
structure YB where
 name:BS
 kind:Int
 members:List BS
 factors:List RD
structure Zp where
 event:BS
 p:RD
structure V0 where
 name:BS
 top:BS
 values:List Zp
structure Qv where
 name:BS
 top:BS
 events:List X3
 houses:List Vx
 gates:List Xe
 pages:List Yz
 groups:List YB
 phases:List V0
abbrev ev0:X3:=⟨[],rd0,rd0,rd0,0⟩
abbrev hs0:Vx:=⟨[],false⟩
abbrev gt0:Xe:=⟨[],0,0,[],rd0⟩
abbrev pg0:Yz:=⟨[],[],[]⟩
abbrev gr0:YB:=⟨[],0,[],[]⟩
abbrev vl0:Zp:=⟨[],rd0⟩
abbrev ph0:V0:=⟨[],[],[]⟩
abbrev md0:Qv:=⟨[],[],[],[],[],[],[],[]⟩
abbrev kP:BS:=[112]
abbrev kFail:BS:=[102,97,105,108]
abbrev kRepair:BS:=[114,101,112,97,105,114]
abbrev kCost:BS:=[99,111,115,116]
abbrev Zi:BS:=[58]
abbrev kOn:BS:=[111,110]
abbrev Ox:BS:=[111,102,102]
abbrev Yx:BS:=[116,111,112]
abbrev Qz:BS:=[103,97,116,101]
abbrev ZF:BS:=[98,101,116,97]
abbrev Yh:BS:=[103,114,101,101,107]
abbrev ZR:BS:=[109,111,100,101,108]
abbrev Xn:BS:=[101,118,101,110,116]
abbrev QP:BS:=[104,111,117,115,101]
abbrev XT:BS:=[112,97,103,101]
abbrev Xf:BS:=[103,114,111,117,112]
abbrev Q9:BS:=[112,104,97,115,101]
abbrev QtU:BS:=[97,110,100]
abbrev kOr:BS:=[111,114]
abbrev kVote:BS:=[118,111,116,101]
abbrev kNot:BS:=[110,111,116]
abbrev kXor:BS:=[120,111,114]
abbrev kInhibit:BS:=[105,110,104,105,98,105,116]
abbrev kPand:BS:=[112,97,110,100]
abbrev kSpare:BS:=[115,112,97,114,101]
abbrev QdU:BS:=[100,101,112,101,110,100]
def Yu (s:BS):Nat:=s.foldl (fun n b=>n*10+(b.toNat-48)) 0
structure PS where
 l:List TK
 e:Int
def mS (s:PS):Nat:=if s.e=0 then s.l.length+1 else 0
def Wv {α:Type} (c:PS→Bool) (b:α→PS→α×PS):Nat→α→PS→α×PS
 |0,a,s=>(a,s)
 |n+1,a,s=>if s.e=0∧c s=true then Wv c b n (b a s).1 (b a s).2 else(a,s)
def Jv {α:Type} (c:PS→Bool) (b:α→PS→α×PS) (a:α) (s:PS):α×PS:=Wv c b (mS s) a s
theorem Ww {α:Type} {c:PS→Bool} {b:α→PS→α×PS} {n:Nat} {a:α} {s:PS} (h:¬(s.e=0∧c s=true)):Wv c b n a s=(a,s):=by
 cases n with
 |zero=>rfl
 |succ n=>unfold Wv;rw [iN h]
theorem Qlc {α:Type} {c:PS→Bool} {b:α→PS→α×PS} (hd:∀a s,s.e=0→c s=true→mS (b a s).2<mS s):∀(n m:Nat) (a:α) (s:PS),mS s≤n→mS s≤m→Wv c b n a s=Wv c b m a s:=by
 intro n
 induction n with
 |zero=>
  intro m a s h1 h2
  have:¬(s.e=0∧c s=true):=fun h=>by unfold mS at h1;rw [iP h.1] at h1;omega
  rw [Ww this,Ww this]
 |succ n ih=>
  intro m a s h1 h2
  by_cases h:s.e=0∧c s=true
  ·have h3:=hd a s h.1 h.2
   cases m with
   |zero=>omega
   |succ m=>
    unfold Wv
    rw [iP h,iP h]
    exact ih m _ _ om om
  ·rw [Ww h,Ww h]
theorem Vy {α:Type} {c:PS→Bool} {b:α→PS→α×PS} (hd:∀a s,s.e=0→c s=true→mS (b a s).2<mS s) {a:α} {s:PS} (h0:s.e=0) (h1:c s=true):Jv c b a s=Jv c b (b a s).1 (b a s).2:=by
 have h3:=hd a s h0 h1
 unfold Jv
 obtain⟨n,hn⟩:∃n,mS s=n+1:=⟨mS s-1,by omega⟩
 rw [hn]
 show(if _ then _ else _)=_
 rw [iP ⟨h0,h1⟩]
 exact Qlc hd _ _ _ _ om (Ac _)
theorem Yn {α:Type} {c:PS→Bool} {b:α→PS→α×PS} {a:α} {s:PS} (h:¬(s.e=0∧c s=true)):Jv c b a s=(a,s):=Ww h
end Go.PN
namespace Go.AI
open Go.PN
structure TX where
 t:TK
 a:Int
 b:Int
 c:Int
abbrev tx0:TX:=⟨⟨0,[]⟩,0,0,0⟩
abbrev stc (r:BS):List CV:=[CV.str (sB r)]
def Qe (l:List BS):Nat→CV:=lf 1 stc ([]:BS) l
@[go_sem] theorem Xb (l:List BS) (i:Nat):Qe l (i)=.str (sB (l.getD i [])):=by have:=QY (s:=1) (c:=stc) (d:=([]:BS)) (xs:=l) (i:=i) (k:=0) om;rw [Ad,Nat.add_zero] at this;exact this
abbrev X0 (t:Bool) (l:List BS):CV:=.row t 1 l.length (Qe l)
theorem Yb (l:List BS) (j:Nat):(Qe l j).solid=true:=by
 obtain⟨i,k,hk,rfl⟩:∃i k,k<1∧j=i*1+k:=⟨j/1,j%1,Nat.mod_lt _ om,by omega⟩
 unfold Qe
 rw [QY hk]
 match k,hk with
 |0,_=>rfl
abbrev evc (r:X3):List CV:=[CV.str (sB r.name),.bool r.p.neg,ws true r.p.num,ws true r.p.den,.bool r.fail.neg,ws true r.fail.num,ws true r.fail.den,.bool r.rep.neg,ws true r.rep.num,ws true r.rep.den,.int .i64 r.cost]
def ZS (l:List X3):Nat→CV:=lf 11 evc (ev0:X3) l
@[go_sem] theorem Qzs (l:List X3) (i:Nat):ZS l (i*11)=.str (sB (l.getD i ev0).name):=by have:=QY (s:=11) (c:=evc) (d:=(ev0:X3)) (xs:=l) (i:=i) (k:=0) om;exact this
@[go_sem] theorem Qzt (l:List X3) (i:Nat):ZS l (i*11+1)=.bool (l.getD i ev0).p.neg:=by have:=QY (s:=11) (c:=evc) (d:=(ev0:X3)) (xs:=l) (i:=i) (k:=1) om;exact this
@[go_sem] theorem Qzu (l:List X3) (i:Nat):ZS l (i*11+2)=ws true (l.getD i ev0).p.num:=by have:=QY (s:=11) (c:=evc) (d:=(ev0:X3)) (xs:=l) (i:=i) (k:=2) om;exact this
@[go_sem] theorem Qzv (l:List X3) (i:Nat):ZS l (i*11+3)=ws true (l.getD i ev0).p.den:=by have:=QY (s:=11) (c:=evc) (d:=(ev0:X3)) (xs:=l) (i:=i) (k:=3) om;exact this
@[go_sem] theorem Qzw (l:List X3) (i:Nat):ZS l (i*11+4)=.bool (l.getD i ev0).fail.neg:=by have:=QY (s:=11) (c:=evc) (d:=(ev0:X3)) (xs:=l) (i:=i) (k:=4) om;exact this
@[go_sem] theorem Qzx (l:List X3) (i:Nat):ZS l (i*11+5)=ws true (l.getD i ev0).fail.num:=by have:=QY (s:=11) (c:=evc) (d:=(ev0:X3)) (xs:=l) (i:=i) (k:=5) om;exact this
@[go_sem] theorem Qzy (l:List X3) (i:Nat):ZS l (i*11+6)=ws true (l.getD i ev0).fail.den:=by have:=QY (s:=11) (c:=evc) (d:=(ev0:X3)) (xs:=l) (i:=i) (k:=6) om;exact this
@[go_sem] theorem Qzz (l:List X3) (i:Nat):ZS l (i*11+7)=.bool (l.getD i ev0).rep.neg:=by have:=QY (s:=11) (c:=evc) (d:=(ev0:X3)) (xs:=l) (i:=i) (k:=7) om;exact this
@[go_sem] theorem QzA (l:List X3) (i:Nat):ZS l (i*11+8)=ws true (l.getD i ev0).rep.num:=by have:=QY (s:=11) (c:=evc) (d:=(ev0:X3)) (xs:=l) (i:=i) (k:=8) om;exact this
@[go_sem] theorem QzB (l:List X3) (i:Nat):ZS l (i*11+9)=ws true (l.getD i ev0).rep.den:=by have:=QY (s:=11) (c:=evc) (d:=(ev0:X3)) (xs:=l) (i:=i) (k:=9) om;exact this
@[go_sem] theorem Qzb (l:List X3) (i:Nat):ZS l (i*11+10)=.int .i64 (l.getD i ev0).cost:=by have:=QY (s:=11) (c:=evc) (d:=(ev0:X3)) (xs:=l) (i:=i) (k:=10) om;exact this
abbrev evs (t:Bool) (l:List X3):CV:=.row t 11 l.length (ZS l)
abbrev hsc (r:Vx):List CV:=[CV.str (sB r.name),.bool r.on]
def ZT (l:List Vx):Nat→CV:=lf 2 hsc (hs0:Vx) l
@[go_sem] theorem QzC (l:List Vx) (i:Nat):ZT l (i*2)=.str (sB (l.getD i hs0).name):=by have:=QY (s:=2) (c:=hsc) (d:=(hs0:Vx)) (xs:=l) (i:=i) (k:=0) om;exact this
@[go_sem] theorem QzD (l:List Vx) (i:Nat):ZT l (i*2+1)=.bool (l.getD i hs0).on:=by have:=QY (s:=2) (c:=hsc) (d:=(hs0:Vx)) (xs:=l) (i:=i) (k:=1) om;exact this
abbrev hss (t:Bool) (l:List Vx):CV:=.row t 2 l.length (ZT l)
theorem Qld (l:List Vx) (j:Nat):(ZT l j).solid=true:=by
 obtain⟨i,k,hk,rfl⟩:∃i k,k<2∧j=i*2+k:=⟨j/2,j%2,Nat.mod_lt _ om,by omega⟩
 unfold ZT
 rw [QY hk]
 match k,hk with
 |0,_=>rfl
 |1,_=>rfl
abbrev Zy (r:Xe):List CV:=[CV.str (sB r.name),.int .i64 r.kind,.int .i64 r.k,X0 true r.inputs,.bool r.dorm.neg,ws true r.dorm.num,ws true r.dorm.den]
def X7 (l:List Xe):Nat→CV:=lf 7 Zy (gt0:Xe) l
@[go_sem] theorem QzE (l:List Xe) (i:Nat):X7 l (i*7)=.str (sB (l.getD i gt0).name):=by have:=QY (s:=7) (c:=Zy) (d:=(gt0:Xe)) (xs:=l) (i:=i) (k:=0) om;exact this
@[go_sem] theorem QzF (l:List Xe) (i:Nat):X7 l (i*7+1)=.int .i64 (l.getD i gt0).kind:=by have:=QY (s:=7) (c:=Zy) (d:=(gt0:Xe)) (xs:=l) (i:=i) (k:=1) om;exact this
@[go_sem] theorem QzG (l:List Xe) (i:Nat):X7 l (i*7+2)=.int .i64 (l.getD i gt0).k:=by have:=QY (s:=7) (c:=Zy) (d:=(gt0:Xe)) (xs:=l) (i:=i) (k:=2) om;exact this
@[go_sem] theorem QzH (l:List Xe) (i:Nat):X7 l (i*7+3)=X0 true (l.getD i gt0).inputs:=by have:=QY (s:=7) (c:=Zy) (d:=(gt0:Xe)) (xs:=l) (i:=i) (k:=3) om;exact this
@[go_sem] theorem QzI (l:List Xe) (i:Nat):X7 l (i*7+4)=.bool (l.getD i gt0).dorm.neg:=by have:=QY (s:=7) (c:=Zy) (d:=(gt0:Xe)) (xs:=l) (i:=i) (k:=4) om;exact this
@[go_sem] theorem QzJ (l:List Xe) (i:Nat):X7 l (i*7+5)=ws true (l.getD i gt0).dorm.num:=by have:=QY (s:=7) (c:=Zy) (d:=(gt0:Xe)) (xs:=l) (i:=i) (k:=5) om;exact this
@[go_sem] theorem QzK (l:List Xe) (i:Nat):X7 l (i*7+6)=ws true (l.getD i gt0).dorm.den:=by have:=QY (s:=7) (c:=Zy) (d:=(gt0:Xe)) (xs:=l) (i:=i) (k:=6) om;exact this
abbrev gts (t:Bool) (l:List Xe):CV:=.row t 7 l.length (X7 l)
abbrev pgc (r:Yz):List CV:=[CV.str (sB r.name),.str (sB r.top),gts true r.gates]
def Kq (l:List Yz):Nat→CV:=lf 3 pgc (pg0:Yz) l
@[go_sem] theorem QzL (l:List Yz) (i:Nat):Kq l (i*3)=.str (sB (l.getD i pg0).name):=by have:=QY (s:=3) (c:=pgc) (d:=(pg0:Yz)) (xs:=l) (i:=i) (k:=0) om;exact this
@[go_sem] theorem QzM (l:List Yz) (i:Nat):Kq l (i*3+1)=.str (sB (l.getD i pg0).top):=by have:=QY (s:=3) (c:=pgc) (d:=(pg0:Yz)) (xs:=l) (i:=i) (k:=1) om;exact this
@[go_sem] theorem QzN (l:List Yz) (i:Nat):Kq l (i*3+2)=gts true (l.getD i pg0).gates:=by have:=QY (s:=3) (c:=pgc) (d:=(pg0:Yz)) (xs:=l) (i:=i) (k:=2) om;exact this
abbrev pgs (t:Bool) (l:List Yz):CV:=.row t 3 l.length (Kq l)
abbrev Wx (r:YB):List CV:=[CV.str (sB r.name),.int .i64 r.kind,X0 true r.members,VQ true r.factors]
def VR (l:List YB):Nat→CV:=lf 4 Wx (gr0:YB) l
@[go_sem] theorem QzO (l:List YB) (i:Nat):VR l (i*4)=.str (sB (l.getD i gr0).name):=by have:=QY (s:=4) (c:=Wx) (d:=(gr0:YB)) (xs:=l) (i:=i) (k:=0) om;exact this
@[go_sem] theorem QzP (l:List YB) (i:Nat):VR l (i*4+1)=.int .i64 (l.getD i gr0).kind:=by have:=QY (s:=4) (c:=Wx) (d:=(gr0:YB)) (xs:=l) (i:=i) (k:=1) om;exact this
@[go_sem] theorem QzQ (l:List YB) (i:Nat):VR l (i*4+2)=X0 true (l.getD i gr0).members:=by have:=QY (s:=4) (c:=Wx) (d:=(gr0:YB)) (xs:=l) (i:=i) (k:=2) om;exact this
@[go_sem] theorem QzR (l:List YB) (i:Nat):VR l (i*4+3)=VQ true (l.getD i gr0).factors:=by have:=QY (s:=4) (c:=Wx) (d:=(gr0:YB)) (xs:=l) (i:=i) (k:=3) om;exact this
abbrev grs (t:Bool) (l:List YB):CV:=.row t 4 l.length (VR l)
abbrev vlc (r:Zp):List CV:=[CV.str (sB r.event),.bool r.p.neg,ws true r.p.num,ws true r.p.den]
def V6 (l:List Zp):Nat→CV:=lf 4 vlc (vl0:Zp) l
@[go_sem] theorem QzS (l:List Zp) (i:Nat):V6 l (i*4)=.str (sB (l.getD i vl0).event):=by have:=QY (s:=4) (c:=vlc) (d:=(vl0:Zp)) (xs:=l) (i:=i) (k:=0) om;exact this
@[go_sem] theorem QzT (l:List Zp) (i:Nat):V6 l (i*4+1)=.bool (l.getD i vl0).p.neg:=by have:=QY (s:=4) (c:=vlc) (d:=(vl0:Zp)) (xs:=l) (i:=i) (k:=1) om;exact this
@[go_sem] theorem QzU (l:List Zp) (i:Nat):V6 l (i*4+2)=ws true (l.getD i vl0).p.num:=by have:=QY (s:=4) (c:=vlc) (d:=(vl0:Zp)) (xs:=l) (i:=i) (k:=2) om;exact this
@[go_sem] theorem QzV (l:List Zp) (i:Nat):V6 l (i*4+3)=ws true (l.getD i vl0).p.den:=by have:=QY (s:=4) (c:=vlc) (d:=(vl0:Zp)) (xs:=l) (i:=i) (k:=3) om;exact this
abbrev vls (t:Bool) (l:List Zp):CV:=.row t 4 l.length (V6 l)
abbrev WR (r:V0):List CV:=[CV.str (sB r.name),.str (sB r.top),vls true r.values]
def Kr (l:List V0):Nat→CV:=lf 3 WR (ph0:V0) l
@[go_sem] theorem QzW (l:List V0) (i:Nat):Kr l (i*3)=.str (sB (l.getD i ph0).name):=by have:=QY (s:=3) (c:=WR) (d:=(ph0:V0)) (xs:=l) (i:=i) (k:=0) om;exact this
@[go_sem] theorem QzX (l:List V0) (i:Nat):Kr l (i*3+1)=.str (sB (l.getD i ph0).top):=by have:=QY (s:=3) (c:=WR) (d:=(ph0:V0)) (xs:=l) (i:=i) (k:=1) om;exact this
@[go_sem] theorem QzY (l:List V0) (i:Nat):Kr l (i*3+2)=vls true (l.getD i ph0).values:=by have:=QY (s:=3) (c:=WR) (d:=(ph0:V0)) (xs:=l) (i:=i) (k:=2) om;exact this
abbrev phs (t:Bool) (l:List V0):CV:=.row t 3 l.length (Kr l)
abbrev txc (r:TX):List CV:=[CV.int .i64 r.t.kind,.str (sB r.t.text),.int .i64 r.a,.int .i64 r.b,.int .i64 r.c]
def QeJ (l:List TX):Nat→CV:=lf 5 txc (tx0:TX) l
@[go_sem] theorem QzZ (l:List TX) (i:Nat):QeJ l (i*5)=.int .i64 (l.getD i tx0).t.kind:=by have:=QY (s:=5) (c:=txc) (d:=(tx0:TX)) (xs:=l) (i:=i) (k:=0) om;exact this
@[go_sem] theorem Qz0 (l:List TX) (i:Nat):QeJ l (i*5+1)=.str (sB (l.getD i tx0).t.text):=by have:=QY (s:=5) (c:=txc) (d:=(tx0:TX)) (xs:=l) (i:=i) (k:=1) om;exact this
@[go_sem] theorem Qz1 (l:List TX) (i:Nat):QeJ l (i*5+2)=.int .i64 (l.getD i tx0).a:=by have:=QY (s:=5) (c:=txc) (d:=(tx0:TX)) (xs:=l) (i:=i) (k:=2) om;exact this
@[go_sem] theorem Qz2 (l:List TX) (i:Nat):QeJ l (i*5+3)=.int .i64 (l.getD i tx0).b:=by have:=QY (s:=5) (c:=txc) (d:=(tx0:TX)) (xs:=l) (i:=i) (k:=3) om;exact this
@[go_sem] theorem Qz3 (l:List TX) (i:Nat):QeJ l (i*5+4)=.int .i64 (l.getD i tx0).c:=by have:=QY (s:=5) (c:=txc) (d:=(tx0:TX)) (xs:=l) (i:=i) (k:=4) om;exact this
abbrev Xa (t:Bool) (m:Qv):List CV:=[.str (sB m.name),.str (sB m.top),evs t m.events,hss t m.houses,gts t m.gates,pgs t m.pages,grs t m.groups,phs t m.phases]
end Go.AI
namespace Go.PN
structure QvV (o:List Int):Prop where
 range:∀x∈o,0≤x∧x<o.length
 nodup:o.Nodup
theorem Qjg:∀{l m:List Int},l.Nodup→(∀x∈l,x∈m)→l.length≤m.length
 |[],m,_,_=>by simp
 |a::l,m,hn,hs=>by
  simp only [List.nodup_cons] at hn
  have ha:=hs a (by simp)
  have:=Qjg (l:=l) (m:=m.erase a) hn.2 fun x hx=>(List.mem_erase_of_ne (fun e=>hn.1 (by rw [←e];exact hx))).2 (hs x (by simp [hx]))
  rw [List.length_erase_of_mem ha] at this
  have:0<m.length:=List.length_pos_of_mem ha
  simp only [Lc]
  omega
theorem QvV.all {o:List Int} (h:QvV o) {j:Nat} (hj:j<o.length):(j:Int)∈o:=by
 by_cases hm:(j:Int)∈o
 ·exact hm
 ·exfalso
  have:=Qjg (l:=(j:Int)::o) (m:=(List.range o.length).map (fun k:Nat=>(k:Int))) (by simp only [List.nodup_cons];exact⟨hm,h.nodup⟩) (fun x hx=>by
   rw [List.mem_map]
   rcases Lb.1 hx with rfl|hx
   ·exact⟨j,by simpa using hj,rfl⟩
   ·obtain⟨h1,h2⟩:=h.range x hx
    exact⟨x.toNat,by simp;omega,by omega⟩)
  simp at this
  omega
end Go.PN
namespace Go.AI
open Go.PN
theorem QtV {zs:List Bool} {i:Nat} {v:Bool} (hi:i<zs.length):VL (bsF zs) i [.bool v]=bsF (zs.set i v):=by
 funext j
 simp only [VL]
 by_cases e:j=i
 ·subst e;simp [hi,bsF]
 ·rw [iN e]
  show CV.bool (zs.getD j false)=CV.bool ((zs.set i v).getD j false)
  rw [Lg,Lg,List.getElem?_set_ne (fun h=>e h.symm)]
theorem QtW (n:Nat):(fun j=>ofL [CV.bool false] (j%1))=bsF (List.replicate n false):=by
 funext j
 show ofL [CV.bool false] (j%1)=CV.bool ((List.replicate n false).getD j false)
 rw [Nat.mod_one,Lg,List.getElem?_replicate]
 split<;>rfl
end Go.AI

namespace Go.AI
theorem QeK {xs bs:List CV} (h:xs.length=bs.length):VL (ofL xs) 0 bs=ofL bs:=by
 funext j
 by_cases hj:j<bs.length
 ·have:=Qmu bs (ofL xs) 0 j hj
  rw [Nz] at this
  exact this
 ·rw [Qeq _ _ _ _ om,QkU,QkU,List.getElem?_eq_none om,List.getElem?_eq_none om]
@[go_sem ↓] theorem Qz4 (a b:CV):VL (ofL [a]) 0 [b]=ofL [b]:=QeK rfl
@[go_sem ↓] theorem Qz5 (a b c d:CV):VL (ofL [a,b]) 0 [c,d]=ofL [c,d]:=QeK rfl
@[go_sem ↓] theorem Qz6 (a b c x y z:CV):VL (ofL [a,b,c]) 0 [x,y,z]=ofL [x,y,z]:=QeK rfl
end Go.AI
namespace Go.AI
open Go.PN
theorem QoE {vs:List RD} {n:Nat} (hn:vs.length=n) (v:RD):∀j,j<(n+1)*3→Xq (Vv vs) (n*3) (ofL [.bool v.neg,ws true v.num,ws true v.den]) j=Vv (vs++[v]) j:=Za (c:=fun r:RD=>[CV.bool r.neg,ws true r.num,ws true r.den]) hn v om
end Go.AI
namespace Go.PN
open Go.AI
structure Qz7 (m k:Nat) (n:DN):Prop where
 v0:0≤n.v
 v1:n.v<m
 l0:0≤n.lo
 l1:n.lo<k+2
 h0:0≤n.hi
 h1:n.hi<k+2
end Go.PN

namespace Go.PN
open Go.AI
inductive Qya (s:BS):Prop where
 |all (h:∀i,i<s.length→QE (XF s i)=true)
 |two (e:Nat) (he:e+1<s.length) (hm:XF s e=46∨XF s e=47) (h1:∀i,i<e→QE (XF s i)=true) (h2:∀i,e<i→i<s.length→QE (XF s i)=true)
theorem V1 (s:BS) (e:Nat):VN s e s.length=s.drop e:=by unfold VN;exact Ly (by simp)
end Go.PN
namespace Go.PN
open Go.AI
variable {α β γ δ : Type}
def bnd (f:PS→α×PS) (k:α→PS→β×PS) (s:PS):β×PS:=k (f s).1 (f s).2
structure Rdr (f:PS→α×PS):Prop where
 suf:∀s,(f s).2.l<:+s.l
 stk:∀s,s.e≠0→(f s).2=s
theorem Rdr.bnd {f:PS→α×PS} {k:α→PS→β×PS} (hf:Rdr f) (hk:∀a,Rdr (k a)):Rdr (bnd f k):=
 ⟨fun s=>((hk _).suf _).trans (hf.suf s),fun s h=>by
  have h1:=hf.stk s h
  show(k (f s).1 (f s).2).2=s
  rw [h1]
  exact(hk _).stk s h⟩
def Qdp (l:List TK):Prop:=∀t∈l,Qzr t
theorem Qdp.suf {l r:List TK} (h:Qdp l) (hs:r<:+l):Qdp r:=fun t ht=>h t (hs.subset ht)
def Agr (R:α→β→Prop) (f:PS→α×PS) (g:PS→β×PS):Prop:=
 ∀s,Qdp s.l→s.e=0→(f s).2.e=(g s).2.e∧((f s).2.e=0→(f s).2=(g s).2∧R (f s).1 (g s).1)
theorem Agr.bnd {R:α→β→Prop} {T:γ→δ→Prop} {f:PS→α×PS} {g:PS→β×PS} {k:α→PS→γ×PS} {k':β→PS→δ×PS} (h:Agr R f g) (hf:Rdr f) (hk:∀a b,R a b→Agr T (k a) (k' b)) (r:∀a,Rdr (k a)) (r':∀b,Rdr (k' b)):Agr T (PN.bnd f k) (PN.bnd g k'):=by
 intro s ok e0
 obtain⟨h1,h2⟩:=h s ok e0
 show((k (f s).1 (f s).2).2.e=(k' (g s).1 (g s).2).2.e)∧_
 by_cases e1:(f s).2.e=0
 ·obtain⟨h3,h4⟩:=h2 e1
  have:=hk _ _ h4 (f s).2 (ok.suf (hf.suf s)) e1
  unfold PN.bnd
  rw [←h3]
  exact this
 ·have e3:=(r (f s).1).stk _ e1
  have e4:=(r' (g s).1).stk _ (by rw [←h1];exact e1)
  rw [e3,e4]
  exact⟨h1,fun x=>absurd (show(k (f s).1 (f s).2).2.e=0 from x) (by rw [e3];exact e1)⟩
theorem Agr.pure {R:α→β→Prop} {a:α} {b:β} (h:R a b):Agr R (fun s=>(a,s)) (fun s=>(b,s)):=fun _ _ _=>⟨rfl,fun _=>⟨rfl,h⟩⟩
theorem Agr.loop {R:α→β→Prop} {T:γ→δ→Prop} {c c':PS→Bool} {b:α→PS→α×PS} {b':β→PS→β×PS} {k:α→PS→γ×PS} {k':β→PS→δ×PS}
  (rb:∀a,Rdr (b a)) (rk:∀a,Rdr (k a)) (rk':∀a,Rdr (k' a)) (hd:∀a s,s.e=0→c s=true→mS (b a s).2<mS s) (hd':∀a s,s.e=0→c' s=true→mS (b' a s).2<mS s)
  (h11:∀a a' s,R a a'→Qdp s.l→s.e=0→c s=true→c' s=true→(b a s).2.e=(b' a' s).2.e∧((b a s).2.e=0→(b a s).2=(b' a' s).2∧R (b a s).1 (b' a' s).1))
  (h10:∀(a:α) (a':β) s,Qdp s.l→s.e=0→c s=true→c' s=false→False)
  (h01:∀(a:α) (a':β) s,Qdp s.l→s.e=0→c s=false→c' s=true→(k a s).2.e≠0∧(b' a' s).2.e=(k a s).2.e)
  (h00:∀a a' s,R a a'→Qdp s.l→s.e=0→c s=false→c' s=false→(k a s).2.e=(k' a' s).2.e∧((k a s).2.e=0→(k a s).2=(k' a' s).2∧T (k a s).1 (k' a' s).1)):
  ∀a a',R a a'→Agr T (PN.bnd (Jv c b a) k) (PN.bnd (Jv c' b' a') k'):=by
 intro a a' hR s
 generalize hn:mS s=n
 induction n using Nat.strongRecOn generalizing a a' s with
 |_ n ih=>
  intro ok e0
  cases hc:c s with
  |true=>
   cases hc':c' s with
   |false=>exact(h10 a a' s ok e0 hc hc').elim
   |true=>
    obtain⟨h1,h2⟩:=h11 a a' s hR ok e0 hc hc'
    have l1:=hd a s e0 hc
    have l2:=hd' a' s e0 hc'
    have s1:PN.bnd (Jv c b a) k s=PN.bnd (Jv c b (b a s).1) k (b a s).2:=by unfold PN.bnd;rw [Vy hd e0 hc]
    have s2:PN.bnd (Jv c' b' a') k' s=PN.bnd (Jv c' b' (b' a' s).1) k' (b' a' s).2:=by unfold PN.bnd;rw [Vy hd' e0 hc']
    rw [s1,s2]
    by_cases e1:(b a s).2.e=0
    ·obtain⟨h3,h4⟩:=h2 e1
     rw [←h3]
     exact ih _ om _ _ h4 _ rfl (ok.suf ((rb a).suf s)) e1
    ·have q1:PN.bnd (Jv c b (b a s).1) k (b a s).2=k (b a s).1 (b a s).2:=by unfold PN.bnd;rw [Yn (fun x=>e1 x.1)]
     have q2:PN.bnd (Jv c' b' (b' a' s).1) k' (b' a' s).2=k' (b' a' s).1 (b' a' s).2:=by unfold PN.bnd;rw [Yn (fun x=>e1 (h1.trans x.1))]
     rw [q1,q2,(rk _).stk _ e1,(rk' _).stk _ (by rw [←h1];exact e1)]
     exact⟨h1,fun x=>absurd x e1⟩
  |false=>
   have q1:PN.bnd (Jv c b a) k s=k a s:=by unfold PN.bnd;rw [Yn (fun x=>by rw [hc] at x;exact absurd x.2 Af)]
   rw [q1]
   cases hc':c' s with
   |false=>
    have q2:PN.bnd (Jv c' b' a') k' s=k' a' s:=by unfold PN.bnd;rw [Yn (fun x=>by rw [hc'] at x;exact absurd x.2 Af)]
    rw [q2]
    exact h00 a a' s hR ok e0 hc hc'
   |true=>
    obtain⟨h1,h2⟩:=h01 a a' s ok e0 hc hc'
    have s2:PN.bnd (Jv c' b' a') k' s=k' (b' a' s).1 (b' a' s).2:=by
     unfold PN.bnd
     rw [Vy hd' e0 hc',Yn (fun x=>h1 (h2.symm.trans x.1))]
    rw [s2,(rk' _).stk _ (by rw [h2];exact h1)]
    exact⟨h2.symm,fun x=>absurd x h1⟩
def Con (f:PS→α×PS):Prop:=∀s,s.e=0→mS (f s).2<mS s
theorem QwC {s r:PS} (h:s.e=0) (hs:r.l<:+s.l):mS r≤mS s:=by
 unfold mS
 rw [iP h]
 split
 ·have:=hs.length_le;omega
 ·omega
theorem QcJ {f:PS→α×PS} (hf:Rdr f) (s:PS):mS (f s).2≤mS s:=by
 by_cases h:s.e=0
 ·exact QwC h (hf.suf s)
 ·rw [hf.stk s h];exact Ac _
theorem Con.bnd {f:PS→α×PS} {k:α→PS→β×PS} (hf:Con f) (hk:∀a,Rdr (k a)):Con (bnd f k):=fun s h=>Nat.lt_of_le_of_lt (QcJ (hk _) _) (hf s h)
end Go.PN
namespace Go.PN
open Go.AI
variable {α β γ δ : Type}
structure EvR (x:List BS×X3) (y:List Bool×X3):Prop where
 ev:x.2=y.2
 len:y.1.length=4
 p:x.1.contains kP=y.1.getD 0 false
 f:x.1.contains kFail=y.1.getD 1 false
 r:x.1.contains kRepair=y.1.getD 2 false
 c:x.1.contains kCost=y.1.getD 3 false
theorem Qz8 {l:List Bool} (h:l.length=4) (k j:Nat) (hk:k<4):(l.set k true).getD j false=if k=j then true else l.getD j false:=by
 rw [Lg,List.getElem?_set]
 by_cases e:k=j
 ·subst e;rw [iP rfl,iP om,iP rfl];rfl
 ·rw [iN e,iN e,Lg]
theorem EvR.cons {x:List BS×X3} {y:List Bool×X3} (h:EvR x y) (k:Nat) (w:BS) (hw:(k=0∧w=kP)∨(k=1∧w=kFail)∨(k=2∧w=kRepair)∨(k=3∧w=kCost)) {u v:X3} (e:u=v):EvR (w::x.1,u) (y.1.set k true,v):=by
 have hp:=h.p
 have hf:=h.f
 have hr:=h.r
 have hc:=h.c
 refine⟨e,by rw [List.length_set];exact h.len,?_,?_,?_,?_⟩
 all_goals
  dsimp only
  rw [List.contains_cons,Qz8 h.len k _ om]
  rcases hw with ⟨rfl,rfl⟩|⟨rfl,rfl⟩|⟨rfl,rfl⟩|⟨rfl,rfl⟩
  all_goals first|(rw [hp];rfl)|(rw [hf];rfl)|(rw [hr];rfl)|(rw [hc];rfl)|rfl
end Go.PN
namespace Go.PN
open Go.AI
structure RAt (L:List TX) (s:PS) (a:Nat):Prop where
 le:a≤L.length
 nil:¬a<L.length→s.l=[]
 cons:a<L.length→∃l,s.l=(L.getD a tx0).t::l∧L.length-l.length=a+1
end Go.PN

namespace Go.AI
section
variable {E : Vl} {K : List It} {l : List Oper} {FP FP' : Qa} {σ σ' : Sl} {h : Qa} {o : Oper} {i m : Nat} {cs : List (Nat × Nat)}
theorem Qs {t e size bytes len:Nat} {xs:List Operand} {cells:List CV} (ho:l[i]?=some o) (hop:o.op=.buildSlice t len (Qdh 0 xs).toArray) (hw:Qx l σ o=some true) (hd:Qw E.N o.dst=true) (ht:QR E.P t=some (e,size,bytes))
  (hz:(Qj E.P e).isSome=true) (hl:xs.length=len) (hsm:len*size≤16777216) (hlm:len≤16777216) (hx:∀x∈xs,(ev σ x).flat=true∧(ev σ x).cells.all CV.solid=true∧(ev σ x).cells.length=size) (hc:(xs.map (ev σ)).flatMap AV.cells=cells) (hops:∀x∈xs,x∈o.op.operands) (hFP:Kp FP' h)
  (k:∀g,g∉h.keys→CW E l K FP' cs (σ.setO o.dst (.c (.osl g size 0 len))) ((g,.cells e (len*size) (ofL cells))::h)) (hm:m=2∨m=1∧FP'=FP:=by first|exact .inl rfl|exact .inr ⟨rfl,rfl⟩):CW E l K FP ((i,m)::cs) σ h:=by
 refine .pin ho hm (R:=fun r h2=>∃g,g∉h.keys∧r=.c (.osl g size 0 len)∧h2=(g,.cells e (len*size) (ofL cells))::h) (fun σ' K hs=> ?_) ?_ ?_
 ·have he:∀x∈xs,ev σ' x=ev σ x:=fun x hxx=>XI (hops x hxx) hs
  exact Qn hop ((Xh hs).trans hw) hd ht hz hl hsm hlm (fun x hxx=>by rw [he x hxx];exact hx x hxx) (by rw [List.map_congr_left he];exact hc) fun g hg=>XA (Qb ⟨_,⟨g,hg,rfl,rfl⟩,rfl⟩)
 ·rintro r h2 ⟨g,_,_,rfl⟩;exact fun p hp=>Lm _ (hFP p hp)
 ·rintro r h2 ⟨g,hg,rfl,rfl⟩;exact k g hg
theorem Qgp {f:FuncId} {xs:List Operand} {ts:Array TypeId} {args:List AV} {r:AV} (ho:l[i]?=some o) (hf:Fa E.P f args r) (hop:o.op=.call {callee:=.value (.func f),args:=xs.toArray,argTypes:=ts}) (hw:Qx l σ o=some true) (hd:Qw E.N o.dst=true)
  (le:Us h (xs.map (ev σ)) args) (hFP:Kp FP' h) (k:CW E l K FP' cs (σ.setO o.dst r) h) (hm:m=2∨m=1∧FP'=FP:=by first|exact .inl rfl|exact .inr ⟨rfl,rfl⟩):CW E l K FP ((i,m)::cs) σ h:=by
 refine .pin ho hm (R:=fun x h2=>x=r∧h2=h) (fun σ' K hs=> ?_) ?_ ?_
 ·have he:xs.map (ev σ')=xs.map (ev σ):=QiJ (fun x hx=>by rw [hop];simp [Op.operands,Call.operands,hx]) hs
  exact Qu hf hop ((Xh hs).trans hw) hd (by rw [he];exact le) (XA (Qb ⟨r,⟨rfl,rfl⟩,rfl⟩))
 ·rintro _ _ ⟨_,rfl⟩;exact hFP
 ·rintro _ _ ⟨rfl,rfl⟩;exact k
theorem YT {t e size bytes n d1 s gt:Nat} {z:List CV} {og:Option Nat} {f f':Nat→CV} {pre:Qa} {v:AV} (ho:l[i]?=some o) (hop2:o.op=.call {callee:=.builtin .append,args:= #[.tmp s,.tmp d1],argTypes:= #[t,t]})
  (hg2:o.guard=none) (hd2:Qw E.N o.dst=true)
  (ht:QR E.P t=some (e,size,bytes)) (hz:Qj E.P e=some z) (hzl:z.length=size) (hs0:0<size) (hsz:size≤16777216)
  (hevs:ev σ (.tmp s)=.c (gs og size n)) (hev1:ev σ (.tmp d1)=.c (.osl gt size 0 1)) (hog:og=none→n=0) (hok:QaY v=true) (hvl:v.cells.length=size) (hh:h=(gt,.cells e (1*size) (ofL v.cells))::(pre++gh og e (n*size) f))
  (h63:n+1≤maxLen) (hby:(n+1)*bytes≤140737488355328) (hf:∀j,j<(n+1)*size→Xq f (n*size) (ofL v.cells) j=f' j) (hFP:Kp FP' ((gt,.cells e (1*size) (ofL v.cells))::pre))
  (k:∀g',g'∉Qa.keys ((gt,.cells e (1*size) (ofL v.cells))::pre)→CW E l K FP' cs (σ.setO o.dst (.c (gs (some g') size (n+1)))) ((gt,.cells e (1*size) (ofL v.cells))::(pre++gh (some g') e ((n+1)*size) f')))
  (hm:m=2∨m=1∧FP'=FP:=by first|exact .inl rfl|exact .inr ⟨rfl,rfl⟩):CW E l K FP ((i,m)::cs) σ h:=by
 subst hh
 obtain⟨ok1,ok2⟩:=OQ hok
 refine .pin ho hm (R:=fun r h2=>∃g',g'∉Qa.keys ((gt,.cells e (1*size) (ofL v.cells))::pre)∧r=.c (gs (some g') size (n+1))∧h2=(gt,.cells e (1*size) (ofL v.cells))::(pre++gh (some g') e ((n+1)*size) f')) (fun σ' K hs=> ?_) ?_ ?_
 ·have hw2:∀σ2,Qx l σ2 o=some true:=fun σ2=>by unfold Qx;rw [hg2]
  have hevs':ev σ' (.tmp s)=.c (gs og size n):=(XI (by rw [hop2];simp [Op.operands,Call.operands]) hs).trans hevs
  have hev1':ev σ' (.tmp d1)=.c (.osl gt size 0 1):=(XI (by rw [hop2];simp [Op.operands,Call.operands]) hs).trans hev1
  have hsrc:∀h0:Qa,Src ((gt,.cells e (1*size) (ofL v.cells))::h0) size (.osl gt size 0 1) 1 (ofL v.cells):=fun h0=>by
   refine .osl (f':=ofL v.cells) (m:=1*size) (ty:=e) (by simp [Qa.get]) om (fun j _=>by rw [Nz])
  cases og with
  |none=>
   have hn0:n=0:=hog rfl
   subst hn0
   refine WU (cx:=.osl gt size 0 1) (k:=1) (f2:=ofL v.cells) hop2 (hw2 _) hd2 ht hz hzl hs0 hevs' hev1' (hsrc _) om om om fun g' hg'=> ?_
   refine QU (f':=f') (fun j hj=> ?_) ?_
   ·have:=hf j om
    rw [←this];simp [Xq]
   ·have hnew:g'∉Qa.keys ((gt,.cells e (1*size) (ofL v.cells))::pre):=fun hm=>hg' (by simpa [gh] using hm)
    refine Qi (h':=(gt,.cells e (1*size) (ofL v.cells))::(pre++[(g',.cells e (1*size) f')])) ?_ ?_
    ·have:(pre++gh none e (0*size) f)=pre:=by simp [gh]
     rw [this]
     refine(List.Perm.swap _ _ _).trans (List.Perm.cons _ ?_)
     exact(List.perm_append_singleton _ _).symm
    ·exact XA (Qb ⟨_,⟨g',hnew,rfl,by simp [gh]⟩,rfl⟩)
  |some g=>
   refine Y9 fun hnd=> ?_
   have hnp:g∉pre.keys:=fun hm=>by
    simp only [Qa.keys,gh,Ld,List.map_append,List.map_nil,List.nodup_cons] at hnd
    have:=(List.nodup_append.1 hnd.2).2.2 g hm g (by simp)
    exact this rfl
   have hgtg:gt≠g:=fun e=>by
    subst e
    simp [Qa.keys,gh] at hnd
   refine YC (cx:=.osl gt size 0 1) (k:=1) (f2:=ofL v.cells) (g:=g) (m:=n*size) (f:=f) (h2:=(gt,.cells e (1*size) (ofL v.cells))::pre) hop2 (hw2 _) hd2 ht hz hzl hs0 hevs' ?_ (Ac _) hev1' (hsrc _) ?_ om h63 hby ?_ fun g' hg'=> ?_
   ·show Qa.get ((gt,_)::(pre++[(g,_)])) g=_
    simp only [Qa.get,iN hgtg]
    exact Qa.get_app hnp
   ·intro j hj
    have hjl:j<v.cells.length:=by omega
    rw [Qak v.cells j v.cells[j] (Li hjl)]
    exact List.all_eq_true.1 ok2 _ (Le hjl)
   ·show Qa.del ((gt,_)::(pre++[(g,_)])) g=_
    rw [Qa.del_ne hgtg,Qa.del_app hnp]
   ·refine QU (f':=f') hf ?_
    refine Qi (h':=(gt,.cells e (1*size) (ofL v.cells))::(pre++[(g',.cells e ((n+1)*size) f')])) ?_ ?_
    ·refine(List.Perm.swap _ _ _).trans (List.Perm.cons _ ?_)
     exact(List.perm_append_singleton _ _).symm
    ·exact XA (Qb ⟨_,⟨g',hg',rfl,rfl⟩,rfl⟩)
 ·rintro r h2 ⟨g',_,_,rfl⟩
  intro p hp
  rcases Lb.1 (hFP p hp) with e|hm
  ·exact e▸Lf ..
  ·exact Lm _ (List.mem_append_left _ hm)
 ·rintro r h2 ⟨g',hg,rfl,rfl⟩;exact k g' hg
end
end Go.AI
namespace Go.AI
section
variable {E : Vl} {K : List It} {l : List Oper} {FP : Qa} {σ σ' : Sl} {h : Qa} {o : Oper} {i : Nat} {cs : List (Nat × Nat)}
theorem OY {f:FuncId} {xs:List Operand} {ts:Array TypeId} {g:Nat} {ob ob':XD} {args:List AV} {r:AV} (ho:l[i]?=some o) (hf:Fg E.P f g ob args r ob') (hop:o.op=.call {callee:=.value (.func f),args:=xs.toArray,argTypes:=ts}) (hw:Qx l σ o=some true) (hd:Qw E.N o.dst=true)
  (hg:h.get g=some ob) (le:Us [] (xs.map (ev σ)) args) (hFP:Kp FP (h.set g ob')) (k:CW E l K FP cs (σ.setO o.dst r) (h.set g ob')):CW E l K FP ((i,1)::cs) σ h:=by
 refine Kc (hc:=[(g,ob)]) (hr:=h.del g) ho hf hop hw hd (Qa.get_perm hg) le ?_ ?_ (hm:=.inr ⟨rfl,rfl⟩)
 ·rintro _ _ ⟨rfl,rfl⟩
  exact fun p hp=>(Qa.set_perm (ob':=ob') hg).mem_iff.1 (hFP p hp)
 ·rintro _ _ ⟨rfl,rfl⟩ _
  exact QhA (Qa.set_perm hg).symm k
end
end Go.AI
namespace Go.AI
open Go.PN
theorem YG {xs:List BS} {n:Nat} (hn:xs.length=n) (t:BS):∀j,j<(n+1)*1→Xq (Qe xs) (n*1) (ofL (stc t)) j=Qe (xs++[t]) j:=Za (s:=1) (c:=stc) (d:=([]:BS)) hn t Af
end Go.AI

namespace Go.AI
open Go.PN
theorem K0 {xs:List Xe} {n:Nat} (hn:xs.length=n) (t:Xe):∀j,j<(n+1)*7→Xq (X7 xs) (n*7) (ofL (Zy t)) j=X7 (xs++[t]) j:=Za (s:=7) (c:=Zy) (d:=(gt0:Xe)) hn t Af
end Go.AI

namespace Go.AI
open Go.PN
theorem QeL {xs:List Zp} {n:Nat} (hn:xs.length=n) (t:Zp):∀j,j<(n+1)*4→Xq (V6 xs) (n*4) (ofL (vlc t)) j=V6 (xs++[t]) j:=Za (s:=4) (c:=vlc) (d:=(vl0:Zp)) hn t Af
end Go.AI

namespace Go.AI
open Go.PN
theorem Qq2 (a b:BS):(sB a==sB b)=decide (a=b):=by
 show((sB a).data==(sB b).data)=_
 rw [Bool.eq_iff_iff];simp
end Go.AI
namespace Go.PN
open Go.AI
structure Og where
 e:Option Nat
 h:Option Nat
 g:Option Nat
 p:Option Nat
 r:Option Nat
 s:Option Nat
structure QtX (m:Qv) (o:Og):Prop where
 e:o.e=none→m.events.length=0
 h:o.h=none→m.houses.length=0
 g:o.g=none→m.gates.length=0
 p:o.p=none→m.pages.length=0
 r:o.r=none→m.groups.length=0
 s:o.s=none→m.phases.length=0
structure Qjh (m:Qv) (n:Nat):Prop where
 e:m.events.length≤n
 h:m.houses.length≤n
 g:m.gates.length≤n
 p:m.pages.length≤n
 r:m.groups.length≤n
 s:m.phases.length≤n
theorem QeM {xs:List X3} {n:Nat} (hn:xs.length=n) (t:X3):∀j,j<(n+1)*11→Xq (ZS xs) (n*11) (ofL (evc t)) j=ZS (xs++[t]) j:=Za (s:=11) (c:=evc) (d:=(ev0:X3)) hn t Af
theorem Qji {xs:List Vx} {n:Nat} (hn:xs.length=n) (t:Vx):∀j,j<(n+1)*2→Xq (ZT xs) (n*2) (ofL (hsc t)) j=ZT (xs++[t]) j:=Za (s:=2) (c:=hsc) (d:=(hs0:Vx)) hn t Af
theorem QeN {xs:List Yz} {n:Nat} (hn:xs.length=n) (t:Yz):∀j,j<(n+1)*3→Xq (Kq xs) (n*3) (ofL (pgc t)) j=Kq (xs++[t]) j:=Za (s:=3) (c:=pgc) (d:=(pg0:Yz)) hn t Af
theorem QeO {xs:List YB} {n:Nat} (hn:xs.length=n) (t:YB):∀j,j<(n+1)*4→Xq (VR xs) (n*4) (ofL (Wx t)) j=VR (xs++[t]) j:=Za (s:=4) (c:=Wx) (d:=(gr0:YB)) hn t Af
theorem QeP {xs:List V0} {n:Nat} (hn:xs.length=n) (t:V0):∀j,j<(n+1)*3→Xq (Kr xs) (n*3) (ofL (WR t)) j=Kr (xs++[t]) j:=Za (s:=3) (c:=WR) (d:=(ph0:V0)) hn t Af
end Go.PN

namespace Go.Proofs.YtngjgahldnnapaaGreatDoor
open Go.AI Go.PN
theorem lf_ler {α:Type} {h:Qa} {s:Nat} {c:α→List CV} {d:α} {xs:List α} (hs:0<s) (H:∀(x:α) k,k<s→Ut h (ofL (c x) k) (ofL (c x) k)) (j:Nat):Ut h (lf s c d xs j) (lf s c d xs j):=by
 obtain⟨i,k,hk,rfl⟩:∃i k,k<s∧j=i*s+k:=⟨j/s,j%s,Nat.mod_lt _ hs,by rw [Nc];exact(Nat.div_add_mod j s).symm⟩
 rw [QY hk]
 exact H _ _ hk
theorem QeQ {h:Qa} {l:List BS}:Ut h (X0 true l) (X0 true l):=.row fun j _=>lf_ler Af (fun x k hk=>match k,hk with|0,_=>.str _) j
theorem QtY {h:Qa} {l:List X3}:Ut h (evs true l) (evs true l):=.row fun j _=>lf_ler Af (fun x k hk=>match k,hk with|0,_=>.str _|1,_=>.bool _|2,_=>Xc|3,_=>Xc|4,_=>.bool _|5,_=>Xc|6,_=>Xc|7,_=>.bool _|8,_=>Xc|9,_=>Xc|10,_=>.int _ _) j
theorem QtZ {h:Qa} {l:List Vx}:Ut h (hss true l) (hss true l):=.row fun j _=>lf_ler Af (fun x k hk=>match k,hk with|0,_=>.str _|1,_=>.bool _) j
theorem Qt0 {h:Qa} (x:Xe) (k:Nat) (hk:k<7):Ut h (ofL (Zy x) k) (ofL (Zy x) k):=match k,hk with|0,_=>.str _|1,_=>.int _ _|2,_=>.int _ _|3,_=>QeQ|4,_=>.bool _|5,_=>Xc|6,_=>Xc
theorem UM {h:Qa} {l:List Xe}:Ut h (gts true l) (gts true l):=.row fun j _=>lf_ler Af Qt0 j
theorem Qt1 {h:Qa} {l:List Yz}:Ut h (pgs true l) (pgs true l):=.row fun j _=>lf_ler Af (fun x k hk=>match k,hk with|0,_=>.str _|1,_=>.str _|2,_=>UM) j
theorem Qt2 {h:Qa} {l:List YB}:Ut h (grs true l) (grs true l):=.row fun j _=>lf_ler Af (fun x k hk=>match k,hk with|0,_=>.str _|1,_=>.int _ _|2,_=>QeQ|3,_=>QqV) j
theorem Qt3 {h:Qa} {l:List Zp}:Ut h (vls true l) (vls true l):=.row fun j _=>lf_ler Af (fun x k hk=>match k,hk with|0,_=>.str _|1,_=>.bool _|2,_=>Xc|3,_=>Xc) j
theorem Qt4 {h:Qa} {l:List V0}:Ut h (phs true l) (phs true l):=.row fun j _=>lf_ler Af (fun x k hk=>match k,hk with|0,_=>.str _|1,_=>.str _|2,_=>Qt3) j
theorem QhE {h:Qa} {x:Qv}:Qf1 h (Xa true x) (Xa true x):=⟨.str _,.str _,QtY,QtZ,UM,Qt1,Qt2,Qt4,trivial⟩
theorem QbF {h:Qa}:Qf1 h [.str (sB []),.str (sB []),.nils,.nils,.nils,.nils,.nils,.nils] (Xa true md0):=⟨.str _,.str _,.nils,.nils,.nils,.nils,.nils,.nils,trivial⟩
end Go.Proofs.YtngjgahldnnapaaGreatDoor
namespace Go.PN
open Go.AI
theorem Qjh.mono {m:Qv} {a b:Nat} (h:Qjh m a) (hab:a≤b):Qjh m b:=⟨Lt h.e hab,Lt h.h hab,Lt h.g hab,Lt h.p hab,Lt h.r hab,Lt h.s hab⟩
end Go.PN

namespace Go.PN
def RD.prob (r:RD):Bool:=r.valid&&decide (0≤r.q)&&decide (r.q≤1)
theorem Qjj (x:Rat):decide (YJ x≥0)=decide (0≤x):=by
 unfold YJ
 by_cases h0:x=0
 ·subst h0;simp
 ·rw [iN h0]
  by_cases h1:x<0
  ·rw [iP h1]
   have:¬(0≤x):=Rat.not_le.2 h1
   simp [this]
  ·rw [iN h1]
   have:0≤x:=Rat.not_lt.1 h1
   simp [this]
theorem Qq3 (x:Rat):decide (YJ x≤0)=decide (x≤0):=by
 unfold YJ
 by_cases h0:x=0
 ·subst h0;simp
 ·rw [iN h0]
  by_cases h1:x<0
  ·rw [iP h1]
   have:x≤0:=Rat.le_of_lt h1
   simp [this]
  ·rw [iN h1]
   have:¬x≤0:=fun h=>by
    have:=Rat.not_lt.1 h1
    exact h0 (Rat.le_antisymm h this)
   simp [this]
theorem Qle (x:Rat):decide (x-1≤0)=decide (x≤1):=by
 rw [Bool.eq_iff_iff];simp only [Dq];constructor<;>intro h<;>grind
theorem QoF {n d:Nat} (hd:d≠0):sq false n d≤1↔n≤d:=by
 unfold sq U5
 simp only [Bool.false_eq_true,if_false]
 rw [Rat.mkRat_eq_div]
 have hd0:(0:Rat)<(d:Rat):=by
  have:((0:Nat):Rat)<(d:Rat):=Rat.natCast_lt_natCast.2 om
  exact this
 have hne:(d:Rat)≠0:=fun e=>by rw [e] at hd0;exact Rat.lt_irrefl hd0
 have hx:((n:Int):Rat)/(d:Rat)*(d:Rat)=(n:Rat):=by
  have h1:((n:Int):Rat)=(n:Rat):=rfl
  rw [h1,Rat.div_def,Rat.mul_assoc,Rat.inv_mul_cancel _ hne,Rat.mul_one]
 generalize ((n:Int):Rat)/(d:Rat)=x at hx
 constructor
 ·intro h
  have h1:=Rat.mul_le_mul_of_nonneg_right h (Rat.le_of_lt hd0)
  rw [hx,Rat.one_mul] at h1
  exact Rat.natCast_le_natCast.1 h1
 ·intro h
  have h1:(n:Rat)≤(d:Rat):=Rat.natCast_le_natCast.2 h
  rw [←hx] at h1
  refine Rat.not_lt.1 fun hlt=> ?_
  have h2:=Rat.mul_lt_mul_of_pos_right hlt hd0
  rw [Rat.one_mul] at h2
  exact absurd h1 (Rat.not_le.2 h2)
theorem Qt5 {r:RD} {L:Nat} (hw:r.wf L) (hv:r.valid=true):((!r.neg)&&decide (ZQ (val r.num) (val r.den)≤0))=(decide (0≤r.q)&&decide (r.q≤1)):=by
 cases hs:r.some with
 |false=>
  have hn:r.num.length=0:=by
   simp only [RD.some,hv,Bool.true_and,decide_eq_false_iff_not,ne_eq,Classical.not_not] at hs
   exact hs
  have hq:r.q=0:=by unfold RD.q RD.pn;simp [hs,Qbz]
  have hv':=hv
  unfold RD.valid at hv'
  split at hv'
  ·rename_i h
   have h1:r.num=[]:=Lh.1 h.1
   have h2:r.den=[]:=Lh.1 h.2
   rw [hq,h1,h2]
   simp only [Bool.not_eq_true'] at hv'
   simp [hv',val,ZQ]
   decide
  ·simp [VP,hn] at hv'
 |true=>
  obtain⟨h1,h2,h3,h4,h5⟩:=RD.some_spec hw hs
  have hq:r.q=sq r.neg (val r.num) (val r.den):=by unfold RD.q RD.ps RD.pn RD.pd;simp [hs]
  rw [hq]
  have hneg:=QvO (neg:=r.neg) h3 h4
  cases hb:r.neg with
  |true=>
   rw [hb] at hneg
   have:¬(0≤sq true (val r.num) (val r.den)):=Rat.not_le.2 (hneg.2 rfl)
   simp [this]
  |false=>
   rw [hb] at hneg
   have hge:0≤sq false (val r.num) (val r.den):=Rat.not_lt.1 fun h=>by cases hneg.1 h
   have hle:=QoF (n:=val r.num) h4
   have hc:ZQ (val r.num) (val r.den)≤0↔val r.num≤val r.den:=by
    unfold ZQ
    split
    ·constructor<;>intro _<;>omega
    ·split<;>constructor<;>intro _<;>omega
   simp only [hge,decide_true,Bool.true_and,Bool.not_false,hle,hc]
end Go.PN
namespace Go.Proofs.YtngjgahldnnapaaGreatDoor
open Go.AI Go.PN Proofs.Tryz
attribute [local irreducible] aw Fa ZN ZZ Fh YE
theorem QbG (r:RD) (hw:r.wf 1073741824):Fa prog 179 [.agg (Y1 r)] (.c (.bool r.prob)):=by
 have h1:=hw.2.2.1
 have h2:=hw.2.2.2
 refine fA func179 fun C hC=>?_
 refine xG ?_
 refine xB fun g1 n_1=>?_
 refine yG n_1 ?_
 refine yC n_1 (QcE r (Zu hw ?_)) ?_
 ·omega
 refine yG n_1 ?_
 unfold RD.prob
 refine ZD 5 (zE n_1) (fun hv=> ?_) (fun hv=> ?_)<;>refine yS n_1 ?_
 ·have hp:=Qt5 hw hv
  refine yG n_1 ?_
  refine ZD 10 (zE n_1) (fun hn=> ?_) (fun hn=> ?_)<;>refine yS n_1 ?_
  ·refine yG n_1 ?_
   refine yC n_1 (Qew _ _ hw.1 hw.2.1 ?_ ?_) ?_
   ·omega
   ·omega
   refine yGT hC n_1 ?_
   refine .one (.c (Qp ?_))
   rw [hv,Bool.true_and,←hp,hn,Bool.true_and]
  ·refine yGT hC n_1 ?_
   refine .one (.c (Qp ?_))
   rw [hv,Bool.true_and,←hp,hn,Bool.false_and]
 ·refine yGT hC n_1 ?_
  refine .one (.c (Qp ?_))
  rw [hv,Bool.false_and,Bool.false_and]
theorem QwD:(rd ((1:Int):Rat)).wf 500000000:=UI (YF (L:=1) ⟨by simp,by simp⟩ om)
theorem QbH (r:RD) (hw:r.wf 500000000):Fa prog 95 [.agg (Y1 r)] (.c (.bool r.prob)):=by
 have h1:=hw.2.2.1
 have h2:=hw.2.2.2
 refine fA func95 fun C hC=>?_
 refine xG ?_
 refine xB fun g1 n_1=>?_
 refine yG n_1 ?_
 refine Xv 14 Qg kR ?_
 refine yG n_1 ?_
 refine yD n_1 (QcF r (Zu hw ?_)) ?_
 ·omega
 refine yG n_1 ?_
 unfold RD.prob
 refine Qcv 5 (zE n_1) (fun hv=> ?_) (fun hv=> ?_)<;>refine yS n_1 ?_
 ·refine yG n_1 ?_
  refine yD n_1 (QbB r (Zu hw ?_)) ?_
  ·omega
  refine yG n_1 ?_
  refine Qcv 10 (zE n_1) (fun hn=> ?_) (fun hn=> ?_)<;>refine yS n_1 ?_
  ·refine yG n_1 ?_
   refine yD n_1 (Qwv 1 ?_ ?_) ?_
   ·omega
   ·omega
   refine yG n_1 ?_
   refine yD n_1 (QtO r (rd ((1:Int):Rat)) hw QwD) ?_
   rw [Ow,Rat.intCast_one]
   refine yGT hC n_1 ?_
   refine .one (.c (Qp ?_))
   rw [Qjj] at hn
   rw [hv,hn,Qq3,Qle];rfl
  ·refine yGT hC n_1 ?_
   refine .one (.c (Qp ?_))
   rw [Qjj] at hn
   rw [hn,Bool.and_false,Bool.false_and]
 ·refine yGT hC n_1 ?_
  refine .one (.c (Qp ?_))
  rw [hv,Bool.false_and,Bool.false_and]
end Go.Proofs.YtngjgahldnnapaaGreatDoor
namespace Go.PN
open Go.AI
variable {α β σ : Type}
def Xu (p:α→Bool):List α→Int
 |[]=> -1
 |x::l=>if p x then 0 else if Xu p l<0 then-1 else Xu p l+1
theorem QdV (p:α→Bool):∀l:List α,-1≤Xu p l
 |[]=>Int.le_refl _
 |x::l=>by
  have:=QdV p l
  unfold Xu
  split
  ·decide
  ·split<;>omega
theorem QhF (p:α→Bool):∀l:List α,Xu p l<l.length
 |[]=>(show(-1:Int)<0 from by decide)
 |x::l=>by
  have:=QhF p l
  unfold Xu
  rw [Lc]
  split
  ·omega
  ·split<;>omega
theorem ZY {p:α→Bool} (d:α):∀{l:List α},(∀j,j<l.length→p (l.getD j d)=false)→Xu p l= -1
 |[],_=>rfl
 |x::l,h=>by
  have h0:p x=false:=by simpa using h 0 (by simp)
  have ih:=ZY d (l:=l) fun j hj=>by simpa using h (j+1) (by simpa using hj)
  unfold Xu
  rw [h0,ih];rfl
theorem Zc {p:α→Bool} (d:α):∀{l:List α} {i:Nat},i<l.length→p (l.getD i d)=true→(∀j,j<i→p (l.getD j d)=false)→Xu p l=i
 |x::l,0,_,h,_=>by
  have:p x=true:=by simpa using h
  unfold Xu
  rw [this];rfl
 |x::l,i+1,hl,h,hn=>by
  have h0:p x=false:=by simpa using hn 0 om
  have ih:=Zc d (l:=l) (i:=i) (by simpa using hl) (by simpa using h) fun j hj=>by simpa using hn (j+1) om
  unfold Xu
  rw [h0,ih]
  rw [iN Af,iN om]
  omega
def X2 (f:Nat→α→Int):List α→Nat→Int
 |[],_=>0
 |x::l,i=>if f i x=0 then X2 f l (i+1) else f i x
theorem Qgq {f:Nat→α→Int} (d:α) {l:List α} {i:Nat} (h:i<l.length):X2 f (l.drop i) i=if f i (l.getD i d)=0 then X2 f (l.drop (i+1)) (i+1) else f i (l.getD i d):=by
 rw [List.drop_eq_getElem_cons h,Lg,Li h];rfl
theorem Qq4 {f:Nat→α→Int} {l:List α} {i:Nat} (h:¬i<l.length):X2 f (l.drop i) i=0:=by rw [List.drop_of_length_le om];rfl
def X1 (f:Nat→α→σ→Int×σ):List α→Nat→σ→Int×σ
 |[],_,s=>(0,s)
 |x::l,i,s=>if(f i x s).1=0 then X1 f l (i+1) (f i x s).2 else f i x s
theorem Qgr {f:Nat→α→σ→Int×σ} (d:α) {l:List α} {i:Nat} {s:σ} (h:i<l.length):X1 f (l.drop i) i s=if(f i (l.getD i d) s).1=0 then X1 f (l.drop (i+1)) (i+1) (f i (l.getD i d) s).2 else f i (l.getD i d) s:=by
 rw [List.drop_eq_getElem_cons h,Lg,Li h];rfl
theorem Qq5 {f:Nat→α→σ→Int×σ} {l:List α} {i:Nat} {s:σ} (h:¬i<l.length):X1 f (l.drop i) i s=(0,s):=by rw [List.drop_of_length_le om];rfl
def K1 (f:Nat→σ→Int×σ):Nat→Nat→σ→Int×σ
 |0,_,s=>(0,s)
 |n+1,i,s=>if(f i s).1=0 then K1 f n (i+1) (f i s).2 else f i s
def Vn (a b:Int):Int:=if a=0 then b else a
def VH (m:Qv) (n:BS):Int:=Xu (fun x=>x.name==n) m.events
def hsI (m:Qv) (n:BS):Int:=Xu (fun x=>x.name==n) m.houses
def Oy (l:List Xe) (n:BS):Int:=Xu (fun x=>x.name==n) l
def Oz (m:Qv) (n:BS):Int:=Xu (fun x=>x.name==n) m.pages
def Qt (m:Qv):Nat→List Xe
 |0=>m.gates
 |k+1=>(m.pages.getD k pg0).gates
def QaN (r:RD):Bool:=r.valid&&decide (YJ r.q≥0)
def QB (s:BS):Bool:=decide (0<s.length)&&decide (s.length≤24)&&Jn (XF s 0)&&decide (Xx Yp s 0=s.length)
def evC (m:Qv) (i:Nat) (x:X3):Int:=if QB x.name=false then 5 else if VH m x.name<i then 6
 else if x.p.prob=false∨QaN x.fail=false∨QaN x.rep=false∨x.cost<0∨x.cost>1073741824 then 3 else 0
def hsC (m:Qv) (i:Nat) (x:Vx):Int:=if QB x.name=false then 5 else if VH m x.name≥0∨hsI m x.name<i then 6 else 0
def Uv (m:Qv):Int:=if m.events.length>24 then 4 else Vn (X2 (evC m) m.events 0) (if m.houses.length>16 then 4 else X2 (hsC m) m.houses 0)
def gtN (m:Qv):Nat:=m.gates.length+(m.pages.map fun p=>p.gates.length).sum
def pgC (m:Qv) (i:Nat) (x:Yz):Int:=if QB x.name=false then 5 else if Oz m x.name<i then 6 else 0
def Uw (m:Qv):Int:=if m.pages.length>8∨gtN m>64 then 4 else X2 (pgC m) m.pages 0
def QeR (k:Int) (n:Nat):Bool:=if k=3 then n==1 else if k=5 then n==2 else if k=6∨k=7∨k=8 then decide (n≥2)&&decide (n≤16) else decide (n≥1)&&decide (n≤16)
def QbI (r:RD):Bool:= !r.neg&&r.num.length==0&&r.den.length==0
def Je (x:Xe):Int:=if x.kind<0∨x.kind>8 then 7 else if QeR x.kind x.inputs.length=false then 11
 else if x.kind=2∧(x.k<1∨x.k>x.inputs.length) then 3 else if x.kind≠2∧x.k≠0 then 2
 else if x.kind=7∧x.dorm.prob=false then 3 else if x.kind≠7∧QbI x.dorm=false then 2 else 0
def gtC (m:Qv) (k:Nat) (i:Nat) (x:Xe):Int:=if QB x.name=false then 5 else if VH m x.name≥0∨hsI m x.name≥0∨Oy (Qt m k) x.name<i then 6 else Je x
def Wy (m:Qv) (k:Nat):Int:=X2 (gtC m k) (Qt m k) 0
def Yq (m:Qv) (k:Nat) (i:BS):Bool:=if 0<i.length∧XF i 0=64 then decide (Oz m (i.drop 1)≥0) else decide (VH m i≥0)||decide (hsI m i≥0)||decide (Oy (Qt m k) i≥0)
def Kv (x:Xe) (j:Nat):Bool:=decide (x.kind=7)||(decide (x.kind=8)&&decide (j>0))
def inI (m:Qv) (k:Nat) (x:Xe) (j:Nat) (i:BS) (sp:List BS):Int×List BS:=if Yq m k i=false then(5,sp) else if Kv x j=true∧VH m i<0 then(7,sp)
 else if x.kind=7 then(if sp.contains i then(6,sp) else(0,sp++[i])) else(0,sp)
def inG (m:Qv) (k:Nat) (_:Nat) (x:Xe) (sp:List BS):Int×List BS:=X1 (inI m k x) x.inputs 0 sp
def tpC (m:Qv):Nat→Int
 |0=>0
 |k+1=>if Oy (m.pages.getD k pg0).gates (m.pages.getD k pg0).top<0∧VH m (m.pages.getD k pg0).top<0 then 5 else 0
def U6 (m:Qv) (k:Nat) (sp:List BS):Int×List BS:=if(X1 (inG m k) (Qt m k) 0 sp).1=0 then(tpC m k,(X1 (inG m k) (Qt m k) 0 sp).2) else X1 (inG m k) (Qt m k) 0 sp
def OA (m:Qv) (_:Nat) (n:BS) (ms:List BS):Int×List BS:=if VH m n<0 then(5,ms) else if ms.contains n then(6,ms) else(0,ms++[n])
def OG (m:Qv) (i:Nat) (x:YB) (ms:List BS):Int×List BS:=if QB x.name=false then(5,ms) else if Xu (fun y=>y.name==x.name) m.groups<i then(6,ms)
 else if x.kind≠0∧x.kind≠1 then(7,ms)
 else if(x.members.length:Int)<2∨(x.members.length:Int)>(if x.kind=1 then 4 else 24)∨(x.factors.length:Int)≠(if x.kind=1 then(x.members.length:Int)-1 else 1) then(11,ms)
 else if(X1 (OA m) x.members 0 ms).1≠0 then X1 (OA m) x.members 0 ms
 else if x.factors.all RD.prob=false then(3,ms) else(0,(X1 (OA m) x.members 0 ms).2)
def Y3 (m:Qv):Int:=if m.groups.length>8 then 4 else(X1 (OG m) m.groups 0 []).1
def vlC (m:Qv) (x:V0) (k:Nat) (v:Zp):Int:=if VH m v.event<0 then 5 else if Xu (fun y=>y.event==v.event) x.values<k then 6 else if v.p.prob=false then 3 else 0
def phC (m:Qv) (i:Nat) (x:V0):Int:=if QB x.name=false then 5 else if Xu (fun y=>y.name==x.name) m.phases<i then 6 else if Yq m 0 x.top=false then 5 else X2 (vlC m x) x.values 0
def Vz (m:Qv):Int:=if m.phases.length>6 then 4 else X2 (phC m) m.phases 0
def Vr (m:Qv):Int:=Vn (if QB m.name then 0 else 5) (Vn (Uv m) (Vn (Uw m) (Vn (K1 (fun k (_:Unit)=>(Wy m k,())) (m.pages.length+1) 0 ()).1
 (Vn (K1 (U6 m) (m.pages.length+1) 0 []).1 (Vn (if Yq m 0 m.top then 0 else 5) (Vn (Y3 m) (Vz m)))))))
end Go.PN
namespace Go.AI
section
variable {E : Vl} {K : List It} {σ σ' : Sl} {h : Qa} {all l rest : List Oper} {o : Oper}
theorem Qa3 {f:FuncId} {x:Operand} {xs:List Operand} {ts:Array TypeId} {g:Nat} {ob ob':XD} {args:List AV} {r:AV} (hf:Fg E.P f g ob (args++[.c (.optr g 0)]) r ob') (hop:o.op=.call {callee:=.value x,args:=xs.toArray,argTypes:=ts}) (hw:Qx all σ o=some true) (hd:Qw E.N o.dst=true)
  (hx:ev σ x=.c (fnC f [g])) (hg:h.get g=some ob) (le:Us [] (xs.map (ev σ)) args) (k:aw E (.ops all rest::K) (σ.setO o.dst r) (h.set g ob')):aw E (.ops all (o::rest)::K) σ h:=by
 refine QoC (gs:=[g]) hf hop hw hd hx (hr:=h.del g) (Qa.get_perm hg) le ?_
 rintro _ _ ⟨rfl,rfl⟩ _
 exact Qi (Qa.set_perm hg).symm k
end
end Go.AI
namespace Go.Proofs.YtngjgahldnnapaaGreatDoor
open Go.AI Go.PN Proofs.Tryz
abbrev stO (n:BS):XD:=.cells 9 1 (ofL [.str (sB n)])
attribute [local irreducible] aw Fa ZN ZZ Fh YE
theorem QoG (g:Nat) (n:BS) (x:X3):Fg prog 282 g (stO n) [.agg (evc x),.c (.optr g 0)] (.c (.bool (x.name==n))) (stO n):=by
 unfold Fg
 refine fH func282 fun C hC=>?_
 refine zA o0 ?_
 refine xB fun g1 n_1=>?_
 refine zA n_1 ?_
 refine QW (h':=[(g,stO n)]) rfl sL fun R r=>?_;simp only[go_sem,n_1];refine r _ rfl ?_;clear r R
 exact⟨rfl,rfl⟩
theorem QoH (g:Nat) (n:BS) (l:List X3) (hl:l.length≤1099511627776):Fg prog 281 g (stO n) [.c (evs true l),.c (fnC 282 [g])] (.c (.int .i64 (Xu (fun x=>x.name==n) l))) (stO n):=by
 unfold Fg
 refine fH func281 fun C hC=>?_
 refine zA o0 ?_
 refine Qh (fun i:Nat=>[(0,.c (evs true l)),(1,.c (fnC 282 [g])),(4,.c (.int .i64 0)),(7,.c (.int .i64 l.length)),(8,.c (.int .i64 i))]) (fun _=>[(g,stO n)]) (fun i=>i≤l.length∧∀j,j<i→((fun x:X3=>x.name==n) (l.getD j ev0))=false) (fun i=>l.length-i) 0 eB zZ ⟨Lz _,fun j hj=>absurd hj om⟩ ?_
 rintro i ⟨hi,hn⟩
 repeat' first|refine zV o0 ?_|refine zH o0 ?_ ?_<;>intro hb|fail
 ·have hi':=hb
  have hf:=QoG g n (l.getD i ev0)
  refine Qa3 (args:=[.agg (evc (l.getD i ev0))]) hf rfl rfl rfl eE eE eL ?_
  refine xS ?_
  repeat' first|refine zV o0 ?_|refine zH o0 ?_ ?_<;>intro hb|fail
  ·rw [Zc (p:=fun x:X3=>x.name==n) ev0 hi' (by simpa using hb) hn]
   refine xU ?_
   exact⟨rfl,rfl⟩
  ·refine Qb ⟨i+1,?_⟩
   have hn':∀j,j<i+1→((fun x:X3=>x.name==n) (l.getD j ev0))=false:=fun j hj=>by
    by_cases e:j=i
    ·subst e;simpa using hb
    ·exact hn j om
   and_intros
   all_goals first|rfl|exact Lr _|exact True.intro|exact hn'|omega
 ·have hf:Xu (fun x=>x.name==n) l= -1:=ZY ev0 (fun j hj=>hn j om)
  rw [hf]
  refine xU ?_
  exact⟨rfl,rfl⟩
theorem Z8 (m:Qv) (n:BS) (hl:m.events.length≤1099511627776):Fa prog 178 [.agg (Xa true m),.c (.str (sB n))] (.c (.int .i64 (Xu (fun x=>x.name==n) m.events))):=by
 refine fA func178 fun C hC=>?_
 refine zA o0 ?_
 refine xB fun g1 n_1=>?_
 refine zA n_1 ?_
 refine yB n_1 fun g2 n_2=>?_
 refine zA (oj n_1 n_2) ?_
 refine Z7 (gs:=[g2]) rfl rfl rfl (zE (oj n_1 n_2)) ?_
 have J1:=oj n_1 n_2
 refine yS J1 ?_
 have hf:=QoH g2 n m.events hl
 refine Zo J1 hf ?_
 refine yT hC J1 ?_
 exact .one (.c (.int _ _))
theorem QoI (g:Nat) (n:BS) (x:Vx):Fg prog 284 g (stO n) [.agg (hsc x),.c (.optr g 0)] (.c (.bool (x.name==n))) (stO n):=by
 unfold Fg
 refine fH func284 fun C hC=>?_
 refine zA o0 ?_
 refine xB fun g1 n_1=>?_
 refine zA n_1 ?_
 refine QW (h':=[(g,stO n)]) rfl sL fun R r=>?_;simp only[go_sem,n_1];refine r _ rfl ?_;clear r R
 exact⟨rfl,rfl⟩
theorem QoJ (g:Nat) (n:BS) (l:List Vx) (hl:l.length≤1099511627776):Fg prog 283 g (stO n) [.c (hss true l),.c (fnC 284 [g])] (.c (.int .i64 (Xu (fun x=>x.name==n) l))) (stO n):=by
 unfold Fg
 refine fH func283 fun C hC=>?_
 refine zA o0 ?_
 refine Qh (fun i:Nat=>[(0,.c (hss true l)),(1,.c (fnC 284 [g])),(4,.c (.int .i64 0)),(7,.c (.int .i64 l.length)),(8,.c (.int .i64 i))]) (fun _=>[(g,stO n)]) (fun i=>i≤l.length∧∀j,j<i→((fun x:Vx=>x.name==n) (l.getD j hs0))=false) (fun i=>l.length-i) 0 eB zZ ⟨Lz _,fun j hj=>absurd hj om⟩ ?_
 rintro i ⟨hi,hn⟩
 repeat' first|refine zV o0 ?_|refine zH o0 ?_ ?_<;>intro hb|fail
 ·have hi':=hb
  have hf:=QoI g n (l.getD i hs0)
  refine Qa3 (args:=[.agg (hsc (l.getD i hs0))]) hf rfl rfl rfl eE eE eL ?_
  refine xS ?_
  repeat' first|refine zV o0 ?_|refine zH o0 ?_ ?_<;>intro hb|fail
  ·rw [Zc (p:=fun x:Vx=>x.name==n) hs0 hi' (by simpa using hb) hn]
   refine xU ?_
   exact⟨rfl,rfl⟩
  ·refine Qb ⟨i+1,?_⟩
   have hn':∀j,j<i+1→((fun x:Vx=>x.name==n) (l.getD j hs0))=false:=fun j hj=>by
    by_cases e:j=i
    ·subst e;simpa using hb
    ·exact hn j om
   and_intros
   all_goals first|rfl|exact Lr _|exact True.intro|exact hn'|omega
 ·have hf:Xu (fun x=>x.name==n) l= -1:=ZY hs0 (fun j hj=>hn j om)
  rw [hf]
  refine xU ?_
  exact⟨rfl,rfl⟩
theorem OZ (m:Qv) (n:BS) (hl:m.houses.length≤1099511627776):Fa prog 181 [.agg (Xa true m),.c (.str (sB n))] (.c (.int .i64 (Xu (fun x=>x.name==n) m.houses))):=by
 refine fA func181 fun C hC=>?_
 refine zA o0 ?_
 refine xB fun g1 n_1=>?_
 refine zA n_1 ?_
 refine yB n_1 fun g2 n_2=>?_
 refine zA (oj n_1 n_2) ?_
 refine Z7 (gs:=[g2]) rfl rfl rfl (zE (oj n_1 n_2)) ?_
 have J1:=oj n_1 n_2
 refine yS J1 ?_
 have hf:=QoJ g2 n m.houses hl
 refine Zo J1 hf ?_
 refine yT hC J1 ?_
 exact .one (.c (.int _ _))
theorem Qq6 (g:Nat) (n:BS) (x:Yz):Fg prog 286 g (stO n) [.agg (pgc x),.c (.optr g 0)] (.c (.bool (x.name==n))) (stO n):=by
 unfold Fg
 refine fH func286 fun C hC=>?_
 refine zA o0 ?_
 refine xB fun g1 n_1=>?_
 refine zA n_1 ?_
 refine QW (h':=[(g,stO n)]) rfl sL fun R r=>?_;simp only[go_sem,n_1];refine r _ rfl ?_;clear r R
 exact⟨rfl,rfl⟩
theorem Qq7 (g:Nat) (n:BS) (l:List Yz) (hl:l.length≤1099511627776):Fg prog 285 g (stO n) [.c (pgs true l),.c (fnC 286 [g])] (.c (.int .i64 (Xu (fun x=>x.name==n) l))) (stO n):=by
 unfold Fg
 refine fH func285 fun C hC=>?_
 refine zA o0 ?_
 refine Qh (fun i:Nat=>[(0,.c (pgs true l)),(1,.c (fnC 286 [g])),(4,.c (.int .i64 0)),(7,.c (.int .i64 l.length)),(8,.c (.int .i64 i))]) (fun _=>[(g,stO n)]) (fun i=>i≤l.length∧∀j,j<i→((fun x:Yz=>x.name==n) (l.getD j pg0))=false) (fun i=>l.length-i) 0 eB zZ ⟨Lz _,fun j hj=>absurd hj om⟩ ?_
 rintro i ⟨hi,hn⟩
 repeat' first|refine zV o0 ?_|refine zH o0 ?_ ?_<;>intro hb|fail
 ·have hi':=hb
  have hf:=Qq6 g n (l.getD i pg0)
  refine Qa3 (args:=[.agg (pgc (l.getD i pg0))]) hf rfl rfl rfl eE eE eL ?_
  refine xS ?_
  repeat' first|refine zV o0 ?_|refine zH o0 ?_ ?_<;>intro hb|fail
  ·rw [Zc (p:=fun x:Yz=>x.name==n) pg0 hi' (by simpa using hb) hn]
   refine xU ?_
   exact⟨rfl,rfl⟩
  ·refine Qb ⟨i+1,?_⟩
   have hn':∀j,j<i+1→((fun x:Yz=>x.name==n) (l.getD j pg0))=false:=fun j hj=>by
    by_cases e:j=i
    ·subst e;simpa using hb
    ·exact hn j om
   and_intros
   all_goals first|rfl|exact Lr _|exact True.intro|exact hn'|omega
 ·have hf:Xu (fun x=>x.name==n) l= -1:=ZY pg0 (fun j hj=>hn j om)
  rw [hf]
  refine xU ?_
  exact⟨rfl,rfl⟩
theorem QhG (m:Qv) (n:BS) (hl:m.pages.length≤1099511627776):Fa prog 182 [.agg (Xa true m),.c (.str (sB n))] (.c (.int .i64 (Xu (fun x=>x.name==n) m.pages))):=by
 refine fA func182 fun C hC=>?_
 refine zA o0 ?_
 refine xB fun g1 n_1=>?_
 refine zA n_1 ?_
 refine yB n_1 fun g2 n_2=>?_
 refine zA (oj n_1 n_2) ?_
 refine Z7 (gs:=[g2]) rfl rfl rfl (zE (oj n_1 n_2)) ?_
 have J1:=oj n_1 n_2
 refine yS J1 ?_
 have hf:=Qq7 g2 n m.pages hl
 refine Zo J1 hf ?_
 refine yT hC J1 ?_
 exact .one (.c (.int _ _))
theorem Qq8 (g:Nat) (n:BS) (x:Xe):Fg prog 288 g (stO n) [.agg (Zy x),.c (.optr g 0)] (.c (.bool (x.name==n))) (stO n):=by
 unfold Fg
 refine fH func288 fun C hC=>?_
 refine zA o0 ?_
 refine xB fun g1 n_1=>?_
 refine zA n_1 ?_
 refine QW (h':=[(g,stO n)]) rfl sL fun R r=>?_;simp only[go_sem,n_1];refine r _ rfl ?_;clear r R
 exact⟨rfl,rfl⟩
theorem Qq9 (g:Nat) (n:BS) (l:List Xe) (hl:l.length≤1099511627776):Fg prog 287 g (stO n) [.c (gts true l),.c (fnC 288 [g])] (.c (.int .i64 (Xu (fun x=>x.name==n) l))) (stO n):=by
 unfold Fg
 refine fH func287 fun C hC=>?_
 refine zA o0 ?_
 refine Qh (fun i:Nat=>[(0,.c (gts true l)),(1,.c (fnC 288 [g])),(4,.c (.int .i64 0)),(7,.c (.int .i64 l.length)),(8,.c (.int .i64 i))]) (fun _=>[(g,stO n)]) (fun i=>i≤l.length∧∀j,j<i→((fun x:Xe=>x.name==n) (l.getD j gt0))=false) (fun i=>l.length-i) 0 eB zZ ⟨Lz _,fun j hj=>absurd hj om⟩ ?_
 rintro i ⟨hi,hn⟩
 repeat' first|refine zV o0 ?_|refine zH o0 ?_ ?_<;>intro hb|fail
 ·have hi':=hb
  have hf:=Qq8 g n (l.getD i gt0)
  refine Qa3 (args:=[.agg (Zy (l.getD i gt0))]) hf rfl rfl rfl eE eE eL ?_
  refine xS ?_
  repeat' first|refine zV o0 ?_|refine zH o0 ?_ ?_<;>intro hb|fail
  ·rw [Zc (p:=fun x:Xe=>x.name==n) gt0 hi' (by simpa using hb) hn]
   refine xU ?_
   exact⟨rfl,rfl⟩
  ·refine Qb ⟨i+1,?_⟩
   have hn':∀j,j<i+1→((fun x:Xe=>x.name==n) (l.getD j gt0))=false:=fun j hj=>by
    by_cases e:j=i
    ·subst e;simpa using hb
    ·exact hn j om
   and_intros
   all_goals first|rfl|exact Lr _|exact True.intro|exact hn'|omega
 ·have hf:Xu (fun x=>x.name==n) l= -1:=ZY gt0 (fun j hj=>hn j om)
  rw [hf]
  refine xU ?_
  exact⟨rfl,rfl⟩
theorem QbJ (l:List Xe) (n:BS) (hl:l.length≤1099511627776):Fa prog 184 [.c (gts true l),.c (.str (sB n))] (.c (.int .i64 (Oy l n))):=by
 refine fA func184 fun C hC=>?_
 refine zA o0 ?_
 refine xB fun g2 n_2=>?_
 refine zA n_2 ?_
 refine Z7 (gs:=[g2]) rfl rfl rfl (zE n_2) ?_
 refine yS n_2 ?_
 have hf:=Qq9 g2 n l hl
 refine Zo n_2 hf ?_
 refine yT hC n_2 ?_
 exact .one (.c (.int _ _))
end Go.Proofs.YtngjgahldnnapaaGreatDoor
namespace Go.PN
open Go.AI
theorem RD.wf.mono {r:RD} {a b:Nat} (h:r.wf a) (hab:a≤b):r.wf b:=by
 exact⟨h.1,h.2.1,Lt h.2.2.1 hab,Lt h.2.2.2 hab⟩
end Go.PN
namespace Go.Proofs.YtngjgahldnnapaaGreatDoor
open Go.AI Go.PN Proofs.Tryz
attribute [local irreducible] aw Fa ZN ZZ Fh YE
theorem QmX (r:RD) (hw:r.wf 1073741824):Fa prog 180 [.agg (Y1 r)] (.c (.bool (QaN r))):=by
 have f1:=QcE r (hw.mono Af)
 have f2:=Qi1 r hw
 unfold QaN
 refine fA func180 fun C hC=>?_
 refine zA o0 ?_
 refine xB fun g1 n_1=>?_
 repeat' first|refine zV n_1 ?_|refine yQ n_1 f1 ?_|refine yQ n_1 f2 ?_|refine zH n_1 ?_ ?_<;>intro hb|fail
 all_goals
  refine yT hC n_1 ?_
  refine .one (.c (Qp ?_))
  simp [hb]
theorem Qt6 (x:Xe) (j:Nat) (hj:j≤1099511627776):Fa prog 186 [.agg (Zy x),.c (.int .i64 j)] (.c (.bool (Kv x j))):=by
 unfold Kv
 refine fA func186 fun C hC=>?_
 refine zA o0 ?_
 refine xB fun g1 n_1=>?_
 repeat' first|refine zV n_1 ?_|refine zH n_1 ?_ ?_<;>intro hb|fail
 all_goals
  refine yT hC n_1 ?_
  refine .one (.c (Qp ?_))
  simp_all
theorem Qt7 (k:Int) (n:Nat) (hn:n≤1099511627776):Fa prog 289 [.c (.int .i64 k),.c (.int .i64 n)] (.c (.bool (QeR k n))):=by
 unfold QeR
 refine fA func289 fun C hC=>?_
 repeat' first|refine zV o0 ?_|refine zH o0 ?_ ?_<;>intro hb|fail
 all_goals first
  |(exfalso;omega)
  |(refine xT hC ?_
    refine .one (.c (Qp ?_))
    simp_all<;>omega)
theorem Qra (r:RD) (hw:r.wf 1073741824):Fa prog 290 [.agg (Y1 r)] (.c (.bool (QbI r))):=by
 unfold QbI
 obtain⟨w1,w2⟩:r.num.length≤1073741824∧r.den.length≤1073741824:=⟨hw.2.2.1,hw.2.2.2⟩
 refine fA func290 fun C hC=>?_
 refine zA o0 ?_
 refine xB fun g1 n_1=>?_
 repeat' first|refine zV n_1 ?_|refine zH n_1 ?_ ?_<;>intro hb|fail
 all_goals
  refine yT hC n_1 ?_
  refine .one (.c (Qp ?_))
  simp_all
theorem VS (m:Qv) (k:Nat) (hk:k≤m.pages.length) (hl:m.pages.length≤1099511627776):Fa prog 183 [.agg (Xa true m),.c (.int .i64 ((k:Int)-1))] (.c (gts true (Qt m k))):=by
 refine fA func183 fun C hC=>?_
 refine zA o0 ?_
 refine xB fun g1 n_1=>?_
 repeat' first|refine zV n_1 ?_|refine zH n_1 ?_ ?_<;>intro hb|fail
 ·have h0:k=0:=by omega
  subst h0
  refine yT hC n_1 ?_
  exact .one (.c UM)
 ·obtain⟨j,rfl⟩:∃j,k=j+1:=⟨k-1,by omega⟩
  refine yT hC n_1 ?_
  exact .one (.c UM)
theorem QG {h:Qa} {T:TypeId} {n c:Int} (e:c=n) (h0:n≠0):Ut h (.ifc T (.int .i64 n)) (Wr T c):=Ws e.symm (by rw [e];exact h0)
theorem Qjk (n:BS):∀l:List BS,decide (Xu (fun x=>n==x) l≥0)=l.contains n
 |[]=>rfl
 |x::l=>by
  have ih:=Qjk n l
  rw [List.contains_cons,←ih]
  have hg:=QdV (fun x=>n==x) l
  show decide ((if(n==x)=true then(0:Int) else if Xu (fun x=>n==x) l<0 then-1 else Xu (fun x=>n==x) l+1)≥0)=(n==x||decide (Xu (fun x=>n==x) l≥0))
  cases h:(n==x) with
  |true=>rfl
  |false=>
   rw [iN (by simp),Bool.false_or]
   by_cases h2:Xu (fun x=>n==x) l<0
   ·have a:¬Xu (fun x=>n==x) l≥0:=by omega
    rw [iP h2,De a];rfl
   ·have a:Xu (fun x=>n==x) l≥0:=by omega
    have b:Xu (fun x=>n==x) l+1≥0:=by omega
    rw [iN h2,Dt a,Dt b]
theorem QhH (x:Xe) (hw:x.dorm.wf 1073741824) (hl:x.inputs.length≤1099511627776):Fa prog 185 [.agg (Zy x)] (.c (Y2 (Je x))):=by
 have f1:=Qt7 x.kind x.inputs.length hl
 have f2:=QbG x.dorm hw
 have f3:=Qra x.dorm hw
 refine fA func185 fun C hC=>?_
 refine zA o0 ?_
 refine xB fun g1 n_1=>?_
 repeat' first|refine zV n_1 ?_|refine yQ n_1 f1 ?_|refine yQ n_1 f2 ?_|refine yQ n_1 f3 ?_|refine zH n_1 ?_ ?_<;>intro hb|fail
 all_goals first
  |(exfalso;omega)
  |(refine yT hC n_1 ?_
    first
     |(refine .one (.c (QG (c:=Je x) ?_ Af))
       unfold Je
       repeat' split
       all_goals exact Ah)
     |(refine .one (.c (Z6 (c:=Je x) ?_))
       unfold Je
       repeat' split
       all_goals exact Ah))
structure MdOk (m:Qv):Prop where
 ev:m.events.length≤1099511627776
 hs:m.houses.length≤1099511627776
 gt:m.gates.length≤1099511627776
 pg:m.pages.length≤1099511627776
 pgt:∀p∈m.pages,p.gates.length≤1099511627776
theorem Qa4 (m:Qv) (k:Nat) (n:BS) (hk:k≤m.pages.length) (hm:MdOk m) (hg:(Qt m k).length≤1099511627776) (hn:n.length≤1099511627776):Fa prog 118 [.agg (Xa true m),.c (.int .i64 ((k:Int)-1)),.c (.str (sB n))] (.c (.bool (Yq m k n))):=by
 have f1:=Z8 m n hm.ev
 have f2:=OZ m n hm.hs
 have f3:=QhG m (VN n 1 n.length) hm.pg
 have f4:=VS m k hk hm.pg
 have f5:=QbJ (Qt m k) n hg
 refine fA func118 fun C hC=>?_
 refine zA o0 ?_
 refine xB fun g1 n_1=>?_
 repeat' first|refine zV n_1 ?_|refine yQ n_1 f1 ?_|refine yQ n_1 f2 ?_|refine yQ n_1 f3 ?_|refine yQ n_1 f4 ?_|refine yQ n_1 f5 ?_|refine zH n_1 ?_ ?_<;>intro hb|fail
 ·rename_i h0
  refine Xv 6 Qg kR ?_
  refine Zo n_1 f3 ?_
  rw [V1]
  rw [show Yq m k n=decide (Oz m (n.drop 1)≥0) from iP ⟨h0,hb⟩]
  refine yT hC n_1 ?_
  exact .one (.c (.bool _))
 all_goals
  clear f1 f2 f3 f4 f5
  refine yT hC n_1 ?_
  refine .one (.c (Qp ?_))
  unfold Yq VH hsI
  simp_all<;>omega
end Go.Proofs.YtngjgahldnnapaaGreatDoor
namespace Go.PN
open Go.AI
theorem ZG {α:Type} {f:Nat→α→Int} {l:List α} {d:α} {i:Nat} {F:Int} (h:X2 f (l.drop i) i=F) (hi:i<l.length) {c:Int} (hc:f i (l.getD i d)=c) (h0:c≠0):F=c:=by
 rw [Qgq d hi,hc,iN h0] at h
 exact h.symm
theorem VI {α:Type} {f:Nat→α→Int} {l:List α} {d:α} {i:Nat} {F:Int} (h:X2 f (l.drop i) i=F) (hi:i<l.length) (hc:f i (l.getD i d)=0):X2 f (l.drop (i+1)) (i+1)=F:=by
 rw [Qgq d hi,hc,iP rfl] at h
 exact h
theorem YU {α:Type} {f:Nat→α→Int} {l:List α} {i:Nat} {F:Int} (h:X2 f (l.drop i) i=F) (hi:¬i<l.length):F=0:=by
 rw [Qq4 hi] at h
 exact h.symm
structure Qyb (m:Qv):Prop where
 nm:m.name.length≤1099511627776
 ev:∀i,(m.events.getD i ev0).name.length≤1099511627776∧(m.events.getD i ev0).p.wf 1073741824∧(m.events.getD i ev0).fail.wf 1073741824∧(m.events.getD i ev0).rep.wf 1073741824
 hs:∀i,(m.houses.getD i hs0).name.length≤1099511627776
end Go.PN
namespace Go.Proofs.YtngjgahldnnapaaGreatDoor
open Go.AI Go.PN Proofs.Tryz
attribute [local irreducible] aw Fa ZN ZZ Fh YE
theorem QeS (m:Qv) (hm:MdOk m) (hw:Qyb m):Fa prog 114 [.agg (Xa true m)] (.c (Y2 (Uv m))):=by
 refine fA func114 fun C hC=>?_
 refine zA o0 ?_
 refine xB fun g1 n_1=>?_
 repeat' first|refine zV n_1 ?_|refine zH n_1 ?_ ?_<;>intro hb|fail
 ·refine yT hC n_1 ?_
  exact .one (.c (QG (by unfold Uv;rw [iP om]) Af))
 have he:¬m.events.length>24:=by omega
 generalize hF:X2 (evC m) m.events 0=F
 have hl1:=hm.ev
 have hl2:=hm.hs
 refine Qh (fun i:Nat=>[(1,.c (.optr g1 0)),(2,.c .nilI),(13,.c (evs true m.events)),(14,.c (.int .i64 m.events.length)),(15,.c (.int .i64 i))]) (fun _=>[(g1,.cells 29 8 (ofL (Xa true m)))]) (fun i=>i≤m.events.length∧X2 (evC m) (m.events.drop i) i=F) (fun i=>m.events.length-i) 0 (zB n_1) zZ ⟨Lz _,hF⟩ ?_
 rintro i ⟨hi,hlp⟩
 repeat' first|refine zV n_1 ?_|refine zH n_1 ?_ ?_<;>intro hb|fail
 ·obtain⟨w0,w1,w2,w3⟩:=hw.ev i
  have hi':=hb
  have hR:∀c,evC m i (m.events.getD i ev0)=c→c≠0→Uv m=c:=fun c hc h0=>by
   have:=ZG hlp hi' hc h0
   unfold Uv Vn
   rw [iN he,hF,this,iN h0]
  have hG:=VI (d:=ev0) hlp hi'
  generalize hx:m.events.getD i ev0=x at*
  have f1:Fa prog 113 [.c (.str (sB x.name))] (.c (.bool (QB x.name))):=J0 x.name w0
  have f2:=Z8 m x.name hl1
  have f3:=QbG x.p w1
  have f4:=QmX x.fail w2
  have f5:=QmX x.rep w3
  refine yA n_1 fun g4 n_4=>?_
  all_goals try(have Z:=(oj n_1 n_4);(repeat' first|refine zV Z ?_|refine yQ Z f1 ?_|refine yQ Z f2 ?_|refine yQ Z f3 ?_|refine yQ Z f4 ?_|refine yQ Z f5 ?_|refine zH Z ?_ ?_<;>intro hb|fail);all_goals clear Z)
  all_goals clear f1 f2 f3 f4 f5
  all_goals first
   |(refine yT hC (oj n_1 n_4) ?_
     refine .one (.c (QG (c:=Uv m) (hR _ ?_ Af) Af))
     clear hR hG hlp hF hx
     unfold evC VH
     repeat' split
     all_goals exact Ah)
   |(refine Qb ⟨i+1,?_⟩
     have hz:evC m i x=0:=by
      clear hR hG hlp hF hx
      unfold evC VH
      repeat' split
      all_goals exact Ah
     and_intros
     all_goals first|rfl|exact Lr _|exact Ls _ _|exact True.intro|exact hG hz|omega)
 ·rename_i hi0
  have hF0:=YU hlp hi0
  subst hF0
  refine yT hC n_1 ?_
  refine .one (.c (QG (c:=Uv m) ?_ Af))
  unfold Uv Vn
  rw [iN he,hF,iP rfl,iP om]
 rename_i hi0
 have hF0:=YU hlp hi0
 subst hF0
 have hh:¬m.houses.length>16:=by omega
 have he2:Uv m=X2 (hsC m) m.houses 0:=by
  unfold Uv Vn
  rw [iN he,hF,iP rfl,iN hh]
 clear hlp hi0 hi hF
 generalize hF:X2 (hsC m) m.houses 0=F at he2
 refine Qh (fun i:Nat=>[(1,.c (.optr g1 0)),(2,.c .nilI),(69,.c (hss true m.houses)),(70,.c (.int .i64 m.houses.length)),(71,.c (.int .i64 i))]) (fun _=>[(g1,.cells 29 8 (ofL (Xa true m)))]) (fun i=>i≤m.houses.length∧X2 (hsC m) (m.houses.drop i) i=F) (fun i=>m.houses.length-i) 0 (zB n_1) zZ ⟨Lz _,hF⟩ ?_
 rintro i ⟨hi,hlp⟩
 repeat' first|refine zV n_1 ?_|refine zH n_1 ?_ ?_<;>intro hb|fail
 ·have w0:=hw.hs i
  have hi':=hb
  have hR:∀c,hsC m i (m.houses.getD i hs0)=c→c≠0→Uv m=c:=fun c hc h0=>by
   rw [he2];exact ZG hlp hi' hc h0
  have hG:=VI (d:=hs0) hlp hi'
  generalize hx:m.houses.getD i hs0=x at*
  have f1:Fa prog 113 [.c (.str (sB x.name))] (.c (.bool (QB x.name))):=J0 x.name w0
  have f2:=Z8 m x.name hl1
  have f3:=OZ m x.name hl2
  refine yA n_1 fun g4 n_4=>?_
  all_goals try(have Z:=(oj n_1 n_4);(repeat' first|refine zV Z ?_|refine yQ Z f1 ?_|refine yQ Z f2 ?_|refine yQ Z f3 ?_|refine zH Z ?_ ?_<;>intro hb|fail);all_goals clear Z)
  all_goals clear f1 f2 f3
  all_goals first
   |(refine yT hC (oj n_1 n_4) ?_
     refine .one (.c (QG (c:=Uv m) (hR _ ?_ Af) Af))
     clear hR hG hlp hF hx
     unfold hsC VH hsI
     repeat' split
     all_goals exact Ah)
   |(refine Qb ⟨i+1,?_⟩
     have hz:hsC m i x=0:=by
      clear hR hG hlp hF hx
      unfold hsC VH hsI
      repeat' split
      all_goals exact Ah
     and_intros
     all_goals first|rfl|exact Lr _|exact Ls _ _|exact True.intro|exact hG hz|omega)
 ·have hF0:=YU hlp hb
  subst hF0
  refine yT hC n_1 ?_
  exact .one (.c (Z6 he2))
end Go.Proofs.YtngjgahldnnapaaGreatDoor
namespace Go.PN
open Go.AI
structure Qdq (m:Qv):Prop where
 pg:∀i,(m.pages.getD i pg0).name.length≤1099511627776∧(m.pages.getD i pg0).gates.length≤1048576
 gl:m.gates.length≤1048576
 pl:m.pages.length≤1048576
 gt:∀k i,((Qt m k).getD i gt0).name.length≤1099511627776∧((Qt m k).getD i gt0).dorm.wf 1073741824∧((Qt m k).getD i gt0).inputs.length≤1099511627776
theorem K2 {m:Qv} (h:Qdq m) (k:Nat):(Qt m k).length≤1048576:=match k with
 |0=>h.gl
 |k+1=>(h.pg k).2
def pgS (l:List Yz):Nat:=(l.map fun p=>p.gates.length).sum
theorem Qrb {l:List Yz} (h:∀i,(l.getD i pg0).gates.length≤1048576):pgS l≤l.length*1048576:=by
 induction l with
 |nil=>exact Lz _
 |cons p l ih=>
  have h0:=h 0
  have:=ih fun i=>h (i+1)
  show p.gates.length+pgS l≤_
  rw [Lc]
  have h1:p.gates.length≤1048576:=h0
  omega
theorem Qjl {l:List Yz} {i:Nat} (h:i<l.length):pgS (l.take (i+1))=pgS (l.take i)+(l.getD i pg0).gates.length:=by
 have e:l.getD i pg0=l[i]:=by rw [Lg,Li h];rfl
 rw [List.take_succ_eq_append_getElem h,e]
 unfold pgS
 rw [List.map_append,List.sum_append]
 simp
end Go.PN
namespace Go.Proofs.YtngjgahldnnapaaGreatDoor
open Go.AI Go.PN Proofs.Tryz
attribute [local irreducible] aw Fa ZN ZZ Fh YE
theorem Qf2 (m:Qv) (hm:MdOk m) (hw:Qdq m):Fa prog 115 [.agg (Xa true m)] (.c (Y2 (Uw m))):=by
 have hgl:=hw.gl
 have hpl:=hw.pl
 have hP:∀i,i≤m.pages.length→pgS (m.pages.take i)≤1099511627776:=fun i hi=>by
  have h1:∀j,((m.pages.take i).getD j pg0).gates.length≤1048576:=fun j=>by
   by_cases hj:j<i
   ·have:=(hw.pg j).2
    rw [Lg,List.getElem?_take_of_lt hj,←Lg];exact this
   ·rw [Lg,List.getElem?_take_eq_none om];exact Lz _
  have h2:=Qrb h1
  rw [List.length_take] at h2
  have:min i m.pages.length≤1048576:=by omega
  calc _≤_:=h2
   _≤1048576*1048576:=Nm _ this
 refine fA func115 fun C hC=>?_
 refine zA o0 ?_
 refine xB fun g1 n_1=>?_
 refine zA n_1 ?_
 refine Qh (fun i:Nat=>[(1,.c (.optr g1 0)),(2,.c .nilI),(3,.c (.int .i64 ((m.gates.length+pgS (m.pages.take i):Nat):Int))),(12,.c (pgs true m.pages)),(13,.c (.int .i64 m.pages.length)),(14,.c (.int .i64 i))]) (fun _=>[(g1,.cells 29 8 (ofL (Xa true m)))]) (fun i=>i≤m.pages.length) (fun i=>m.pages.length-i) 0 (zB n_1) zZ (Lz _) ?_
 rintro i hi
 have hPi:=hP i hi
 repeat' first|refine zV n_1 ?_|refine zH n_1 ?_ ?_<;>intro hb|fail
 ·have hi':=hb
  have hP2:=hP (i+1) hi'
  have ht:=Qjl hi'
  have hpg:=(hw.pg i).2
  refine yA n_1 fun g4 n_4=>?_
  refine zA (oj n_1 n_4) ?_
  refine Qb ⟨i+1,?_⟩
  and_intros
  all_goals first|rfl|exact Lr _|exact Ls _ _|exact True.intro|exact Wh om|omega
 ·rename_i hi0
  refine yT hC n_1 ?_
  exact .one (.c (QG (by unfold Uw;rw [iP (.inl om)]) Af))
 ·rename_i h8 hi0
  have htk:m.pages.take i=m.pages:=Ly om
  rw [htk] at hb
  have hg:gtN m>64:=by
   show m.gates.length+pgS m.pages>64
   omega
  refine yT hC n_1 ?_
  exact .one (.c (QG (by unfold Uw;rw [iP (.inr hg)]) Af))
 rename_i h8 hi0
 have htk:m.pages.take i=m.pages:=Ly om
 rw [htk] at hb
 have hg:¬gtN m>64:=by
  show¬m.gates.length+pgS m.pages>64
  omega
 have he2:Uw m=X2 (pgC m) m.pages 0:=by
  unfold Uw
  rw [iN (fun z=>z.elim om hg)]
 generalize hF:X2 (pgC m) m.pages 0=F at he2
 refine Qh (fun i:Nat=>[(1,.c (.optr g1 0)),(2,.c .nilI),(34,.c (pgs true m.pages)),(35,.c (.int .i64 m.pages.length)),(36,.c (.int .i64 i))]) (fun _=>[(g1,.cells 29 8 (ofL (Xa true m)))]) (fun i=>i≤m.pages.length∧X2 (pgC m) (m.pages.drop i) i=F) (fun i=>m.pages.length-i) 0 (zB n_1) zZ ⟨Lz _,hF⟩ ?_
 rintro i ⟨hi,hlp⟩
 repeat' first|refine zV n_1 ?_|refine zH n_1 ?_ ?_<;>intro hb|fail
 ·obtain⟨w0,_⟩:=hw.pg i
  have hi':=hb
  have hR:∀c,pgC m i (m.pages.getD i pg0)=c→c≠0→Uw m=c:=fun c hc h0=>by
   rw [he2];exact ZG hlp hi' hc h0
  have hG:=VI (d:=pg0) hlp hi'
  generalize hx:m.pages.getD i pg0=x at*
  have f1:Fa prog 113 [.c (.str (sB x.name))] (.c (.bool (QB x.name))):=J0 x.name w0
  have f2:=QhG m x.name hm.pg
  refine yA n_1 fun g4 n_4=>?_
  all_goals try(have Z:=(oj n_1 n_4);(repeat' first|refine zV Z ?_|refine yQ Z f1 ?_|refine yQ Z f2 ?_|refine zH Z ?_ ?_<;>intro hb|fail);all_goals clear Z)
  all_goals clear f1 f2
  all_goals first
   |(refine yT hC (oj n_1 n_4) ?_
     refine .one (.c (QG (c:=Uw m) (hR _ ?_ Af) Af))
     clear hR hG hlp hF hx
     unfold pgC Oz
     repeat' split
     all_goals exact Ah)
   |(refine Qb ⟨i+1,?_⟩
     have hz:pgC m i x=0:=by
      clear hR hG hlp hF hx
      unfold pgC Oz
      repeat' split
      all_goals exact Ah
     and_intros
     all_goals first|rfl|exact Lr _|exact Ls _ _|exact True.intro|exact hG hz|omega)
 ·have hF0:=YU hlp hb
  subst hF0
  refine yT hC n_1 ?_
  exact .one (.c (Z6 he2))
theorem Qf3 (m:Qv) (k:Nat) (hk:k≤m.pages.length) (hm:MdOk m) (hw:Qdq m):Fa prog 116 [.agg (Xa true m),.c (.int .i64 ((k:Int)-1))] (.c (Y2 (Wy m k))):=by
 have hkl:=K2 hw k
 have f0:=VS m k hk hm.pg
 refine fA func116 fun C hC=>?_
 refine zA o0 ?_
 refine xB fun g1 n_1=>?_
 refine Zo n_1 f0 ?_
 have he2:Wy m k=X2 (gtC m k) (Qt m k) 0:=rfl
 generalize hF:X2 (gtC m k) (Qt m k) 0=F at he2
 generalize hL:Qt m k=L at*
 refine Qh (fun i:Nat=>[(1,.c (.int .i64 ((k:Int)-1))),(2,.c (.optr g1 0)),(4,.c .nilI),(5,.c (gts true L)),(12,.c (gts true L)),(13,.c (.int .i64 L.length)),(14,.c (.int .i64 i))]) (fun _=>[(g1,.cells 29 8 (ofL (Xa true m)))]) (fun i=>i≤L.length∧X2 (gtC m k) (L.drop i) i=F) (fun i=>L.length-i) 0 (zB n_1) zZ ⟨Lz _,hF⟩ ?_
 rintro i ⟨hi,hlp⟩
 repeat' first|refine zV n_1 ?_|refine zH n_1 ?_ ?_<;>intro hb|fail
 ·obtain⟨w0,w1,w2⟩:=hw.gt k i
  rw [hL] at w0 w1 w2
  have hi':=hb
  have hR:∀c,gtC m k i (L.getD i gt0)=c→c≠0→Wy m k=c:=fun c hc h0=>by
   rw [he2];exact ZG hlp hi' hc h0
  have hG:=VI (d:=gt0) hlp hi'
  generalize hx:L.getD i gt0=x at*
  have f1:Fa prog 113 [.c (.str (sB x.name))] (.c (.bool (QB x.name))):=J0 x.name w0
  have f2:=Z8 m x.name hm.ev
  have f3:=OZ m x.name hm.hs
  have f4:=QbJ L x.name om
  have f5:=QhH x w1 w2
  refine yA n_1 fun g4 n_4=>?_
  all_goals try(have Z:=(oj n_1 n_4);(repeat' first|refine zV Z ?_|refine yQ Z f1 ?_|refine yQ Z f2 ?_|refine yQ Z f3 ?_|refine yQ Z f4 ?_|refine yQ Z f5 ?_|refine zH Z ?_ ?_<;>intro hb|fail);all_goals clear Z)
  all_goals clear f1 f2 f3 f4 f5
  all_goals first
   |(refine yT hC (oj n_1 n_4) ?_
     refine .one (.c (QG (c:=Wy m k) (hR _ ?_ Af) Af))
     clear hR hG hlp hF hx
     unfold gtC VH hsI
     repeat' split
     all_goals exact Ah)
   |(refine Qb ⟨i+1,?_⟩
     have hz:gtC m k i x=0:=by
      clear hR hG hlp hF hx
      unfold gtC VH hsI
      repeat' split
      all_goals first|rfl|(exfalso;simp_all;done)|(exfalso;simp_all;omega)|simp_all
     and_intros
     all_goals first|rfl|exact Lr _|exact Ls _ _|exact True.intro|exact hG hz|omega)
   |(have h0:Je x≠0:=by simpa using hb
     have hz:gtC m k i x=Je x:=by
      clear hR hG hlp hF hx
      unfold gtC VH hsI
      repeat' split
      all_goals exact Ah
     refine yT hC (oj n_1 n_4) ?_
     rw [hR (Je x) hz h0]
     exact .one (.c Zv))
 ·have hF0:=YU hlp hb
  subst hF0
  refine yT hC n_1 ?_
  exact .one (.c (Z6 he2))
end Go.Proofs.YtngjgahldnnapaaGreatDoor
