/- Parts of one proof, laid by a program. -/
import Derived.Test.YteehccacfedolaaGreatP00
import Derived.Test.YteehccacfedolaaGreatP05
import Derived.Test.YteehccacfedolaaGreatRows
import Derived.WalkKit
import Derived.ProofKit
import Derived.OpenShut
import Derived.JoinedCond
import Derived.Carry
import Derived.ShutString
import Derived.MapKept
import Derived.Laws.Cover3
import Derived.Lib.Bytealg
set_option linter.unusedSimpArgs false
set_option linter.unusedVariables false
set_option maxRecDepth 100000
set_option maxHeartbeats 12800000
namespace Go.Proofs.YteehccacfedolaaGreat
open Go.AI Go.PN
attribute [local irreducible] aw Fa Fh DrK
theorem bitlen_one {n:Nat}:((bitlen n:Int)==1)=decide (n=1):=by
 rw [Bool.eq_iff_iff]
 simp only [beq_iff_eq,decide_eq_true_eq]
 unfold bitlen
 constructor
 ·intro h
  split at h
  ·omega
  ·rename_i h0
   have h1:Nat.log2 n=0:=by omega
   have h2:=(Nat.log2_lt h0 (k:=1)).1 om
   omega
 ·intro h;subst h;rfl
theorem len_ne {xs:List Nat} (h:xs.length≠0):((xs.length:Int)==0)=false:=by
 rw [beq_eq_false_iff_ne];omega
theorem len_eq {xs:List Nat} (h:xs.length=0):((xs.length:Int)==0)=true:=by rw [h];rfl
theorem svalid_fa (r:RD) (hw:r.wf 34359738368):Fa Tryz.prog 137 [.agg (rdc r)] (.c (.bool r.valid)):=by
 have hl1:=hw.2.2.1
 have hl2:=hw.2.2.2
 refine fa_of_body Tryz.func137 rfl rfl (by simp [Tryz.ntmps137]) fun C hC=> ?_
 simp only [initS,Nat.reduceAdd]
 refine xG ?_
 refine xB fun g1 hn_g1=>?_
 refine yG hn_g1 ?_
 refine aw_dr 8 ty_mixed (by kernel_rfl) ?_
 refine yG hn_g1 ?_
 by_cases hn:r.num.length=0
 ·have hn':=len_eq hn
  by_cases hd:r.den.length=0
  ·have hd':=len_eq hd
   have J1:=oj hn_g1 (oj hn' hd')
   refine yG J1 ?_
   refine yP J1 ?_
   refine yGT hC J1 ?_
   exact .one (.c (ler_bool (valid_zero hn' hd')))
  ·have hd':=len_ne hd
   have J2:=oj hn_g1 (oj hn' hd')
   refine yG J2 ?_
   refine yP J2 ?_
   refine yGT hC J2 ?_
   refine .one (.c (ler_bool ?_))
   rw [valid_else (.inr hd'),plain_no om,Bool.false_and,Bool.false_and]
 ·have hn':=len_ne hn
  by_cases hd:r.den.length=0
  ·have hd':=len_eq hd
   have J3:=oj hn_g1 (oj hn' hd')
   refine yG J3 ?_
   refine yP J3 ?_
   refine yGT hC J3 ?_
   refine .one (.c (ler_bool ?_))
   rw [valid_else (.inl hn'),plain_no (xs:=r.den) om,Bool.and_false,Bool.false_and]
  ·have hd':=len_ne hd
   have J4:=oj hn_g1 (oj hn' hd')
   refine yG J4 ?_
   refine yN J4 ?_
   refine yG J4 ?_
   rw [valid_else (.inl hn'),plain_eq (xs:=r.num) om,plain_eq (xs:=r.den) om]
   refine aw_split 35 (zE (oj hn_g1 (oj hn' hd'))) (fun h1=> ?_) (fun h1=> ?_)<;>refine yS (oj hn_g1 (oj hn' hd')) ?_
   ·have J5:=oj hn_g1 (oj hn' hd')
    refine yG J5 ?_
    refine aw_split 44 (zE J5) (fun h2=> ?_) (fun h2=> ?_)<;>refine yS J5 ?_
    ·refine yG J5 ?_
     refine yC J5 (qgcd_fa _ _ hw.1 hw.2.1 ?_ ?_) ?_
     ·omega
     ·omega
     refine yG J5 ?_
     have hg:(words (Nat.gcd (val r.num) (val r.den))).length≤68719476736:=by
      by_cases h:val r.num=0
      ·rw [h,Nat.gcd_zero_left];have:=words_val_len _ hw.2.1;omega
      ·have h3:=words_len_mono (Nat.gcd_le_left (val r.den) (Nat.pos_of_ne_zero h));have:=words_val_len _ hw.1;omega
     refine yC J5 (qbits_fa _ (words_lt _) hg) ?_
     rw [val_words]
     refine yGT hC J5 ?_
     refine .one (.c (ler_bool ?_))
     rw [h1,h2,bitlen_one];rfl
    ·refine yGT hC J5 ?_
     refine .one (.c (ler_bool ?_))
     rw [h2,Bool.and_false,Bool.false_and]
   ·refine yGT hC (oj hn_g1 (oj hn' hd')) ?_
    refine .one (.c (ler_bool ?_))
    rw [h1,Bool.false_and,Bool.false_and]
theorem ler_one {h:Heap} {t:Bool} {g:Nat} {ty:TypeId} (hg:h.get g=some (.cells ty 1 (ofL [.int .u32 1]))):LeR h (.osl g 1 0 1) (ws t [1]):=
 ler_oslws hg om rfl (fun j hj=>by match j,hj with|0,_=>rfl)
theorem sparts_fa (r:RD) (hw:r.wf 1073741824):Fa Tryz.prog 159 [.agg (rdc r)] (partsAV r):=by
 refine fa_of_body Tryz.func159 rfl rfl (by simp [Tryz.ntmps159]) fun C hC=> ?_
 simp only [initS,Nat.reduceAdd]
 refine xG ?_
 refine xB fun g1 hn_g1=>?_
 refine yG hn_g1 ?_
 refine yC hn_g1 (svalid_fa r (wf_mono hw ?_)) ?_
 ·omega
 refine yG hn_g1 ?_
 refine aw_split 8 (zE hn_g1) (fun hv=> ?_) (fun hv=> ?_)<;>refine yS hn_g1 ?_
 ·have hs:=RD.pn_none (none_of (r:=r) (.inl (by simpa using hv)))
  refine yG hn_g1 ?_
  refine yP hn_g1 ?_
  refine yG hn_g1 ?_
  refine aw_buildSlice (xs:=[.const (.int .u32 1)]) (cells:=[.int .u32 1]) rfl rfl rfl ty_e_ws (by rw [envP,ty_z_u32];rfl) rfl om om (by intro x hx;simp only [List.mem_cons,List.not_mem_nil,or_false] at hx;subst hx;exact⟨rfl,rfl,rfl⟩) rfl fun g hg=> ?_
  replace hg:=Heap.ne_of hg
  dsimp only [Heap.ne] at hg
  have J1:=oj hn_g1 hg
  refine ySGT hC J1 ?_
  refine .tup ⟨.c (ler_bool hs.2.2.symm),.c ?_,.c ?_,trivial⟩
  ·rw [hs.1];exact .nils
  ·rw [hs.2.1];exact ler_one (zE J1)
 ·have hv':r.valid=true:=by simpa using hv
  refine yG hn_g1 ?_
  refine yF hn_g1 (fun hn=>?_) fun hn=>?_
  ·have hs:=RD.pn_none (none_of (r:=r) (.inr hn))
   refine yG hn_g1 ?_
   refine aw_buildSlice (xs:=[.const (.int .u32 1)]) (cells:=[.int .u32 1]) rfl rfl rfl ty_e_ws (by rw [envP,ty_z_u32];rfl) rfl om om (by intro x hx;simp only [List.mem_cons,List.not_mem_nil,or_false] at hx;subst hx;exact⟨rfl,rfl,rfl⟩) rfl fun g hg=> ?_
   replace hg:=Heap.ne_of hg
   dsimp only [Heap.ne] at hg
   have J2:=oj hn_g1 hg
   refine ySGT hC J2 ?_
   refine .tup ⟨.c (ler_bool hs.2.2.symm),.c ?_,.c ?_,trivial⟩
   ·rw [hs.1];exact .nils
   ·rw [hs.2.1];exact ler_one (zE J2)
  ·have hs:=RD.pn_words hw (some_of hv' hn)
   refine yG hn_g1 ?_
   refine aw_dr 9 ty_mixed (by kernel_rfl) ?_
   refine yGT hC hn_g1 ?_
   refine .tup ⟨.c (ler_bool hs.2.2.symm),.c ?_,.c ?_,trivial⟩
   ·rw [hs.1];exact ler_ws
   ·rw [hs.2.1];exact ler_ws
theorem sfrom_fa (neg:Bool) (xs ys:List Nat) (hx:∀x∈xs,x<4294967296) (hy:∀x∈ys,x<4294967296) (hlx:xs.length≤34359738368) (hly:ys.length≤34359738368) (h0:val ys≠0):
  Fa Tryz.prog 176 [.c (.bool neg),.c (ws false xs),.c (ws false ys)] (.tup [.agg (rdc (rd (sq neg (val xs) (val ys)))),.c (.int .i64 0)]):=by
 refine fa_of_body Tryz.func176 rfl rfl (by simp [Tryz.ntmps176]) fun C hC=> ?_
 simp only [initS,Nat.reduceAdd]
 refine xG ?_
 refine xA fun g6 hn_g6=>?_
 refine yG hn_g6 ?_
 refine yC hn_g6 (qbits_fa ys hy ?_) ?_
 ·omega
 refine yG hn_g6 ?_
 refine yF hn_g6 (fun hb=>?_) fun hb=>?_
 ·exact absurd (bitlen_zero.1 (by have:=eq_of_beq hb;omega)) h0
 refine yG hn_g6 ?_
 refine yC hn_g6 (qbits_fa xs hx ?_) ?_
 ·omega
 refine yG hn_g6 ?_
 refine yF hn_g6 (fun hc=>?_) fun hc=>?_
 ·have hz:val xs=0:=bitlen_zero.1 (by have:=eq_of_beq hc;omega)
  refine yGWSGT hC hn_g6 ?_
  rw [hz,sq_zero,rd_zero]
  exact .tup ⟨.agg ⟨.bool _,.nils,.nils,trivial⟩,.c (.int _ _),trivial⟩
 ·have hz:val xs≠0:=fun e=>by rw [e] at hc;cases hc
  have hg:Nat.gcd (val xs) (val ys)≠0:=fun e=>h0 (Nat.eq_zero_of_gcd_eq_zero_right e)
  have hgl:(words (Nat.gcd (val xs) (val ys))).length≤34359738368:=by
   have h3:=words_len_mono (Nat.gcd_le_left (val ys) (Nat.pos_of_ne_zero hz));have:=words_val_len _ hx;omega
  refine yG hn_g6 ?_
  refine yC hn_g6 (qgcd_fa xs ys hx hy hlx hly) ?_
  refine yG hn_g6 ?_
  refine yC hn_g6 (qdiv_fa xs (words (Nat.gcd (val xs) (val ys))) hx (words_lt _) hlx hgl ?_) ?_
  ·rw [val_words];exact hg
  rw [val_words]
  refine yG hn_g6 ?_
  refine yC hn_g6 (qdiv_fa ys (words (Nat.gcd (val xs) (val ys))) hy (words_lt _) hly hgl ?_) ?_
  ·rw [val_words];exact hg
  rw [val_words]
  refine yGWSGT hC hn_g6 ?_
  rw [rd_sq hz h0]
  exact .tup ⟨.agg ⟨.bool _,ler_ws,ler_ws,trivial⟩,.c (.int _ _),trivial⟩
theorem sfromW (neg:Bool) (n d:Nat) (hn:(words n).length≤34359738368) (hd:(words d).length≤34359738368) (h0:d≠0):
  Fa Tryz.prog 176 [.c (.bool neg),.c (ws false (words n)),.c (ws false (words d))] (.tup [.agg (rdc (rd (sq neg n d))),.c (.int .i64 0)]):=by
 have:=sfrom_fa neg (words n) (words d) (words_lt n) (words_lt d) hn hd (by rw [val_words];exact h0)
 rwa [val_words,val_words] at this
def two (u:Nat):List Nat:=[u%4294967296,u/4294967296]
theorem two_val (u:Nat):val (two u)=u:=by simp only [two,val];omega
theorem two_lt {u:Nat} (h:u<18446744073709551616):∀x∈two u,x<4294967296:=fun x hx=>by
 simp only [two,List.mem_cons,List.not_mem_nil,or_false] at hx
 rcases hx with rfl|rfl<;>omega
theorem wrap_u64_neg {n:Int} (h0: -9223372036854775808≤n) (h1:n<0):wrapZ .u64 (0-wrapZ .u64 n)=(n.natAbs:Int):=by
 rw [wrapZ_eq,wrapZ_eq,IntKind.wrap_u64,IntKind.wrap_u64];omega
theorem wrap_u64_pos {n:Int} (h0:0≤n) (h1:n≤9223372036854775807):wrapZ .u64 n=(n.natAbs:Int):=by
 rw [wrapZ_eq,IntKind.wrap_u64];omega
theorem ssize_fa (n:Int) (h0: -9223372036854775808≤n) (h1:n≤9223372036854775807):Fa Tryz.prog 184 [.c (.int .i64 n)] (.c (ws true (two n.natAbs))):=by
 refine fa_of_body Tryz.func184 rfl rfl (by simp [Tryz.ntmps184]) fun C hC=> ?_
 simp only [initS,Nat.reduceAdd]
 apply aw_seq
 apply aw_region
 refine xH ?_
 apply aw_seq
 apply aw_region
 refine xH ?_
 apply aw_seq
 refine aw_cut (fun _:Unit=>[(3,.c (.int .u64 n.natAbs))]) (fun _=>[]) (fun _=>n≤9223372036854775807) ?_ ?_
 ·refine xG ?_
  refine xF (fun hb=>?_) fun hb=>?_
  ·have hn:n<0:=of_decide_eq_true hb
   have e1:=wrap_u64_neg h0 hn
   refine yG e1 ?_
   exact aw_stop ⟨(),(zB e1),zZ,h1⟩
  ·have hn:0≤n:=dF hb
   have e1:=wrap_u64_pos hn h1
   refine yG e1 ?_
   exact aw_stop ⟨(),(zB e1),zZ,h1⟩
 rintro _ _
 have hu:n.natAbs<18446744073709551616:=by omega
 generalize n.natAbs=u at hu⊢
 have e1:=wrap_u32_nat u
 have e2:=nat_div_32 u
 have e3:wrapZ .u32 ((u/4294967296:Nat):Int)=((u/4294967296:Nat):Int):=by rw [wrap_u32_nat,Nat.mod_eq_of_lt om]
 have J1:=oj e1 (oj e2 e3)
 refine yG J1 ?_
 refine aw_buildSlice (xs:=[.tmp 11,.tmp 14]) (cells:=[.int .u32 (u%4294967296:Nat),.int .u32 (u/4294967296:Nat)]) rfl rfl rfl ty_e_ws (by rw [envP,ty_z_u32];rfl) rfl om om (by intro x hx;simp only [List.mem_cons,List.not_mem_nil,or_false] at hx;rcases hx with rfl|rfl<;>exact⟨rfl,rfl,rfl⟩) rfl fun g hg=> ?_
 refine ySGT hC J1 ?_
 exact .one (.c (ler_oslws (zE J1) (by simp) rfl (fun j hj=>by match j,hj with|0,_=>rfl|1,_=>rfl)))
theorem inv_neg' (d:Rat):(-d)⁻¹= -d⁻¹:=by
 by_cases h:d=0
 ·subst h;rw [Rat.neg_zero,Rat.inv_zero,Rat.neg_zero]
 ·have h1:d*d⁻¹=1:=Rat.mul_inv_cancel d h
  have h2:(-d)*(-d)⁻¹=1:=Rat.mul_inv_cancel (-d) (by grind)
  grind
theorem sq_make (n d:Int):sq (decide (n<0) !=decide (d<0)) n.natAbs d.natAbs=(n:Rat)/(d:Rat):=by
 have e:∀m:Int,((m.natAbs:Int)=m∧¬m<0)∨((m.natAbs:Int)= -m∧m<0):=fun m=>by omega
 unfold sq
 rw [Rat.mkRat_eq_div]
 have hs:((sgn (decide (n<0) !=decide (d<0)) n.natAbs:Int):Rat)/((d.natAbs:Nat):Rat)=(n:Rat)/(d:Rat):=by
  have hd:((d.natAbs:Nat):Rat)=((d.natAbs:Int):Rat):=rfl
  rw [hd]
  unfold sgn
  rcases e n with ⟨h1,h2⟩|⟨h1,h2⟩<;>rcases e d with ⟨h3,h4⟩|⟨h3,h4⟩
  ·simp only [h2,h4,decide_false,bne_self_eq_false,Bool.false_eq_true,if_false,h1,h3]
  ·simp only [h2,h4,decide_false,decide_true,bne,h1,h3]
   simp only [show(false==true)=false from rfl,Bool.not_false,if_true]
   rw [Rat.intCast_neg,Rat.intCast_neg,Rat.div_def,Rat.div_def,inv_neg']
   grind
  ·simp only [h2,h4,decide_false,decide_true,bne,h1,h3]
   simp only [show(true==false)=false from rfl,Bool.not_false,if_true]
   rw [Int.neg_neg]
  ·simp only [h2,h4,decide_true,bne_self_eq_false,Bool.false_eq_true,if_false,h1,h3]
   rw [Rat.intCast_neg,Rat.intCast_neg,Rat.div_def,Rat.div_def,inv_neg']
   grind
 exact hs
end Go.Proofs.YteehccacfedolaaGreat
namespace Go.Proofs.YteehccacfedolaaGreat
open Go.AI Go.PN
attribute [local irreducible] aw Fa Fh DrK
theorem smake_fa (n d:Int) (h0: -9223372036854775808≤n) (h1:n≤9223372036854775807) (h2: -9223372036854775808≤d) (h3:d≤9223372036854775807) (hd:d≠0):
  Fa Tryz.prog 165 [.c (.int .i64 n),.c (.int .i64 d)] (.tup [.agg (rdc (rd ((n:Rat)/(d:Rat)))),.c (.int .i64 0)]):=by
 refine fa_of_body Tryz.func165 rfl rfl (by simp [Tryz.ntmps165]) fun C hC=> ?_
 simp only [initS,Nat.reduceAdd]
 refine xG ?_
 refine xA fun g4 hn_g4=>?_
 refine yG hn_g4 ?_
 refine yC hn_g4 (ssize_fa n h0 h1) ?_
 refine yG hn_g4 ?_
 refine yC hn_g4 (ssize_fa d h2 h3) ?_
 refine yG hn_g4 ?_
 refine yC hn_g4 (sfrom_fa _ (two n.natAbs) (two d.natAbs) (two_lt ?_) (two_lt ?_) ?_ ?_ ?_) ?_
 ·omega
 ·omega
 ·simp [two]
 ·simp [two]
 ·rw [two_val];omega
 rw [two_val,two_val,sq_make]
 refine yGWSGT hC hn_g4 ?_
 exact .tup ⟨.agg lerl_rd,.c (.int _ _),trivial⟩
theorem sof_fa (n:Int) (h0: -9223372036854775808≤n) (h1:n≤9223372036854775807):Fa Tryz.prog 140 [.c (.int .i64 n)] (.agg (rdc (rd (n:Rat)))):=by
 refine fa_of_body Tryz.func140 rfl rfl (by simp [Tryz.ntmps140]) fun C hC=> ?_
 simp only [initS,Nat.reduceAdd]
 refine xG ?_
 refine xA fun g2 hn_g2=>?_
 refine yG hn_g2 ?_
 refine yC hn_g2 (smake_fa n 1 h0 h1 ?_ ?_ ?_) ?_
 ·omega
 ·omega
 ·omega
 refine yG hn_g2 ?_
 refine yA hn_g2 fun g3 hn_g3=>?_
 have J1:=oj hn_g2 hn_g3
 refine yG J1 ?_
 refine yW J1 ?_
 refine ySG J1 ?_
 refine yW J1 ?_
 refine ySGT hC J1 ?_
 exact ler_rd (by congr 1;rw [Rat.intCast_one];grind)
theorem sneg_fa (r:RD) (hw:r.wf 1073741824):Fa Tryz.prog 183 [.agg (rdc r)] (.agg (rdc (rd (-r.q)))):=by
 obtain⟨hl1,hl2⟩:=RD.p_len hw om
 refine fa_of_body Tryz.func183 rfl rfl (by simp [Tryz.ntmps183]) fun C hC=> ?_
 simp only [initS,Nat.reduceAdd]
 refine xG ?_
 refine xB fun g1 hn_g1=>?_
 refine yA hn_g1 fun g2 hn_g2=>?_
 have J1:=oj hn_g1 hn_g2
 refine yG J1 ?_
 refine yC J1 (sparts_fa r hw) ?_
 refine yG J1 ?_
 refine yC J1 (sfromW _ r.pn r.pd ?_ ?_ (RD.pd_ne hw)) ?_
 ·omega
 ·omega
 refine yG J1 ?_
 refine yA J1 fun g6 hn_g6=>?_
 have J2:=oj hn_g1 (oj hn_g2 hn_g6)
 refine yG J2 ?_
 refine yW J2 ?_
 refine ySG J2 ?_
 refine yW J2 ?_
 refine ySGT hC J2 ?_
 exact ler_rd (by rw [sq_neg];rfl)
theorem ssign_fa (r:RD) (hw:r.wf 1073741824):Fa Tryz.prog 138 [.agg (rdc r)] (.c (.int .i64 (signQ r.q))):=by
 refine fa_of_body Tryz.func138 rfl rfl (by simp [Tryz.ntmps138]) fun C hC=> ?_
 simp only [initS,Nat.reduceAdd]
 refine xG ?_
 refine xB fun g1 hn_g1=>?_
 refine yG hn_g1 ?_
 refine yC hn_g1 (sparts_fa r hw) ?_
 refine yG hn_g1 ?_
 refine yF hn_g1 (fun hb=>?_) fun hb=>?_
 ·refine yGT hC hn_g1 ?_
  exact .one (.c (ler_int (sign_zero hw hb)))
 ·refine yG hn_g1 ?_
  refine yF hn_g1 (fun hp=>?_) fun hp=>?_
  ·refine yGT hC hn_g1 ?_
   refine .one (.c (ler_int ?_))
   rw [sign_some hw hb,hp];rfl
  ·refine yGT hC hn_g1 ?_
   refine .one (.c (ler_int ?_))
   rw [sign_some hw hb,hp];rfl
theorem qmulW (a b:Nat) (ha:(words a).length≤68719476736) (hb:(words b).length≤68719476736):Fa Tryz.prog 177 [.c (ws false (words a)),.c (ws false (words b))] (.c (ws true (words (a*b)))):=by
 have:=qmul_fa (words a) (words b) (words_lt a) (words_lt b) ha hb
 rwa [val_words,val_words] at this
theorem qaddW (a b:Nat) (ha:(words a).length≤68719476736) (hb:(words b).length≤68719476736):Fa Tryz.prog 178 [.c (ws false (words a)),.c (ws false (words b))] (.c (ws true (words (a+b)))):=by
 have:=qadd_fa (words a) (words b) (words_lt a) (words_lt b) ha hb
 rwa [val_words,val_words] at this
theorem qsubW (a b:Nat) (ha:(words a).length≤68719476736) (hb:(words b).length≤68719476736) (h:b≤a):Fa Tryz.prog 179 [.c (ws false (words a)),.c (ws false (words b))] (.tup [.c (ws true (words (a-b))),.c (.int .i64 0)]):=by
 have:=qsub_fa (words a) (words b) (words_lt a) (words_lt b) ha hb (by rw [val_words,val_words];exact h)
 rwa [val_words,val_words] at this
theorem qcmpW (a b:Nat) (ha:(words a).length≤68719476736) (hb:(words b).length≤68719476736):Fa Tryz.prog 160 [.c (ws false (words a)),.c (ws false (words b))] (.c (.int .i64 (cmpN a b))):=by
 have:=qcmp_fa (words a) (words b) (words_lt a) (words_lt b) ha hb
 rwa [val_words,val_words] at this
theorem sadd_fa (a b:RD) (ha:a.wf 1073741824) (hb:b.wf 1073741824):Fa Tryz.prog 158 [.agg (rdc a),.agg (rdc b)] (.agg (rdc (rd (a.q+b.q)))):=by
 obtain⟨l1,l2⟩:=RD.p_len ha om
 obtain⟨l3,l4⟩:=RD.p_len hb om
 have d1:=RD.pd_ne ha
 have d2:=RD.pd_ne hb
 have dd:a.pd*b.pd≠0:=Nat.mul_ne_zero d1 d2
 have m1:=words_mul_len a.pn b.pd
 have m2:=words_mul_len b.pn a.pd
 have m3:=words_mul_len a.pd b.pd
 have m4:=words_add_len (m:=a.pn*b.pd) (n:=b.pn*a.pd) (k:=2147483648) om om
 refine fa_of_body Tryz.func158 rfl rfl (by simp [Tryz.ntmps158]) fun C hC=> ?_
 simp only [initS,Nat.reduceAdd]
 refine xG ?_
 refine xB fun g2 hn_g2=>?_
 refine yB hn_g2 fun g3 hn_g3=>?_
 refine yA (oj hn_g2 hn_g3) fun g4 hn_g4=>?_
 have J1:=oj hn_g2 (oj hn_g3 hn_g4)
 refine yG J1 ?_
 refine yC J1 (sparts_fa a ha) ?_
 refine yG J1 ?_
 refine yC J1 (sparts_fa b hb) ?_
 refine yG J1 ?_
 refine yC J1 (qmulW a.pn b.pd ?_ ?_) ?_
 ·omega
 ·omega
 refine yG J1 ?_
 refine yC J1 (qmulW b.pn a.pd ?_ ?_) ?_
 ·omega
 ·omega
 refine yG J1 ?_
 refine yC J1 (qmulW a.pd b.pd ?_ ?_) ?_
 ·omega
 ·omega
 refine yG J1 ?_
 refine yF J1 (fun hs=>?_) fun hs=>?_
 ·have hs':a.ps=b.ps:=eq_of_beq hs
  refine yG J1 ?_
  refine yC J1 (qaddW _ _ ?_ ?_) ?_
  ·omega
  ·omega
  refine yG J1 ?_
  refine yC J1 (sfromW _ _ _ ?_ ?_ dd) ?_
  ·omega
  ·omega
  refine yG J1 ?_
  refine yA J1 fun g14 hn_g14=>?_
  have J2:=oj hn_g2 (oj hn_g3 (oj hn_g4 hn_g14))
  refine yG J2 ?_
  refine yW J2 ?_
  refine ySG J2 ?_
  refine yW J2 ?_
  refine ySGT hC J2 ?_
  refine ler_rd ?_
  rw [sq_add_same _ d1 d2]
  unfold RD.q;rw [hs']
 ·have hs':b.ps= !a.ps:=not_of_bne hs
  refine yG J1 ?_
  refine yC J1 (qcmpW _ _ ?_ ?_) ?_
  ·omega
  ·omega
  refine yG J1 ?_
  refine yF J1 (fun hc=>?_) fun hc=>?_
  ·have hle:a.pn*b.pd≤b.pn*a.pd:=by
    have:=of_decide_eq_true hc
    unfold cmpN at this
    split at this
    ·omega
    ·split at this<;>omega
   have hl5:=words_len_mono (Nat.sub_le (b.pn*a.pd) (a.pn*b.pd))
   refine yG J1 ?_
   refine yC J1 (qsubW _ _ ?_ ?_ hle) ?_
   ·omega
   ·omega
   refine yG J1 ?_
   refine yC J1 (sfromW _ _ _ ?_ ?_ dd) ?_
   ·omega
   ·omega
   refine yG J1 ?_
   refine yA J1 fun g18 hn_g18=>?_
   have J3:=oj hn_g2 (oj hn_g3 (oj hn_g4 hn_g18))
   refine yG J3 ?_
   refine yW J3 ?_
   refine ySG J3 ?_
   refine yW J3 ?_
   refine ySGT hC J3 ?_
   refine ler_rd ?_
   rw [hs',sq_add_lt _ d1 d2 hle]
   unfold RD.q;rw [hs']
  ·have hle:b.pn*a.pd≤a.pn*b.pd:=by
    have:=of_decide_eq_false hc
    unfold cmpN at this
    split at this
    ·omega
    ·omega
   have hl5:=words_len_mono (Nat.sub_le (a.pn*b.pd) (b.pn*a.pd))
   refine yG J1 ?_
   refine yC J1 (qsubW _ _ ?_ ?_ hle) ?_
   ·omega
   ·omega
   refine yG J1 ?_
   refine yC J1 (sfromW _ _ _ ?_ ?_ dd) ?_
   ·omega
   ·omega
   refine yG J1 ?_
   refine yA J1 fun g18 hn_g18=>?_
   have J4:=oj hn_g2 (oj hn_g3 (oj hn_g4 hn_g18))
   refine yG J4 ?_
   refine yW J4 ?_
   refine ySG J4 ?_
   refine yW J4 ?_
   refine ySGT hC J4 ?_
   refine ler_rd ?_
   rw [sq_add_ge _ d1 d2 hle]
   unfold RD.q;rw [hs']
theorem smul_fa (a b:RD) (ha:a.wf 1073741824) (hb:b.wf 1073741824):Fa Tryz.prog 175 [.agg (rdc a),.agg (rdc b)] (.agg (rdc (rd (a.q*b.q)))):=by
 obtain⟨l1,l2⟩:=RD.p_len ha om
 obtain⟨l3,l4⟩:=RD.p_len hb om
 have d1:=RD.pd_ne ha
 have d2:=RD.pd_ne hb
 have dd:a.pd*b.pd≠0:=Nat.mul_ne_zero d1 d2
 have m1:=words_mul_len a.pn b.pn
 have m3:=words_mul_len a.pd b.pd
 refine fa_of_body Tryz.func175 rfl rfl (by simp [Tryz.ntmps175]) fun C hC=> ?_
 simp only [initS,Nat.reduceAdd]
 refine xG ?_
 refine xB fun g2 hn_g2=>?_
 refine yB hn_g2 fun g3 hn_g3=>?_
 refine yA (oj hn_g2 hn_g3) fun g4 hn_g4=>?_
 have J1:=oj hn_g2 (oj hn_g3 hn_g4)
 refine yG J1 ?_
 refine yC J1 (sparts_fa a ha) ?_
 refine yG J1 ?_
 refine yC J1 (sparts_fa b hb) ?_
 refine yG J1 ?_
 refine yC J1 (qmulW _ _ ?_ ?_) ?_
 ·omega
 ·omega
 refine yG J1 ?_
 refine yC J1 (qmulW _ _ ?_ ?_) ?_
 ·omega
 ·omega
 refine yG J1 ?_
 refine yC J1 (sfromW _ _ _ ?_ ?_ dd) ?_
 ·omega
 ·omega
 refine yG J1 ?_
 refine yA J1 fun g11 hn_g11=>?_
 have J2:=oj hn_g2 (oj hn_g3 (oj hn_g4 hn_g11))
 refine yG J2 ?_
 refine yW J2 ?_
 refine ySG J2 ?_
 refine yW J2 ?_
 refine ySGT hC J2 ?_
 exact ler_rd (by rw [sq_mul];rfl)
theorem ssub_fa (a b:RD) (ha:a.wf 1073741824) (hb:b.wf 1073741824):Fa Tryz.prog 164 [.agg (rdc a),.agg (rdc b)] (.agg (rdc (rd (a.q-b.q)))):=by
 refine fa_of_body Tryz.func164 rfl rfl (by simp [Tryz.ntmps164]) fun C hC=> ?_
 simp only [initS,Nat.reduceAdd]
 refine xG ?_
 refine xB fun g2 hn_g2=>?_
 refine yB hn_g2 fun g3 hn_g3=>?_
 refine yA (oj hn_g2 hn_g3) fun g4 hn_g4=>?_
 have J1:=oj hn_g2 (oj hn_g3 hn_g4)
 refine yG J1 ?_
 refine aw_dr 4 ty_mixed (by kernel_rfl) ?_
 refine yG J1 ?_
 refine yD J1 (sneg_fa b hb) ?_
 refine yG J1 ?_
 refine yD J1 (sadd_fa a (rd (-b.q)) ha (neg_wf hb)) ?_
 refine yGWSGT hC J1 ?_
 exact ler_rd (by rw [rd_q,Rat.sub_eq_add_neg])
theorem sub_wf {a b:RD} {L:Nat} (hL:1≤L) (ha:a.wf L) (hb:b.wf L) (h:2*L+1≤1073741824):(rd (a.q-b.q)).wf 1073741824:=
 rd_wf (fits_mono (fits_sub (RD.fits ha hL) (RD.fits hb hL)) om)
theorem scmp_fa (a b:RD) (ha:a.wf 500000000) (hb:b.wf 500000000):Fa Tryz.prog 139 [.agg (rdc a),.agg (rdc b)] (.c (.int .i64 (signQ (a.q-b.q)))):=by
 refine fa_of_body Tryz.func139 rfl rfl (by simp [Tryz.ntmps139]) fun C hC=> ?_
 simp only [initS,Nat.reduceAdd]
 refine xG ?_
 refine xB fun g2 hn_g2=>?_
 refine yB hn_g2 fun g3 hn_g3=>?_
 have J1:=oj hn_g2 hn_g3
 refine yG J1 ?_
 refine yC J1 (ssub_fa a b (wf_mono ha ?_) (wf_mono hb ?_)) ?_
 ·omega
 ·omega
 refine yG J1 ?_
 refine yC J1 (ssign_fa _ ?_) ?_
 ·exact sub_wf om ha hb om
 rw [rd_q]
 refine yGT hC J1 ?_
 exact .one (.c (.int _ _))
end Go.Proofs.YteehccacfedolaaGreat
namespace Go.AI
open Go.PN
def isF (xs:List Int) (j:Nat):CV:=.int .i64 (xs.getD j 0)
@[go_sem] theorem isF_at (xs:List Int) (j:Nat):isF xs j=.int .i64 (xs.getD j 0):=rfl
abbrev is (t:Bool) (xs:List Int):CV:=.row t 1 xs.length (isF xs)
def bsF (xs:List Bool) (j:Nat):CV:=.bool (xs.getD j false)
@[go_sem] theorem bsF_at (xs:List Bool) (j:Nat):bsF xs j=.bool (xs.getD j false):=rfl
abbrev bs (t:Bool) (xs:List Bool):CV:=.row t 1 xs.length (bsF xs)
def rd0:RD:=⟨false,[],[]⟩
def ratsF (ps:List RD):Nat→CV:=lf 3 (fun r:RD=>[CV.bool r.neg,ws true r.num,ws true r.den]) rd0 ps
@[go_sem] theorem ratsF_0 (ps:List RD) (i:Nat):ratsF ps (i*3)=.bool (ps.getD i rd0).neg:=by
  have:=lf_at (s:=3) (c:=fun r:RD=>[CV.bool r.neg,ws true r.num,ws true r.den]) (d:=rd0) (xs:=ps) (i:=i) (k:=0) om
  exact this
@[go_sem] theorem ratsF_1 (ps:List RD) (i:Nat):ratsF ps (i*3+1)=ws true (ps.getD i rd0).num:=by
  have:=lf_at (s:=3) (c:=fun r:RD=>[CV.bool r.neg,ws true r.num,ws true r.den]) (d:=rd0) (xs:=ps) (i:=i) (k:=1) om
  exact this
@[go_sem] theorem ratsF_2 (ps:List RD) (i:Nat):ratsF ps (i*3+2)=ws true (ps.getD i rd0).den:=by
  have:=lf_at (s:=3) (c:=fun r:RD=>[CV.bool r.neg,ws true r.num,ws true r.den]) (d:=rd0) (xs:=ps) (i:=i) (k:=2) om
  exact this
abbrev rats (t:Bool) (ps:List RD):CV:=.row t 3 ps.length (ratsF ps)
structure DN where
 v:Int
 lo:Int
 hi:Int
 deriving DecidableEq
def dn0:DN:=⟨0,0,0⟩
def dnsF (ns:List DN):Nat→CV:=lf 3 (fun r:DN=>[CV.int .i64 r.v,.int .i64 r.lo,.int .i64 r.hi]) dn0 ns
@[go_sem] theorem dnsF_0 (ps:List DN) (i:Nat):dnsF ps (i*3)=.int .i64 (ps.getD i dn0).v:=by
  have:=lf_at (s:=3) (c:=fun r:DN=>[CV.int .i64 r.v,.int .i64 r.lo,.int .i64 r.hi]) (d:=dn0) (xs:=ps) (i:=i) (k:=0) om
  exact this
@[go_sem] theorem dnsF_1 (ps:List DN) (i:Nat):dnsF ps (i*3+1)=.int .i64 (ps.getD i dn0).lo:=by
  have:=lf_at (s:=3) (c:=fun r:DN=>[CV.int .i64 r.v,.int .i64 r.lo,.int .i64 r.hi]) (d:=dn0) (xs:=ps) (i:=i) (k:=1) om
  exact this
@[go_sem] theorem dnsF_2 (ps:List DN) (i:Nat):dnsF ps (i*3+2)=.int .i64 (ps.getD i dn0).hi:=by
  have:=lf_at (s:=3) (c:=fun r:DN=>[CV.int .i64 r.v,.int .i64 r.lo,.int .i64 r.hi]) (d:=dn0) (xs:=ps) (i:=i) (k:=2) om
  exact this
structure DG where
 order:List Int
 nodes:List DN
 root:Int
structure FN where
 kind:Int
 k:Int
 args:List Int
def fn0:FN:=⟨0,0,[]⟩
def fnsF (ns:List FN):Nat→CV:=lf 3 (fun r:FN=>[CV.int .i64 r.kind,.int .i64 r.k,is true r.args]) fn0 ns
@[go_sem] theorem fnsF_0 (ps:List FN) (i:Nat):fnsF ps (i*3)=.int .i64 (ps.getD i fn0).kind:=by
  have:=lf_at (s:=3) (c:=fun r:FN=>[CV.int .i64 r.kind,.int .i64 r.k,is true r.args]) (d:=fn0) (xs:=ps) (i:=i) (k:=0) om
  exact this
@[go_sem] theorem fnsF_1 (ps:List FN) (i:Nat):fnsF ps (i*3+1)=.int .i64 (ps.getD i fn0).k:=by
  have:=lf_at (s:=3) (c:=fun r:FN=>[CV.int .i64 r.kind,.int .i64 r.k,is true r.args]) (d:=fn0) (xs:=ps) (i:=i) (k:=1) om
  exact this
@[go_sem] theorem fnsF_2 (ps:List FN) (i:Nat):fnsF ps (i*3+2)=is true (ps.getD i fn0).args:=by
  have:=lf_at (s:=3) (c:=fun r:FN=>[CV.int .i64 r.kind,.int .i64 r.k,is true r.args]) (d:=fn0) (xs:=ps) (i:=i) (k:=2) om
  exact this
structure FM where
 vars:Int
 nodes:List FN
 top:Int
def errC (T:TypeId) (c:Int):CV:=if c=0 then .nilI else .ifc T (.int .i64 c)
@[go_sem] theorem errC_solid (T:TypeId) (c:Int):(errC T c).solid=true:=by unfold errC;split<;>rfl
theorem binAV_errE {P:Program} {nw:Bool} {t T:TypeId} {y:Operand} {c:Int} (hy:isNil y=true):binAV P nw .eql t y (.c (errC T c)) (.c .nilI)=some (tIfc P t=true,.c (.bool (decide (c=0)))):=by
 unfold errC
 split
 ·rename_i h;simp [binAV,hy,nilAV,h]
 ·rename_i h;simp [binAV,hy,nilAV,h]
theorem binAV_errN {P:Program} {nw:Bool} {t T:TypeId} {y:Operand} {c:Int} (hy:isNil y=true):binAV P nw .neq t y (.c (errC T c)) (.c .nilI)=some (tIfc P t=true,.c (.bool (!decide (c=0)))):=by
 unfold errC
 split
 ·rename_i h;simp [binAV,hy,nilAV,h]
 ·rename_i h;simp [binAV,hy,nilAV,h]
@[go_sem ↓] theorem binAV_errE' (P:Program) (nw:Bool) (t T:TypeId) (c:Int):binAV P nw .eql t (.const .nilIface) (.c (errC T c)) (.c .nilI)=some (tIfc P t=true,.c (.bool (decide (c=0)))):=binAV_errE rfl
@[go_sem ↓] theorem binAV_errN' (P:Program) (nw:Bool) (t T:TypeId) (c:Int):binAV P nw .neq t (.const .nilIface) (.c (errC T c)) (.c .nilI)=some (tIfc P t=true,.c (.bool (!decide (c=0)))):=binAV_errN rfl
theorem ler_err {h:Heap} {T:TypeId} {c:Int}:LeR h (errC T c) (errC T c):=by unfold errC;split;exact .nilI;exact .ifc (.int _ _)
theorem ler_err0 {h:Heap} {T:TypeId} {c:Int} (e:c=0):LeR h .nilI (errC T c):=by unfold errC;rw [if_pos e];exact .nilI
theorem ler_errN {h:Heap} {T:TypeId} {n c:Int} (e:n=c) (h0:c≠0):LeR h (.ifc T (.int .i64 n)) (errC T c):=by unfold errC;rw [if_neg h0,e];exact .ifc (.int _ _)
theorem lf_ler {α:Type} {h:Heap} {s:Nat} {c:α→List CV} {d:α} {xs:List α} (hs:0<s) (hc:∀x∈xs,∀k,k<s→LeR h (ofL (c x) k) (ofL (c x) k)):∀j,j<xs.length*s→LeR h (lf s c d xs j) (lf s c d xs j):=fun j hj=>by
 unfold lf
 have h1:j/s<xs.length:=(Nat.div_lt_iff_lt_mul hs).2 hj
 rw [List.getD_eq_getElem?_getD,List.getElem?_eq_getElem h1]
 exact hc _ (List.getElem_mem h1) _ (Nat.mod_lt _ hs)
theorem ler_rats {h:Heap} {t:Bool} {ps:List RD}:LeR h (rats true ps) (rats t ps):=
 .row (lf_ler om fun x _ k hk=>by match k,hk with|0,_=>exact .bool _|1,_=>exact ler_ws|2,_=>exact ler_ws)
end Go.AI
namespace Go.Proofs.YteehccacfedolaaGreat
open Go.AI Go.PN
attribute [local irreducible] aw Fa Fh DrK
abbrev errA (c:Int):CV:=errC 73 c
theorem num_fa (c:Int):Fa Tryz.prog 7 [.c (errA c)] (.c (.int .i64 c)):=by
 by_cases h:c=0
 ·have e:errA c=.nilI:=by unfold errA errC;rw [if_pos h]
  rw [e]
  refine fa_of_body Tryz.func7 rfl rfl (by simp [Tryz.ntmps7]) fun C hC=> ?_
  simp only [initS,Nat.reduceAdd]
  refine xG ?_
  refine xP ?_
  refine xGT hC ?_
  exact .one (.c (ler_int h.symm))
 ·have e:errA c=.ifc 73 (.int .i64 c):=by unfold errA errC;rw [if_neg h]
  rw [e]
  refine fa_of_body Tryz.func7 rfl rfl (by simp [Tryz.ntmps7]) fun C hC=> ?_
  simp only [initS,Nat.reduceAdd]
  refine xG ?_
  refine xN ?_
  refine xG ?_
  refine xP ?_
  refine xGT hC ?_
  exact .one (.c (.int _ _))
theorem list_ext {xs ys:List Nat} (hl:xs.length=ys.length) (h:∀j,j<xs.length→xs.getD j 0=ys.getD j 0):xs=ys:=by
 apply List.ext_getElem hl
 intro i h1 h2
 have:=h i h1
 rw [List.getD_eq_getElem?_getD,List.getD_eq_getElem?_getD,List.getElem?_eq_getElem h1,List.getElem?_eq_getElem h2] at this
 exact this
theorem words_fa (xs ys:List Nat) (hl:xs.length≤68719476736):Fa Tryz.prog 69 [.c (ws false xs),.c (ws false ys)] (.c (.bool (decide (xs=ys)))):=by
 refine fa_of_body Tryz.func69 rfl rfl (by simp [Tryz.ntmps69]) fun C hC=> ?_
 simp only [initS,Nat.reduceAdd]
 refine xG ?_
 refine xF (fun hb=>?_) fun hb=>?_
 ·refine xGT hC ?_
  refine .one (.c (ler_bool ?_))
  have:xs≠ys:=fun e=>by rw [e] at hb;simp at hb
  simp [this]
 ·have hlen:xs.length=ys.length:=by
   have h0:=hb
   simp at h0
   omega
  refine xG ?_
  refine aw_lp (fun i:Nat=>[(0,.c (ws false xs)),(1,.c (ws false ys)),(12,.c (.int .i64 xs.length)),(13,.c (.int .i64 i))]) (fun _=>[]) (fun i=>i≤xs.length∧∀j,j<i→xs.getD j 0=ys.getD j 0) (fun i=>xs.length-i) 0 eB zZ ⟨Nat.zero_le _,fun j hj=>by omega⟩ ?_
  rintro i ⟨hi,hs⟩
  refine xG ?_
  refine xF (fun hb=>?_) fun hb=>?_
  ·have hin:i<xs.length:=dT hb
   refine xG ?_
   refine aw_dr 9 ty_mixed (by kernel_rfl) ?_
   refine xG ?_
   refine xF (fun hc=>?_) fun hc=>?_
   ·refine xGT hC ?_
    refine .one (.c (ler_bool ?_))
    have:xs≠ys:=fun e=>by rw [e] at hc;simp at hc
    simp [this]
   ·have he:xs.getD i 0=ys.getD i 0:=by
     by_cases e:xs.getD i 0=ys.getD i 0
     ·exact e
     ·exfalso
      have e2:((xs.getD i 0:Nat):Int)≠((ys.getD i 0:Nat):Int):=fun z=>e (Int.ofNat.inj z)
      first
       |(rw [bne,beq_eq_false_iff_ne.2 e2] at hc;cases hc)
       |(rw [bne,beq_eq_false_iff_ne.2 e] at hc;cases hc)
    refine xG ?_
    refine aw_stop ⟨i+1,by omega,eB,zZ,by omega,fun j hj=> ?_⟩
    by_cases hji:j=i
    ·rw [hji];exact he
    ·exact hs j om
  ·have hin:i=xs.length:=dF hb
   subst hin
   refine xGT hC ?_
   refine .one (.c (ler_bool ?_))
   have:xs=ys:=list_ext hlen hs
   simp [this]
instance:DecidableEq RD:=fun a b=>decidable_of_iff (a.neg=b.neg∧a.num=b.num∧a.den=b.den) (by cases a;cases b;simp)
theorem ratEq_fa (a b:RD) (hw:a.wf 68719476736):Fa Tryz.prog 29 [.agg (rdc a),.agg (rdc b)] (.c (.bool (decide (a=b)))):=by
 have he:decide (a=b)=(decide (a.neg=b.neg)&&(decide (a.num=b.num)&&decide (a.den=b.den))):=by
  rw [Bool.eq_iff_iff]
  simp only [decide_eq_true_eq,Bool.and_eq_true]
  cases a;cases b;simp
 rw [he]
 refine fa_of_body Tryz.func29 rfl rfl (by simp [Tryz.ntmps29]) fun C hC=> ?_
 simp only [initS,Nat.reduceAdd]
 refine xG ?_
 refine xB fun g2 hn_g2=>?_
 refine yB hn_g2 fun g3 hn_g3=>?_
 have J1:=oj hn_g2 hn_g3
 refine yG J1 ?_
 refine aw_split 10 (zE J1) (fun h1=> ?_) (fun h1=> ?_)<;>refine yS J1 ?_
 ·have h1':a.neg=b.neg:=eq_of_beq h1
  refine yG J1 ?_
  refine yC J1 (words_fa _ _ hw.2.2.1) ?_
  refine yG J1 ?_
  refine aw_split 17 (zE J1) (fun h2=> ?_) (fun h2=> ?_)<;>refine yS J1 ?_
  ·refine yG J1 ?_
   refine yC J1 (words_fa _ _ hw.2.2.2) ?_
   refine yGT hC J1 ?_
   exact .one (.c (ler_bool (by rw [h2,h1'];simp)))
  ·refine yGT hC J1 ?_
   exact .one (.c (ler_bool (by rw [h2];simp)))
 ·have h1':a.neg≠b.neg:=fun e=>by rw [e] at h1;simp at h1
  refine yGT hC J1 ?_
  exact .one (.c (ler_bool (by simp [h1'])))
end Go.Proofs.YteehccacfedolaaGreat
namespace Go.AI
open Go.PN
def AllB (w:World):Bool→Nat→Prop:=fun _ b=>b<w.heap.size
theorem Fa.below {P:Program} {f:FuncId} {args:List AV} {b:Bool} (hf:Fa P f args (.c (.bool b))) {w:World} {vs:List Value} (hr:RepT (AllB w) w args vs):
  Calls P f vs.toArray w fun e w'=>e=.returned (.bool b)∧RowKit.Below w.heap.size w w':=by
 refine(hf.2 (AllB w) w vs (fun _ h=>h) (fun _ _ h=>h) hr).mono ?_
 rintro e w' ⟨v,rfl,hv,hfr⟩
 have hv':v=.bool b:=hv
 subst hv'
 exact⟨rfl,hfr.os,hfr.tape,hfr.output,hfr.size,fun k hk=>hfr.block k hk (fun x=>x)⟩
end Go.AI
namespace Go.Proofs.YteehccacfedolaaGreat
open Go.AI Go.PN Go.ChangeShapes
section
variable {P : Program}
def Rdr (P:Program) (t:TypeId) {α:Type} (c:α→List CV) (B:α→Nat→Prop):Prop:=
 ∀(H:Type) (enc:TypeId×Value→H) (w:World) (fuel:Nat) (cs:List Value) (x:DataW H×List MemPlace),DataW.trod enc P w 0 (fun _=>true) true fuel t cs=some x→∃y,RepL (AllB w) w (c y) cs∧B y (Rows.uptoBulk x.1)
end
end Go.Proofs.YteehccacfedolaaGreat
namespace Go.Proofs.YteehccacfedolaaGreat
open Go.AI Go.PN Go.ChangeShapes Go.WideShapes Go.RowKit
theorem glue_laid:laidOutB Tryz.prog=true:=by kernel_rfl
theorem own:ownKnob Tryz.prog.godebug=none:=by kernel_rfl
section
variable {H : Type} {enc : TypeId × Value → H} {P : Program}
theorem trodAll_stays (hl:laidOutB P=true) {W W':World} {sp:Nat→Bool}:∀{ts:List TypeId} {vs:List Value} {ds:List (DataW H)} {p:List MemPlace},(∀t∈ts,P.readableRec t=true∧t<P.types.size)→DataW.TrodAll enc P W 0 (fun _=>true) true ts vs ds p→(∀x∈p,W.sameAt W' x)→(∀x∈p,sp x.block=true)→DataW.TrodAll enc P W' 0 sp true ts vs ds p
 |[],_,_,_,_,h,_,_=>by
  obtain⟨rfl,rfl,rfl⟩:=trodAll_nil h
  exact rfl
 |t::ts,_,_,_,hts,h,hs,hp=>by
  obtain⟨v,vs,d,ds,a,b,rfl,rfl,rfl,h1,h2⟩:=trodAll_cons h
  exact⟨a,b,WideElems.Trod_stays hl (hts t (List.mem_cons_self ..)).1 (hts t (List.mem_cons_self ..)).2 h1 (fun x hx=>hs x (List.mem_append_left _ hx)) (fun x hx=>hp x (List.mem_append_left _ hx)),
   trodAll_stays hl (fun t' ht=>hts t' (List.mem_cons_of_mem _ ht)) h2 (fun x hx=>hs x (List.mem_append_right _ hx)) (fun x hx=>hp x (List.mem_append_right _ hx)),rfl⟩
theorem post_of_below {fn:Func} {s:ChangeSpec} {W W':World} {args:Array Value} {ds gs:List (DataW H)} {before:List MemPlace} {tb:TypeId} (hl:laidOutB P=true) (hts:∀t∈fn.params.toList,P.readableRec t=true∧t<P.types.size) (hrt:fn.resultTypes= #[tb]) (hbt:P.underlying tb=some .bool) (hvars:s.vars=[])
  (hW:DataW.Whole enc P fn.params.toList s.vars false W args.toList ds gs before) (hfn:∀gs':List (DataW H),gs'=[]→s.fn H (ds++gs')={results:=[.lit (.bool true)],args:=ds}) (hb:Below W.heap.size W W'):s.post enc P fn false true false false W args (.bool true) W':=by
 have hWk:=hW
 obtain⟨p,q,hA,hV,rfl,hfz,_⟩:=hW
 rw [hvars] at hV
 obtain⟨rfl,rfl⟩:=trodVars_none hV
 have hlt:∀x∈p++[],x.block<W.heap.size:=fun x hx=>by simpa using hWk.lt x hx
 have hlt':∀x∈p,x.block<W.heap.size:=fun x hx=>hlt x (List.mem_append_left _ hx)
 have hres:∀(b:Nat) (sp:Nat→Bool) (hd:Bool),DataW.TrodAll enc P W' b sp hd fn.resultTypes.toList ((Value.bool true).resultList fn.resultTypes.size) (s.fn H (ds++[])).results []:=fun b sp hd=>by
  rw [hrt,hfn [] rfl]
  exact trodAll_cons_mk (shut_bool hbt _) trodAll_mk0
 have hargs:∀sp:Nat→Bool,(∀x∈p,sp x.block=true)→DataW.TrodAll enc P W' 0 sp true fn.params.toList args.toList (s.fn H (ds++[])).args p:=fun sp hsp=>by
  rw [hfn [] rfl]
  exact trodAll_stays hl hts hA (fun x hx=>hb.same (hlt' x hx)) hsp
 have hvr:∀sp:Nat→Bool,DataW.TrodVars enc P W' sp s.vars (s.fn H (ds++[])).vars []:=fun sp=>by
  rw [hvars,hfn [] rfl];exact rfl
 refine⟨ds,[],p++[],[],p,[],hWk,hres _ _ _,hargs _ (fun x hx=>by simpa using hlt' x hx),hvr _,hb.frame _,fun _=> ?_⟩
 refine⟨ok_one hrt rfl (okWide_bool_mk hbt _),_,_,([]++p)++[],⟨[]++p,[],trodAll_append (hargs _ (fun _ _=>rfl)) (hres _ _ _),hvr _,rfl,?_,fun h=>by cases h⟩,?_⟩
 ·intro b off hp
  have hp':MemPlace.cell b off∈p++[]:=by simpa using hp
  rw [Below.frozen hb (hlt _ hp')]
  exact hfz b off hp'
 ·intro x hx _
  simpa using hx
theorem arg_cell {α:Type} {c:α→CV} {B:α→Nat→Prop} {t:TypeId} (hr:Rdr P t (fun y=>[c y]) B) {W:World} {v:Value} {d:DataW H} {p:List MemPlace} (hv:v.cells= #[v]) (h:DataW.Trod enc P W 0 (fun _=>true) true t v d p):
  ∃y,Rep0 (AllB W) W (.c (c y)) v∧B y (Rows.uptoBulk d):=by
 obtain⟨fuel,hf⟩:=h
 rw [hv] at hf
 obtain⟨y,h1,h2⟩:=hr H enc W fuel _ _ hf
 exact⟨y,h1.1,h2⟩
end
theorem rdr_str {P:Program} {t:TypeId} (ht:P.underlying t=some .string):Rdr P t (fun l:BS=>[.str (sB l)]) (fun l n=>l.length+1≤n):=fun H enc w fuel cs x h=>by
 obtain⟨s,rfl,rfl,_⟩:=DataW.trod_string ht h
 exact⟨s.data.toList,⟨rfl,trivial⟩,Nat.le_refl _⟩
theorem okWide_str {P:Program} {W:World} {r:Reach} {base:Nat} {t:TypeId} {v:Value} (ht:P.underlying t=some .string) (h:Value.okWide P W r base t v):∃s,v=.string s:=by
 simp only [Value.okWide,ht,Cell.okWide] at h
 cases v<;>simp_all [Cell.ok]
end Go.Proofs.YteehccacfedolaaGreat
namespace Go.AI
def fAsk {α:Type} [DecidableEq α] (a:α):List α→List MapEntry→Nat→Option (Nat×Value)
 |k::ks,e::es,i=>if a=k then some (i,e.val) else fAsk a ks es (i+1)
 |_,_,_=>none
structure KeyOk (P:Program) (kt:TypeId) {α:Type} [DecidableEq α] (K:α→Value):Prop where
 check:∀b a w,(Instr.checkKey b 10000 kt (K a)).run P w=.ok () w
 find:∀(a:α) (ks:List α) (es:List MapEntry) w,es.map (·.key)=ks.map K→(Instr.findKey kt (K a) es).run P w=.ok (fAsk a ks es 0) w
section
variable {P : Program}
theorem run_findAsking {α:Type} [DecidableEq α] {K:α→Value} {kt:TypeId} (heq:∀a b w,(Op.equal kt (K a) (K b)).run P w=.ok (decide (a=b)) w) (a:α):∀(ks:List α) (es:List MapEntry) (i:Nat) (w:World),es.map (·.key)=ks.map K→(Instr.findAsking kt (K a) es i).run P w=.ok (fAsk a ks es i) w
 |[],[],i,w,_=>by simp [Instr.findAsking,fAsk]
 |k::ks,e::es,i,w,h=>by
  simp only [List.map_cons,List.cons.injEq] at h
  simp only [Instr.findAsking,fAsk,Sem.run_bind,h.1,heq,Result.andThen_ok]
  by_cases hk:a=k
  ·simp [hk]
  ·simp only [hk,decide_false,Bool.false_eq_true,if_false]
   exact run_findAsking heq a ks es (i+1) w h.2
 |[],e::es,i,w,h=>by simp at h
 |k::ks,[],i,w,h=>by simp at h
def keyZ (ns:List Int):Value:=.agg (ns.map (Value.int .i64)).toArray
theorem run_checkFields {n:Nat} {ns:List Int} (w:World) (b:Bool):∀(fs:List Field) (k:Nat),(fs.zipIdx k).all (fun p=>p.1.name != "_" &&p.1.offset==p.2&&(tInt P p.1.type).isSome)=true→k+fs.length≤ns.length→
  (forIn fs PUnit.unit (fun f (_:PUnit)=>(do
   if f.name≠ "_" then
    let __do_lift←part f.type (ns.map (Value.int .i64)).toArray f.offset
    Instr.checkKey b (n+1) f.type __do_lift
   pure (ForInStep.yield PUnit.unit):Sem (ForInStep PUnit)))).run P w=.ok PUnit.unit w
 |[],k,_,_=>by simp
 |f::fs,k,hf,hk=>by
  simp only [List.zipIdx_cons,List.all_cons,Bool.and_eq_true,bne_iff_ne,ne_eq,beq_iff_eq] at hf
  obtain⟨⟨⟨hn,ho⟩,hi⟩,hr⟩:=hf
  simp only [List.length_cons] at hk
  have hka:k<ns.length:=by omega
  obtain⟨kk,hkk⟩:=Option.isSome_iff_exists.1 hi
  have hu:=tInt_spec hkk
  have hag:(isAgg f.type).run P w=.ok false w:=by simp [isAgg,run_underlying hu]
  have e1:(ns.map (Value.int .i64)).toArray[k]?=some (Value.int .i64 (ns[k])):=by simp [hka]
  have p1:(part f.type (ns.map (Value.int .i64)).toArray f.offset).run P w=.ok (.int .i64 (ns[k])) w:=by
   unfold part
   simp only [Sem.run_bind,hag,Result.andThen_ok,Bool.false_eq_true,if_false,ho,e1,Sem.run_pure]
  have p2:(Instr.checkKey b (n+1) f.type (.int .i64 (ns[k]))).run P w=.ok () w:=by
   simp [Instr.checkKey,run_underlying hu]
  have ih:=run_checkFields (n:=n) (ns:=ns) w b fs (k+1) (by simpa using hr) om
  rw [List.forIn_cons]
  simp only [hn,not_false_eq_true,if_true,Sem.run_bind,p1,p2,Result.andThen_ok,Sem.run_pure,ne_eq]
  exact ih
theorem keyZ_ok {kt n:Nat} (ht:tEqS P kt=some n):KeyOk P kt (fun ns:{l:List Int//l.length=n}=>keyZ ns.1):=by
 have hstr:P.underlying kt=some (.struct (P.fieldsOf kt))∧(P.fieldsOf kt).toList.zipIdx.all (fun p=>p.1.name != "_" &&p.1.offset==p.2&&(tInt P p.1.type).isSome)=true∧(P.fieldsOf kt).size=n:=by
  unfold tEqS at ht
  split at ht
  ·rename_i hc
   simp only [Bool.and_eq_true,Bool.not_eq_true'] at hc
   obtain⟨⟨⟨h1,h2⟩,h3⟩,h4⟩:=hc
   injection ht with ht
   exact⟨isStr_spec h4,h3,ht⟩
  ·cases ht
 obtain⟨hu,hf,hs⟩:=hstr
 have heq:∀(a b:{l:List Int//l.length=n}) (w:World),(Op.equal kt (keyZ a.1) (keyZ b.1)).run P w=.ok (decide (a=b)) w:=fun a b w=>by
  have:=(tEqS_run ht a.2 b.2 w).1
  unfold Op.equal Op.maxDepth keyZ
  rw [this,eqZ_eq]
  congr 1
  rw [Bool.eq_iff_iff];simp [Subtype.ext_iff]
 refine⟨fun b a w=> ?_,fun a ks es w h=> ?_⟩
 ·unfold keyZ
  rw [show(10000:Nat)=9999+1 from rfl,Instr.checkKey]
  simp only [Sem.run_bind,run_underlying hu,Result.andThen_ok]
  rw [←Array.forIn_toList]
  have:=run_checkFields (P:=P) (n:=9998) (ns:=a.1) w b (P.fieldsOf kt).toList 0 hf (by simp [hs,a.2])
  rw [this]
  rfl
 ·unfold Instr.findKey
  simp only [Sem.run_bind,run_underlying hu,Result.andThen_ok]
  cases es with
  |nil=>
   cases ks with
   |nil=>simp [Instr.findNow,fAsk]
   |cons k ks=>simp at h
  |cons e es=>
   have hn:Instr.findNow (.struct (P.fieldsOf kt)) (keyZ a.1) (e::es) 0=none:=by
    simp [Instr.findNow,Instr.sameNow]
   rw [hn]
   exact run_findAsking heq a ks (e::es) 0 w h
def MapI {α:Type} (K:α→Value) (kv:List (α×Value)) (o:Obj):Prop:=∃es c,o=.map es c∧es.toList.map (fun e=>(e.key,e.val))=kv.map (fun p=>(K p.1,p.2))
def kvGet {α:Type} [DecidableEq α] (a:α):List (α×Value)→Option Value
 |[]=>none
 |p::kv=>if a=p.1 then some p.2 else kvGet a kv
theorem fAsk_get {α:Type} [DecidableEq α] {K:α→Value} (a:α):∀(kv:List (α×Value)) (es:List MapEntry) (i:Nat),es.map (fun e=>(e.key,e.val))=kv.map (fun p=>(K p.1,p.2))→(fAsk a (kv.map (·.1)) es i).map (·.2)=kvGet a kv
 |[],[],i,_=>rfl
 |p::kv,e::es,i,h=>by
  simp only [List.map_cons,List.cons.injEq,Prod.mk.injEq] at h
  simp only [List.map_cons,fAsk,kvGet]
  split
  ·simp [h.1.2]
  ·exact fAsk_get a kv es (i+1) h.2
 |[],e::es,i,h=>by simp at h
 |p::kv,[],i,h=>by simp at h
def tMap (P:Program) (t:TypeId):Option (TypeId×TypeId):=match P.underlying t with
 |some (.map k e)=>some (k,e)
 |_=>none
theorem tMap_spec {t k e:TypeId} (h:tMap P t=some (k,e)):P.underlying t=some (.map k e):=by
 unfold tMap at h
 split at h
 ·rename_i hu;simp only [Option.some.injEq,Prod.mk.injEq] at h;rw [hu,h.1,h.2]
 ·cases h
def tZ1 (P:Program) (t:TypeId):Option Value:=match (P.info? t).bind (·.zero) with
 |some (.int k n)=>some (.int k n)
 |some (.bool b)=>some (.bool b)
 |_=>none
theorem tZ1_run {t:TypeId} {z:Value} (h:tZ1 P t=some z) (w:World):(zeroValue t).run P w=.ok z w:=by
 unfold tZ1 at h
 cases hi:P.info? t with
 |none=>simp [hi] at h
 |some i=>
  cases hz:i.zero with
  |none=>simp [hi,hz] at h
  |some v=>
   simp only [hi,hz,Option.bind_some] at h
   split at h
   ·rename_i he;injection he with he;injection h with h;subst h;simp [zeroValue,typeInfo,hi,hz,he]
   ·rename_i he;injection he with he;injection h with h;subst h;simp [zeroValue,typeInfo,hi,hz,he]
   ·cases h
theorem runGet {w:World} {r:Nat} {es:Array MapEntry} {c:Nat} (hb:w.heap[r]?=some (.map es c)):(getObj r).run P w=.ok (.map es c) w:=by simp [getObj,Sem.run,hb]
theorem runSet {w:World} {r:Nat} {es:Array MapEntry} {c:Nat} (o':Obj) (hb:w.heap[r]?=some (.map es c)):(setObj r o').run P w=.ok () {w with heap:=w.heap.setIfInBounds r o'}:=by simp [setObj,Sem.run,hb]
variable {E : Env} {K : List It} {σ σ' : Sl} {h : Heap} {all rest : List Oper} {o : Oper}
theorem aw_makeMap {α:Type} {Kf:α→Value} {t:TypeId} (hop:o.op=.makeMap t none) (hw:wantA all σ o=some true) (hd:dstOk E.N o.dst=true)
  (k:∀g,g∉h.keys→aw E (.ops all rest::K) (σ.setO o.dst (.c (.raw (.map (some g))))) ((g,.gen (MapI Kf []))::h)):aw E (.ops all (o::rest)::K) σ h:=by
 refine aw_new (r:=fun g=>.c (.raw (.map (some g)))) (ob:=.gen (MapI Kf [])) hw hd (fun a w s=> ?_) k
 refine⟨.map (some w.heap.size),w.alloc (.map #[] 0),?_,Fr.alloc _ _ _,by simp,⟨_,heap_alloc_new w _,_,_,rfl,rfl⟩,rfl⟩
 simp only [execOp,hop]
 rfl
theorem aw_lookup {α:Type} [DecidableEq α] {Kf:α→Value} {t kt et g:TypeId} {kv:List (α×Value)} {x ky:Operand} {ck:AV} {a:α} {z:Value} (hop:o.op=.lookup t x ky false) (hw:wantA all σ o=some true) (hd:dstOk E.N o.dst=true)
  (ht:tMap E.P t=some (kt,et)) (hK:KeyOk E.P kt Kf) (hz:tZ1 E.P et=some z) (hx:ev σ x=.c (.raw (.map (some g)))) (hg:h.get g=some (.gen (MapI Kf kv))) (hk:ev σ ky=ck) (hka:∀S w v,Rep S w ck v→v=Kf a)
  (k:aw E (.ops all rest::K) (σ.setO o.dst (.c (cstC ((kvGet a kv).getD z)))) h):aw E (.ops all (o::rest)::K) σ h:=by
 refine aw_step hw (fun ac w s=> ?_) k
 have h1:=ev_rep s x
 rw [hx] at h1
 have h1':ac.eval x=.map (some g):=h1
 have h2:=ev_rep s ky
 rw [hk] at h2
 have h2':=hka _ _ _ h2
 obtain⟨ob,hb,es,c,rfl,hes⟩:=s.heap g _ (Heap.get_mem hg)
 have hkeys:es.toList.map (·.key)=(kv.map (·.1)).map Kf:=by
  have:=congrArg (List.map Prod.fst) hes
  rw [List.map_map,List.map_map] at this
  rw [List.map_map]
  exact this
 have hfind:=hK.find a (kv.map (·.1)) es.toList w hkeys
 have hget:=fAsk_get (K:=Kf) a kv es.toList 0 hes
 refine⟨(kvGet a kv).getD z,w,.inl ?_,s.put hd (cstC_rep _ _ _)⟩
 have hlk:(Instr.lookup t (ac.eval x) (ac.eval ky) false).run E.P w=.ok ((kvGet a kv).getD z) w:=by
  rw [h1',h2']
  unfold Instr.lookup
  simp only [Sem.run_bind,run_underlying (tMap_spec ht),Result.andThen_ok,runGet hb,Sem.run_pure,hK.check,hfind]
  rw [←hget]
  cases hf:fAsk a (kv.map (·.1)) es.toList 0 with
  |none=>simp [tZ1_run hz]
  |some p=>obtain⟨i,v⟩:=p;simp
 simp only [execOp,hop,Sem.run_bind,hlk,Result.andThen_ok]
 rfl
theorem aw_mapNew {α:Type} [DecidableEq α] {Kf:α→Value} {t kt et g:TypeId} {kv:List (α×Value)} {x ky vl:Operand} {ck cv:AV} {a:α} {v:Value} (hop:o.op=.mapUpdate t x ky vl) (hdn:o.dst=none) (hw:wantA all σ o=some true)
  (ht:tMap E.P t=some (kt,et)) (hK:KeyOk E.P kt Kf) (hx:ev σ x=.c (.raw (.map (some g)))) (hg:h.get g=some (.gen (MapI Kf kv))) (hk:ev σ ky=ck) (hka:∀S w u,Rep S w ck u→u=Kf a) (hv:ev σ vl=cv) (hva:∀S w u,Rep S w cv u→u=v)
  (hnew:kvGet a kv=none) {h':Heap} (hh:h.set g (.gen (MapI Kf (kv++[(a,v)])))=h') (k:aw E (.ops all rest::K) σ h'):aw E (.ops all (o::rest)::K) σ h:=by
 subst hh
 refine aw_step hw (fun ac w s=> ?_) k
 have h1:=ev_rep s x
 rw [hx] at h1
 have h1':ac.eval x=.map (some g):=h1
 have h2:=ev_rep s ky
 rw [hk] at h2
 have h2':=hka _ _ _ h2
 have h3:=ev_rep s vl
 rw [hv] at h3
 have h3':=hva _ _ _ h3
 obtain⟨ob,hb,es,c,rfl,hes⟩:=s.heap g _ (Heap.get_mem hg)
 have hkeys:es.toList.map (·.key)=(kv.map (·.1)).map Kf:=by
  have:=congrArg (List.map Prod.fst) hes
  rw [List.map_map,List.map_map] at this
  rw [List.map_map]
  exact this
 have hfind:=hK.find a (kv.map (·.1)) es.toList w hkeys
 have hget:=fAsk_get (K:=Kf) a kv es.toList 0 hes
 have hnone:fAsk a (kv.map (·.1)) es.toList 0=none:=by
  cases hf:fAsk a (kv.map (·.1)) es.toList 0 with
  |none=>rfl
  |some p=>rw [hf,hnew] at hget;cases hget
 have hgl:g<w.heap.size:=(Array.getElem?_eq_some_iff.1 hb).1
 let w':World:={w with heap:=w.heap.setIfInBounds g (.map (es.push {key:=Kf a,val:=v,born:=c}) (c+1))}
 have hrun:(Instr.mapUpdate t (ac.eval x) (ac.eval ky) (ac.eval vl)).run E.P w=.ok () w':=by
  rw [h1',h2',h3']
  unfold Instr.mapUpdate
  simp only [Sem.run_bind,run_underlying (tMap_spec ht),Result.andThen_ok,runGet hb,hK.check,hfind,hnone,runSet _ hb]
  rfl
 refine⟨undef,w',.inr ⟨?_,rfl⟩,?_⟩
 ·simp only [execOp,hop,Sem.run_bind,hrun,Result.andThen_ok]
  rfl
 ·rw [hdn]
  have hfr:Fr (fun b=>b=g) w w':=by
   refine⟨rfl,rfl,rfl,by simp [w'],Nat.le_refl _,fun b _ hne=> ?_,fun g' m hh=> ?_⟩
   ·simp only [w'];rw [Array.getElem?_setIfInBounds_ne (fun e=>hne e.symm)]
   ·obtain⟨cs,ty,⟨fr,hc⟩,hs⟩:=hh
    refine⟨cs,ty,⟨fr,?_⟩,hs⟩
    have hne:g'≠g:=fun e=>by rw [e,hb] at hc;cases hc
    simp only [w']
    rw [Array.getElem?_setIfInBounds_ne (fun e=>hne e.symm)];exact hc
  refine s.setObj hg hfr ⟨_,by simp only [w'];rw [Array.getElem?_setIfInBounds_self_of_lt hgl],_,_,rfl,?_⟩
  simp only [Array.toList_push,List.map_append,List.map_cons,List.map_nil,hes]
end
end Go.AI
namespace Go.AI
section
variable {E : Env} {K : List It} {σ σ' : Sl} {h : Heap} {all rest : List Oper} {o : Oper}
def ptrs (gs:List Nat):List Value:=gs.map fun g=>.pointer (some ⟨g,0,none⟩)
def fnC (f:FuncId) (gs:List Nat):CV:=.raw (.func (.func f) #[] (ptrs gs).toArray)
theorem aw_makeFunc {f:FuncId} {cs:List Operand} {gs:List Nat} (hop:o.op=.makeFunc (.func f) #[] cs.toArray) (hw:wantA all σ o=some true) (hd:dstOk E.N o.dst=true) (hc:cs.map (ev σ)=gs.map fun g=>.c (.optr g 0))
  (k:aw E (.ops all rest::K) (σ.setO o.dst (.c (fnC f gs))) h):aw E (.ops all (o::rest)::K) σ h:=by
 refine aw_step hw (fun a w s=> ?_) k
 have hev:∀(cs:List Operand) (gs:List Nat),cs.map (ev σ)=gs.map (fun g=>AV.c (.optr g 0))→cs.map a.eval=ptrs gs:=by
  intro cs
  induction cs with
  |nil=>intro gs hg;cases gs with
   |nil=>rfl
   |cons g gs=>cases hg
  |cons x cs ih=>intro gs hg;cases gs with
   |nil=>cases hg
   |cons g gs=>
    simp only [List.map_cons,List.cons.injEq] at hg
    have h1:=ev_rep s x
    rw [hg.1] at h1
    have h1':a.eval x=.pointer (some ⟨g,0,none⟩):=h1
    simp only [List.map_cons,ptrs]
    rw [h1',ih gs hg.2]
    rfl
 refine⟨.func (.func f) #[] (ptrs gs).toArray,w,.inl ?_,s.put hd rfl⟩
 simp only [execOp,hop,Instr.makeFunc,List.map_toArray,hev cs gs hc]
 rfl
theorem RepT.ptrs {S:Bool→Nat→Prop} {w:World}:∀{A:List AV} {vs:List Value} (gs:List Nat),RepT S w A vs→RepT S w (A++gs.map fun g=>.c (.optr g 0)) (vs++AI.ptrs gs)
 |[],[],gs,_=>by
  induction gs with
  |nil=>trivial
  |cons g gs ih=>exact⟨rfl,ih⟩
 |_::_,_::_,gs,h=>⟨h.1,RepT.ptrs gs h.2⟩
 |[],_::_,_,h=>h.elim
 |_::_,[],_,h=>h.elim
theorem aw_callhv {f:FuncId} {x:Operand} {gs:List Nat} {xs:List Operand} {ts:Array TypeId} {hc hr:Heap} {args:List AV} {Q:AV→Heap→Prop} (hf:Fh E.P f hc (args++gs.map fun g=>.c (.optr g 0)) Q) (hop:o.op=.call {callee:=.value x,args:=xs.toArray,argTypes:=ts}) (hw:wantA all σ o=some true) (hd:dstOk E.N o.dst=true) (hx:ev σ x=.c (fnC f gs))
  (hp:h.Perm (hc++hr)) (le:LeA [] (xs.map (ev σ)) args) (k:∀r h',Q r h'→(∀g∈h'.keys,g∉hr.keys)→aw E (.ops all rest::K) (σ.setO o.dst r) (h'++hr)):aw E (.ops all (o::rest)::K) σ h:=fun a w s=>by
 show wpList _ _ _ _ _ _
 unfold wpList
 rw [if_pos (s.wanted hw)]
 refine .inl ?_
 unfold Oper.wp
 have hv:a.eval x=.func (.func f) #[] (ptrs gs).toArray:=by
  have:=ev_rep s x
  rw [hx] at this
  exact this
 have hrun:(execOp a.eval o).run E.P w=.ok (.enter f (xs.map a.eval++ptrs gs).toArray) w:=by
  simp only [execOp,hop,resolve,hv,Deferred.ofValue,invoke,Sem.run_bind]
  have:=hf.1.run (#[]++(Array.map a.eval xs.toArray)++(ptrs gs).toArray) w
  simp only [Sem.run_pure,Result.andThen_ok]
  rw [show((xs.map a.eval++ptrs gs).toArray)=(#[]++(Array.map a.eval xs.toArray)++(ptrs gs).toArray) from by simp]
  exact this
 rw [hrun]
 show Calls _ _ _ _ _
 refine(hf.use s hp (RepT.ptrs gs (LeA.rep0 s le))).mono ?_
 rintro e w' ⟨v,r,h',rfl,hq,hfr,s',hrep⟩
 exact k r h' hq hfr _ _ (s'.put hd hrep)
theorem aw_callqv {f:FuncId} {x:Operand} {xs:List Operand} {ts:Array TypeId} {args:List AV} {r:AV} (hf:Fa E.P f args r) (hop:o.op=.call {callee:=.value x,args:=xs.toArray,argTypes:=ts}) (hw:wantA all σ o=some true) (hd:dstOk E.N o.dst=true) (hx:ev σ x=.c (.raw (.func (.func f) #[] #[])))
  (le:LeA h (xs.map (ev σ)) args) (k:aw E (.ops all rest::K) (σ.setO o.dst r) h):aw E (.ops all (o::rest)::K) σ h:=fun a w s=>by
 show wpList _ _ _ _ _ _
 unfold wpList
 rw [if_pos (s.wanted hw)]
 refine .inl ?_
 unfold Oper.wp
 have hv:a.eval x=.func (.func f) #[] #[]:=by
  have:=ev_rep s x
  rw [hx] at this
  exact this
 have hrun:(execOp a.eval o).run E.P w=.ok (.enter f (xs.map a.eval).toArray) w:=by
  simp only [execOp,hop,resolve,hv,Deferred.ofValue,invoke,Sem.run_bind]
  have:=hf.1.run (#[]++(Array.map a.eval xs.toArray)++ #[]) w
  simp only [Sem.run_pure,Result.andThen_ok]
  rw [show((xs.map a.eval).toArray)=(#[]++(Array.map a.eval xs.toArray)++ #[]) from by simp]
  exact this
 rw [hrun]
 show Calls _ _ _ _ _
 refine(hf.use s le).mono ?_
 rintro e w' ⟨v,rfl,hr,hfr⟩
 exact k _ _ ((s.later hfr).put hd hr)
end
end Go.AI
namespace Go.AI
section
variable {E : Env} {K : List It} {σ σ' : Sl} {h : Heap} {all l rest : List Oper} {o o1 o2 : Oper}
theorem NewX.buildSlice {t e size bytes len:Nat} {xs:List Operand} {cells:List CV} (hop:o.op=.buildSlice t len (enumO 0 xs).toArray) (hw:wantA l σ o=some true) (hd:dstOk E.N o.dst=true) (ht:tElem E.P t=some (e,size,bytes))
  (hz:(tZero E.P e).isSome=true) (hl:xs.length=len) (hsm:len*size≤16777216) (hlm:len≤16777216) (hx:∀x∈xs,(ev σ x).flat=true∧(ev σ x).cells.all CV.solid=true∧(ev σ x).cells.length=size) (hc:(xs.map (ev σ)).flatMap AV.cells=cells) (hops:∀x∈xs,x∈o.op.operands):
  NewX E h l σ o (fun g=>.c (.osl g size 0 len)) (.cells e (len*size) (ofL cells)):=by
 subst hc
 refine NewX.of_run hw hd fun σ' ext a w he s=> ?_
 have hmap:xs.map (ev σ')=xs.map (ev σ):=List.map_congr_left fun x hx'=>he x (hops x hx')
 have hx2:∀x∈xs,(ev σ' x).flat=true∧(ev σ' x).cells.all CV.solid=true∧(ev σ' x).cells.length=size:=fun x hx'=>by rw [he x (hops x hx')];exact hx x hx'
 rw [←hmap]
 obtain⟨hu,inf,hi,hsz,_⟩:=tElem_spec ht
 obtain⟨z,hz'⟩:=Option.isSome_iff_exists.1 hz
 obtain⟨i',zv,hi',hzv,_⟩:=tZero_spec hz'
 rw [hi] at hi'
 injection hi' with hi'
 subst hi'
 obtain⟨hL,hcs⟩:=parts_rep s size xs hx2
 have hnk:w.heap.size∉(ext++h).keys:=fun hm=>Nat.lt_irrefl _ (s.klt hm)
 generalize hvs:xs.map a.eval=vs at hL hcs
 have hlv:vs.length=len:=by rw [←hvs];simpa using hl
 have hfl:(vs.flatMap fun v=>v.cells.toList).length=len*size:=by
  rw [←hlv]
  clear hL hvs hlv
  induction vs with
  |nil=>simp
  |cons v vs ih=>simp only [List.flatMap_cons,List.length_append,List.length_cons,ih (fun x hx=>hcs x (List.mem_cons_of_mem _ hx)),Nat.add_mul];have:=hcs v (by simp);simp [this];omega
 refine⟨.slice (some ⟨w.heap.size,0,none⟩) len len,w.alloc (.cells (vs.flatMap fun v=>v.cells.toList).toArray e),?_,Fr.alloc _ _ _,by simp,?_,?_⟩
 ·have hm:(Array.map (fun x:Nat×Operand=>(x.1,a.eval x.2)) (enumO 0 xs).toArray).toList=enumL 0 vs:=by
   rw [←hvs,←enum_map];simp
  have hfill:∀zc:Array Value,Instr.fill (fun i=>some (i*size,size)) ((Array.range (len*size)).map (fun x=>zc[x%zc.size]!)) (enumL 0 vs)=some (vs.flatMap fun v=>v.cells.toList).toArray:=fun zc=>by
   rw [fill_seq size vs 0 _ hcs (by simp [hlv])]
   rw [Nat.zero_mul,putL_full _ _ (by simp [hfl])]
  simp only [execOp,hop,Instr.buildSlice,Sem.run_bind,run_underlying hu,Result.andThen_ok,sizeOf,typeInfo,Sem.run_pure]
  simp only [run_program,hi,Result.andThen_ok,Sem.run_pure,hsz]
  rw [if_neg om]
  rw [hm]
  by_cases h0:len*size=0
  ·rw [if_pos h0]
   simp only [Sem.run_bind,Sem.run_pure,Result.andThen_ok,hfill]
   rfl
  ·rw [if_neg h0]
   simp only [Sem.run_bind,Sem.run_pure,Result.andThen_ok,zeroValue,typeInfo,run_program,hi,hzv,hfill]
   rfl
 ·have hr:=orep_new (C:=E.C) (w:=w) (ty:=e) (h':=((w.heap.size,AObj.cells e (len*size) (ofL ((xs.map (ev σ')).flatMap AV.cells)))::(ext++h))) (hL.keep (keeps_alloc hnk))
  have hcl:((xs.map (ev σ')).flatMap AV.cells).length=len*size:=by rw [←hL.length,hfl]
  rw [hcl] at hr
  exact hr
 ·exact⟨len,rfl,Nat.le_refl _,by unfold maxLen;omega,(vs.flatMap fun v=>v.cells.toList).toArray,e,⟨_,heap_alloc_new w _⟩,by simp [hfl]⟩
end
end Go.AI
namespace Go.AI
theorem eI {P:Prop} (k:P:=by(repeat' first|exact has0_nil|refine has0_cons ?_ ?_)<;>simp):P:=k
theorem Fh.mono {P:Program} {f:FuncId} {hc:Heap} {args:List AV} {Q Q':AV→Heap→Prop} (hf:Fh P f hc args Q) (h:∀r h',Q r h'→Q' r h'):Fh P f hc args Q':=
 ⟨hf.1,fun C vs h1 h2 h3 h4=>(hf.2 C vs h1 h2 h3 h4).mono (by
  rintro e w ⟨v,r,h',he,hq,rest⟩
  exact⟨v,r,h',he,h _ _ hq,rest⟩)⟩
def neA (a:Nat):List Nat→Prop
 |[]=>True
 |b::l=>((a=b)=False∧(b=a)=False)∧neA a l
def ndP:List Nat→Prop
 |[]=>True
 |a::l=>neA a l∧ndP l
theorem neA_of {a:Nat}:∀{l:List Nat},a∉l→neA a l
 |[],_=>trivial
 |b::l,h=>by
  rw [List.mem_cons,not_or] at h
  exact⟨⟨eq_false h.1,eq_false fun e=>h.1 e.symm⟩,neA_of h.2⟩
theorem ndP_of:∀{l:List Nat},l.Nodup→ndP l
 |[],_=>trivial
 |a::l,h=>by
  rw [List.nodup_cons] at h
  exact⟨neA_of h.1,ndP_of h.2⟩
section
variable {E : Env} {K : List It} {l : List Oper} {FP : Heap} {σ σ' : Sl} {h : Heap} {o : Oper} {i : Nat} {cs : List (Nat × Nat)}
theorem wc3 {i:Nat} {FP:Heap} {cs:List (Nat×Nat)} (ho:l[i]?=some o) (hd:dstOk E.N o.dst=true) (k:∀R:Option (Prop×Sl)→Prop,(∀q σ',CW E l K FP cs σ' h→(hq:q:=by(try simp only [inRange])<;>and_intros<;>first|exact True.intro|omega|trivial)→R (some (q,σ')))→R (runOp2 E.P true [] l o σ)):CW E l K FP ((i,3)::cs) σ h:=by
 have:=k (fun x=>x=runOp2 E.P true [] l o σ→CW E l K FP ((i,3)::cs) σ h) (fun q σ' ha hq e=>by
  unfold runOp2 at e
  split at e
  ·rename_i hw
   split at e
   ·rename_i q1 r hp
    injection e with e
    injection e with e1 e2
    subst e1 e2
    exact .fre ho (Flt.pure hw hp hq hd) ha
   ·cases e
  ·rename_i hw
   injection e with e
   injection e with e1 e2
   subst e1 e2
   exact .fre ho (Flt.skip hw hd) ha
  ·cases e)
 exact this rfl
theorem cw_perm {h':Heap} (hp:h.Perm h') (k:CW E l K FP cs σ h'):CW E l K FP cs σ h:=by
 induction cs generalizing σ h h' with
 |nil=>
  cases k with
  |nil k=>exact .nil (aw_perm hp k)
 |cons c cs ih=>
  cases k with
  |flt ho hf k=>exact .flt ho hf (ih hp k)
  |fre ho hf k=>exact .fre ho hf (ih hp k)
  |pin ho hmk hpn hfp k=>exact .pin ho hmk (fun σ' K hs=>aw_perm hp (hpn σ' K hs)) hfp k
theorem NewX.makeMap {α:Type} {Kf:α→Value} {t:TypeId} (hop:o.op=.makeMap t none) (hw:wantA l σ o=some true) (hd:dstOk E.N o.dst=true):NewX E h l σ o (fun g=>.c (.raw (.map (some g)))) (.gen (MapI Kf [])):=by
 refine NewX.of_run hw hd fun σ' ext a w he s=> ?_
 refine⟨.map (some w.heap.size),w.alloc (.map #[] 0),?_,Fr.alloc _ _ _,by simp,⟨_,heap_alloc_new w _,_,_,rfl,rfl⟩,rfl⟩
 simp only [execOp,hop]
 rfl
end
end Go.AI
namespace Go.AI
section
variable {E : Env} {K : List It} {σ σ' : Sl} {h : Heap} {all rest : List Oper} {o : Oper}
theorem aw_convR {g n:Nat} {ty:TypeId} {f f':Nat→CV} {h:Heap} (hf:∀j,j<n→∀S w u,RepC S w (f j) u→RepC S w (f' j) u) (k:aw E K σ ((g,.cells ty n f')::h)):aw E K σ ((g,.cells ty n f)::h):=fun a w s=>by
 refine k a w ⟨s.size,s.defers,s.slots,fun g' o' hm=> ?_,s.nodup,s.keys,s.frame⟩
 rcases List.mem_cons.1 hm with e|hm
 ·injection e with e1 e2
  subst e1 e2
  obtain⟨cs,hb,hc,hj⟩:=s.heap _ _ (List.mem_cons_self ..)
  exact⟨cs,hb,hc,fun j hjl=>by obtain⟨u,hu,hr⟩:=hj j hjl;exact⟨u,hu,hf j hjl _ _ _ hr⟩⟩
 ·exact s.heap g' o' (List.mem_cons_of_mem _ hm)
theorem repC_nil {S:Bool→Nat→Prop} {w:World} {u:Value} {t:Bool} {s:Nat} {f:Nat→CV} (h:RepC S w .nils u):RepC S w (.row t s 0 f) u:=by
 obtain⟨A,hv⟩:=h
 exact⟨A,0,hv,Nat.le_refl _,fun h0=>by simp at h0⟩
theorem Sl.set_set (t:Nat) (u v:AV):∀σ:Sl,(σ.set t u).set t v=σ.set t v
 |[]=>by simp [Sl.set]
 |(t',x)::σ=>by
  simp only [Sl.set]
  by_cases e:t'=t
  ·rw [if_pos e,if_pos e];simp [Sl.set]
  ·rw [if_neg e,if_neg e];simp only [Sl.set,if_neg e];rw [Sl.set_set t u v σ]
theorem aw_frzT {t g s off n m:Nat} {ty:TypeId} {f:Nat→CV} (f':Nat→CV) {σ':Sl} {h':Heap} (ht:σ.get t=.c (.osl g s off n)) (hg:h.get g=some (.cells ty m f)) (hm:off+n*s≤m) (hn:¬E.C.own0 g) (hf:∀j,j<n*s→f (off+j)=f' j) (hσ:σ.set t (.c (.row true s n f'))=σ') (hh:h.del g=h')
  (k:aw E K σ' h'):aw E K σ h:=by
 refine aw_frz ht hg hm hn rfl hh ?_
 refine aw_conv (t:=t) (v:=.c (.row true s n f')) (σ':=σ') (fun S w u hr=> ?_) ?_ k
 ·rw [Sl.get_set,if_pos rfl] at hr
  obtain⟨A,c,hv,hc,hn⟩:=hr
  refine⟨A,c,hv,hc,fun h0=> ?_⟩
  obtain⟨ad,hA,hS,hj⟩:=hn h0
  refine⟨ad,hA,hS,fun j hjl=> ?_⟩
  obtain⟨u,hu,hru⟩:=hj j hjl
  exact⟨u,hu,by rw [←hf j hjl];exact hru⟩
 ·rw [←hσ,Sl.set_set]
theorem aw_rethw {P:Program} {fn:Func} {C:Ctx} {Q:AV→Heap→Prop} {rvs:List ResultVar} (hrs:fn.results=rvs.toArray) {h':Heap} (hsub:h'.Sublist h) (k:∀R:Option AV→Prop,(∀x,flatR x=true→Q x h'→R (some x))→R (resAV P σ h rvs)):
  aw (envOfH P fn C Q) (.code .ret::K) σ h:=by
 have hr:∀x,flatR x=true→Q x h'→some x=resAV P σ h rvs→aw (envOfH P fn C Q) (.code .ret::K) σ h:=fun x hf hq e a w s=>by
  refine wp_ret (exW_ret a w ?_)
  obtain⟨v,hv,hrep⟩:=results_run s hrs e.symm (flatR_spec hf)
  have hks:∀b,b∈h'.keys→b∈h.keys:=fun b hb=>by
   obtain⟨p,hp,e⟩:=List.mem_map.1 hb
   exact List.mem_map.2 ⟨p,hsub.subset hp,e⟩
  have kp:Keeps (Stab C h w) (Stab C h' w) w w:=⟨fun t b hb=>⟨hb.1,hb.2.1,fun hm=>hb.2.2 (hks b hm)⟩,fun _ _ _=>rfl,fun _ _ e=>e⟩
  exact⟨s.defers,v,hv,v,x,h',rfl,hq,(hsub.map _).nodup s.nodup,fun g hg=>s.keys g (hks g hg),hrep.keep kp,fun g o hm=>ORep.keep kp rfl (s.heap g o (hsub.subset hm)),s.frame⟩
 have:=k (fun y=>y=resAV P σ h rvs→aw (envOfH P fn C Q) (.code .ret::K) σ h) hr
 exact this rfl
theorem aw_frzG {gT m s n j0:Nat} {og:Option Nat} {ty tp:TypeId} {f f' fp:Nat→CV} (hf:f j0=gs og s n) (hf':f' j0=.row true s n fp) (hfo:∀j,j<m→j≠j0→f' j=f j) (hog:og=none→n=0) (ho:∀g,og=some g→¬E.C.own0 g)
  (k:aw E K σ ((gT,.cells ty m f')::h)):aw E K σ ((gT,.cells ty m f)::(gh og tp (n*s) fp++h)):=by
 cases og with
 |none=>
  have hn:=hog rfl
  subst hn
  refine aw_convR (f':=f') (fun j hj S w u hr=> ?_) k
  by_cases e:j=j0
  ·subst e
   rw [hf] at hr
   rw [hf']
   exact repC_nil hr
  ·rw [hfo j hj e];exact hr
 |some gP=>
  have ho:=ho gP rfl
  show aw E K σ ((gT,.cells ty m f)::(gP,.cells tp (n*s) fp)::h)
  intro a w st
  refine k a w ?_
  have hnd:=st.nodup
  simp only [Heap.keys,List.map_cons,List.nodup_cons,List.mem_cons,not_or] at hnd
  obtain⟨⟨hTP,hTh⟩,hPh,hh⟩:=hnd
  have hgm:(gP,AObj.cells tp (n*s) fp)∈(gT,AObj.cells ty m f)::(gP,.cells tp (n*s) fp)::h:=List.mem_cons_of_mem _ (List.mem_cons_self ..)
  have hkg:gP∈Heap.keys ((gT,AObj.cells ty m f)::(gP,.cells tp (n*s) fp)::h):=List.mem_map.2 ⟨_,hgm,rfl⟩
  have hks:∀b,b∈Heap.keys ((gT,AObj.cells ty m f')::h)→b∈Heap.keys ((gT,AObj.cells ty m f)::(gP,.cells tp (n*s) fp)::h):=fun b hb=>by
   simp only [Heap.keys,List.map_cons,List.mem_cons] at hb⊢
   exact hb.imp id .inr
  have kp:Keeps (Stab E.C ((gT,.cells ty m f)::(gP,.cells tp (n*s) fp)::h) w) (Stab E.C ((gT,.cells ty m f')::h) w) w w:=⟨fun t b hb=>⟨hb.1,hb.2.1,fun hm=>hb.2.2 (hks b hm)⟩,fun _ _ _=>rfl,fun _ _ e=>e⟩
  refine⟨st.size,st.defers,fun t=>Rep.keep kp (st.slots t),fun g ob hm=> ?_,?_,fun g hg=>st.keys g (hks g hg),st.frame⟩
  ·rcases List.mem_cons.1 hm with e|hm
   ·rw [Prod.mk.injEq] at e
    obtain⟨e1,e2⟩:=e
    rw [e1,e2]
    clear hm e1 e2
    obtain⟨cs,hb,hcs,hj⟩:=st.heap gT _ (List.mem_cons_self ..)
    refine⟨cs,hb,hcs,fun j hjm=> ?_⟩
    obtain⟨u,hu,hr⟩:=hj j hjm
    refine⟨u,hu,?_⟩
    by_cases e:j=j0
    ·subst e
     rw [hf] at hr
     rw [hf']
     obtain⟨c,hv,hc,_,_⟩:=hr
     obtain⟨cs2,hb2,hcs2,hj2⟩:=st.heap gP _ hgm
     refine⟨some ⟨gP,0,none⟩,c,hv,hc,fun _=>⟨⟨gP,0,none⟩,rfl,⟨.inr ((st.keys gP hkg).resolve_left ho),st.klt hkg,?_⟩,fun q hq=> ?_⟩⟩
     ·simp only [Heap.keys,List.map_cons,List.mem_cons,not_or]
      exact⟨fun e=>hTP e.symm,hPh⟩
     ·obtain⟨u2,hu2,hr2⟩:=hj2 q hq
      exact⟨u2,by rw [add_mk,Nat.zero_add,cell_own hb2];exact hu2,hr2.keep kp⟩
    ·rw [hfo j hjm e]
     exact hr.keep kp
   ·exact ORep.keep kp rfl (st.heap g ob (List.mem_cons_of_mem _ (List.mem_cons_of_mem _ hm)))
  ·simp only [Heap.keys,List.map_cons,List.nodup_cons]
   exact⟨hTh,hh⟩
theorem aw_frzGT {t s n n':Nat} {og:Option Nat} {ty:TypeId} {f f':Nat→CV} (hog:og=none→n=0) (hnn:n=n') (ht:σ.get t=.c (gs og s n)) (hn:∀g,og=some g→¬E.C.own0 g) (hf:∀j,j<n*s→f j=f' j) (hσ:σ.set t (.c (.row true s n' f'))=σ') (k:aw E K σ' h):aw E K σ (gh og ty (n*s) f++h):=by
 subst hnn
 cases og with
 |none=>
  have h0:=hog rfl
  subst h0
  refine aw_conv (t:=t) (v:=.c (.row true s 0 f')) (fun S w u hr=> ?_) hσ k
  rw [ht] at hr
  exact repC_nil hr
 |some g=>
  refine aw_frzT (t:=t) (g:=g) (s:=s) (off:=0) (n:=n) (m:=n*s) (ty:=ty) (f:=f) f' ht ?_ om (hn g rfl) (fun j hj=>by rw [Nat.zero_add];exact hf j hj) hσ ?_ k
  ·show Heap.get ((g,_)::h) g=_
   simp [Heap.get]
  ·show Heap.del ((g,_)::h) g=_
   simp [Heap.del]
end
end Go.AI
namespace Go.AI
attribute [go_sem] List.size_toArray Int.reduceBEq Int.reduceBNe Int.reduceLT Int.reduceLE Int.reduceGT Int.reduceGE decide_true decide_false
@[go_sem] theorem cast_add' (a b:Nat):((a+b:Nat):Int)=(a:Int)+(b:Int):=rfl
@[go_sem] theorem cast_one':((1:Nat):Int)=1:=rfl
@[go_sem] theorem cast_zero':((0:Nat):Int)=0:=rfl
@[go_sem] theorem beqNN (a b:Nat):((a:Int)==(b:Int))=(a==b):=by rw [Bool.eq_iff_iff,beq_iff_eq,beq_iff_eq];omega
@[go_sem] theorem beqNL (a k:Nat):((a:Int)==(no_index (OfNat.ofNat k):Int))=(a==OfNat.ofNat k):=beqNN a k
@[go_sem] theorem beqN0 (a:Nat):((a:Int)==0)=(a==0):=beqNN a 0
@[go_sem] theorem beqN1 (a:Nat):((a:Int)==1)=(a==1):=beqNN a 1
@[go_sem] theorem bneNN (a b:Nat):((a:Int) !=(b:Int))=(a !=b):=by unfold bne;rw [beqNN]
@[go_sem] theorem bneNL (a k:Nat):((a:Int) !=(no_index (OfNat.ofNat k):Int))=(a !=OfNat.ofNat k):=bneNN a k
@[go_sem] theorem bneN0 (a:Nat):((a:Int) !=0)=(a !=0):=bneNN a 0
@[go_sem] theorem bneN1 (a:Nat):((a:Int) !=1)=(a !=1):=bneNN a 1
@[go_sem] theorem ltNN (a b:Nat):decide ((a:Int)<(b:Int))=decide (a<b):=by rw [decide_eq_decide];omega
@[go_sem] theorem leNN (a b:Nat):decide ((a:Int)≤(b:Int))=decide (a≤b):=by rw [decide_eq_decide];omega
@[go_sem] theorem ltNL (a k:Nat):decide ((a:Int)<(no_index (OfNat.ofNat k):Int))=decide (a<OfNat.ofNat k):=ltNN a k
@[go_sem] theorem leNL (a k:Nat):decide ((a:Int)≤(no_index (OfNat.ofNat k):Int))=decide (a≤OfNat.ofNat k):=leNN a k
@[go_sem] theorem gtNL (a k:Nat):decide ((a:Int)>(no_index (OfNat.ofNat k):Int))=decide (a>OfNat.ofNat k):=ltNN k a
@[go_sem] theorem geNL (a k:Nat):decide ((a:Int)≥(no_index (OfNat.ofNat k):Int))=decide (a≥OfNat.ofNat k):=leNN k a
@[go_sem] theorem gtN0 (a:Nat):decide ((a:Int)>0)=decide (0<a):=ltNN 0 a
@[go_sem] theorem geNN (a b:Nat):decide ((a:Int)≥(b:Int))=decide (a≥b):=leNN b a
@[go_sem] theorem gtNN (a b:Nat):decide ((a:Int)>(b:Int))=decide (a>b):=ltNN b a
@[go_sem] theorem ltSN (a b:Nat):decide ((a:Int)+1<(b:Int))=decide (a+1<b):=ltNN (a+1) b
@[go_sem] theorem ltN1 (a:Nat):decide ((a:Int)<1)=decide (a<1):=ltNN a 1
@[go_sem] theorem toNat_succ' (a:Nat):((a:Int)+1).toNat=a+1:=rfl
theorem set_ofL (l:List CV) (k:Nat) (c:CV) (h:k<l.length):(fun j=>if j=k then c else ofL l j)=ofL (l.set k c):=by
 funext j
 induction l generalizing k j with
 |nil=>simp at h
 |cons x l ih=>
  cases k with
  |zero=>cases j with
   |zero=>rfl
   |succ j=>rfl
  |succ k=>cases j with
   |zero=>rfl
   |succ j=>
    have:=ih k (by simpa using h) j
    simpa [ofL] using this
@[go_sem] theorem updF_ofLc (l:List CV) (k:Nat) (c:CV) (cs:List CV) (h:k<l.length):updF (ofL l) k (c::cs)=updF (ofL (l.set k c)) (k+1) cs:=by
  show updF (fun j=>if j=k then c else ofL l j) (k+1) cs=_
  rw [set_ofL l k c h]
@[go_sem] theorem updF_ofLn (l:List CV) (k:Nat):updF (ofL l) k []=ofL l:=rfl
theorem Heap.get_perm:∀{h:Heap} {g:Nat} {ob:AObj},h.get g=some ob→h.Perm ((g,ob)::h.del g)
 |[],_,_,e=>by simp [Heap.get] at e
 |(g',x)::h,g,ob,e=>by
  by_cases hg:g'=g
  ·subst hg
   simp [Heap.get] at e
   subst e
   simp [Heap.del]
  ·simp only [Heap.get,if_neg hg] at e
   simp only [Heap.del,if_neg hg]
   exact((Heap.get_perm e).cons _).trans (List.Perm.swap _ _ _)
theorem Heap.set_perm:∀{h:Heap} {g:Nat} {ob ob':AObj},h.get g=some ob→(h.set g ob').Perm ((g,ob')::h.del g)
 |[],_,_,_,e=>by simp [Heap.get] at e
 |(g',x)::h,g,ob,ob',e=>by
  by_cases hg:g'=g
  ·subst hg
   simp [Heap.set,Heap.del]
  ·simp only [Heap.get,if_neg hg] at e
   simp only [Heap.set,Heap.del,if_neg hg]
   exact((Heap.set_perm e).cons _).trans (List.Perm.swap _ _ _)
def Fg (P:Program) (f:FuncId) (g:Nat) (ob:AObj) (args:List AV) (r:AV) (ob':AObj):Prop:=Fh P f [(g,ob)] args fun x h=>x=r∧h=[(g,ob')]
section
variable {E : Env} {K : List It} {σ σ' : Sl} {h : Heap} {all l rest : List Oper} {o : Oper}
theorem aw_cg {f:FuncId} {xs:List Operand} {ts:Array TypeId} {g:Nat} {ob ob':AObj} {args:List AV} {r:AV} (hf:Fg E.P f g ob args r ob') (hop:o.op=.call {callee:=.value (.func f),args:=xs.toArray,argTypes:=ts}) (hw:wantA all σ o=some true) (hd:dstOk E.N o.dst=true)
  (hg:h.get g=some ob) (le:LeA [] (xs.map (ev σ)) args) (k:aw E (.ops all rest::K) (σ.setO o.dst r) (h.set g ob')):aw E (.ops all (o::rest)::K) σ h:=by
 refine aw_callh hf hop hw hd (hr:=h.del g) (Heap.get_perm hg) le ?_
 rintro _ _ ⟨rfl,rfl⟩ _
 exact aw_perm (Heap.set_perm hg).symm k
theorem Calm.pok {r:AV} (hw:wantA l σ o=some true) (hp:POk E.P h (ev σ) o.op r) (hd:dstOk E.N o.dst=true):Calm E h l σ o r:=by
 refine⟨hd,fun σ' a w Q hs s=> ?_⟩
 rw [if_pos (s.wanted ((want_same hs).trans hw))]
 obtain⟨v,hrun,hr⟩:=hp (Stab E.C h w) w a.eval Stab.mono' (fun x hx=>by rw [←ev_same hx hs];exact ev_rep s x) s.heap
 unfold Oper.wp
 rw [hrun o rfl]
 exact s.put hd hr
theorem drk_pok {n:Nat} {r:AV} (hp:POk E.P h (ev σ) o.op r) (hw:wantA l σ o=some true) (hd:dstOk E.N o.dst=true) (k:DrK E h l K n rest (σ.setO o.dst r)):DrK E h l K (n+1) (o::rest) σ:=drk_cons (Calm.pok hw hp hd) k
theorem aw_pok {r:AV} (hp:POk E.P h (ev σ) o.op r) (hw:wantA all σ o=some true) (hd:dstOk E.N o.dst=true) (k:aw E (.ops all rest::K) (σ.setO o.dst r) h):aw E (.ops all (o::rest)::K) σ h:=aw_pure hw hp hd rfl k
theorem yA1 {F X G:Prop} (f:F) (x:X) (k:F→Hold X→G:=by
 intro f x
 (first|apply wa1|apply wa2|apply wa3|apply wa4|apply wa5 rfl|apply wa6|apply wa7|(refine wb1 rfl fun R r=>?_;simp only[go_sem,f];with_reducible show R (some _);with_reducible refine r _ _ ?_;clear r R)|apply wa8|(refine wd1 rfl fun R r=>?_;simp only[go_sem,f];with_reducible show R (some _);with_reducible refine r _ _ ?_;clear r R))
 (repeat first|apply wa1|apply wa2|apply wa3|apply wa4|apply wa5 rfl|apply wa6|apply wa7|(refine wb1 rfl fun R r=>?_;simp only[go_sem,f];with_reducible show R (some _);with_reducible refine r _ _ ?_;clear r R)|apply wa8|(refine wd1 rfl fun R r=>?_;simp only[go_sem,f];with_reducible show R (some _);with_reducible refine r _ _ ?_;clear r R))
 exact x.out):G:=k f ⟨x⟩
theorem zL2 {F P:Prop} (f:F) (k:F→P:=by intro f;first|exact True.intro|(simp only[go_sem,f]<;>and_intros<;>first|exact True.intro|exact .c (.refl _)|exact .c wl2|exact .agg (lel_refl _)|(refine .agg ?_;simp only[LeL];and_intros<;>first|exact True.intro|exact .refl _|exact wl2|exact .nils)|exact .c .nils)):P:=k f
theorem yC2 {f:FuncId} {xs:List Operand} {ts:Array TypeId} {args:List AV} {r:AV} {X F:Prop} (q:F) (hf:Fa E.P f args r) (x:X) (hop:o.op=.call {callee:=.value (.func f),args:=xs.toArray,argTypes:=ts}:=by exact rfl) (hw:wantA all σ o=some true:=by exact rfl) (hd:dstOk E.N o.dst=true:=by exact rfl)
 (le:F→LeA h (xs.map (ev σ)) args:=by intro f;first|exact True.intro|(simp only[go_sem,f]<;>and_intros<;>first|exact True.intro|exact .c (.refl _)|exact .c wl2|exact .agg (lel_refl _)|(refine .agg ?_;simp only[LeL];and_intros<;>first|exact True.intro|exact .refl _|exact wl2|exact .nils)|exact .c .nils)) (k:F→Hold X→aw E (.ops all rest::K) (σ.setO o.dst r) h:=by intro f x;(try simp only[go_sem,f]);exact x.out):aw E (.ops all (o::rest)::K) σ h:=aw_callq hf hop hw hd (le q) (k q ⟨x⟩)
theorem yD2 {f:FuncId} {xs:List Operand} {ts:Array TypeId} {args:List AV} {r:AV} {n:Nat} {X F:Prop} (q:F) (hf:Fa E.P f args r) (x:X) (hop:o.op=.call {callee:=.value (.func f),args:=xs.toArray,argTypes:=ts}:=by exact rfl) (hw:wantA l σ o=some true:=by exact rfl) (hd:dstOk E.N o.dst=true:=by exact rfl)
 (le:F→LeA h (xs.map (ev σ)) args:=by intro f;first|exact True.intro|(simp only[go_sem,f]<;>and_intros<;>first|exact True.intro|exact .c (.refl _)|exact .c wl2|exact .agg (lel_refl _)|(refine .agg ?_;simp only[LeL];and_intros<;>first|exact True.intro|exact .refl _|exact wl2|exact .nils)|exact .c .nils)) (k:F→Hold X→DrK E h l K n rest (σ.setO o.dst r):=by intro f x;(try simp only[go_sem,f]);exact x.out):DrK E h l K (n+1) (o::rest) σ:=drk_call hf hop hw hd (le q) (k q ⟨x⟩)
end
end Go.AI
namespace Go.PN
def isLet (n:Nat):Bool:=(decide (65≤n)&&decide (n≤90))||(decide (97≤n)&&decide (n≤122))
def isDig (n:Nat):Bool:=decide (48≤n)&&decide (n≤57)
def isIns (n:Nat):Bool:=((isLet n||isDig n)||n==95)||n==46
def isBlk (n:Nat):Bool:=n==32||(n==9||(n==10||n==13))
def isSgn (n:Nat):Bool:=n==123||(n==125||(n==59||(n==58||n==64)))
theorem bAt_lt (l:BS) (i:Nat):bAt l i<256:=UInt8.toNat_lt _
def spanE (p:Nat→Bool) (l:BS) (i:Nat):Nat:=i+((l.drop i).takeWhile fun b=>p b.toNat).length
theorem spanE_ge (p:Nat→Bool) (l:BS) (i:Nat):i≤spanE p l i:=Nat.le_add_right ..
theorem spanE_le {p:Nat→Bool} {l:BS} {i:Nat} (h:i≤l.length):spanE p l i≤l.length:=by
 unfold spanE
 have h1:((l.drop i).takeWhile fun b=>p b.toNat).length≤(l.drop i).length:=(List.takeWhile_sublist _).length_le
 rw [List.length_drop] at h1
 omega
theorem spanE_out {p:Nat→Bool} {l:BS} {i:Nat} (h:l.length≤i):spanE p l i=i:=by
 unfold spanE
 rw [List.drop_eq_nil_of_le h];rfl
theorem drop_bAt {l:BS} {i:Nat} (h:i<l.length):l.drop i=l[i]::l.drop (i+1):=List.drop_eq_getElem_cons h
theorem bAt_get {l:BS} {i:Nat} (h:i<l.length):bAt l i=l[i].toNat:=by
 unfold bAt
 rw [List.getD_eq_getElem?_getD,List.getElem?_eq_getElem h];rfl
theorem spanE_yes {p:Nat→Bool} {l:BS} {i:Nat} (h:i<l.length) (hp:p (bAt l i)=true):spanE p l i=spanE p l (i+1):=by
 unfold spanE
 rw [drop_bAt h,List.takeWhile_cons_of_pos (by rw [←bAt_get h];exact hp),List.length_cons]
 omega
theorem spanE_no {p:Nat→Bool} {l:BS} {i:Nat} (h:i<l.length) (hp:p (bAt l i)=false):spanE p l i=i:=by
 unfold spanE
 rw [drop_bAt h,List.takeWhile_cons_of_neg (by rw [←bAt_get h,hp];simp)]
 rfl
theorem spanE_in {p:Nat→Bool} {l:BS}:∀(k i:Nat),spanE p l i=i+k→∀j,i≤j→j<i+k→p (bAt l j)=true:=by
 intro k
 induction k with
 |zero=>intro i _ j h1 h2;omega
 |succ k ih=>
  intro i h j h1 h2
  by_cases hi:i<l.length
  ·cases hp:p (bAt l i) with
   |false=>rw [spanE_no hi hp] at h;omega
   |true=>
    by_cases e:j=i
    ·rw [e];exact hp
    ·rw [spanE_yes hi hp] at h
     exact ih (i+1) om j om om
  ·rw [spanE_out om] at h;omega
theorem spanE_at {p:Nat→Bool} {l:BS} {i:Nat} (h:spanE p l i<l.length):p (bAt l (spanE p l i))=false:=by
 generalize hk:l.length-i=k
 induction k generalizing i with
 |zero=>have:=spanE_ge p l i;omega
 |succ k ih=>
  have hi:i<l.length:=by omega
  cases hp:p (bAt l i) with
  |false=>rw [spanE_no hi hp];exact hp
  |true=>rw [spanE_yes hi hp] at h⊢;exact ih h om
def numE (l:BS) (i:Nat):Nat:=
 if spanE isDig l i+1<l.length∧(bAt l (spanE isDig l i)=46∨bAt l (spanE isDig l i)=47)∧isDig (bAt l (spanE isDig l i+1))=true then spanE isDig l (spanE isDig l i+1) else spanE isDig l i
theorem numE_ge (l:BS) (i:Nat):i≤numE l i:=by
 have h1:=spanE_ge isDig l i
 have h2:=spanE_ge isDig l (spanE isDig l i+1)
 unfold numE
 split<;>omega
theorem numE_le {l:BS} {i:Nat} (h:i≤l.length):numE l i≤l.length:=by
 unfold numE
 split
 ·rename_i h1;exact spanE_le om
 ·exact spanE_le h
structure TK where
 kind:Nat
 text:BS
deriving DecidableEq,Inhabited
theorem cutS_len {l:BS} {i e:Nat} (he:e≤l.length):(cutS l i e).length=e-i:=by
 unfold cutS
 rw [List.length_take,List.length_drop];omega
inductive Stp where
 |err (c:Int)
 |skip (e:Nat)
 |tok (k e:Nat)
def stepT (l:BS) (i:Nat):Stp:=
 if isBlk (bAt l i) then .skip (i+1)
 else if bAt l i=35 then .skip (spanE (fun b=>b !=10) l i)
 else if isLet (bAt l i) then(if spanE isIns l i-i>24 then .err 5 else .tok 0 (spanE isIns l i))
 else if isDig (bAt l i) then(if numE l i<l.length∧(isIns (bAt l (numE l i))=true∨bAt l (numE l i)=47) then .err 2 else .tok 1 (numE l i))
 else if isSgn (bAt l i) then .tok 2 (i+1)
 else .err 2
theorem isLet_ins {n:Nat} (h:isLet n=true):isIns n=true:=by unfold isIns;rw [h];rfl
theorem stepT_skip {l:BS} {i e:Nat} (hi:i<l.length) (h:stepT l i=.skip e):i<e∧e≤l.length:=by
 unfold stepT at h
 split at h
 ·injection h with h;omega
 ·split at h
  ·rename_i h35
   injection h with h
   have h1:=spanE_yes (p:=fun b=>b !=10) hi (by rw [h35];rfl)
   have h2:=spanE_ge (fun b=>b !=10) l (i+1)
   have h3:=spanE_le (p:=fun b=>b !=10) (l:=l) (i:=i) om
   omega
  ·split at h
   ·split at h<;>cases h
   ·split at h
    ·split at h<;>cases h
    ·split at h<;>cases h
theorem stepT_tok {l:BS} {i k e:Nat} (hi:i<l.length) (h:stepT l i=.tok k e):i<e∧e≤l.length:=by
 unfold stepT at h
 split at h
 ·cases h
 ·split at h
  ·cases h
  ·split at h
   ·rename_i hl
    split at h
    ·cases h
    ·injection h with _ h
     have h1:=spanE_yes (p:=isIns) hi (isLet_ins hl)
     have h2:=spanE_ge isIns l (i+1)
     have h3:=spanE_le (p:=isIns) (l:=l) (i:=i) om
     omega
   ·split at h
    ·rename_i hd
     split at h
     ·cases h
     ·injection h with _ h
      have h1:=spanE_yes (p:=isDig) hi hd
      have h2:=spanE_ge isDig l (i+1)
      have h3:=numE_le (l:=l) (i:=i) om
      have h4:spanE isDig l i≤numE l i:=by
       have:=spanE_ge isDig l (spanE isDig l i+1)
       unfold numE
       split<;>omega
      omega
    ·split at h
     ·injection h with _ h;omega
     ·cases h
def splitT (l:BS):Nat→Nat→List TK→Int×List TK
 |0,_,out=>(0,out)
 |n+1,i,out=>if i<l.length then(match stepT l i with
  |.err c=>(c,[])
  |.skip e=>splitT l n e out
  |.tok k e=>splitT l n e (out++[⟨k,cutS l i e⟩])) else(0,out)
theorem splitT_fuel {l:BS}:∀(n m i:Nat) (out:List TK),l.length-i≤n→l.length-i≤m→splitT l n i out=splitT l m i out:=by
 intro n
 induction n with
 |zero=>
  intro m i out h1 h2
  cases m with
  |zero=>rfl
  |succ m=>unfold splitT;rw [if_neg om]
 |succ n ih=>
  intro m i out h1 h2
  cases m with
  |zero=>unfold splitT;rw [if_neg om]
  |succ m=>
   unfold splitT
   by_cases hi:i<l.length
   ·rw [if_pos hi,if_pos hi]
    cases hs:stepT l i with
    |err c=>rfl
    |skip e=>have:=stepT_skip hi hs;exact ih m e out om om
    |tok k e=>have:=stepT_tok hi hs;exact ih m e _ om om
   ·rw [if_neg hi,if_neg hi]
def splitS (l:BS):Int×List TK:=if l.length>65536 then(4,[]) else splitT l l.length 0 []
theorem splitT_step {l:BS} {i:Nat} {out:List TK} (hi:i<l.length):splitT l (l.length-i) i out=(match stepT l i with
  |.err c=>(c,[])
  |.skip e=>splitT l (l.length-e) e out
  |.tok k e=>splitT l (l.length-e) e (out++[⟨k,cutS l i e⟩])):=by
 obtain⟨n,hn⟩:∃n,l.length-i=n+1:=⟨l.length-i-1,by omega⟩
 rw [hn]
 show(if i<l.length then _ else _)=_
 rw [if_pos hi]
 cases hs:stepT l i with
 |err c=>rfl
 |skip e=>have:=stepT_skip hi hs;exact splitT_fuel _ _ _ _ om om
 |tok k e=>have:=stepT_tok hi hs;exact splitT_fuel _ _ _ _ om om
theorem splitT_end {l:BS} {i:Nat} {out:List TK} (hi:l.length≤i):splitT l (l.length-i) i out=(0,out):=by
 rw [show l.length-i=0 from by omega];rfl
structure TkOk (t:TK):Prop where
 kind:t.kind≤2
 ne:t.text≠[]
 word:t.kind=0→isLet (bAt t.text 0)=true
 num:t.kind=1→isDig (bAt t.text 0)=true
 sgn:t.kind=2→t.text.length=1∧isSgn (bAt t.text 0)=true
theorem cutS_head {l:BS} {i e:Nat} (h1:i<e) (h2:e≤l.length):bAt (cutS l i e) 0=bAt l i∧cutS l i e≠[]:=by
 have hl:=cutS_len (l:=l) (i:=i) h2
 refine⟨?_,fun h=>by rw [h] at hl;simp at hl;omega⟩
 unfold bAt cutS
 rw [List.getD_eq_getElem?_getD,List.getD_eq_getElem?_getD,List.getElem?_take,if_pos om,List.getElem?_drop,Nat.add_zero]
theorem tok_ok {l:BS} {i k e:Nat} (hi:i<l.length) (h:stepT l i=.tok k e):TkOk ⟨k,cutS l i e⟩:=by
 obtain⟨h1,h2⟩:=stepT_tok hi h
 obtain⟨hh,hn⟩:=cutS_head h1 h2
 have hl:=cutS_len (l:=l) (i:=i) h2
 unfold stepT at h
 split at h
 ·cases h
 ·split at h
  ·cases h
  ·split at h
   ·rename_i hc
    split at h
    ·cases h
    ·injection h with hk he
     subst hk
     exact⟨(show 0≤2 from by decide),hn,fun _=>(show isLet (bAt (cutS l i e) 0)=true from by rw [hh];exact hc),fun h=>absurd (show(0:Nat)=1 from h) (by decide),fun h=>absurd (show(0:Nat)=2 from h) (by decide)⟩
   ·split at h
    ·rename_i hc
     split at h
     ·cases h
     ·injection h with hk he
      subst hk
      exact⟨(show 1≤2 from by decide),hn,fun h=>absurd (show(1:Nat)=0 from h) (by decide),fun _=>(show isDig (bAt (cutS l i e) 0)=true from by rw [hh];exact hc),fun h=>absurd (show(1:Nat)=2 from h) (by decide)⟩
    ·split at h
     ·rename_i hc
      injection h with hk he
      subst hk
      exact⟨(show 2≤2 from by decide),hn,fun h=>absurd (show(2:Nat)=0 from h) (by decide),fun h=>absurd (show(2:Nat)=1 from h) (by decide),fun _=>⟨(show(cutS l i e).length=1 from by omega),(show isSgn (bAt (cutS l i e) 0)=true from by rw [hh];exact hc)⟩⟩
     ·cases h
theorem splitT_ok {l:BS}:∀(n i:Nat) (out:List TK),(∀t∈out,TkOk t)→∀t∈(splitT l n i out).2,TkOk t:=by
 intro n
 induction n with
 |zero=>intro i out h;exact h
 |succ n ih=>
  intro i out h
  unfold splitT
  by_cases hi:i<l.length
  ·rw [if_pos hi]
   cases hs:stepT l i with
   |err c=>intro t ht;cases ht
   |skip e=>exact ih e out h
   |tok k e=>
    refine ih e _ fun t ht=> ?_
    rcases List.mem_append.1 ht with ht|ht
    ·exact h t ht
    ·rw [List.mem_singleton] at ht;subst ht;exact tok_ok hi hs
  ·rw [if_neg hi];exact h
end Go.PN
namespace Go.AI
structure Bq (b:Bool) (p q:Prop):Prop where
 t:b=true→p
 f:b=false→q
theorem bqd {p:Prop} [Decidable p]:Bq (decide p) p (¬p):=⟨of_decide_eq_true,of_decide_eq_false⟩
theorem bqe {α:Type} [BEq α] [LawfulBEq α] {a b:α}:Bq (a==b) (a=b) (a≠b):=⟨fun e=>by simpa using e,fun e=>by simpa using e⟩
theorem bqn {α:Type} [BEq α] [LawfulBEq α] {a b:α}:Bq (a !=b) (a≠b) (a=b):=⟨fun e=>by simpa using e,fun e=>by simpa using e⟩
theorem bqt {b:Bool}:Bq b (b=true) (b=false):=⟨id,id⟩
theorem bqT:Bq true (true=true) (true=false):=⟨id,id⟩
theorem bqF:Bq false (false=true) (false=false):=⟨id,id⟩
section
variable {E : Env} {K : List It} {σ : Sl} {h : Heap} {all l rest : List Oper} {o : Oper} {F X Y : Prop}
theorem zW {t g off m n:Nat} {ty:TypeId} {ag:Bool} {fc:Nat→CV} {a y:Operand} {v:AV} {h':Heap} (q:F) (x:X) (hop:o.op=.store t a y:=by exact rfl) (hw:wantA all σ o=some true:=by exact rfl) (hd:dstOk E.N o.dst=true:=by exact rfl) (hdn:o.dst=none:=by exact rfl) (ha:F→ev σ a=.c (.optr g off):=by intro f;simp only[go_sem,f]<;>rfl) (hx:F→ev σ y=v:=by intro f;simp only[go_sem,f]<;>rfl)
 (hg:F→h.get g=some (.cells ty m fc):=by intro f;simp only[go_sem,f]<;>rfl) (ht:F→tSz E.P t=some (ag,n):=by intro f;simp only[go_sem,f]<;>rfl) (hnt:∀xs,v≠.tup xs:=by exact fun _ e=>by cases e) (hs:v.cells.all CV.solid=true:=by first|rfl|exact solid_gs3) (hlen:v.cells.length=n:=by rfl) (hle:off+n≤m:=by first|omega|simp)
 (hh:h.set g (.cells ty m (updF fc off v.cells))=h':=by exact rfl) (k:F→Hold X→aw E (.ops all rest::K) σ h':=by intro f x;(try simp only[go_sem,f]);exact x.out):aw E (.ops all (o::rest)::K) σ h:=aw_store hop hw hd hdn (ha q) (hx q) (hg q) (ht q) hnt hs hlen hle hh (k q ⟨x⟩)
theorem zg {f:FuncId} {xs:List Operand} {ts:Array TypeId} {g:Nat} {ob ob':AObj} {args:List AV} {r:AV} (q:F) (hf:Fg E.P f g ob args r ob') (x:X) (hop:o.op=.call {callee:=.value (.func f),args:=xs.toArray,argTypes:=ts}:=by exact rfl) (hw:wantA all σ o=some true:=by exact rfl) (hd:dstOk E.N o.dst=true:=by exact rfl)
 (hg:F→h.get g=some ob:=by intro f;simp only[go_sem,f]<;>rfl) (le:F→LeA [] (xs.map (ev σ)) args:=by intro f;exact zL2 f) (k:F→Hold X→aw E (.ops all rest::K) (σ.setO o.dst r) (h.set g ob'):=by intro f x;(try simp only[go_sem,f]);exact x.out):aw E (.ops all (o::rest)::K) σ h:=aw_cg hf hop hw hd (hg q) (le q) (k q ⟨x⟩)
theorem zC {t:Nat} {y z:Code} {b:Bool} {p1 p2:Prop} (q:F) (k1:p1→aw E (.code y::K) σ h) (k2:p2→aw E (.code z::K) σ h) (hb:F→σ.get t=.c (.bool b):=by intro f;simp only[go_sem,f]<;>rfl) (hp:Bq b p1 p2:=by first|(with_reducible exact bqd)|(with_reducible exact bqe)|(with_reducible exact bqn)|((fail_if_success (with_reducible exact bqT));(fail_if_success (with_reducible exact bqF));exact bqt)):aw E (.code (.cond (.tmp t) y z)::K) σ h:=
 aw_cond (hb q) (fun e=>k1 (hp.t e)) fun e=>k2 (hp.f e)
theorem zG {t j:Nat} {want b:Bool} {p1 p2:Prop} (q:F) (x:p1→X) (y:p2→Y) (hg:o.guard=some (j,want):=by exact rfl) (hj:(all[j]?).bind (·.dst)=some t:=by exact rfl) (hb:F→σ.get t=.c (.bool b):=by intro f;simp only[go_sem,f]<;>rfl) (hp:Bq b p1 p2:=by first|(with_reducible exact bqd)|(with_reducible exact bqe)|(with_reducible exact bqn)|((fail_if_success (with_reducible exact bqT));(fail_if_success (with_reducible exact bqF));exact bqt))
 (k1:F→Hold X→aw E (.ops all (o::rest)::K) (σ.set t (.c (.bool true))) h:=by intro f x;(try simp only[go_sem,f]);exact x.out) (k2:F→Hold Y→aw E (.ops all (o::rest)::K) (σ.set t (.c (.bool false))) h:=by intro f x;(try simp only[go_sem,f]);exact x.out):aw E (.ops all (o::rest)::K) σ h:=aw_split t (hb q) (fun e=>k1 q ⟨x (hp.t e)⟩) fun e=>k2 q ⟨y (hp.f e)⟩
theorem zD {t j n:Nat} {want b:Bool} {p1 p2:Prop} (q:F) (x:p1→X) (y:p2→Y) (hg:o.guard=some (j,want):=by exact rfl) (hj:(l[j]?).bind (·.dst)=some t:=by exact rfl) (hb:F→σ.get t=.c (.bool b):=by intro f;simp only[go_sem,f]<;>rfl) (hp:Bq b p1 p2:=by first|(with_reducible exact bqd)|(with_reducible exact bqe)|(with_reducible exact bqn)|((fail_if_success (with_reducible exact bqT));(fail_if_success (with_reducible exact bqF));exact bqt))
 (k1:F→Hold X→DrK E h l K n (o::rest) (σ.set t (.c (.bool true))):=by intro f x;(try simp only[go_sem,f]);exact x.out) (k2:F→Hold Y→DrK E h l K n (o::rest) (σ.set t (.c (.bool false))):=by intro f x;(try simp only[go_sem,f]);exact x.out):DrK E h l K n (o::rest) σ:=drk_split t (hb q) (fun e=>k1 q ⟨x (hp.t e)⟩) fun e=>k2 q ⟨y (hp.f e)⟩
end
end Go.AI
namespace Go.AI
open Go.PN
theorem POk.indexByte {P:Program} {h:Heap} {ρ:Operand→AV} {f:FuncId} {fn:Func} {x y:Operand} {ts:Array TypeId} {l:BS} {c:Int} (hf:P.funcs[f]?=some fn) (hname:(fn.name== "runtime.NumGoroutine")=false) (hb:fn.body.isNone=true) (hn:Extern.findNext fn=none) (he:Extern.find fn=some Extern.BytealgIndexByte.indexByte) (hk:ρ (.func f)=.c (.raw (.func (.func f) #[] #[]))) (hx:ρ x=.c (.str (sB l))) (hy:ρ y=.c (.int .u8 c)):
  POk P h ρ (.call {callee:=.value (.func f),args:= #[x,y],argTypes:=ts}) (.c (.int .i64 (Lib.indexByte l c.toNat.toUInt8))):=fun S w e _ ho _=>by
 have h1:e x=.string (sB l):=by have:=ho x (by simp [Op.operands,Call.operands]);rw [hx] at this;exact this
 have h2:e y=.int .u8 c:=by have:=ho y (by simp [Op.operands,Call.operands]);rw [hy] at this;exact this
 refine⟨.int .i64 (Lib.indexByte l c.toNat.toUInt8),fun o hop=> ?_,rfl⟩
 have:=run_callFunc_extern (P:=P) hf hname hb hn he #[.string (sB l),.int .u8 c] w
 rw [Lib.run_indexByteString] at this
 have h3:=ho (.func f) (by simp [Op.operands,Call.operands])
 rw [hk] at h3
 have h3':e (.func f)=.func (.func f) #[] #[]:=h3
 simp [execOp,hop,resolve,invoke,h3',h1,h2,Deferred.ofValue,this,Result.andThen]
end Go.AI
namespace Go.PN
theorem ixB_has (l:BS) (c:UInt8):decide (Lib.indexByte l c≥0)=l.contains c:=by
 induction l with
 |nil=>rfl
 |cons b l ih=>
  rw [List.contains_cons]
  unfold Lib.indexByte
  by_cases h:b=c
  ·subst h;simp
  ·have h1:(b==c)=false:=by simpa using h
   have h2:(c==b)=false:=by simpa using fun e=>h e.symm
   rw [h1,h2,Bool.false_or,←ih]
   by_cases h3:Lib.indexByte l c= -1
   ·rw [h3];rfl
   ·have:(Lib.indexByte l c== -1)=false:=by simpa using h3
    rw [this]
    have h4: -1≤Lib.indexByte l c:=by
     clear ih h1 h2 this h h3
     induction l with
     |nil=>unfold Lib.indexByte;decide
     |cons b l ih=>
      unfold Lib.indexByte
      split
      ·decide
      ·split
       ·decide
       ·omega
    simp only [Bool.false_eq_true,if_false]
    rw [decide_eq_decide]
    omega
theorem sgn_ix:∀n:Nat,n<256→[123,125,59,58,64].contains (n.toUInt8)=isSgn n:=by decide
theorem blk_ix:∀n:Nat,n<256→[32,9,10,13].contains (n.toUInt8)=isBlk n:=by decide
end Go.PN
namespace Go.Proofs.YteehccacfedolaaGreat
open Go.AI Go.PN
attribute [local irreducible] aw Fa Fh DrK
theorem tlet_fa (n:Nat):Fa Tryz.prog 74 [.c (.int .u8 n)] (.c (.bool (isLet n))):=by
 refine fa_of_body Tryz.func74 rfl rfl (by simp [Tryz.ntmps74]) fun C hC=> ?_
 simp only [initS,Nat.reduceAdd]
 repeat' first|refine yA1 o0 ?_|refine zW o0 ?_|refine yP o0 ?_|refine yN o0 ?_|refine zC o0 (fun hb=>?_) fun hb=>?_|refine zG o0 (fun hb=>?_) fun hb=>?_|refine zD o0 (fun hb=>?_) fun hb=>?_
 all_goals
  refine xT hC ?_
  exact .one (.c (ler_bool (by rw [Bool.eq_iff_iff];simp [isLet];omega)))
theorem tdig_fa (n:Nat):Fa Tryz.prog 76 [.c (.int .u8 n)] (.c (.bool (isDig n))):=by
 refine fa_of_body Tryz.func76 rfl rfl (by simp [Tryz.ntmps76]) fun C hC=> ?_
 simp only [initS,Nat.reduceAdd]
 repeat' first|refine yA1 o0 ?_|refine zW o0 ?_|refine yP o0 ?_|refine yN o0 ?_|refine zC o0 (fun hb=>?_) fun hb=>?_|refine zG o0 (fun hb=>?_) fun hb=>?_|refine zD o0 (fun hb=>?_) fun hb=>?_
 all_goals
  refine xT hC ?_
  exact .one (.c (ler_bool (by rw [Bool.eq_iff_iff];simp [isDig];omega)))
theorem rlet_fa (n:Nat):Fa Tryz.prog 50 [.c (.int .u8 n)] (.c (.bool (isLet n))):=by
 refine fa_of_body Tryz.func50 rfl rfl (by simp [Tryz.ntmps50]) fun C hC=> ?_
 simp only [initS,Nat.reduceAdd]
 repeat' first|refine yA1 o0 ?_|refine zW o0 ?_|refine yP o0 ?_|refine yN o0 ?_|refine zC o0 (fun hb=>?_) fun hb=>?_|refine zG o0 (fun hb=>?_) fun hb=>?_|refine zD o0 (fun hb=>?_) fun hb=>?_
 all_goals
  refine xT hC ?_
  exact .one (.c (ler_bool (by rw [Bool.eq_iff_iff];simp [isLet];omega)))
theorem rdig_fa (n:Nat):Fa Tryz.prog 53 [.c (.int .u8 n)] (.c (.bool (isDig n))):=by
 refine fa_of_body Tryz.func53 rfl rfl (by simp [Tryz.ntmps53]) fun C hC=> ?_
 simp only [initS,Nat.reduceAdd]
 repeat' first|refine yA1 o0 ?_|refine zW o0 ?_|refine yP o0 ?_|refine yN o0 ?_|refine zC o0 (fun hb=>?_) fun hb=>?_|refine zG o0 (fun hb=>?_) fun hb=>?_|refine zD o0 (fun hb=>?_) fun hb=>?_
 all_goals
  refine xT hC ?_
  exact .one (.c (ler_bool (by rw [Bool.eq_iff_iff];simp [isDig];omega)))
theorem rblk_fa (n:Nat):Fa Tryz.prog 49 [.c (.int .u8 n)] (.c (.bool (isBlk n))):=by
 refine fa_of_body Tryz.func49 rfl rfl (by simp [Tryz.ntmps49]) fun C hC=> ?_
 simp only [initS,Nat.reduceAdd]
 repeat' first|refine yA1 o0 ?_|refine zW o0 ?_|refine yP o0 ?_|refine yN o0 ?_|refine zC o0 (fun hb=>?_) fun hb=>?_|refine zG o0 (fun hb=>?_) fun hb=>?_|refine zD o0 (fun hb=>?_) fun hb=>?_
 all_goals
  refine xT hC ?_
  exact .one (.c (ler_bool (by rw [Bool.eq_iff_iff];simp [isBlk];omega)))
theorem rins_fa (n:Nat):Fa Tryz.prog 51 [.c (.int .u8 n)] (.c (.bool (isIns n))):=by
 refine fa_of_body Tryz.func51 rfl rfl (by simp [Tryz.ntmps51]) fun C hC=> ?_
 simp only [initS,Nat.reduceAdd]
 repeat' first|refine yA1 o0 ?_|(refine yC2 o0 (rlet_fa _) ?_)|(refine yD2 o0 (rlet_fa _) ?_)|(refine yC2 o0 (rdig_fa _) ?_)|(refine yD2 o0 (rdig_fa _) ?_)|refine zW o0 ?_|refine yP o0 ?_|refine yN o0 ?_|refine zC o0 (fun hb=>?_) fun hb=>?_|refine zG o0 (fun hb=>?_) fun hb=>?_|refine zD o0 (fun hb=>?_) fun hb=>?_
 all_goals
  refine xT hC ?_
  exact .one (.c (ler_bool (by rw [Bool.eq_iff_iff];simp_all [isIns];try omega)))
theorem ixs_fa (l:BS) (c:Nat):Fa Tryz.prog 152 [.c (.str (sB l)),.c (.int .u8 c)] (.c (.int .i64 (Lib.indexByte l c.toUInt8))):=by
 refine fa_of_body Tryz.func152 rfl rfl (by simp [Tryz.ntmps152]) fun C hC=> ?_
 simp only [initS,Nat.reduceAdd]
 refine xG ?_
 refine aw_pok (POk.indexByte Tryz.func173 rfl rfl rfl rfl eE rfl eE) rfl rfl ?_
 refine xSGT hC ?_
 exact .one (.c (.int _ _))
theorem ixb_fa (l:BS) (c:Nat):Fa Tryz.prog 117 [.c (.str (sB l)),.c (.int .u8 c)] (.c (.int .i64 (Lib.indexByte l c.toUInt8))):=by
 refine fa_of_body Tryz.func117 rfl rfl (by simp [Tryz.ntmps117]) fun C hC=> ?_
 simp only [initS,Nat.reduceAdd]
 repeat' first|refine yA1 o0 ?_|(refine yC2 o0 (ixs_fa l c) ?_)|(refine yD2 o0 (ixs_fa l c) ?_)|refine zW o0 ?_|refine yP o0 ?_|refine yN o0 ?_|refine zC o0 (fun hb=>?_) fun hb=>?_|refine zG o0 (fun hb=>?_) fun hb=>?_|refine zD o0 (fun hb=>?_) fun hb=>?_
 refine xT hC ?_
 exact .one (.c (.int _ _))
theorem tsgn_fa (n:Nat) (hn:n<256):Fa Tryz.prog 78 [.c (.int .u8 n)] (.c (.bool (isSgn n))):=by
 refine fa_of_body Tryz.func78 rfl rfl (by simp [Tryz.ntmps78]) fun C hC=> ?_
 simp only [initS,Nat.reduceAdd]
 repeat' first|refine yA1 o0 ?_|(refine yC2 o0 (ixb_fa [123,125,59,58,64] n) ?_)|(refine yD2 o0 (ixb_fa [123,125,59,58,64] n) ?_)|refine zW o0 ?_|refine yP o0 ?_|refine yN o0 ?_|refine zC o0 (fun hb=>?_) fun hb=>?_|refine zG o0 (fun hb=>?_) fun hb=>?_|refine zD o0 (fun hb=>?_) fun hb=>?_
 refine xT hC ?_
 exact .one (.c (ler_bool (by rw [ixB_has,sgn_ix n hn])))
theorem tblk_fa (n:Nat) (hn:n<256):Fa Tryz.prog 73 [.c (.int .u8 n)] (.c (.bool (isBlk n))):=by
 refine fa_of_body Tryz.func73 rfl rfl (by simp [Tryz.ntmps73]) fun C hC=> ?_
 simp only [initS,Nat.reduceAdd]
 repeat' first|refine yA1 o0 ?_|(refine yC2 o0 (ixb_fa [32,9,10,13] n) ?_)|(refine yD2 o0 (ixb_fa [32,9,10,13] n) ?_)|refine zW o0 ?_|refine yP o0 ?_|refine yN o0 ?_|refine zC o0 (fun hb=>?_) fun hb=>?_|refine zG o0 (fun hb=>?_) fun hb=>?_|refine zD o0 (fun hb=>?_) fun hb=>?_
 refine xT hC ?_
 exact .one (.c (ler_bool (by rw [ixB_has,blk_ix n hn])))
end Go.Proofs.YteehccacfedolaaGreat
namespace Go.PN
def nameB (s:BS):Bool:=decide (0<s.length)&&decide (s.length≤24)&&isLet (bAt s 0)&&decide (spanE isIns s 0=s.length)
theorem spanE_all {p:Nat→Bool} {l:BS}:∀(k i:Nat),l.length=i+k→(∀j,i≤j→j<l.length→p (bAt l j)=true)→spanE p l i=l.length
 |0,i,h,_=>by rw [spanE_out om];omega
 |k+1,i,h,hp=>by rw [spanE_yes om (hp i om om)];exact spanE_all k (i+1) om fun j h1 h2=>hp j om h2
theorem nameB_no {l:BS} (h:¬(0<l.length∧l.length≤24)∨isLet (bAt l 0)=false):nameB l=false:=by
 unfold nameB
 rcases h with h|h
 ·rw [←Bool.decide_and,decide_eq_false h];rfl
 ·rw [h];simp
end Go.PN
namespace Go.Proofs.YteehccacfedolaaGreat
open Go.AI Go.PN
attribute [local irreducible] aw Fa Fh DrK
theorem tdigs_fa (l:BS) (i:Nat) (hl:l.length≤1099511627776) (hi:i≤l.length):Fa Tryz.prog 118 [.c (.str (sB l)),.c (.int .i64 i)] (.c (.int .i64 (spanE isDig l i:Nat))):=by
 refine fa_of_body Tryz.func118 rfl rfl (by simp [Tryz.ntmps118]) fun C hC=> ?_
 simp only [initS,Nat.reduceAdd]
 refine xG ?_
 generalize hS:spanE isDig l i=S
 refine aw_lp (fun x:Nat=>[(0,.c (.str (sB l))),(1,.c (.int .i64 x))]) (fun _=>[]) (fun x=>x≤l.length∧spanE isDig l x=S) (fun x=>l.length-x) i eB zZ ⟨hi,hS⟩ ?_
 rintro x ⟨hx,hs⟩
 repeat' first|refine yA1 o0 ?_|(refine yC2 o0 (tdig_fa _) ?_)|(refine yD2 o0 (tdig_fa _) ?_)|refine zW o0 ?_|refine yP o0 ?_|refine yN o0 ?_|refine zC o0 (fun hb=>?_) fun hb=>?_|refine zG o0 (fun hb=>?_) fun hb=>?_|refine zD o0 (fun hb=>?_) fun hb=>?_
 ·refine aw_stop ⟨x+1,by omega,eB,zZ,by omega,?_⟩
  rw [←spanE_yes om (by assumption)];exact hs
 all_goals
  refine xT hC ?_
  refine .one (.c (ler_int ?_))
 ·rw [←hs,spanE_no om (by assumption)]
 ·rw [←hs,spanE_out om]
theorem rdigs_fa (l:BS) (i:Nat) (hl:l.length≤1099511627776) (hi:i≤l.length):Fa Tryz.prog 100 [.c (.str (sB l)),.c (.int .i64 i)] (.c (.int .i64 (spanE isDig l i:Nat))):=by
 refine fa_of_body Tryz.func100 rfl rfl (by simp [Tryz.ntmps100]) fun C hC=> ?_
 simp only [initS,Nat.reduceAdd]
 refine xG ?_
 generalize hS:spanE isDig l i=S
 refine aw_lp (fun x:Nat=>[(0,.c (.str (sB l))),(1,.c (.int .i64 x))]) (fun _=>[]) (fun x=>x≤l.length∧spanE isDig l x=S) (fun x=>l.length-x) i eB zZ ⟨hi,hS⟩ ?_
 rintro x ⟨hx,hs⟩
 repeat' first|refine yA1 o0 ?_|(refine yC2 o0 (rdig_fa _) ?_)|(refine yD2 o0 (rdig_fa _) ?_)|refine zW o0 ?_|refine yP o0 ?_|refine yN o0 ?_|refine zC o0 (fun hb=>?_) fun hb=>?_|refine zG o0 (fun hb=>?_) fun hb=>?_|refine zD o0 (fun hb=>?_) fun hb=>?_
 ·refine aw_stop ⟨x+1,by omega,eB,zZ,by omega,?_⟩
  rw [←spanE_yes om (by assumption)];exact hs
 all_goals
  refine xT hC ?_
  refine .one (.c (ler_int ?_))
 ·rw [←hs,spanE_no om (by assumption)]
 ·rw [←hs,spanE_out om]
theorem twend_fa (l:BS) (i:Nat) (hl:l.length≤1099511627776) (hi:i≤l.length):Fa Tryz.prog 75 [.c (.str (sB l)),.c (.int .i64 i)] (.c (.int .i64 (spanE isIns l i:Nat))):=by
 refine fa_of_body Tryz.func75 rfl rfl (by simp [Tryz.ntmps75]) fun C hC=> ?_
 simp only [initS,Nat.reduceAdd]
 refine xG ?_
 generalize hS:spanE isIns l i=S
 refine aw_lp (fun x:Nat=>[(0,.c (.str (sB l))),(1,.c (.int .i64 x))]) (fun _=>[]) (fun x=>x≤l.length∧spanE isIns l x=S) (fun x=>l.length-x) i eB zZ ⟨hi,hS⟩ ?_
 rintro x ⟨hx,hs⟩
 repeat' first|refine yA1 o0 ?_|(refine yC2 o0 (tlet_fa _) ?_)|(refine yD2 o0 (tlet_fa _) ?_)|(refine yC2 o0 (tdig_fa _) ?_)|(refine yD2 o0 (tdig_fa _) ?_)|refine zW o0 ?_|refine yP o0 ?_|refine yN o0 ?_|refine zC o0 (fun hb=>?_) fun hb=>?_|refine zG o0 (fun hb=>?_) fun hb=>?_|refine zD o0 (fun hb=>?_) fun hb=>?_
 all_goals first
  |(refine aw_stop ⟨x+1,by omega,eB,zZ,by omega,?_⟩
    rw [←spanE_yes om (by unfold isIns;simp_all)];exact hs)
  |(refine xT hC ?_
    refine .one (.c (ler_int ?_))
    first
     |(rw [←hs,spanE_out om];done)
     |(rw [←hs,spanE_no om (by unfold isIns;simp_all)]))
theorem num_w {l:BS} {i:Nat} (hl:l.length≤1099511627776) (hi:i≤l.length):∃e,spanE isDig l i=e∧e≤l.length:=⟨_,rfl,spanE_le hi⟩
theorem tnum_fa (l:BS) (i:Nat) (hl:l.length≤1099511627776) (hi:i≤l.length):Fa Tryz.prog 77 [.c (.str (sB l)),.c (.int .i64 i)] (.c (.int .i64 (numE l i:Nat))):=by
 unfold numE
 have h1:=tdigs_fa l i hl hi
 obtain⟨e,he,hel⟩:=num_w hl hi
 rw [he] at h1⊢
 refine fa_of_body Tryz.func77 rfl rfl (by simp [Tryz.ntmps77]) fun C hC=> ?_
 simp only [initS,Nat.reduceAdd]
 repeat' first|refine yA1 o0 ?_|(refine yC2 o0 (h1) ?_)|(refine yD2 o0 (h1) ?_)|(refine yC2 o0 (tdig_fa _) ?_)|(refine yD2 o0 (tdig_fa _) ?_)|(refine yC2 o0 (tdigs_fa l (e+1) hl ?_) ?_;· omega)|(refine yD2 o0 (tdigs_fa l (e+1) hl ?_) ?_;· omega)|refine zW o0 ?_|refine yP o0 ?_|refine yN o0 ?_|refine zC o0 (fun hb=>?_) fun hb=>?_|refine zG o0 (fun hb=>?_) fun hb=>?_|refine zD o0 (fun hb=>?_) fun hb=>?_
 all_goals
  refine xT hC ?_
  refine .one (.c (ler_int ?_))
  split<;>simp_all<;>omega
theorem rnum_fa (l:BS) (i:Nat) (hl:l.length≤1099511627776) (hi:i≤l.length):Fa Tryz.prog 54 [.c (.str (sB l)),.c (.int .i64 i)] (.c (.int .i64 (numE l i:Nat))):=by
 unfold numE
 have h1:=rdigs_fa l i hl hi
 obtain⟨e,he,hel⟩:=num_w hl hi
 rw [he] at h1⊢
 refine fa_of_body Tryz.func54 rfl rfl (by simp [Tryz.ntmps54]) fun C hC=> ?_
 simp only [initS,Nat.reduceAdd]
 repeat' first|refine yA1 o0 ?_|(refine yC2 o0 (h1) ?_)|(refine yD2 o0 (h1) ?_)|(refine yC2 o0 (rdig_fa _) ?_)|(refine yD2 o0 (rdig_fa _) ?_)|(refine yC2 o0 (rdigs_fa l (e+1) hl ?_) ?_;· omega)|(refine yD2 o0 (rdigs_fa l (e+1) hl ?_) ?_;· omega)|refine zW o0 ?_|refine yP o0 ?_|refine yN o0 ?_|refine zC o0 (fun hb=>?_) fun hb=>?_|refine zG o0 (fun hb=>?_) fun hb=>?_|refine zD o0 (fun hb=>?_) fun hb=>?_
 all_goals
  refine xT hC ?_
  refine .one (.c (ler_int ?_))
  split<;>simp_all<;>omega
theorem tname_fa (l:BS) (hl:l.length≤1099511627776):Fa Tryz.prog 40 [.c (.str (sB l))] (.c (.bool (nameB l))):=by
 have hw:=twend_fa l 0 hl (Nat.zero_le _)
 unfold nameB
 refine fa_of_body Tryz.func40 rfl rfl (by simp [Tryz.ntmps40]) fun C hC=> ?_
 simp only [initS,Nat.reduceAdd]
 repeat' first|refine yA1 o0 ?_|(refine yC2 o0 (tlet_fa _) ?_)|(refine yD2 o0 (tlet_fa _) ?_)|(refine yC2 o0 (hw) ?_)|(refine yD2 o0 (hw) ?_)|refine zW o0 ?_|refine yP o0 ?_|refine yN o0 ?_|refine zC o0 (fun hb=>?_) fun hb=>?_|refine zG o0 (fun hb=>?_) fun hb=>?_|refine zD o0 (fun hb=>?_) fun hb=>?_
 all_goals
  refine xT hC ?_
  refine .one (.c (ler_bool ?_))
  first|(simp_all;done)|(simp_all;omega)|(rw [Bool.eq_iff_iff];simp_all;done)|(rw [Bool.eq_iff_iff];simp_all;omega)
theorem rname_fa (l:BS) (hl:l.length≤1099511627776):Fa Tryz.prog 104 [.c (.str (sB l))] (.c (.bool (nameB l))):=by
 refine fa_of_body Tryz.func104 rfl rfl (by simp [Tryz.ntmps104]) fun C hC=> ?_
 simp only [initS,Nat.reduceAdd]
 repeat' first|refine yA1 o0 ?_|(refine yC2 o0 (rlet_fa _) ?_)|(refine yD2 o0 (rlet_fa _) ?_)|refine zW o0 ?_|refine yP o0 ?_|refine yN o0 ?_|refine zC o0 (fun hb=>?_) fun hb=>?_|refine zG o0 (fun hb=>?_) fun hb=>?_|refine zD o0 (fun hb=>?_) fun hb=>?_
 all_goals first
  |(refine xT hC ?_
    refine .one (.c (ler_bool (nameB_no ?_).symm))
    first|(left;omega)|(right;simp_all))
  |skip
 refine aw_lp (fun x:Nat=>[(0,.c (.str (sB l))),(19,.c (.int .i64 l.length)),(20,.c (.int .i64 x))]) (fun _=>[]) (fun x=>x≤l.length∧∀j,j<x→isIns (bAt l j)=true) (fun x=>l.length-x) 0 eB zZ ⟨Nat.zero_le _,by omega⟩ ?_
 rintro x ⟨hx,hs⟩
 repeat' first|refine yA1 o0 ?_|(refine yC2 o0 (rins_fa _) ?_)|(refine yD2 o0 (rins_fa _) ?_)|refine zW o0 ?_|refine yP o0 ?_|refine yN o0 ?_|refine zC o0 (fun hb=>?_) fun hb=>?_|refine zG o0 (fun hb=>?_) fun hb=>?_|refine zD o0 (fun hb=>?_) fun hb=>?_
 ·refine xT hC ?_
  refine .one (.c (ler_bool (Eq.symm ?_)))
  cases hn:nameB l with
  |false=>rfl
  |true=>
   unfold nameB at hn
   simp only [Bool.and_eq_true,decide_eq_true_eq] at hn
   have h1:=spanE_in (p:=isIns) (l:=l) l.length 0 om x om om
   simp_all
 ·refine aw_stop ⟨x+1,by omega,eB,zZ,by omega,fun j hj=> ?_⟩
  by_cases e:j=x
  ·subst e;simp_all
  ·exact hs j om
 ·refine xT hC ?_
  refine .one (.c (ler_bool ?_))
  unfold nameB
  rw [spanE_all l.length 0 om fun j _ hj=>hs j om,decide_eq_true (show 0<l.length from by omega),decide_eq_true (show l.length≤24 from by omega),decide_eq_true (rfl:l.length=l.length)]
  simp_all
end Go.Proofs.YteehccacfedolaaGreat
