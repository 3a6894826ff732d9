/- Parts of one proof, laid by a program. -/
import Derived.Test.YteocnikcjjonbaaGreatM00
import Derived.Test.YteocnikcjjonbaaGreatM05
import Derived.Lib.Bytealg
set_option linter.unusedSimpArgs false
set_option linter.unusedVariables false
set_option maxRecDepth 100000
set_option maxHeartbeats 12800000
namespace Go.PN
open Go.AI
theorem natB_take {s:BS} {i:Nat} (h:i<s.length):natB (s.take (i+1))=natB (s.take i)*10+(bAt s i-48):=by
 unfold natB
 rw [List.take_succ_eq_append_getElem h,List.foldl_append,bAt_get h];rfl
theorem dig_le {n:Nat} (h:isDig n=true):48≤n∧n≤57:=by
 unfold isDig at h
 simp only [Bool.and_eq_true,decide_eq_true_eq] at h
 exact h
theorem natB_lt {s:BS} (hd:∀i,i<s.length→isDig (bAt s i)=true):∀i,i≤s.length→natB (s.take i)<10^i
 |0,_=>by simp [natB]
 |i+1,h=>by
  have h1:=natB_lt hd i om
  have h2:=dig_le (hd i om)
  rw [natB_take om,Nat.pow_succ]
  omega
theorem nat_fits {n L:Nat} (h:n<4294967296^L) (hL:1≤L):fits (n:Rat) L:=by
 have h1:(1:Nat)<4294967296^L:=Nat.one_lt_pow om (by decide)
 exact⟨by simpa using h,by simpa using h1⟩
theorem pow10_lt (k:Nat):10^k<4294967296^(k+1):=Nat.lt_of_le_of_lt (Nat.pow_le_pow_left (by decide) k) (Nat.pow_lt_pow_right (by decide) om)
theorem natB_fits {s:BS} (hd:∀i,i<s.length→isDig (bAt s i)=true) {i:Nat} (hi:i≤s.length):fits (natB (s.take i):Rat) (i+1):=
 nat_fits (Nat.lt_trans (natB_lt hd i hi) (pow10_lt i)) om
theorem step10 {s:BS} {i:Nat} (h:i<s.length) (hd:isDig (bAt s i)=true):(natB (s.take i):Rat)*((10:Int):Rat)+(((bAt s i:Nat):Int)-48:Int)=(natB (s.take (i+1)):Rat):=by
 have h2:=dig_le hd
 rw [natB_take h]
 have:(((bAt s i:Nat):Int)-48:Int)=((bAt s i-48:Nat):Int):=by omega
 rw [this]
 push_cast
 rfl
theorem fitsZ {n:Int} (h:n.natAbs<4294967296):fits (n:Rat) 1:=⟨by simpa using h,by simp⟩
end Go.PN
namespace Go.Proofs.YteocnikcjjonbaaGreat
open Go.AI Go.PN
theorem zero_cells:∀j,j<3→∀(S:Bool→Nat→Prop) w u,RepC S w (ofL [.bool false,.nils,.nils] j) u→RepC S w (ofL (rdc rd0) j) u:=fun j hj S w u hr=>by
 match j,hj with
 |0,_=>exact hr
 |1,_=>exact repC_nil hr
 |2,_=>exact repC_nil hr
attribute [local irreducible] aw Fa Fh DrK
theorem twhole_fa (s:BS) (hd:∀i,i<s.length→isDig (bAt s i)=true) (hl:s.length≤1000):Fa Tryz.prog 164 [.c (.str (sB s))] (.agg (rdc (rd (natB s:Rat)))):=by
 refine fa_of_body Tryz.func164 rfl rfl (by simp [Tryz.ntmps164]) fun C hC=> ?_
 simp only [initS,Nat.reduceAdd]
 repeat' first|refine yA1 o0 ?_|(refine xW ?_;refine xS ?_)|refine xP ?_|refine xN ?_|refine aw_cd eE (fun hb=>?_) (fun hb=>?_)|refine aw_ce eE (fun hb=>?_) (fun hb=>?_)|refine aw_cn eE (fun hb=>?_) (fun hb=>?_)|(refine xF (fun hb=>?_) (fun hb=>?_)<;>fail_if_success (cases hb;done))|(refine aw_gsd rfl rfl eE (fun hb=>?_) (fun hb=>?_)<;>refine xS ?_)|(refine aw_gse rfl rfl eE (fun hb=>?_) (fun hb=>?_)<;>refine xS ?_)|(refine aw_gsn rfl rfl eE (fun hb=>?_) (fun hb=>?_)<;>refine xS ?_)|(refine aw_gs rfl rfl eE (fun hb=>?_) (fun hb=>?_)<;>fail_if_success (cases hb;done)<;>refine xS ?_)|(refine drk_gsd rfl rfl eE (fun hb=>?_) (fun hb=>?_)<;>refine xS ?_)|(refine drk_gse rfl rfl eE (fun hb=>?_) (fun hb=>?_)<;>refine xS ?_)|(refine drk_gsn rfl rfl eE (fun hb=>?_) (fun hb=>?_)<;>refine xS ?_)|(refine drk_gs rfl rfl eE (fun hb=>?_) (fun hb=>?_)<;>fail_if_success (cases hb;done)<;>refine xS ?_)
 refine xA fun g2 hn_g2=>?_
 repeat' first|refine yA1 hn_g2 ?_|(refine yW hn_g2 ?_;refine yS hn_g2 ?_)|refine yP hn_g2 ?_|refine yN hn_g2 ?_|refine aw_cd (zE hn_g2) (fun hb=>?_) (fun hb=>?_)|refine aw_ce (zE hn_g2) (fun hb=>?_) (fun hb=>?_)|refine aw_cn (zE hn_g2) (fun hb=>?_) (fun hb=>?_)|(refine yF hn_g2 (fun hb=>?_) (fun hb=>?_)<;>fail_if_success (cases hb;done))|(refine aw_gsd rfl rfl (zE hn_g2) (fun hb=>?_) (fun hb=>?_)<;>refine yS hn_g2 ?_)|(refine aw_gse rfl rfl (zE hn_g2) (fun hb=>?_) (fun hb=>?_)<;>refine yS hn_g2 ?_)|(refine aw_gsn rfl rfl (zE hn_g2) (fun hb=>?_) (fun hb=>?_)<;>refine yS hn_g2 ?_)|(refine aw_gs rfl rfl (zE hn_g2) (fun hb=>?_) (fun hb=>?_)<;>fail_if_success (cases hb;done)<;>refine yS hn_g2 ?_)|(refine drk_gsd rfl rfl (zE hn_g2) (fun hb=>?_) (fun hb=>?_)<;>refine yS hn_g2 ?_)|(refine drk_gse rfl rfl (zE hn_g2) (fun hb=>?_) (fun hb=>?_)<;>refine yS hn_g2 ?_)|(refine drk_gsn rfl rfl (zE hn_g2) (fun hb=>?_) (fun hb=>?_)<;>refine yS hn_g2 ?_)|(refine drk_gs rfl rfl (zE hn_g2) (fun hb=>?_) (fun hb=>?_)<;>fail_if_success (cases hb;done)<;>refine yS hn_g2 ?_)
 refine yA hn_g2 fun g3 hn_g3=>?_
 repeat' first|refine yA1 (oj hn_g2 hn_g3) ?_|(refine yW (oj hn_g2 hn_g3) ?_;refine yS (oj hn_g2 hn_g3) ?_)|refine yP (oj hn_g2 hn_g3) ?_|refine yN (oj hn_g2 hn_g3) ?_|refine aw_cd (zE (oj hn_g2 hn_g3)) (fun hb=>?_) (fun hb=>?_)|refine aw_ce (zE (oj hn_g2 hn_g3)) (fun hb=>?_) (fun hb=>?_)|refine aw_cn (zE (oj hn_g2 hn_g3)) (fun hb=>?_) (fun hb=>?_)|(refine yF (oj hn_g2 hn_g3) (fun hb=>?_) (fun hb=>?_)<;>fail_if_success (cases hb;done))|(refine aw_gsd rfl rfl (zE (oj hn_g2 hn_g3)) (fun hb=>?_) (fun hb=>?_)<;>refine yS (oj hn_g2 hn_g3) ?_)|(refine aw_gse rfl rfl (zE (oj hn_g2 hn_g3)) (fun hb=>?_) (fun hb=>?_)<;>refine yS (oj hn_g2 hn_g3) ?_)|(refine aw_gsn rfl rfl (zE (oj hn_g2 hn_g3)) (fun hb=>?_) (fun hb=>?_)<;>refine yS (oj hn_g2 hn_g3) ?_)|(refine aw_gs rfl rfl (zE (oj hn_g2 hn_g3)) (fun hb=>?_) (fun hb=>?_)<;>fail_if_success (cases hb;done)<;>refine yS (oj hn_g2 hn_g3) ?_)|(refine drk_gsd rfl rfl (zE (oj hn_g2 hn_g3)) (fun hb=>?_) (fun hb=>?_)<;>refine yS (oj hn_g2 hn_g3) ?_)|(refine drk_gse rfl rfl (zE (oj hn_g2 hn_g3)) (fun hb=>?_) (fun hb=>?_)<;>refine yS (oj hn_g2 hn_g3) ?_)|(refine drk_gsn rfl rfl (zE (oj hn_g2 hn_g3)) (fun hb=>?_) (fun hb=>?_)<;>refine yS (oj hn_g2 hn_g3) ?_)|(refine drk_gs rfl rfl (zE (oj hn_g2 hn_g3)) (fun hb=>?_) (fun hb=>?_)<;>fail_if_success (cases hb;done)<;>refine yS (oj hn_g2 hn_g3) ?_)
 refine aw_convR (f':=ofL (rdc rd0)) zero_cells ?_
 refine aw_lp (fun x:Nat=>[(0,.c (.str (sB s))),(2,.c (.optr g2 0)),(3,.c (.optr g3 0)),(7,.c (.int .i64 s.length)),(8,.c (.int .i64 x))]) (fun x=>[(g3,.cells 59 3 (ofL (rdc (rd (natB (s.take x):Rat))))),(g2,.cells 59 3 (ofL [.bool false,.nils,.nils]))]) (fun x=>x≤s.length) (fun x=>s.length-x) 0 (zB (oj hn_g2 hn_g3)) (by rw [show rd (natB (s.take 0):Rat)=rd0 from rd_zero];exact List.Sublist.refl _) (Nat.zero_le _) ?_
 rintro x hx
 repeat' first|refine yA1 (oj hn_g2 hn_g3) ?_|(refine yW (oj hn_g2 hn_g3) ?_;refine yS (oj hn_g2 hn_g3) ?_)|refine yP (oj hn_g2 hn_g3) ?_|refine yN (oj hn_g2 hn_g3) ?_|refine aw_cd (zE (oj hn_g2 hn_g3)) (fun hb=>?_) (fun hb=>?_)|refine aw_ce (zE (oj hn_g2 hn_g3)) (fun hb=>?_) (fun hb=>?_)|refine aw_cn (zE (oj hn_g2 hn_g3)) (fun hb=>?_) (fun hb=>?_)|(refine yF (oj hn_g2 hn_g3) (fun hb=>?_) (fun hb=>?_)<;>fail_if_success (cases hb;done))|(refine aw_gsd rfl rfl (zE (oj hn_g2 hn_g3)) (fun hb=>?_) (fun hb=>?_)<;>refine yS (oj hn_g2 hn_g3) ?_)|(refine aw_gse rfl rfl (zE (oj hn_g2 hn_g3)) (fun hb=>?_) (fun hb=>?_)<;>refine yS (oj hn_g2 hn_g3) ?_)|(refine aw_gsn rfl rfl (zE (oj hn_g2 hn_g3)) (fun hb=>?_) (fun hb=>?_)<;>refine yS (oj hn_g2 hn_g3) ?_)|(refine aw_gs rfl rfl (zE (oj hn_g2 hn_g3)) (fun hb=>?_) (fun hb=>?_)<;>fail_if_success (cases hb;done)<;>refine yS (oj hn_g2 hn_g3) ?_)|(refine drk_gsd rfl rfl (zE (oj hn_g2 hn_g3)) (fun hb=>?_) (fun hb=>?_)<;>refine yS (oj hn_g2 hn_g3) ?_)|(refine drk_gse rfl rfl (zE (oj hn_g2 hn_g3)) (fun hb=>?_) (fun hb=>?_)<;>refine yS (oj hn_g2 hn_g3) ?_)|(refine drk_gsn rfl rfl (zE (oj hn_g2 hn_g3)) (fun hb=>?_) (fun hb=>?_)<;>refine yS (oj hn_g2 hn_g3) ?_)|(refine drk_gs rfl rfl (zE (oj hn_g2 hn_g3)) (fun hb=>?_) (fun hb=>?_)<;>fail_if_success (cases hb;done)<;>refine yS (oj hn_g2 hn_g3) ?_)
 ·have hdx:=hd x hb
  have hx':=dig_le hdx
  have w0:(rd (natB (s.take x):Rat)).wf 1073741824:=rd_wf (fits_mono (natB_fits hd hx) om)
  have h10:=rof_fa 10 om om
  have w1:(rd ((10:Int):Rat)).wf 1073741824:=rd_wf (fits_mono (L:=1) ⟨by decide,by decide⟩ om)
  have hm:=rmul_fa _ _ w0 w1
  have w2:(rd ((natB (s.take x):Rat)*((10:Int):Rat))).wf 1073741824:=rd_wf (fits_mono (fits_mul (natB_fits hd hx) (L:=x+1) (M:=1) ⟨by decide,by decide⟩) om)
  rw [rd_q,rd_q] at hm
  have hs:=rof_fa (((bAt s x:Nat):Int)-48) om om
  have w3:(rd ((((bAt s x:Nat):Int)-48:Int):Rat)).wf 1073741824:=rd_wf (fits_mono (fitsZ om) om)
  have ha:=radd_fa _ _ w2 w3
  rw [rd_q,rd_q,step10 hb hdx] at ha
  refine aw_dr 10 ty_mixed (by kernel_rfl) ?_
  repeat' first|refine yA1 (oj hn_g2 hn_g3) ?_|(refine yC2 (oj hn_g2 hn_g3) (h10) ?_)|(refine yD2 (oj hn_g2 hn_g3) (h10) ?_)|(refine yC2 (oj hn_g2 hn_g3) (hm) ?_)|(refine yD2 (oj hn_g2 hn_g3) (hm) ?_)|(refine yC2 (oj hn_g2 hn_g3) (hs) ?_)|(refine yD2 (oj hn_g2 hn_g3) (hs) ?_)|(refine yC2 (oj hn_g2 hn_g3) (ha) ?_)|(refine yD2 (oj hn_g2 hn_g3) (ha) ?_)|(refine yW (oj hn_g2 hn_g3) ?_;refine yS (oj hn_g2 hn_g3) ?_)|refine yP (oj hn_g2 hn_g3) ?_|refine yN (oj hn_g2 hn_g3) ?_|refine aw_cd (zE (oj hn_g2 hn_g3)) (fun hb=>?_) (fun hb=>?_)|refine aw_ce (zE (oj hn_g2 hn_g3)) (fun hb=>?_) (fun hb=>?_)|refine aw_cn (zE (oj hn_g2 hn_g3)) (fun hb=>?_) (fun hb=>?_)|(refine yF (oj hn_g2 hn_g3) (fun hb=>?_) (fun hb=>?_)<;>fail_if_success (cases hb;done))|(refine aw_gsd rfl rfl (zE (oj hn_g2 hn_g3)) (fun hb=>?_) (fun hb=>?_)<;>refine yS (oj hn_g2 hn_g3) ?_)|(refine aw_gse rfl rfl (zE (oj hn_g2 hn_g3)) (fun hb=>?_) (fun hb=>?_)<;>refine yS (oj hn_g2 hn_g3) ?_)|(refine aw_gsn rfl rfl (zE (oj hn_g2 hn_g3)) (fun hb=>?_) (fun hb=>?_)<;>refine yS (oj hn_g2 hn_g3) ?_)|(refine aw_gs rfl rfl (zE (oj hn_g2 hn_g3)) (fun hb=>?_) (fun hb=>?_)<;>fail_if_success (cases hb;done)<;>refine yS (oj hn_g2 hn_g3) ?_)|(refine drk_gsd rfl rfl (zE (oj hn_g2 hn_g3)) (fun hb=>?_) (fun hb=>?_)<;>refine yS (oj hn_g2 hn_g3) ?_)|(refine drk_gse rfl rfl (zE (oj hn_g2 hn_g3)) (fun hb=>?_) (fun hb=>?_)<;>refine yS (oj hn_g2 hn_g3) ?_)|(refine drk_gsn rfl rfl (zE (oj hn_g2 hn_g3)) (fun hb=>?_) (fun hb=>?_)<;>refine yS (oj hn_g2 hn_g3) ?_)|(refine drk_gs rfl rfl (zE (oj hn_g2 hn_g3)) (fun hb=>?_) (fun hb=>?_)<;>fail_if_success (cases hb;done)<;>refine yS (oj hn_g2 hn_g3) ?_)
  exact aw_stop ⟨x+1,by omega,(zB (oj hn_g2 hn_g3)),List.Sublist.refl _,by omega⟩
 ·refine yT hC (oj hn_g2 hn_g3) ?_
  obtain rfl:x=s.length:=by omega
  rw [List.take_length]
  exact .one (.agg lerl_rd)
end Go.Proofs.YteocnikcjjonbaaGreat
namespace Go.PN
open Go.AI
theorem idxB_le (b:UInt8) (s:BS):idxB b s≤s.length:=(List.takeWhile_sublist _).length_le
theorem ixB_val (b:UInt8):∀s:BS,Lib.indexByte s b=if idxB b s<s.length then(idxB b s:Int) else-1
 |[]=>rfl
 |x::s=>by
  have ih:=ixB_val b s
  have hle:=idxB_le b s
  unfold Lib.indexByte
  by_cases h:x=b
  ·subst h
   have:idxB x (x::s)=0:=by unfold idxB;rw [List.takeWhile_cons_of_neg (by simp)];rfl
   rw [this];simp
  ·have h1:(x==b)=false:=by simpa using h
   have h2:idxB b (x::s)=idxB b s+1:=by unfold idxB;rw [List.takeWhile_cons_of_pos (by simpa using h)];rfl
   rw [h1,h2,List.length_cons]
   simp only [Bool.false_eq_true,if_false]
   rw [ih]
   by_cases h3:idxB b s<s.length
   ·have:((idxB b s:Int)== -1)=false:=by simp
    rw [if_pos h3,if_pos (show idxB b s+1<s.length+1 from by omega),this];simp
   ·rw [if_neg h3,if_neg (show¬idxB b s+1<s.length+1 from by omega)];rfl
theorem idxB_at {b:UInt8}:∀{s:BS} {e:Nat},e<s.length→s.getD e 0=b→(∀j,j<e→s.getD j 0≠b)→idxB b s=e
 |x::s,0,_,h,_=>by
  have:x=b:=by simpa using h
  unfold idxB;rw [List.takeWhile_cons_of_neg (by simp [this])];rfl
 |x::s,e+1,hl,h,hn=>by
  have h0:x≠b:=by simpa using hn 0 om
  have h2:idxB b (x::s)=idxB b s+1:=by unfold idxB;rw [List.takeWhile_cons_of_pos (by simpa using h0)];rfl
  rw [h2,idxB_at (s:=s) (e:=e) (by simpa using hl) (by simpa using h) fun j hj=>by simpa using hn (j+1) om]
theorem idxB_no {b:UInt8}:∀{s:BS},(∀j,j<s.length→s.getD j 0≠b)→idxB b s=s.length
 |[],_=>rfl
 |x::s,hn=>by
  have h0:x≠b:=by simpa using hn 0 (by simp)
  have h2:idxB b (x::s)=idxB b s+1:=by unfold idxB;rw [List.takeWhile_cons_of_pos (by simpa using h0)];rfl
  rw [h2,idxB_no (s:=s) fun j hj=>by simpa using hn (j+1) (by simpa using hj)];rfl
theorem byte_ne {s:BS} {j:Nat} {b:UInt8} (h:bAt s j≠b.toNat):s.getD j 0≠b:=fun e=>h (by unfold bAt;rw [e])
theorem byte_eq {s:BS} {j:Nat} {b:UInt8} (h:bAt s j=b.toNat):s.getD j 0=b:=UInt8.toNat_inj.1 h
inductive NumF (s:BS):Prop where
 |all (h:∀i,i<s.length→isDig (bAt s i)=true)
 |two (e:Nat) (he:e+1<s.length) (hm:bAt s e=46∨bAt s e=47) (h1:∀i,i<e→isDig (bAt s i)=true) (h2:∀i,e<i→i<s.length→isDig (bAt s i)=true)
theorem spanE_dig {s:BS} {i:Nat}:∀j,i≤j→j<spanE isDig s i→isDig (bAt s j)=true:=fun j h1 h2=>spanE_in (p:=isDig) (spanE isDig s i-i) i (by have:=spanE_ge isDig s i;omega) j h1 (by have:=spanE_ge isDig s i;omega)
theorem num_form {s:BS} (h:isNum s=true):NumF s∧0<s.length:=by
 unfold isNum at h
 simp only [Bool.and_eq_true,decide_eq_true_eq,beq_iff_eq] at h
 obtain⟨⟨h0,_⟩,h2⟩:=h
 refine⟨?_,h0⟩
 unfold numE at h2
 split at h2
 ·rename_i h3
  refine .two (spanE isDig s 0) h3.1 h3.2.1 (fun i hi=>spanE_dig i (Nat.zero_le _) hi) fun i hi hl=>spanE_dig (i:=spanE isDig s 0+1) i (Nat.succ_le_of_lt hi) (by rw [h2];exact hl)
 ·exact .all fun i hi=>spanE_dig i (Nat.zero_le _) (by rw [h2];exact hi)
theorem cutS_take (s:BS) (e:Nat):cutS s 0 e=s.take e:=by unfold cutS;simp
theorem cutS_drop (s:BS) (e:Nat):cutS s e s.length=s.drop e:=by unfold cutS;exact List.take_of_length_le (by simp)
theorem bAt_take {s:BS} {e i:Nat} (h:i<e):bAt (s.take e) i=bAt s i:=by
 unfold bAt
 rw [List.getD_eq_getElem?_getD,List.getD_eq_getElem?_getD,List.getElem?_take,if_pos h]
theorem bAt_drop (s:BS) (e i:Nat):bAt (s.drop e) i=bAt s (e+i):=by
 unfold bAt
 rw [List.getD_eq_getElem?_getD,List.getD_eq_getElem?_getD,List.getElem?_drop]
theorem dig_take {s:BS} {e:Nat} (h1:∀i,i<e→isDig (bAt s i)=true):∀i,i<(s.take e).length→isDig (bAt (s.take e) i)=true:=fun i hi=>by
 have:i<e:=by rw [List.length_take] at hi;omega
 rw [bAt_take this];exact h1 i this
theorem dig_drop {s:BS} {e:Nat} (h2:∀i,e<i→i<s.length→isDig (bAt s i)=true):∀i,i<(s.drop (e+1)).length→isDig (bAt (s.drop (e+1)) i)=true:=fun i hi=>by
 rw [List.length_drop] at hi
 rw [bAt_drop];exact h2 _ om om
theorem ix_all {s:BS} (h:∀i,i<s.length→isDig (bAt s i)=true):idxB 47 s=s.length∧idxB 46 s=s.length:=by
 have hd:∀i,i<s.length→48≤bAt s i:=fun i hi=>by have:=h i hi;unfold isDig at this;simp at this;omega
 exact⟨idxB_no fun j hj=>byte_ne (by have:=hd j hj;show bAt s j≠47;omega),idxB_no fun j hj=>byte_ne (by have:=hd j hj;show bAt s j≠46;omega)⟩
theorem ix_slash {s:BS} {e:Nat} (he:e+1<s.length) (hm:bAt s e=47) (h1:∀i,i<e→isDig (bAt s i)=true):idxB 47 s=e:=by
 have hd:∀i,i<e→48≤bAt s i:=fun i hi=>by have:=h1 i hi;unfold isDig at this;simp at this;omega
 exact idxB_at om (byte_eq hm) fun j hj=>byte_ne (by have:=hd j hj;show bAt s j≠47;omega)
theorem ix_point {s:BS} {e:Nat} (he:e+1<s.length) (hm:bAt s e=46) (h1:∀i,i<e→isDig (bAt s i)=true) (h2:∀i,e<i→i<s.length→isDig (bAt s i)=true):idxB 47 s=s.length∧idxB 46 s=e:=by
 have hd:∀i,i<s.length→i≠e→48≤bAt s i:=fun i hi hn=>by
  have:isDig (bAt s i)=true:=by
   by_cases h:i<e
   ·exact h1 i h
   ·exact h2 i om hi
  unfold isDig at this;simp at this;omega
 refine⟨idxB_no fun j hj=>byte_ne ?_,idxB_at om (byte_eq hm) fun j hj=>byte_ne (by have:=hd j om om;show bAt s j≠46;omega)⟩
 show bAt s j≠47
 by_cases h:j=e
 ·rw [h,hm];decide
 ·have:=hd j hj h;omega
end Go.PN
namespace Go.PN
theorem pow10_ne (k:Nat):((10^k:Nat):Rat)≠0:=by
 have h:(10^k:Nat)≠0:=Nat.pos_iff_ne_zero.1 (Nat.pow_pos (by decide))
 intro e
 exact h (by exact_mod_cast e)
end Go.PN
namespace Go.Proofs.YteocnikcjjonbaaGreat
open Go.AI Go.PN
attribute [local irreducible] aw Fa Fh DrK
theorem index1_fa (s:BS) (b:UInt8):Fa Tryz.prog 204 [.c (.str (sB s)),.c (.str (sB [b]))] (.c (.int .i64 (Lib.indexByte s b))):=by
 have h:=ixs_fa s b.toNat
 rw [show b.toNat.toUInt8=b from UInt8.ofNat_toNat] at h
 refine fa_of_body Tryz.func204 rfl rfl (by simp [Tryz.ntmps204]) fun C hC=> ?_
 simp only [initS,Nat.reduceAdd]
 repeat' first|refine yA1 o0 ?_|(refine yC2 o0 (h) ?_)|(refine yD2 o0 (h) ?_)|(refine xW ?_;refine xS ?_)|refine xP ?_|refine xN ?_|refine aw_cd eE (fun hb=>?_) (fun hb=>?_)|refine aw_ce eE (fun hb=>?_) (fun hb=>?_)|refine aw_cn eE (fun hb=>?_) (fun hb=>?_)|(refine xF (fun hb=>?_) (fun hb=>?_)<;>fail_if_success (cases hb;done))|(refine aw_gsd rfl rfl eE (fun hb=>?_) (fun hb=>?_)<;>refine xS ?_)|(refine aw_gse rfl rfl eE (fun hb=>?_) (fun hb=>?_)<;>refine xS ?_)|(refine aw_gsn rfl rfl eE (fun hb=>?_) (fun hb=>?_)<;>refine xS ?_)|(refine aw_gs rfl rfl eE (fun hb=>?_) (fun hb=>?_)<;>fail_if_success (cases hb;done)<;>refine xS ?_)|(refine drk_gsd rfl rfl eE (fun hb=>?_) (fun hb=>?_)<;>refine xS ?_)|(refine drk_gse rfl rfl eE (fun hb=>?_) (fun hb=>?_)<;>refine xS ?_)|(refine drk_gsn rfl rfl eE (fun hb=>?_) (fun hb=>?_)<;>refine xS ?_)|(refine drk_gs rfl rfl eE (fun hb=>?_) (fun hb=>?_)<;>fail_if_success (cases hb;done)<;>refine xS ?_)
 ·refine xT hC ?_
  have hs:=hb
  subst hs
  refine .one (.c (ler_int ?_))
  unfold Lib.indexByte;simp
 ·refine xT hC ?_
  exact .one (.c (.int _ _))
theorem cutY_fa (s:BS) (b:UInt8) (hl:s.length≤1099511627776) (h:idxB b s<s.length):Fa Tryz.prog 162 [.c (.str (sB s)),.c (.str (sB [b]))] (.tup [.c (.str (sB (s.take (idxB b s)))),.c (.str (sB (s.drop (idxB b s+1)))),.c (.bool true)]):=by
 have h1:=index1_fa s b
 rw [ixB_val,if_pos h] at h1
 have h2:Fa Tryz.prog 182 [.c (.str (sB s)),.c (.str (sB [b]))] (.tup [.c (.str (sB (s.take (idxB b s)))),.c (.str (sB (s.drop (idxB b s+1)))),.c (.bool true)]):=by
  generalize idxB b s=e at*
  refine fa_of_body Tryz.func182 rfl rfl (by simp [Tryz.ntmps182]) fun C hC=> ?_
  simp only [initS,Nat.reduceAdd]
  repeat' first|refine yA1 o0 ?_|(refine yC2 o0 (h1) ?_)|(refine yD2 o0 (h1) ?_)|(refine xW ?_;refine xS ?_)|refine xP ?_|refine xN ?_|refine aw_cd eE (fun hb=>?_) (fun hb=>?_)|refine aw_ce eE (fun hb=>?_) (fun hb=>?_)|refine aw_cn eE (fun hb=>?_) (fun hb=>?_)|(refine xF (fun hb=>?_) (fun hb=>?_)<;>fail_if_success (cases hb;done))|(refine aw_gsd rfl rfl eE (fun hb=>?_) (fun hb=>?_)<;>refine xS ?_)|(refine aw_gse rfl rfl eE (fun hb=>?_) (fun hb=>?_)<;>refine xS ?_)|(refine aw_gsn rfl rfl eE (fun hb=>?_) (fun hb=>?_)<;>refine xS ?_)|(refine aw_gs rfl rfl eE (fun hb=>?_) (fun hb=>?_)<;>fail_if_success (cases hb;done)<;>refine xS ?_)|(refine drk_gsd rfl rfl eE (fun hb=>?_) (fun hb=>?_)<;>refine xS ?_)|(refine drk_gse rfl rfl eE (fun hb=>?_) (fun hb=>?_)<;>refine xS ?_)|(refine drk_gsn rfl rfl eE (fun hb=>?_) (fun hb=>?_)<;>refine xS ?_)|(refine drk_gs rfl rfl eE (fun hb=>?_) (fun hb=>?_)<;>fail_if_success (cases hb;done)<;>refine xS ?_)
  refine aw_dr 12 ty_mixed (by kernel_rfl) ?_
  repeat' first|refine yA1 o0 ?_|(refine xW ?_;refine xS ?_)|refine xP ?_|refine xN ?_|refine aw_cd eE (fun hb=>?_) (fun hb=>?_)|refine aw_ce eE (fun hb=>?_) (fun hb=>?_)|refine aw_cn eE (fun hb=>?_) (fun hb=>?_)|(refine xF (fun hb=>?_) (fun hb=>?_)<;>fail_if_success (cases hb;done))|(refine aw_gsd rfl rfl eE (fun hb=>?_) (fun hb=>?_)<;>refine xS ?_)|(refine aw_gse rfl rfl eE (fun hb=>?_) (fun hb=>?_)<;>refine xS ?_)|(refine aw_gsn rfl rfl eE (fun hb=>?_) (fun hb=>?_)<;>refine xS ?_)|(refine aw_gs rfl rfl eE (fun hb=>?_) (fun hb=>?_)<;>fail_if_success (cases hb;done)<;>refine xS ?_)|(refine drk_gsd rfl rfl eE (fun hb=>?_) (fun hb=>?_)<;>refine xS ?_)|(refine drk_gse rfl rfl eE (fun hb=>?_) (fun hb=>?_)<;>refine xS ?_)|(refine drk_gsn rfl rfl eE (fun hb=>?_) (fun hb=>?_)<;>refine xS ?_)|(refine drk_gs rfl rfl eE (fun hb=>?_) (fun hb=>?_)<;>fail_if_success (cases hb;done)<;>refine xS ?_)
  refine xT hC ?_
  refine .tup ⟨.c ?_,.c ?_,.c (.bool _),trivial⟩
  ·rw [cutS_take];exact .str _
  ·rw [cutS_drop];exact .str _
 refine fa_of_body Tryz.func162 rfl rfl (by simp [Tryz.ntmps162]) fun C hC=> ?_
 simp only [initS,Nat.reduceAdd]
 repeat' first|refine yA1 o0 ?_|(refine yC2 o0 (h2) ?_)|(refine yD2 o0 (h2) ?_)|(refine xW ?_;refine xS ?_)|refine xP ?_|refine xN ?_|refine aw_cd eE (fun hb=>?_) (fun hb=>?_)|refine aw_ce eE (fun hb=>?_) (fun hb=>?_)|refine aw_cn eE (fun hb=>?_) (fun hb=>?_)|(refine xF (fun hb=>?_) (fun hb=>?_)<;>fail_if_success (cases hb;done))|(refine aw_gsd rfl rfl eE (fun hb=>?_) (fun hb=>?_)<;>refine xS ?_)|(refine aw_gse rfl rfl eE (fun hb=>?_) (fun hb=>?_)<;>refine xS ?_)|(refine aw_gsn rfl rfl eE (fun hb=>?_) (fun hb=>?_)<;>refine xS ?_)|(refine aw_gs rfl rfl eE (fun hb=>?_) (fun hb=>?_)<;>fail_if_success (cases hb;done)<;>refine xS ?_)|(refine drk_gsd rfl rfl eE (fun hb=>?_) (fun hb=>?_)<;>refine xS ?_)|(refine drk_gse rfl rfl eE (fun hb=>?_) (fun hb=>?_)<;>refine xS ?_)|(refine drk_gsn rfl rfl eE (fun hb=>?_) (fun hb=>?_)<;>refine xS ?_)|(refine drk_gs rfl rfl eE (fun hb=>?_) (fun hb=>?_)<;>fail_if_success (cases hb;done)<;>refine xS ?_)
 refine xT hC ?_
 exact .tup ⟨.c (.str _),.c (.str _),.c (.bool _),trivial⟩
theorem cutN_fa (s:BS) (b:UInt8) (hl:s.length≤1099511627776) (h:idxB b s=s.length):Fa Tryz.prog 162 [.c (.str (sB s)),.c (.str (sB [b]))] (.tup [.c (.str (sB s)),.c (.str (sB [])),.c (.bool false)]):=by
 have h1:=index1_fa s b
 rw [ixB_val,if_neg om] at h1
 have h2:Fa Tryz.prog 182 [.c (.str (sB s)),.c (.str (sB [b]))] (.tup [.c (.str (sB s)),.c (.str (sB [])),.c (.bool false)]):=by
  refine fa_of_body Tryz.func182 rfl rfl (by simp [Tryz.ntmps182]) fun C hC=> ?_
  simp only [initS,Nat.reduceAdd]
  repeat' first|refine yA1 o0 ?_|(refine yC2 o0 (h1) ?_)|(refine yD2 o0 (h1) ?_)|(refine xW ?_;refine xS ?_)|refine xP ?_|refine xN ?_|refine aw_cd eE (fun hb=>?_) (fun hb=>?_)|refine aw_ce eE (fun hb=>?_) (fun hb=>?_)|refine aw_cn eE (fun hb=>?_) (fun hb=>?_)|(refine xF (fun hb=>?_) (fun hb=>?_)<;>fail_if_success (cases hb;done))|(refine aw_gsd rfl rfl eE (fun hb=>?_) (fun hb=>?_)<;>refine xS ?_)|(refine aw_gse rfl rfl eE (fun hb=>?_) (fun hb=>?_)<;>refine xS ?_)|(refine aw_gsn rfl rfl eE (fun hb=>?_) (fun hb=>?_)<;>refine xS ?_)|(refine aw_gs rfl rfl eE (fun hb=>?_) (fun hb=>?_)<;>fail_if_success (cases hb;done)<;>refine xS ?_)|(refine drk_gsd rfl rfl eE (fun hb=>?_) (fun hb=>?_)<;>refine xS ?_)|(refine drk_gse rfl rfl eE (fun hb=>?_) (fun hb=>?_)<;>refine xS ?_)|(refine drk_gsn rfl rfl eE (fun hb=>?_) (fun hb=>?_)<;>refine xS ?_)|(refine drk_gs rfl rfl eE (fun hb=>?_) (fun hb=>?_)<;>fail_if_success (cases hb;done)<;>refine xS ?_)
  refine xT hC ?_
  exact .tup ⟨.c (.str _),.c (.str _),.c (.bool _),trivial⟩
 refine fa_of_body Tryz.func162 rfl rfl (by simp [Tryz.ntmps162]) fun C hC=> ?_
 simp only [initS,Nat.reduceAdd]
 repeat' first|refine yA1 o0 ?_|(refine yC2 o0 (h2) ?_)|(refine yD2 o0 (h2) ?_)|(refine xW ?_;refine xS ?_)|refine xP ?_|refine xN ?_|refine aw_cd eE (fun hb=>?_) (fun hb=>?_)|refine aw_ce eE (fun hb=>?_) (fun hb=>?_)|refine aw_cn eE (fun hb=>?_) (fun hb=>?_)|(refine xF (fun hb=>?_) (fun hb=>?_)<;>fail_if_success (cases hb;done))|(refine aw_gsd rfl rfl eE (fun hb=>?_) (fun hb=>?_)<;>refine xS ?_)|(refine aw_gse rfl rfl eE (fun hb=>?_) (fun hb=>?_)<;>refine xS ?_)|(refine aw_gsn rfl rfl eE (fun hb=>?_) (fun hb=>?_)<;>refine xS ?_)|(refine aw_gs rfl rfl eE (fun hb=>?_) (fun hb=>?_)<;>fail_if_success (cases hb;done)<;>refine xS ?_)|(refine drk_gsd rfl rfl eE (fun hb=>?_) (fun hb=>?_)<;>refine xS ?_)|(refine drk_gse rfl rfl eE (fun hb=>?_) (fun hb=>?_)<;>refine xS ?_)|(refine drk_gsn rfl rfl eE (fun hb=>?_) (fun hb=>?_)<;>refine xS ?_)|(refine drk_gs rfl rfl eE (fun hb=>?_) (fun hb=>?_)<;>fail_if_success (cases hb;done)<;>refine xS ?_)
 refine xT hC ?_
 exact .tup ⟨.c (.str _),.c (.str _),.c (.bool _),trivial⟩
theorem tvalue_fa (s:BS) (hl:s.length≤1099511627776):Fa Tryz.prog 144 [.c (.str (sB s))] (.tup [.agg (rdc (valR s)),.c (errA (valC s))]):=by
 by_cases h100:s.length>100
 ·have d1:decide (s.length>100)=true:=decide_eq_true h100
  have hc:valC s=4:=by unfold valC;rw [if_pos h100]
  have hr:valR s=rd0:=by unfold valR;rw [hc];rfl
  rw [hc,hr]
  refine fa_of_body Tryz.func144 rfl rfl (by simp [Tryz.ntmps144]) fun C hC=> ?_
  simp only [initS,Nat.reduceAdd]
  repeat' first|refine yA1 o0 ?_|(refine xW ?_;refine xS ?_)|refine xP ?_|refine xN ?_|refine aw_cd eE (fun hb=>?_) (fun hb=>?_)|refine aw_ce eE (fun hb=>?_) (fun hb=>?_)|refine aw_cn eE (fun hb=>?_) (fun hb=>?_)|(refine xF (fun hb=>?_) (fun hb=>?_)<;>fail_if_success (cases hb;done))|(refine aw_gsd rfl rfl eE (fun hb=>?_) (fun hb=>?_)<;>refine xS ?_)|(refine aw_gse rfl rfl eE (fun hb=>?_) (fun hb=>?_)<;>refine xS ?_)|(refine aw_gsn rfl rfl eE (fun hb=>?_) (fun hb=>?_)<;>refine xS ?_)|(refine aw_gs rfl rfl eE (fun hb=>?_) (fun hb=>?_)<;>fail_if_success (cases hb;done)<;>refine xS ?_)|(refine drk_gsd rfl rfl eE (fun hb=>?_) (fun hb=>?_)<;>refine xS ?_)|(refine drk_gse rfl rfl eE (fun hb=>?_) (fun hb=>?_)<;>refine xS ?_)|(refine drk_gsn rfl rfl eE (fun hb=>?_) (fun hb=>?_)<;>refine xS ?_)|(refine drk_gs rfl rfl eE (fun hb=>?_) (fun hb=>?_)<;>fail_if_success (cases hb;done)<;>refine xS ?_)
  refine xA fun g2 hn_g2=>?_
  repeat' first|refine yA1 (oj hn_g2 d1) ?_|(refine yW (oj hn_g2 d1) ?_;refine yS (oj hn_g2 d1) ?_)|refine yP (oj hn_g2 d1) ?_|refine yN (oj hn_g2 d1) ?_|refine aw_cd (zE (oj hn_g2 d1)) (fun hb=>?_) (fun hb=>?_)|refine aw_ce (zE (oj hn_g2 d1)) (fun hb=>?_) (fun hb=>?_)|refine aw_cn (zE (oj hn_g2 d1)) (fun hb=>?_) (fun hb=>?_)|(refine yF (oj hn_g2 d1) (fun hb=>?_) (fun hb=>?_)<;>fail_if_success (cases hb;done))|(refine aw_gsd rfl rfl (zE (oj hn_g2 d1)) (fun hb=>?_) (fun hb=>?_)<;>refine yS (oj hn_g2 d1) ?_)|(refine aw_gse rfl rfl (zE (oj hn_g2 d1)) (fun hb=>?_) (fun hb=>?_)<;>refine yS (oj hn_g2 d1) ?_)|(refine aw_gsn rfl rfl (zE (oj hn_g2 d1)) (fun hb=>?_) (fun hb=>?_)<;>refine yS (oj hn_g2 d1) ?_)|(refine aw_gs rfl rfl (zE (oj hn_g2 d1)) (fun hb=>?_) (fun hb=>?_)<;>fail_if_success (cases hb;done)<;>refine yS (oj hn_g2 d1) ?_)|(refine drk_gsd rfl rfl (zE (oj hn_g2 d1)) (fun hb=>?_) (fun hb=>?_)<;>refine yS (oj hn_g2 d1) ?_)|(refine drk_gse rfl rfl (zE (oj hn_g2 d1)) (fun hb=>?_) (fun hb=>?_)<;>refine yS (oj hn_g2 d1) ?_)|(refine drk_gsn rfl rfl (zE (oj hn_g2 d1)) (fun hb=>?_) (fun hb=>?_)<;>refine yS (oj hn_g2 d1) ?_)|(refine drk_gs rfl rfl (zE (oj hn_g2 d1)) (fun hb=>?_) (fun hb=>?_)<;>fail_if_success (cases hb;done)<;>refine yS (oj hn_g2 d1) ?_)
  refine yT hC (oj hn_g2 d1) ?_
  exact .tup ⟨.agg ⟨.bool _,.nils,.nils,trivial⟩,.c (ler_errN rfl (by decide)),trivial⟩
 have d1:decide (s.length>100)=false:=decide_eq_false h100
 have hw:=tnum_fa s 0 hl (Nat.zero_le _)
 cases hn:isNum s with
 |false=>
  have hc:valC s=2:=by unfold valC;rw [if_neg h100,if_pos hn]
  have hr:valR s=rd0:=by unfold valR;rw [hc];rfl
  rw [hc,hr]
  refine fa_of_body Tryz.func144 rfl rfl (by simp [Tryz.ntmps144]) fun C hC=> ?_
  simp only [initS,Nat.reduceAdd]
  repeat' first|refine yA1 o0 ?_|(refine xW ?_;refine xS ?_)|refine xP ?_|refine xN ?_|refine aw_cd eE (fun hb=>?_) (fun hb=>?_)|refine aw_ce eE (fun hb=>?_) (fun hb=>?_)|refine aw_cn eE (fun hb=>?_) (fun hb=>?_)|(refine xF (fun hb=>?_) (fun hb=>?_)<;>fail_if_success (cases hb;done))|(refine aw_gsd rfl rfl eE (fun hb=>?_) (fun hb=>?_)<;>refine xS ?_)|(refine aw_gse rfl rfl eE (fun hb=>?_) (fun hb=>?_)<;>refine xS ?_)|(refine aw_gsn rfl rfl eE (fun hb=>?_) (fun hb=>?_)<;>refine xS ?_)|(refine aw_gs rfl rfl eE (fun hb=>?_) (fun hb=>?_)<;>fail_if_success (cases hb;done)<;>refine xS ?_)|(refine drk_gsd rfl rfl eE (fun hb=>?_) (fun hb=>?_)<;>refine xS ?_)|(refine drk_gse rfl rfl eE (fun hb=>?_) (fun hb=>?_)<;>refine xS ?_)|(refine drk_gsn rfl rfl eE (fun hb=>?_) (fun hb=>?_)<;>refine xS ?_)|(refine drk_gs rfl rfl eE (fun hb=>?_) (fun hb=>?_)<;>fail_if_success (cases hb;done)<;>refine xS ?_)
  refine xA fun g2 hn_g2=>?_
  repeat' first|refine yA1 (oj hn_g2 d1) ?_|(refine yC2 (oj hn_g2 d1) (tdig_fa _) ?_)|(refine yD2 (oj hn_g2 d1) (tdig_fa _) ?_)|(refine yC2 (oj hn_g2 d1) (hw) ?_)|(refine yD2 (oj hn_g2 d1) (hw) ?_)|(refine yW (oj hn_g2 d1) ?_;refine yS (oj hn_g2 d1) ?_)|refine yP (oj hn_g2 d1) ?_|refine yN (oj hn_g2 d1) ?_|refine aw_cd (zE (oj hn_g2 d1)) (fun hb=>?_) (fun hb=>?_)|refine aw_ce (zE (oj hn_g2 d1)) (fun hb=>?_) (fun hb=>?_)|refine aw_cn (zE (oj hn_g2 d1)) (fun hb=>?_) (fun hb=>?_)|(refine yF (oj hn_g2 d1) (fun hb=>?_) (fun hb=>?_)<;>fail_if_success (cases hb;done))|(refine aw_gsd rfl rfl (zE (oj hn_g2 d1)) (fun hb=>?_) (fun hb=>?_)<;>refine yS (oj hn_g2 d1) ?_)|(refine aw_gse rfl rfl (zE (oj hn_g2 d1)) (fun hb=>?_) (fun hb=>?_)<;>refine yS (oj hn_g2 d1) ?_)|(refine aw_gsn rfl rfl (zE (oj hn_g2 d1)) (fun hb=>?_) (fun hb=>?_)<;>refine yS (oj hn_g2 d1) ?_)|(refine aw_gs rfl rfl (zE (oj hn_g2 d1)) (fun hb=>?_) (fun hb=>?_)<;>fail_if_success (cases hb;done)<;>refine yS (oj hn_g2 d1) ?_)|(refine drk_gsd rfl rfl (zE (oj hn_g2 d1)) (fun hb=>?_) (fun hb=>?_)<;>refine yS (oj hn_g2 d1) ?_)|(refine drk_gse rfl rfl (zE (oj hn_g2 d1)) (fun hb=>?_) (fun hb=>?_)<;>refine yS (oj hn_g2 d1) ?_)|(refine drk_gsn rfl rfl (zE (oj hn_g2 d1)) (fun hb=>?_) (fun hb=>?_)<;>refine yS (oj hn_g2 d1) ?_)|(refine drk_gs rfl rfl (zE (oj hn_g2 d1)) (fun hb=>?_) (fun hb=>?_)<;>fail_if_success (cases hb;done)<;>refine yS (oj hn_g2 d1) ?_)
  all_goals first
   |(exfalso
     unfold isNum at hn
     simp_all
     done)
   |(refine yT hC (oj hn_g2 d1) ?_
     exact .tup ⟨.agg ⟨.bool _,.nils,.nils,trivial⟩,.c (ler_errN rfl (by decide)),trivial⟩)
 |true=>
  obtain⟨hf,h0⟩:=num_form hn
  have hn':=hn
  unfold isNum at hn'
  simp only [Bool.and_eq_true,decide_eq_true_eq,beq_iff_eq] at hn'
  have f0:(s.length==0)=false:=by simpa using (show s.length≠0 from by omega)
  have f1:isDig (bAt s 0)=true:=hn'.1.2
  have f2:(numE s 0 !=s.length)=false:=by simpa using hn'.2
  have hc0:valC s=if idxB 47 s<s.length∧natB (s.drop (idxB 47 s+1))=0 then 8 else 0:=by unfold valC;rw [if_neg h100,if_neg (by rw [hn];decide)]
  have hA:∀t:BS,t.length≤s.length→(rd (natB t:Rat)).wf 1073741824∨True:=fun _ _=>.inr trivial
  by_cases hsl:idxB 47 s<s.length
  ·obtain⟨e,he,he1,hd1,hd2⟩:∃e,idxB 47 s=e∧e+1<s.length∧(∀i,i<e→isDig (bAt s i)=true)∧(∀i,e<i→i<s.length→isDig (bAt s i)=true):=by
    cases hf with
    |all h=>have:=(ix_all h).1;omega
    |two e he hm h1 h2=>
     rcases hm with hm|hm
     ·have:=(ix_point he hm h1 h2).1;omega
     ·exact⟨e,ix_slash he hm h1,he,h1,h2⟩
   have hcut:=cutY_fa s 47 hl hsl
   rw [he] at hcut hc0 hsl
   have ha:=twhole_fa (s.take e) (dig_take hd1) (by rw [List.length_take];omega)
   have hb:=twhole_fa (s.drop (e+1)) (dig_drop hd2) (by rw [List.length_drop];omega)
   have wa:(rd (natB (s.take e):Rat)).wf 1073741824:=rd_wf (fits_mono (by have:=natB_fits (s:=s.take e) (dig_take hd1) (Nat.le_refl _);rwa [List.take_length] at this) (by rw [List.length_take];omega))
   have wb:(rd (natB (s.drop (e+1)):Rat)).wf 1073741824:=rd_wf (fits_mono (by have:=natB_fits (s:=s.drop (e+1)) (dig_drop hd2) (Nat.le_refl _);rwa [List.take_length] at this) (by rw [List.length_drop];omega))
   by_cases hz:natB (s.drop (e+1))=0
   ·rw [if_pos ⟨hsl,hz⟩] at hc0
    have hr:valR s=rd0:=by unfold valR;rw [hc0];rfl
    have hd:=rdiv_zero _ _ wa wb (by rw [rd_q,hz];rfl)
    rw [hc0,hr]
    refine fa_of_body Tryz.func144 rfl rfl (by simp [Tryz.ntmps144]) fun C hC=> ?_
    simp only [initS,Nat.reduceAdd]
    repeat' first|refine yA1 o0 ?_|(refine xW ?_;refine xS ?_)|refine xP ?_|refine xN ?_|refine aw_cd eE (fun hb=>?_) (fun hb=>?_)|refine aw_ce eE (fun hb=>?_) (fun hb=>?_)|refine aw_cn eE (fun hb=>?_) (fun hb=>?_)|(refine xF (fun hb=>?_) (fun hb=>?_)<;>fail_if_success (cases hb;done))|(refine aw_gsd rfl rfl eE (fun hb=>?_) (fun hb=>?_)<;>refine xS ?_)|(refine aw_gse rfl rfl eE (fun hb=>?_) (fun hb=>?_)<;>refine xS ?_)|(refine aw_gsn rfl rfl eE (fun hb=>?_) (fun hb=>?_)<;>refine xS ?_)|(refine aw_gs rfl rfl eE (fun hb=>?_) (fun hb=>?_)<;>fail_if_success (cases hb;done)<;>refine xS ?_)|(refine drk_gsd rfl rfl eE (fun hb=>?_) (fun hb=>?_)<;>refine xS ?_)|(refine drk_gse rfl rfl eE (fun hb=>?_) (fun hb=>?_)<;>refine xS ?_)|(refine drk_gsn rfl rfl eE (fun hb=>?_) (fun hb=>?_)<;>refine xS ?_)|(refine drk_gs rfl rfl eE (fun hb=>?_) (fun hb=>?_)<;>fail_if_success (cases hb;done)<;>refine xS ?_)
    refine xA fun g2 hn_g2=>?_
    repeat' first|refine yA1 (oj hn_g2 (oj d1 (oj f0 (oj f1 f2)))) ?_|(refine yC2 (oj hn_g2 (oj d1 (oj f0 (oj f1 f2)))) (tdig_fa _) ?_)|(refine yD2 (oj hn_g2 (oj d1 (oj f0 (oj f1 f2)))) (tdig_fa _) ?_)|(refine yC2 (oj hn_g2 (oj d1 (oj f0 (oj f1 f2)))) (hw) ?_)|(refine yD2 (oj hn_g2 (oj d1 (oj f0 (oj f1 f2)))) (hw) ?_)|(refine yC2 (oj hn_g2 (oj d1 (oj f0 (oj f1 f2)))) (hcut) ?_)|(refine yD2 (oj hn_g2 (oj d1 (oj f0 (oj f1 f2)))) (hcut) ?_)|(refine yC2 (oj hn_g2 (oj d1 (oj f0 (oj f1 f2)))) (ha) ?_)|(refine yD2 (oj hn_g2 (oj d1 (oj f0 (oj f1 f2)))) (ha) ?_)|(refine yC2 (oj hn_g2 (oj d1 (oj f0 (oj f1 f2)))) (hb) ?_)|(refine yD2 (oj hn_g2 (oj d1 (oj f0 (oj f1 f2)))) (hb) ?_)|(refine yC2 (oj hn_g2 (oj d1 (oj f0 (oj f1 f2)))) (hd) ?_)|(refine yD2 (oj hn_g2 (oj d1 (oj f0 (oj f1 f2)))) (hd) ?_)|(refine yW (oj hn_g2 (oj d1 (oj f0 (oj f1 f2)))) ?_;refine yS (oj hn_g2 (oj d1 (oj f0 (oj f1 f2)))) ?_)|refine yP (oj hn_g2 (oj d1 (oj f0 (oj f1 f2)))) ?_|refine yN (oj hn_g2 (oj d1 (oj f0 (oj f1 f2)))) ?_|refine aw_cd (zE (oj hn_g2 (oj d1 (oj f0 (oj f1 f2))))) (fun hb=>?_) (fun hb=>?_)|refine aw_ce (zE (oj hn_g2 (oj d1 (oj f0 (oj f1 f2))))) (fun hb=>?_) (fun hb=>?_)|refine aw_cn (zE (oj hn_g2 (oj d1 (oj f0 (oj f1 f2))))) (fun hb=>?_) (fun hb=>?_)|(refine yF (oj hn_g2 (oj d1 (oj f0 (oj f1 f2)))) (fun hb=>?_) (fun hb=>?_)<;>fail_if_success (cases hb;done))|(refine aw_gsd rfl rfl (zE (oj hn_g2 (oj d1 (oj f0 (oj f1 f2))))) (fun hb=>?_) (fun hb=>?_)<;>refine yS (oj hn_g2 (oj d1 (oj f0 (oj f1 f2)))) ?_)|(refine aw_gse rfl rfl (zE (oj hn_g2 (oj d1 (oj f0 (oj f1 f2))))) (fun hb=>?_) (fun hb=>?_)<;>refine yS (oj hn_g2 (oj d1 (oj f0 (oj f1 f2)))) ?_)|(refine aw_gsn rfl rfl (zE (oj hn_g2 (oj d1 (oj f0 (oj f1 f2))))) (fun hb=>?_) (fun hb=>?_)<;>refine yS (oj hn_g2 (oj d1 (oj f0 (oj f1 f2)))) ?_)|(refine aw_gs rfl rfl (zE (oj hn_g2 (oj d1 (oj f0 (oj f1 f2))))) (fun hb=>?_) (fun hb=>?_)<;>fail_if_success (cases hb;done)<;>refine yS (oj hn_g2 (oj d1 (oj f0 (oj f1 f2)))) ?_)|(refine drk_gsd rfl rfl (zE (oj hn_g2 (oj d1 (oj f0 (oj f1 f2))))) (fun hb=>?_) (fun hb=>?_)<;>refine yS (oj hn_g2 (oj d1 (oj f0 (oj f1 f2)))) ?_)|(refine drk_gse rfl rfl (zE (oj hn_g2 (oj d1 (oj f0 (oj f1 f2))))) (fun hb=>?_) (fun hb=>?_)<;>refine yS (oj hn_g2 (oj d1 (oj f0 (oj f1 f2)))) ?_)|(refine drk_gsn rfl rfl (zE (oj hn_g2 (oj d1 (oj f0 (oj f1 f2))))) (fun hb=>?_) (fun hb=>?_)<;>refine yS (oj hn_g2 (oj d1 (oj f0 (oj f1 f2)))) ?_)|(refine drk_gs rfl rfl (zE (oj hn_g2 (oj d1 (oj f0 (oj f1 f2))))) (fun hb=>?_) (fun hb=>?_)<;>fail_if_success (cases hb;done)<;>refine yS (oj hn_g2 (oj d1 (oj f0 (oj f1 f2)))) ?_)
    refine yT hC (oj hn_g2 (oj d1 (oj f0 (oj f1 f2)))) ?_
    exact .tup ⟨.agg lerl_rd,.c ler_err,trivial⟩
   ·rw [if_neg (fun h=>hz h.2)] at hc0
    have hr:valR s=rd (valQ s):=by unfold valR;rw [if_pos hc0]
    have hq:valQ s=(natB (s.take e):Rat)/(natB (s.drop (e+1)):Rat):=by unfold valQ;rw [he,if_pos hsl]
    have hd:=rdiv_fa _ _ wa wb (by rw [rd_q];simpa using hz)
    rw [rd_q,rd_q,←hq,←hr] at hd
    rw [hc0]
    refine fa_of_body Tryz.func144 rfl rfl (by simp [Tryz.ntmps144]) fun C hC=> ?_
    simp only [initS,Nat.reduceAdd]
    repeat' first|refine yA1 o0 ?_|(refine xW ?_;refine xS ?_)|refine xP ?_|refine xN ?_|refine aw_cd eE (fun hb=>?_) (fun hb=>?_)|refine aw_ce eE (fun hb=>?_) (fun hb=>?_)|refine aw_cn eE (fun hb=>?_) (fun hb=>?_)|(refine xF (fun hb=>?_) (fun hb=>?_)<;>fail_if_success (cases hb;done))|(refine aw_gsd rfl rfl eE (fun hb=>?_) (fun hb=>?_)<;>refine xS ?_)|(refine aw_gse rfl rfl eE (fun hb=>?_) (fun hb=>?_)<;>refine xS ?_)|(refine aw_gsn rfl rfl eE (fun hb=>?_) (fun hb=>?_)<;>refine xS ?_)|(refine aw_gs rfl rfl eE (fun hb=>?_) (fun hb=>?_)<;>fail_if_success (cases hb;done)<;>refine xS ?_)|(refine drk_gsd rfl rfl eE (fun hb=>?_) (fun hb=>?_)<;>refine xS ?_)|(refine drk_gse rfl rfl eE (fun hb=>?_) (fun hb=>?_)<;>refine xS ?_)|(refine drk_gsn rfl rfl eE (fun hb=>?_) (fun hb=>?_)<;>refine xS ?_)|(refine drk_gs rfl rfl eE (fun hb=>?_) (fun hb=>?_)<;>fail_if_success (cases hb;done)<;>refine xS ?_)
    refine xA fun g2 hn_g2=>?_
    repeat' first|refine yA1 (oj hn_g2 (oj d1 (oj f0 (oj f1 f2)))) ?_|(refine yC2 (oj hn_g2 (oj d1 (oj f0 (oj f1 f2)))) (tdig_fa _) ?_)|(refine yD2 (oj hn_g2 (oj d1 (oj f0 (oj f1 f2)))) (tdig_fa _) ?_)|(refine yC2 (oj hn_g2 (oj d1 (oj f0 (oj f1 f2)))) (hw) ?_)|(refine yD2 (oj hn_g2 (oj d1 (oj f0 (oj f1 f2)))) (hw) ?_)|(refine yC2 (oj hn_g2 (oj d1 (oj f0 (oj f1 f2)))) (hcut) ?_)|(refine yD2 (oj hn_g2 (oj d1 (oj f0 (oj f1 f2)))) (hcut) ?_)|(refine yC2 (oj hn_g2 (oj d1 (oj f0 (oj f1 f2)))) (ha) ?_)|(refine yD2 (oj hn_g2 (oj d1 (oj f0 (oj f1 f2)))) (ha) ?_)|(refine yC2 (oj hn_g2 (oj d1 (oj f0 (oj f1 f2)))) (hb) ?_)|(refine yD2 (oj hn_g2 (oj d1 (oj f0 (oj f1 f2)))) (hb) ?_)|(refine yC2 (oj hn_g2 (oj d1 (oj f0 (oj f1 f2)))) (hd) ?_)|(refine yD2 (oj hn_g2 (oj d1 (oj f0 (oj f1 f2)))) (hd) ?_)|(refine yW (oj hn_g2 (oj d1 (oj f0 (oj f1 f2)))) ?_;refine yS (oj hn_g2 (oj d1 (oj f0 (oj f1 f2)))) ?_)|refine yP (oj hn_g2 (oj d1 (oj f0 (oj f1 f2)))) ?_|refine yN (oj hn_g2 (oj d1 (oj f0 (oj f1 f2)))) ?_|refine aw_cd (zE (oj hn_g2 (oj d1 (oj f0 (oj f1 f2))))) (fun hb=>?_) (fun hb=>?_)|refine aw_ce (zE (oj hn_g2 (oj d1 (oj f0 (oj f1 f2))))) (fun hb=>?_) (fun hb=>?_)|refine aw_cn (zE (oj hn_g2 (oj d1 (oj f0 (oj f1 f2))))) (fun hb=>?_) (fun hb=>?_)|(refine yF (oj hn_g2 (oj d1 (oj f0 (oj f1 f2)))) (fun hb=>?_) (fun hb=>?_)<;>fail_if_success (cases hb;done))|(refine aw_gsd rfl rfl (zE (oj hn_g2 (oj d1 (oj f0 (oj f1 f2))))) (fun hb=>?_) (fun hb=>?_)<;>refine yS (oj hn_g2 (oj d1 (oj f0 (oj f1 f2)))) ?_)|(refine aw_gse rfl rfl (zE (oj hn_g2 (oj d1 (oj f0 (oj f1 f2))))) (fun hb=>?_) (fun hb=>?_)<;>refine yS (oj hn_g2 (oj d1 (oj f0 (oj f1 f2)))) ?_)|(refine aw_gsn rfl rfl (zE (oj hn_g2 (oj d1 (oj f0 (oj f1 f2))))) (fun hb=>?_) (fun hb=>?_)<;>refine yS (oj hn_g2 (oj d1 (oj f0 (oj f1 f2)))) ?_)|(refine aw_gs rfl rfl (zE (oj hn_g2 (oj d1 (oj f0 (oj f1 f2))))) (fun hb=>?_) (fun hb=>?_)<;>fail_if_success (cases hb;done)<;>refine yS (oj hn_g2 (oj d1 (oj f0 (oj f1 f2)))) ?_)|(refine drk_gsd rfl rfl (zE (oj hn_g2 (oj d1 (oj f0 (oj f1 f2))))) (fun hb=>?_) (fun hb=>?_)<;>refine yS (oj hn_g2 (oj d1 (oj f0 (oj f1 f2)))) ?_)|(refine drk_gse rfl rfl (zE (oj hn_g2 (oj d1 (oj f0 (oj f1 f2))))) (fun hb=>?_) (fun hb=>?_)<;>refine yS (oj hn_g2 (oj d1 (oj f0 (oj f1 f2)))) ?_)|(refine drk_gsn rfl rfl (zE (oj hn_g2 (oj d1 (oj f0 (oj f1 f2))))) (fun hb=>?_) (fun hb=>?_)<;>refine yS (oj hn_g2 (oj d1 (oj f0 (oj f1 f2)))) ?_)|(refine drk_gs rfl rfl (zE (oj hn_g2 (oj d1 (oj f0 (oj f1 f2))))) (fun hb=>?_) (fun hb=>?_)<;>fail_if_success (cases hb;done)<;>refine yS (oj hn_g2 (oj d1 (oj f0 (oj f1 f2)))) ?_)
    refine yT hC (oj hn_g2 (oj d1 (oj f0 (oj f1 f2)))) ?_
    exact .tup ⟨.agg lerl_rd,.c (ler_err0 rfl),trivial⟩
  ·have hcutN:=cutN_fa s 47 hl (by have:=idxB_le 47 s;omega)
   obtain⟨hda,hdb,hcut⟩:(∀i,i<(s.take (idxB 46 s)).length→isDig (bAt (s.take (idxB 46 s)) i)=true)∧(∀i,i<(s.drop (idxB 46 s+1)).length→isDig (bAt (s.drop (idxB 46 s+1)) i)=true)∧∃b,Fa Tryz.prog 162 [.c (.str (sB s)),.c (.str (sB [46]))] (.tup [.c (.str (sB (s.take (idxB 46 s)))),.c (.str (sB (s.drop (idxB 46 s+1)))),.c (.bool b)]):=by
    cases hf with
    |all h=>
     have h2:=(ix_all h).2
     have:=cutN_fa s 46 hl h2
     rw [h2,List.take_length,List.drop_of_length_le om]
     exact⟨h,fun i hi=>absurd hi (by simp),_,this⟩
    |two e he hm h1 h2=>
     rcases hm with hm|hm
     ·have h3:=(ix_point he hm h1 h2).2
      have:=cutY_fa s 46 hl om
      rw [h3] at this⊢
      exact⟨dig_take h1,dig_drop h2,_,this⟩
     ·have:=ix_slash he hm h1;omega
   obtain⟨bx,hcut⟩:=hcut
   rw [if_neg (fun h=>hsl h.1)] at hc0
   have hr:valR s=rd (valQ s):=by unfold valR;rw [if_pos hc0]
   have hq:valQ s=(natB (s.take (idxB 46 s)++s.drop (idxB 46 s+1)):Rat)/((10^(s.drop (idxB 46 s+1)).length:Nat):Rat):=by unfold valQ;rw [if_neg hsl]
   have hla:(s.take (idxB 46 s)).length≤100:=by rw [List.length_take];omega
   have hlb:(s.drop (idxB 46 s+1)).length≤100:=by rw [List.length_drop];omega
   generalize s.take (idxB 46 s)=a at*
   generalize s.drop (idxB 46 s+1)=b at*
   have hab:∀i,i<(a++b).length→isDig (bAt (a++b) i)=true:=fun i hi=>by
    by_cases h:i<a.length
    ·have:=hda i h
     unfold bAt at this⊢
     rw [List.getD_eq_getElem?_getD] at this⊢
     rwa [List.getElem?_append_left h]
    ·have:=hdb (i-a.length) (by rw [List.length_append] at hi;omega)
     unfold bAt at this⊢
     rw [List.getD_eq_getElem?_getD] at this⊢
     rwa [List.getElem?_append_right om]
   have hw2:=twhole_fa (a++b) hab (by rw [List.length_append];omega)
   have fab:fits (natB (a++b):Rat) ((a++b).length+1):=by have:=natB_fits (s:=a++b) hab (Nat.le_refl _);rwa [List.take_length] at this
   have wab:(rd (natB (a++b):Rat)).wf 1073741824:=rd_wf (fits_mono fab (by rw [List.length_append];omega))
   have f10:∀k,k≤100→fits ((10^k:Nat):Rat) (k+1):=fun k _=>nat_fits (pow10_lt k) om
   have w10:∀k,k≤100→(rd ((10^k:Nat):Rat)).wf 1073741824:=fun k hk=>rd_wf (fits_mono (f10 k hk) om)
   have h1:=rof_fa 1 om om
   have h10:=rof_fa 10 om om
   have hd:=rdiv_fa _ _ wab (w10 b.length hlb) (by rw [rd_q];exact pow10_ne _)
   rw [rd_q,rd_q,←hq,←hr] at hd
   rw [hc0]
   refine fa_of_body Tryz.func144 rfl rfl (by simp [Tryz.ntmps144]) fun C hC=> ?_
   simp only [initS,Nat.reduceAdd]
   repeat' first|refine yA1 o0 ?_|(refine xW ?_;refine xS ?_)|refine xP ?_|refine xN ?_|refine aw_cd eE (fun hb=>?_) (fun hb=>?_)|refine aw_ce eE (fun hb=>?_) (fun hb=>?_)|refine aw_cn eE (fun hb=>?_) (fun hb=>?_)|(refine xF (fun hb=>?_) (fun hb=>?_)<;>fail_if_success (cases hb;done))|(refine aw_gsd rfl rfl eE (fun hb=>?_) (fun hb=>?_)<;>refine xS ?_)|(refine aw_gse rfl rfl eE (fun hb=>?_) (fun hb=>?_)<;>refine xS ?_)|(refine aw_gsn rfl rfl eE (fun hb=>?_) (fun hb=>?_)<;>refine xS ?_)|(refine aw_gs rfl rfl eE (fun hb=>?_) (fun hb=>?_)<;>fail_if_success (cases hb;done)<;>refine xS ?_)|(refine drk_gsd rfl rfl eE (fun hb=>?_) (fun hb=>?_)<;>refine xS ?_)|(refine drk_gse rfl rfl eE (fun hb=>?_) (fun hb=>?_)<;>refine xS ?_)|(refine drk_gsn rfl rfl eE (fun hb=>?_) (fun hb=>?_)<;>refine xS ?_)|(refine drk_gs rfl rfl eE (fun hb=>?_) (fun hb=>?_)<;>fail_if_success (cases hb;done)<;>refine xS ?_)
   refine xA fun g2 hn_g2=>?_
   repeat' first|refine yA1 (oj hn_g2 (oj d1 (oj f0 (oj f1 f2)))) ?_|(refine yC2 (oj hn_g2 (oj d1 (oj f0 (oj f1 f2)))) (tdig_fa _) ?_)|(refine yD2 (oj hn_g2 (oj d1 (oj f0 (oj f1 f2)))) (tdig_fa _) ?_)|(refine yC2 (oj hn_g2 (oj d1 (oj f0 (oj f1 f2)))) (hw) ?_)|(refine yD2 (oj hn_g2 (oj d1 (oj f0 (oj f1 f2)))) (hw) ?_)|(refine yC2 (oj hn_g2 (oj d1 (oj f0 (oj f1 f2)))) (hcutN) ?_)|(refine yD2 (oj hn_g2 (oj d1 (oj f0 (oj f1 f2)))) (hcutN) ?_)|(refine yC2 (oj hn_g2 (oj d1 (oj f0 (oj f1 f2)))) (hcut) ?_)|(refine yD2 (oj hn_g2 (oj d1 (oj f0 (oj f1 f2)))) (hcut) ?_)|(refine yC2 (oj hn_g2 (oj d1 (oj f0 (oj f1 f2)))) (h1) ?_)|(refine yD2 (oj hn_g2 (oj d1 (oj f0 (oj f1 f2)))) (h1) ?_)|(refine yW (oj hn_g2 (oj d1 (oj f0 (oj f1 f2)))) ?_;refine yS (oj hn_g2 (oj d1 (oj f0 (oj f1 f2)))) ?_)|refine yP (oj hn_g2 (oj d1 (oj f0 (oj f1 f2)))) ?_|refine yN (oj hn_g2 (oj d1 (oj f0 (oj f1 f2)))) ?_|refine aw_cd (zE (oj hn_g2 (oj d1 (oj f0 (oj f1 f2))))) (fun hb=>?_) (fun hb=>?_)|refine aw_ce (zE (oj hn_g2 (oj d1 (oj f0 (oj f1 f2))))) (fun hb=>?_) (fun hb=>?_)|refine aw_cn (zE (oj hn_g2 (oj d1 (oj f0 (oj f1 f2))))) (fun hb=>?_) (fun hb=>?_)|(refine yF (oj hn_g2 (oj d1 (oj f0 (oj f1 f2)))) (fun hb=>?_) (fun hb=>?_)<;>fail_if_success (cases hb;done))|(refine aw_gsd rfl rfl (zE (oj hn_g2 (oj d1 (oj f0 (oj f1 f2))))) (fun hb=>?_) (fun hb=>?_)<;>refine yS (oj hn_g2 (oj d1 (oj f0 (oj f1 f2)))) ?_)|(refine aw_gse rfl rfl (zE (oj hn_g2 (oj d1 (oj f0 (oj f1 f2))))) (fun hb=>?_) (fun hb=>?_)<;>refine yS (oj hn_g2 (oj d1 (oj f0 (oj f1 f2)))) ?_)|(refine aw_gsn rfl rfl (zE (oj hn_g2 (oj d1 (oj f0 (oj f1 f2))))) (fun hb=>?_) (fun hb=>?_)<;>refine yS (oj hn_g2 (oj d1 (oj f0 (oj f1 f2)))) ?_)|(refine aw_gs rfl rfl (zE (oj hn_g2 (oj d1 (oj f0 (oj f1 f2))))) (fun hb=>?_) (fun hb=>?_)<;>fail_if_success (cases hb;done)<;>refine yS (oj hn_g2 (oj d1 (oj f0 (oj f1 f2)))) ?_)|(refine drk_gsd rfl rfl (zE (oj hn_g2 (oj d1 (oj f0 (oj f1 f2))))) (fun hb=>?_) (fun hb=>?_)<;>refine yS (oj hn_g2 (oj d1 (oj f0 (oj f1 f2)))) ?_)|(refine drk_gse rfl rfl (zE (oj hn_g2 (oj d1 (oj f0 (oj f1 f2))))) (fun hb=>?_) (fun hb=>?_)<;>refine yS (oj hn_g2 (oj d1 (oj f0 (oj f1 f2)))) ?_)|(refine drk_gsn rfl rfl (zE (oj hn_g2 (oj d1 (oj f0 (oj f1 f2))))) (fun hb=>?_) (fun hb=>?_)<;>refine yS (oj hn_g2 (oj d1 (oj f0 (oj f1 f2)))) ?_)|(refine drk_gs rfl rfl (zE (oj hn_g2 (oj d1 (oj f0 (oj f1 f2))))) (fun hb=>?_) (fun hb=>?_)<;>fail_if_success (cases hb;done)<;>refine yS (oj hn_g2 (oj d1 (oj f0 (oj f1 f2)))) ?_)
   refine yA (oj hn_g2 (oj d1 (oj f0 (oj f1 f2)))) fun g10 hn_g10=>?_
   repeat' first|refine yA1 (oj hn_g2 (oj d1 (oj f0 (oj f1 (oj f2 hn_g10))))) ?_|(refine yW (oj hn_g2 (oj d1 (oj f0 (oj f1 (oj f2 hn_g10))))) ?_;refine yS (oj hn_g2 (oj d1 (oj f0 (oj f1 (oj f2 hn_g10))))) ?_)|refine yP (oj hn_g2 (oj d1 (oj f0 (oj f1 (oj f2 hn_g10))))) ?_|refine yN (oj hn_g2 (oj d1 (oj f0 (oj f1 (oj f2 hn_g10))))) ?_|refine aw_cd (zE (oj hn_g2 (oj d1 (oj f0 (oj f1 (oj f2 hn_g10)))))) (fun hb=>?_) (fun hb=>?_)|refine aw_ce (zE (oj hn_g2 (oj d1 (oj f0 (oj f1 (oj f2 hn_g10)))))) (fun hb=>?_) (fun hb=>?_)|refine aw_cn (zE (oj hn_g2 (oj d1 (oj f0 (oj f1 (oj f2 hn_g10)))))) (fun hb=>?_) (fun hb=>?_)|(refine yF (oj hn_g2 (oj d1 (oj f0 (oj f1 (oj f2 hn_g10))))) (fun hb=>?_) (fun hb=>?_)<;>fail_if_success (cases hb;done))|(refine aw_gsd rfl rfl (zE (oj hn_g2 (oj d1 (oj f0 (oj f1 (oj f2 hn_g10)))))) (fun hb=>?_) (fun hb=>?_)<;>refine yS (oj hn_g2 (oj d1 (oj f0 (oj f1 (oj f2 hn_g10))))) ?_)|(refine aw_gse rfl rfl (zE (oj hn_g2 (oj d1 (oj f0 (oj f1 (oj f2 hn_g10)))))) (fun hb=>?_) (fun hb=>?_)<;>refine yS (oj hn_g2 (oj d1 (oj f0 (oj f1 (oj f2 hn_g10))))) ?_)|(refine aw_gsn rfl rfl (zE (oj hn_g2 (oj d1 (oj f0 (oj f1 (oj f2 hn_g10)))))) (fun hb=>?_) (fun hb=>?_)<;>refine yS (oj hn_g2 (oj d1 (oj f0 (oj f1 (oj f2 hn_g10))))) ?_)|(refine aw_gs rfl rfl (zE (oj hn_g2 (oj d1 (oj f0 (oj f1 (oj f2 hn_g10)))))) (fun hb=>?_) (fun hb=>?_)<;>fail_if_success (cases hb;done)<;>refine yS (oj hn_g2 (oj d1 (oj f0 (oj f1 (oj f2 hn_g10))))) ?_)|(refine drk_gsd rfl rfl (zE (oj hn_g2 (oj d1 (oj f0 (oj f1 (oj f2 hn_g10)))))) (fun hb=>?_) (fun hb=>?_)<;>refine yS (oj hn_g2 (oj d1 (oj f0 (oj f1 (oj f2 hn_g10))))) ?_)|(refine drk_gse rfl rfl (zE (oj hn_g2 (oj d1 (oj f0 (oj f1 (oj f2 hn_g10)))))) (fun hb=>?_) (fun hb=>?_)<;>refine yS (oj hn_g2 (oj d1 (oj f0 (oj f1 (oj f2 hn_g10))))) ?_)|(refine drk_gsn rfl rfl (zE (oj hn_g2 (oj d1 (oj f0 (oj f1 (oj f2 hn_g10)))))) (fun hb=>?_) (fun hb=>?_)<;>refine yS (oj hn_g2 (oj d1 (oj f0 (oj f1 (oj f2 hn_g10))))) ?_)|(refine drk_gs rfl rfl (zE (oj hn_g2 (oj d1 (oj f0 (oj f1 (oj f2 hn_g10)))))) (fun hb=>?_) (fun hb=>?_)<;>fail_if_success (cases hb;done)<;>refine yS (oj hn_g2 (oj d1 (oj f0 (oj f1 (oj f2 hn_g10))))) ?_)
   refine aw_lp (fun x:Nat=>[(0,.c (.str (sB s))),(2,.c (.optr g2 0)),(3,.c .nilI),(7,.c (.str (sB a))),(8,.c (.str (sB b))),(10,.c (.optr g10 0)),(56,.c (.int .i64 b.length)),(57,.c (.int .i64 x))]) (fun x=>[(g10,.cells 59 3 (ofL (rdc (rd ((10^x:Nat):Rat))))),(g2,.cells 59 3 (ofL [.bool false,.nils,.nils]))]) (fun x=>x≤b.length) (fun x=>b.length-x) 0 (zB (oj hn_g2 (oj d1 (oj f0 (oj f1 (oj f2 hn_g10)))))) (by rw [show((10^0:Nat):Rat)=((1:Int):Rat) from by simp];exact List.Sublist.refl _) (Nat.zero_le _) ?_
   rintro x hx
   repeat' first|refine yA1 (oj hn_g2 (oj d1 (oj f0 (oj f1 (oj f2 hn_g10))))) ?_|(refine yW (oj hn_g2 (oj d1 (oj f0 (oj f1 (oj f2 hn_g10))))) ?_;refine yS (oj hn_g2 (oj d1 (oj f0 (oj f1 (oj f2 hn_g10))))) ?_)|refine yP (oj hn_g2 (oj d1 (oj f0 (oj f1 (oj f2 hn_g10))))) ?_|refine yN (oj hn_g2 (oj d1 (oj f0 (oj f1 (oj f2 hn_g10))))) ?_|refine aw_cd (zE (oj hn_g2 (oj d1 (oj f0 (oj f1 (oj f2 hn_g10)))))) (fun hb=>?_) (fun hb=>?_)|refine aw_ce (zE (oj hn_g2 (oj d1 (oj f0 (oj f1 (oj f2 hn_g10)))))) (fun hb=>?_) (fun hb=>?_)|refine aw_cn (zE (oj hn_g2 (oj d1 (oj f0 (oj f1 (oj f2 hn_g10)))))) (fun hb=>?_) (fun hb=>?_)|(refine yF (oj hn_g2 (oj d1 (oj f0 (oj f1 (oj f2 hn_g10))))) (fun hb=>?_) (fun hb=>?_)<;>fail_if_success (cases hb;done))|(refine aw_gsd rfl rfl (zE (oj hn_g2 (oj d1 (oj f0 (oj f1 (oj f2 hn_g10)))))) (fun hb=>?_) (fun hb=>?_)<;>refine yS (oj hn_g2 (oj d1 (oj f0 (oj f1 (oj f2 hn_g10))))) ?_)|(refine aw_gse rfl rfl (zE (oj hn_g2 (oj d1 (oj f0 (oj f1 (oj f2 hn_g10)))))) (fun hb=>?_) (fun hb=>?_)<;>refine yS (oj hn_g2 (oj d1 (oj f0 (oj f1 (oj f2 hn_g10))))) ?_)|(refine aw_gsn rfl rfl (zE (oj hn_g2 (oj d1 (oj f0 (oj f1 (oj f2 hn_g10)))))) (fun hb=>?_) (fun hb=>?_)<;>refine yS (oj hn_g2 (oj d1 (oj f0 (oj f1 (oj f2 hn_g10))))) ?_)|(refine aw_gs rfl rfl (zE (oj hn_g2 (oj d1 (oj f0 (oj f1 (oj f2 hn_g10)))))) (fun hb=>?_) (fun hb=>?_)<;>fail_if_success (cases hb;done)<;>refine yS (oj hn_g2 (oj d1 (oj f0 (oj f1 (oj f2 hn_g10))))) ?_)|(refine drk_gsd rfl rfl (zE (oj hn_g2 (oj d1 (oj f0 (oj f1 (oj f2 hn_g10)))))) (fun hb=>?_) (fun hb=>?_)<;>refine yS (oj hn_g2 (oj d1 (oj f0 (oj f1 (oj f2 hn_g10))))) ?_)|(refine drk_gse rfl rfl (zE (oj hn_g2 (oj d1 (oj f0 (oj f1 (oj f2 hn_g10)))))) (fun hb=>?_) (fun hb=>?_)<;>refine yS (oj hn_g2 (oj d1 (oj f0 (oj f1 (oj f2 hn_g10))))) ?_)|(refine drk_gsn rfl rfl (zE (oj hn_g2 (oj d1 (oj f0 (oj f1 (oj f2 hn_g10)))))) (fun hb=>?_) (fun hb=>?_)<;>refine yS (oj hn_g2 (oj d1 (oj f0 (oj f1 (oj f2 hn_g10))))) ?_)|(refine drk_gs rfl rfl (zE (oj hn_g2 (oj d1 (oj f0 (oj f1 (oj f2 hn_g10)))))) (fun hb=>?_) (fun hb=>?_)<;>fail_if_success (cases hb;done)<;>refine yS (oj hn_g2 (oj d1 (oj f0 (oj f1 (oj f2 hn_g10))))) ?_)
   ·have hm:=rmul_fa _ _ (w10 x om) (show(rd ((10:Int):Rat)).wf 1073741824 from rd_wf (fits_mono (fitsZ (by decide)) om))
    rw [rd_q,rd_q,show((10^x:Nat):Rat)*((10:Int):Rat)=((10^(x+1):Nat):Rat) from by rw [Nat.pow_succ];push_cast;rfl] at hm
    refine aw_dr 3 ty_mixed (by kernel_rfl) ?_
    repeat' first|refine yA1 (oj hn_g2 (oj d1 (oj f0 (oj f1 (oj f2 hn_g10))))) ?_|(refine yC2 (oj hn_g2 (oj d1 (oj f0 (oj f1 (oj f2 hn_g10))))) (h10) ?_)|(refine yD2 (oj hn_g2 (oj d1 (oj f0 (oj f1 (oj f2 hn_g10))))) (h10) ?_)|(refine yC2 (oj hn_g2 (oj d1 (oj f0 (oj f1 (oj f2 hn_g10))))) (hm) ?_)|(refine yD2 (oj hn_g2 (oj d1 (oj f0 (oj f1 (oj f2 hn_g10))))) (hm) ?_)|(refine yW (oj hn_g2 (oj d1 (oj f0 (oj f1 (oj f2 hn_g10))))) ?_;refine yS (oj hn_g2 (oj d1 (oj f0 (oj f1 (oj f2 hn_g10))))) ?_)|refine yP (oj hn_g2 (oj d1 (oj f0 (oj f1 (oj f2 hn_g10))))) ?_|refine yN (oj hn_g2 (oj d1 (oj f0 (oj f1 (oj f2 hn_g10))))) ?_|refine aw_cd (zE (oj hn_g2 (oj d1 (oj f0 (oj f1 (oj f2 hn_g10)))))) (fun hb=>?_) (fun hb=>?_)|refine aw_ce (zE (oj hn_g2 (oj d1 (oj f0 (oj f1 (oj f2 hn_g10)))))) (fun hb=>?_) (fun hb=>?_)|refine aw_cn (zE (oj hn_g2 (oj d1 (oj f0 (oj f1 (oj f2 hn_g10)))))) (fun hb=>?_) (fun hb=>?_)|(refine yF (oj hn_g2 (oj d1 (oj f0 (oj f1 (oj f2 hn_g10))))) (fun hb=>?_) (fun hb=>?_)<;>fail_if_success (cases hb;done))|(refine aw_gsd rfl rfl (zE (oj hn_g2 (oj d1 (oj f0 (oj f1 (oj f2 hn_g10)))))) (fun hb=>?_) (fun hb=>?_)<;>refine yS (oj hn_g2 (oj d1 (oj f0 (oj f1 (oj f2 hn_g10))))) ?_)|(refine aw_gse rfl rfl (zE (oj hn_g2 (oj d1 (oj f0 (oj f1 (oj f2 hn_g10)))))) (fun hb=>?_) (fun hb=>?_)<;>refine yS (oj hn_g2 (oj d1 (oj f0 (oj f1 (oj f2 hn_g10))))) ?_)|(refine aw_gsn rfl rfl (zE (oj hn_g2 (oj d1 (oj f0 (oj f1 (oj f2 hn_g10)))))) (fun hb=>?_) (fun hb=>?_)<;>refine yS (oj hn_g2 (oj d1 (oj f0 (oj f1 (oj f2 hn_g10))))) ?_)|(refine aw_gs rfl rfl (zE (oj hn_g2 (oj d1 (oj f0 (oj f1 (oj f2 hn_g10)))))) (fun hb=>?_) (fun hb=>?_)<;>fail_if_success (cases hb;done)<;>refine yS (oj hn_g2 (oj d1 (oj f0 (oj f1 (oj f2 hn_g10))))) ?_)|(refine drk_gsd rfl rfl (zE (oj hn_g2 (oj d1 (oj f0 (oj f1 (oj f2 hn_g10)))))) (fun hb=>?_) (fun hb=>?_)<;>refine yS (oj hn_g2 (oj d1 (oj f0 (oj f1 (oj f2 hn_g10))))) ?_)|(refine drk_gse rfl rfl (zE (oj hn_g2 (oj d1 (oj f0 (oj f1 (oj f2 hn_g10)))))) (fun hb=>?_) (fun hb=>?_)<;>refine yS (oj hn_g2 (oj d1 (oj f0 (oj f1 (oj f2 hn_g10))))) ?_)|(refine drk_gsn rfl rfl (zE (oj hn_g2 (oj d1 (oj f0 (oj f1 (oj f2 hn_g10)))))) (fun hb=>?_) (fun hb=>?_)<;>refine yS (oj hn_g2 (oj d1 (oj f0 (oj f1 (oj f2 hn_g10))))) ?_)|(refine drk_gs rfl rfl (zE (oj hn_g2 (oj d1 (oj f0 (oj f1 (oj f2 hn_g10)))))) (fun hb=>?_) (fun hb=>?_)<;>fail_if_success (cases hb;done)<;>refine yS (oj hn_g2 (oj d1 (oj f0 (oj f1 (oj f2 hn_g10))))) ?_)
    exact aw_stop ⟨x+1,by omega,(zB (oj hn_g2 (oj d1 (oj f0 (oj f1 (oj f2 hn_g10)))))),List.Sublist.refl _,by omega⟩
   ·obtain rfl:x=b.length:=by omega
    refine aw_dr 8 ty_mixed (by kernel_rfl) ?_
    repeat' first|refine yA1 (oj hn_g2 (oj d1 (oj f0 (oj f1 (oj f2 hn_g10))))) ?_|(refine yC2 (oj hn_g2 (oj d1 (oj f0 (oj f1 (oj f2 hn_g10))))) (hw2) ?_)|(refine yD2 (oj hn_g2 (oj d1 (oj f0 (oj f1 (oj f2 hn_g10))))) (hw2) ?_)|(refine yC2 (oj hn_g2 (oj d1 (oj f0 (oj f1 (oj f2 hn_g10))))) (hd) ?_)|(refine yD2 (oj hn_g2 (oj d1 (oj f0 (oj f1 (oj f2 hn_g10))))) (hd) ?_)|(refine yW (oj hn_g2 (oj d1 (oj f0 (oj f1 (oj f2 hn_g10))))) ?_;refine yS (oj hn_g2 (oj d1 (oj f0 (oj f1 (oj f2 hn_g10))))) ?_)|refine yP (oj hn_g2 (oj d1 (oj f0 (oj f1 (oj f2 hn_g10))))) ?_|refine yN (oj hn_g2 (oj d1 (oj f0 (oj f1 (oj f2 hn_g10))))) ?_|refine aw_cd (zE (oj hn_g2 (oj d1 (oj f0 (oj f1 (oj f2 hn_g10)))))) (fun hb=>?_) (fun hb=>?_)|refine aw_ce (zE (oj hn_g2 (oj d1 (oj f0 (oj f1 (oj f2 hn_g10)))))) (fun hb=>?_) (fun hb=>?_)|refine aw_cn (zE (oj hn_g2 (oj d1 (oj f0 (oj f1 (oj f2 hn_g10)))))) (fun hb=>?_) (fun hb=>?_)|(refine yF (oj hn_g2 (oj d1 (oj f0 (oj f1 (oj f2 hn_g10))))) (fun hb=>?_) (fun hb=>?_)<;>fail_if_success (cases hb;done))|(refine aw_gsd rfl rfl (zE (oj hn_g2 (oj d1 (oj f0 (oj f1 (oj f2 hn_g10)))))) (fun hb=>?_) (fun hb=>?_)<;>refine yS (oj hn_g2 (oj d1 (oj f0 (oj f1 (oj f2 hn_g10))))) ?_)|(refine aw_gse rfl rfl (zE (oj hn_g2 (oj d1 (oj f0 (oj f1 (oj f2 hn_g10)))))) (fun hb=>?_) (fun hb=>?_)<;>refine yS (oj hn_g2 (oj d1 (oj f0 (oj f1 (oj f2 hn_g10))))) ?_)|(refine aw_gsn rfl rfl (zE (oj hn_g2 (oj d1 (oj f0 (oj f1 (oj f2 hn_g10)))))) (fun hb=>?_) (fun hb=>?_)<;>refine yS (oj hn_g2 (oj d1 (oj f0 (oj f1 (oj f2 hn_g10))))) ?_)|(refine aw_gs rfl rfl (zE (oj hn_g2 (oj d1 (oj f0 (oj f1 (oj f2 hn_g10)))))) (fun hb=>?_) (fun hb=>?_)<;>fail_if_success (cases hb;done)<;>refine yS (oj hn_g2 (oj d1 (oj f0 (oj f1 (oj f2 hn_g10))))) ?_)|(refine drk_gsd rfl rfl (zE (oj hn_g2 (oj d1 (oj f0 (oj f1 (oj f2 hn_g10)))))) (fun hb=>?_) (fun hb=>?_)<;>refine yS (oj hn_g2 (oj d1 (oj f0 (oj f1 (oj f2 hn_g10))))) ?_)|(refine drk_gse rfl rfl (zE (oj hn_g2 (oj d1 (oj f0 (oj f1 (oj f2 hn_g10)))))) (fun hb=>?_) (fun hb=>?_)<;>refine yS (oj hn_g2 (oj d1 (oj f0 (oj f1 (oj f2 hn_g10))))) ?_)|(refine drk_gsn rfl rfl (zE (oj hn_g2 (oj d1 (oj f0 (oj f1 (oj f2 hn_g10)))))) (fun hb=>?_) (fun hb=>?_)<;>refine yS (oj hn_g2 (oj d1 (oj f0 (oj f1 (oj f2 hn_g10))))) ?_)|(refine drk_gs rfl rfl (zE (oj hn_g2 (oj d1 (oj f0 (oj f1 (oj f2 hn_g10)))))) (fun hb=>?_) (fun hb=>?_)<;>fail_if_success (cases hb;done)<;>refine yS (oj hn_g2 (oj d1 (oj f0 (oj f1 (oj f2 hn_g10))))) ?_)
    refine yT hC (oj hn_g2 (oj d1 (oj f0 (oj f1 (oj f2 hn_g10))))) ?_
    exact .tup ⟨.agg lerl_rd,.c (ler_err0 rfl),trivial⟩
end Go.Proofs.YteocnikcjjonbaaGreat
namespace Go.PN
open Go.AI
variable {α β γ δ : Type}
def bnd (f:PS→α×PS) (k:α→PS→β×PS) (s:PS):β×PS:=k (f s).1 (f s).2
structure Rdr (f:PS→α×PS):Prop where
 suf:∀s,(f s).2.l<:+s.l
 stk:∀s,s.e≠0→(f s).2=s
theorem Rdr.bnd {f:PS→α×PS} {k:α→PS→β×PS} (hf:Rdr f) (hk:∀a,Rdr (k a)):Rdr (bnd f k):=
 ⟨fun s=>((hk _).suf _).trans (hf.suf s),fun s h=>by
  have h1:=hf.stk s h
  show(k (f s).1 (f s).2).2=s
  rw [h1]
  exact(hk _).stk s h⟩
theorem rdr_pure (a:α):Rdr fun s=>(a,s):=⟨fun _=>List.suffix_refl _,fun _ _=>rfl⟩
theorem rdr_take (m:PS→Bool):Rdr fun s=>takeS (m s) s:=by
 refine⟨fun s=> ?_,fun s h=> ?_⟩
 ·unfold takeS
  split
  ·split
   ·rename_i h;rw [h];exact List.suffix_refl _
   ·rename_i t l h
    rw [h]
    split
    ·exact List.suffix_cons t l
    ·exact List.suffix_refl _
  ·exact List.suffix_refl _
 ·unfold takeS
  rw [if_neg h]
theorem rdr_fail (c:PS→Int) (a:α):Rdr fun s=>(a,failS (c s) s):=by
 refine⟨fun s=> ?_,fun s h=> ?_⟩
 ·show(failS (c s) s).l<:+s.l
  unfold failS
  split<;>exact List.suffix_refl _
 ·show failS (c s) s=s
  unfold failS
  rw [if_neg h]
theorem rdr_ite {c:PS→Prop} [DecidablePred c] {f g:PS→α×PS} (hf:Rdr f) (hg:Rdr g):Rdr fun s=>if c s then f s else g s:=by
 refine⟨fun s=> ?_,fun s h=> ?_⟩
 ·show(if c s then f s else g s).2.l<:+s.l
  split
  ·exact hf.suf s
  ·exact hg.suf s
 ·show(if c s then f s else g s).2=s
  split
  ·exact hf.stk s h
  ·exact hg.stk s h
theorem rdr_loop {c:PS→Bool} {b:α→PS→α×PS} (hb:∀a,Rdr (b a)):∀(n:Nat) (a:α),Rdr (loopS c b n a):=by
 intro n
 induction n with
 |zero=>exact fun a=>rdr_pure a
 |succ n ih=>
  intro a
  refine⟨fun s=> ?_,fun s h=> ?_⟩
  ·unfold loopS
   split
   ·exact((ih _).suf _).trans ((hb a).suf s)
   ·exact List.suffix_refl _
  ·unfold loopS
   rw [if_neg (fun x=>h x.1)]
theorem rdr_lp {c:PS→Bool} {b:α→PS→α×PS} (hb:∀a,Rdr (b a)) (a:α):Rdr (lpS c b a):=
 ⟨fun s=>(rdr_loop hb _ a).suf s,fun s h=>(rdr_loop hb _ a).stk s h⟩
theorem rdr_word:Rdr wordS:=rdr_take _
theorem rdr_exp (w:BS):Rdr fun s=>((),expS w s):=⟨fun s=>(rdr_take fun s=>isS s w).suf s,fun s h=>(rdr_take fun s=>isS s w).stk s h⟩
theorem rdr_num:Rdr numS:=by
 have h:=rdr_take fun s=>kindS s 1
 refine⟨fun s=> ?_,fun s h0=> ?_⟩
 ·have h1:=h.suf s
  unfold numS
  dsimp only
  split
  ·split
   ·exact h1
   ·exact h1
  ·exact h1
 ·have h1:=h.stk s h0
  unfold numS
  dsimp only at h1⊢
  rw [h1,if_neg h0]
theorem rdr_whole:Rdr wholeS:=by
 refine⟨fun s=> ?_,fun s h0=> ?_⟩
 ·have h1:=rdr_num.suf s
  unfold wholeS
  dsimp only
  split
  ·split
   ·split
    ·exact h1
    ·exact h1
   ·exact h1
  ·exact h1
 ·have h1:=rdr_num.stk s h0
  unfold wholeS
  dsimp only
  rw [h1,if_neg h0]
theorem rdr_input:Rdr inputS:=rdr_ite (c:=fun s=>isS s kAt=true) (Rdr.bnd (rdr_exp kAt) fun _=>Rdr.bnd rdr_word fun t=>rdr_pure (64::t)) rdr_word
def TksOk (l:List TK):Prop:=∀t∈l,TkOk t
theorem TksOk.suf {l r:List TK} (h:TksOk l) (hs:r<:+l):TksOk r:=fun t ht=>h t (hs.subset ht)
def Agr (R:α→β→Prop) (f:PS→α×PS) (g:PS→β×PS):Prop:=
 ∀s,TksOk s.l→s.e=0→(f s).2.e=(g s).2.e∧((f s).2.e=0→(f s).2=(g s).2∧R (f s).1 (g s).1)
theorem Agr.bnd {R:α→β→Prop} {T:γ→δ→Prop} {f:PS→α×PS} {g:PS→β×PS} {k:α→PS→γ×PS} {k':β→PS→δ×PS} (h:Agr R f g) (hf:Rdr f) (hk:∀a b,R a b→Agr T (k a) (k' b)) (r:∀a,Rdr (k a)) (r':∀b,Rdr (k' b)):Agr T (PN.bnd f k) (PN.bnd g k'):=by
 intro s ok e0
 obtain⟨h1,h2⟩:=h s ok e0
 show((k (f s).1 (f s).2).2.e=(k' (g s).1 (g s).2).2.e)∧_
 by_cases e1:(f s).2.e=0
 ·obtain⟨h3,h4⟩:=h2 e1
  have:=hk _ _ h4 (f s).2 (ok.suf (hf.suf s)) e1
  unfold PN.bnd
  rw [←h3]
  exact this
 ·have e3:=(r (f s).1).stk _ e1
  have e4:=(r' (g s).1).stk _ (by rw [←h1];exact e1)
  rw [e3,e4]
  exact⟨h1,fun x=>absurd (show(k (f s).1 (f s).2).2.e=0 from x) (by rw [e3];exact e1)⟩
theorem Agr.pure {R:α→β→Prop} {a:α} {b:β} (h:R a b):Agr R (fun s=>(a,s)) (fun s=>(b,s)):=fun _ _ _=>⟨rfl,fun _=>⟨rfl,h⟩⟩
theorem Agr.loop {R:α→β→Prop} {T:γ→δ→Prop} {c c':PS→Bool} {b:α→PS→α×PS} {b':β→PS→β×PS} {k:α→PS→γ×PS} {k':β→PS→δ×PS}
  (rb:∀a,Rdr (b a)) (rk:∀a,Rdr (k a)) (rk':∀a,Rdr (k' a)) (hd:∀a s,s.e=0→c s=true→mS (b a s).2<mS s) (hd':∀a s,s.e=0→c' s=true→mS (b' a s).2<mS s)
  (h11:∀a a' s,R a a'→TksOk s.l→s.e=0→c s=true→c' s=true→(b a s).2.e=(b' a' s).2.e∧((b a s).2.e=0→(b a s).2=(b' a' s).2∧R (b a s).1 (b' a' s).1))
  (h10:∀(a:α) (a':β) s,TksOk s.l→s.e=0→c s=true→c' s=false→False)
  (h01:∀(a:α) (a':β) s,TksOk s.l→s.e=0→c s=false→c' s=true→(k a s).2.e≠0∧(b' a' s).2.e=(k a s).2.e)
  (h00:∀a a' s,R a a'→TksOk s.l→s.e=0→c s=false→c' s=false→(k a s).2.e=(k' a' s).2.e∧((k a s).2.e=0→(k a s).2=(k' a' s).2∧T (k a s).1 (k' a' s).1)):
  ∀a a',R a a'→Agr T (PN.bnd (lpS c b a) k) (PN.bnd (lpS c' b' a') k'):=by
 intro a a' hR s
 generalize hn:mS s=n
 induction n using Nat.strongRecOn generalizing a a' s with
 |_ n ih=>
  intro ok e0
  cases hc:c s with
  |true=>
   cases hc':c' s with
   |false=>exact(h10 a a' s ok e0 hc hc').elim
   |true=>
    obtain⟨h1,h2⟩:=h11 a a' s hR ok e0 hc hc'
    have l1:=hd a s e0 hc
    have l2:=hd' a' s e0 hc'
    have s1:PN.bnd (lpS c b a) k s=PN.bnd (lpS c b (b a s).1) k (b a s).2:=by unfold PN.bnd;rw [lpS_step hd e0 hc]
    have s2:PN.bnd (lpS c' b' a') k' s=PN.bnd (lpS c' b' (b' a' s).1) k' (b' a' s).2:=by unfold PN.bnd;rw [lpS_step hd' e0 hc']
    rw [s1,s2]
    by_cases e1:(b a s).2.e=0
    ·obtain⟨h3,h4⟩:=h2 e1
     rw [←h3]
     exact ih _ om _ _ h4 _ rfl (ok.suf ((rb a).suf s)) e1
    ·have q1:PN.bnd (lpS c b (b a s).1) k (b a s).2=k (b a s).1 (b a s).2:=by unfold PN.bnd;rw [lpS_end (fun x=>e1 x.1)]
     have q2:PN.bnd (lpS c' b' (b' a' s).1) k' (b' a' s).2=k' (b' a' s).1 (b' a' s).2:=by unfold PN.bnd;rw [lpS_end (fun x=>e1 (h1.trans x.1))]
     rw [q1,q2,(rk _).stk _ e1,(rk' _).stk _ (by rw [←h1];exact e1)]
     exact⟨h1,fun x=>absurd x e1⟩
  |false=>
   have q1:PN.bnd (lpS c b a) k s=k a s:=by unfold PN.bnd;rw [lpS_end (fun x=>by rw [hc] at x;exact absurd x.2 (by decide))]
   rw [q1]
   cases hc':c' s with
   |false=>
    have q2:PN.bnd (lpS c' b' a') k' s=k' a' s:=by unfold PN.bnd;rw [lpS_end (fun x=>by rw [hc'] at x;exact absurd x.2 (by decide))]
    rw [q2]
    exact h00 a a' s hR ok e0 hc hc'
   |true=>
    obtain⟨h1,h2⟩:=h01 a a' s ok e0 hc hc'
    have s2:PN.bnd (lpS c' b' a') k' s=k' (b' a' s).1 (b' a' s).2:=by
     unfold PN.bnd
     rw [lpS_step hd' e0 hc',lpS_end (fun x=>h1 (h2.symm.trans x.1))]
    rw [s2,(rk' _).stk _ (by rw [h2];exact h1)]
    exact⟨h2.symm,fun x=>absurd x h1⟩
def Con (f:PS→α×PS):Prop:=∀s,s.e=0→mS (f s).2<mS s
theorem con_take (m:PS→Bool):Con fun s=>takeS (m s) s:=by
 intro s h
 dsimp only
 unfold takeS mS
 rw [if_pos h,if_pos h]
 split
 ·simp
 ·rename_i t l hl
  rw [hl]
  split
  ·simp
  ·simp
theorem mS_suf {s r:PS} (h:s.e=0) (hs:r.l<:+s.l):mS r≤mS s:=by
 unfold mS
 rw [if_pos h]
 split
 ·have:=hs.length_le;omega
 ·omega
theorem rdr_mS {f:PS→α×PS} (hf:Rdr f) (s:PS):mS (f s).2≤mS s:=by
 by_cases h:s.e=0
 ·exact mS_suf h (hf.suf s)
 ·rw [hf.stk s h];exact Nat.le_refl _
theorem Con.bnd {f:PS→α×PS} {k:α→PS→β×PS} (hf:Con f) (hk:∀a,Rdr (k a)):Con (bnd f k):=fun s h=>Nat.lt_of_le_of_lt (rdr_mS (hk _) _) (hf s h)
theorem Con.ite {c:PS→Prop} [DecidablePred c] {f g:PS→α×PS} (hf:Con f) (hg:Con g):Con fun s=>if c s then f s else g s:=fun s h=>by
 show mS (if c s then f s else g s).2<mS s
 split
 ·exact hf s h
 ·exact hg s h
theorem con_word:Con wordS:=con_take _
theorem con_exp (w:BS):Con fun s=>((),expS w s):=fun s h=>con_take (fun s=>isS s w) s h
theorem con_num:Con numS:=by
 intro s h
 have h1:=con_take (fun s=>kindS s 1) s h
 dsimp only at h1
 unfold numS
 dsimp only
 split
 ·split
  ·exact h1
  ·rename_i h2
   unfold mS at h1⊢
   rw [if_neg h2]
   rw [if_pos h]
   omega
 ·exact h1
theorem con_input:Con inputS:=Con.ite (c:=fun s=>isS s kAt=true) (Con.bnd (con_exp kAt) fun _=>Rdr.bnd rdr_word fun t=>rdr_pure (64::t)) con_word
end Go.PN
namespace Go.PN
open Go.AI
variable {α β γ δ : Type}
theorem rdr_inB (x:List BS):Rdr (inB x):=Rdr.bnd rdr_input fun t=>rdr_pure (x++[t])
theorem con_inB (x:List BS):Con (inB x):=Con.bnd con_input fun t=>rdr_pure (x++[t])
def insS (s:PS):List BS×PS:=let q:=lpS (fun s=> !isS s kSemi) inB [] s
 (q.1,expS kSemi q.2)
theorem rdr_ins:Rdr insS:=Rdr.bnd (rdr_lp rdr_inB []) fun q=>Rdr.bnd (rdr_exp kSemi) fun _=>rdr_pure q
def kdS (s:PS):Option Int:=if kindS s 0 then gkind (hdT s) else none
def gkS (s:PS):Option Int×PS:=(kdS s,(takeS (kdS s).isSome s).2)
theorem take_nil {m:Bool} {s:PS} (e0:s.e=0) (h:s.l=[]):takeS m s=([],⟨[],20⟩):=by unfold takeS;rw [if_pos e0,h]
theorem take_cons {m:Bool} {s:PS} {t:TK} {l:List TK} (e0:s.e=0) (h:s.l=t::l):takeS m s=if m then(t.text,⟨l,0⟩) else([],⟨t::l,2⟩):=by unfold takeS;rw [if_pos e0,h]
theorem kind_nil {k:Nat} {s:PS} (h:s.l=[]):kindS s k=false:=by unfold kindS;rw [h];simp
theorem kind_cons {k:Nat} {s:PS} {t:TK} {l:List TK} (e0:s.e=0) (h:s.l=t::l):kindS s k=(t.kind==k):=by unfold kindS;rw [h,e0];simp
theorem rdr_gk:Rdr gkS:=by
 have h:=rdr_take fun s=>(kdS s).isSome
 exact⟨fun s=>h.suf s,fun s h0=>h.stk s h0⟩
def gtK (nm:BS) (k:Option Int):PS→GtD×PS:=PN.bnd (fun s=>if k=some 2 then wholeS s else(0,s)) fun v=>PN.bnd (fun s=>if k=some 7 then numS s else(rd0,s)) fun d=>PN.bnd insS fun q s=>(⟨nm,k.getD 0,v,q,d⟩,s)
theorem rdr_gtK (nm:BS) (k:Option Int):Rdr (gtK nm k):=Rdr.bnd (rdr_ite rdr_whole (rdr_pure 0)) fun _=>Rdr.bnd (rdr_ite rdr_num (rdr_pure rd0)) fun _=>Rdr.bnd rdr_ins fun _=>rdr_pure _
theorem gateS_eq:gateS=PN.bnd wordS fun nm=>PN.bnd gkS fun k=>gtK nm k:=rfl
theorem rdr_gate:Rdr gateS:=by rw [gateS_eq];exact Rdr.bnd rdr_word fun nm=>Rdr.bnd rdr_gk fun k=>rdr_gtK nm k
end Go.PN
namespace Go.PN
open Go.AI
variable {α β γ δ : Type}
theorem is_nil {w:BS} {s:PS} (h:s.l=[]):isS s w=false:=by unfold isS;rw [h];simp
theorem is_cons {w:BS} {s:PS} {t:TK} {l:List TK} (e0:s.e=0) (h:s.l=t::l):isS s w=(t.kind !=1&&t.text==w):=by unfold isS;rw [h,e0];simp
theorem hd_cons {s:PS} {t:TK} {l:List TK} (h:s.l=t::l):hdT s=t.text:=by unfold hdT;rw [h]
structure EvR (x:List BS×EvD) (y:List Bool×EvD):Prop where
 ev:x.2=y.2
 len:y.1.length=4
 p:x.1.contains kP=y.1.getD 0 false
 f:x.1.contains kFail=y.1.getD 1 false
 r:x.1.contains kRepair=y.1.getD 2 false
 c:x.1.contains kCost=y.1.getD 3 false
theorem set4 {l:List Bool} (h:l.length=4) (k j:Nat) (hk:k<4):(l.set k true).getD j false=if k=j then true else l.getD j false:=by
 rw [List.getD_eq_getElem?_getD,List.getElem?_set]
 by_cases e:k=j
 ·subst e;rw [if_pos rfl,if_pos om,if_pos rfl];rfl
 ·rw [if_neg e,if_neg e,List.getD_eq_getElem?_getD]
theorem EvR.cons {x:List BS×EvD} {y:List Bool×EvD} (h:EvR x y) (k:Nat) (w:BS) (hw:(k=0∧w=kP)∨(k=1∧w=kFail)∨(k=2∧w=kRepair)∨(k=3∧w=kCost)) {u v:EvD} (e:u=v):EvR (w::x.1,u) (y.1.set k true,v):=by
 have hp:=h.p
 have hf:=h.f
 have hr:=h.r
 have hc:=h.c
 refine⟨e,by rw [List.length_set];exact h.len,?_,?_,?_,?_⟩
 all_goals
  dsimp only
  rw [List.contains_cons,set4 h.len k _ om]
  rcases hw with ⟨rfl,rfl⟩|⟨rfl,rfl⟩|⟨rfl,rfl⟩|⟨rfl,rfl⟩
  all_goals first|(rw [hp];rfl)|(rw [hf];rfl)|(rw [hr];rfl)|(rw [hc];rfl)|rfl
theorem rdr_evB (x:List BS×EvD):Rdr (evB x):=by
 refine⟨fun s=> ?_,fun s h=> ?_⟩
 ·have ht:=(rdr_take fun s=>isS s kP||isS s kFail||isS s kRepair||isS s kCost).suf s
  unfold evB
  dsimp only at ht⊢
  split
  ·exact(rdr_fail (fun _=>6) x).suf s
  ·repeat' split
   all_goals first|exact(rdr_num.suf _).trans ht|exact(rdr_whole.suf _).trans ht|exact ht
 ·have ht:=(rdr_take fun s=>isS s kP||isS s kFail||isS s kRepair||isS s kCost).stk s h
  have hv:∀m,takeS m s=([],s):=fun m=>by unfold takeS;rw [if_neg h]
  have hz:∀w,isS s w=false:=fun w=>by unfold isS;simp [h]
  unfold evB
  dsimp only
  rw [hz,hz,hz,hz,hv]
  rfl
theorem con_evB (x:List BS×EvD):Con (evB x):=by
 intro s e0
 have ht:=con_take (fun s=>isS s kP||isS s kFail||isS s kRepair||isS s kCost) s e0
 dsimp only at ht
 unfold evB
 dsimp only
 split
 ·show mS (failS 6 s)<mS s
  unfold failS mS
  rw [if_pos e0,if_pos e0];simp
 ·repeat' split
  all_goals first|exact Nat.lt_of_le_of_lt (rdr_mS rdr_num _) ht|exact Nat.lt_of_le_of_lt (rdr_mS rdr_whole _) ht|exact ht
def evK (q:List BS×EvD):PS→EvD×PS:=PN.bnd (fun s=>((),expS kSemi s)) fun _ s=>(q.2,s)
theorem eventS_eq:eventS=PN.bnd wordS fun nm=>PN.bnd (lpS (fun s=> !isS s kSemi) evB ([],{ev0 with name:=nm})) evK:=rfl
theorem rdr_evK (q:List BS×EvD):Rdr (evK q):=Rdr.bnd (rdr_exp kSemi) fun _=>rdr_pure _
theorem rdr_event:Rdr eventS:=by rw [eventS_eq];exact Rdr.bnd rdr_word fun nm=>Rdr.bnd (rdr_lp rdr_evB _) rdr_evK
def hsT (s:PS):Bool×PS:=((takeS (isS s kOn||isS s kOff) s).1==kOn,(takeS (isS s kOn||isS s kOff) s).2)
theorem rdr_hsT:Rdr hsT:=by
 have h:=rdr_take fun s=>isS s kOn||isS s kOff
 exact⟨fun s=>h.suf s,fun s h0=>h.stk s h0⟩
theorem houseS_eq:houseS=PN.bnd wordS fun nm=>PN.bnd hsT fun b=>PN.bnd (fun s=>((),expS kSemi s)) fun _ s=>(⟨nm,b⟩,s):=rfl
theorem rdr_house:Rdr houseS:=by rw [houseS_eq];exact Rdr.bnd rdr_word fun nm=>Rdr.bnd rdr_hsT fun b=>Rdr.bnd (rdr_exp _) fun _=>rdr_pure _
end Go.PN
namespace Go.PN
open Go.AI
variable {α β γ δ : Type}
theorem rdr_pgB (x:List GtD):Rdr (pgB x):=Rdr.bnd (rdr_exp kGate) fun _=>Rdr.bnd rdr_gate fun g=>rdr_pure (x++[g])
theorem con_pgB (x:List GtD):Con (pgB x):=Con.bnd (con_exp kGate) fun _=>Rdr.bnd rdr_gate fun g=>rdr_pure (x++[g])
def pgK (nm t:BS) (q:List GtD):PS→PgD×PS:=PN.bnd (fun s=>((),expS kClose s)) fun _ s=>(⟨nm,t,q⟩,s)
theorem rdr_pgK (nm t:BS) (q:List GtD):Rdr (pgK nm t q):=Rdr.bnd (rdr_exp _) fun _=>rdr_pure _
def topK (k:BS→PS→α×PS):PS→α×PS:=PN.bnd (fun s=>((),expS kTop s)) fun _=>PN.bnd inputS fun t=>PN.bnd (fun s=>((),expS kOpen s)) fun _=>k t
theorem rdr_topK {k:BS→PS→α×PS} (h:∀t,Rdr (k t)):Rdr (topK k):=Rdr.bnd (rdr_exp _) fun _=>Rdr.bnd rdr_input fun t=>Rdr.bnd (rdr_exp _) fun _=>h t
theorem pageS_eq:pageS=PN.bnd wordS fun nm=>topK fun t=>PN.bnd (lpS (fun s=> !isS s kClose) pgB []) (pgK nm t):=rfl
theorem rdr_page:Rdr pageS:=by rw [pageS_eq];exact Rdr.bnd rdr_word fun nm=>rdr_topK fun t=>Rdr.bnd (rdr_lp rdr_pgB _) (rdr_pgK nm t)
theorem vlB_eq (x:List VlD):vlB x=PN.bnd wordS fun w=>PN.bnd numS fun q=>PN.bnd (fun s=>((),expS kSemi s)) fun _ s=>(x++[⟨w,q⟩],s):=rfl
theorem rdr_vlB (x:List VlD):Rdr (vlB x):=by rw [vlB_eq];exact Rdr.bnd rdr_word fun w=>Rdr.bnd rdr_num fun q=>Rdr.bnd (rdr_exp kSemi) fun _=>rdr_pure (x++[⟨w,q⟩])
theorem con_vlB (x:List VlD):Con (vlB x):=by rw [vlB_eq];exact Con.bnd con_word fun w=>Rdr.bnd rdr_num fun q=>Rdr.bnd (rdr_exp kSemi) fun _=>rdr_pure (x++[⟨w,q⟩])
def phK (nm t:BS) (q:List VlD):PS→PhD×PS:=PN.bnd (fun s=>((),expS kClose s)) fun _ s=>(⟨nm,t,q⟩,s)
theorem rdr_phK (nm t:BS) (q:List VlD):Rdr (phK nm t q):=Rdr.bnd (rdr_exp _) fun _=>rdr_pure _
theorem phaseS_eq:phaseS=PN.bnd wordS fun nm=>topK fun t=>PN.bnd (lpS (fun s=> !isS s kClose) vlB []) (phK nm t):=rfl
theorem rdr_phase:Rdr phaseS:=by rw [phaseS_eq];exact Rdr.bnd rdr_word fun nm=>rdr_topK fun t=>Rdr.bnd (rdr_lp rdr_vlB _) (rdr_phK nm t)
end Go.PN
namespace Go.PN
open Go.AI
variable {α β γ δ : Type}
def grT (s:PS):Int×PS:=(if(takeS (isS s kBeta||isS s kGreek) s).1==kGreek then 1 else 0,(takeS (isS s kBeta||isS s kGreek) s).2)
theorem rdr_grT:Rdr grT:=by
 have h:=rdr_take fun s=>isS s kBeta||isS s kGreek
 exact⟨fun s=>h.suf s,fun s h0=>h.stk s h0⟩
theorem rdr_facB (x:List RD):Rdr (facB x):=Rdr.bnd rdr_num fun q=>rdr_pure (x++[q])
theorem con_facB (x:List RD):Con (facB x):=Con.bnd con_num fun q=>rdr_pure (x++[q])
theorem rdr_memB (x:List BS):Rdr (memB x):=Rdr.bnd rdr_word fun q=>rdr_pure (x++[q])
theorem con_memB (x:List BS):Con (memB x):=Con.bnd con_word fun q=>rdr_pure (x++[q])
def grM (nm:BS) (g:Int) (f:List RD):PS→GrD×PS:=PN.bnd (lpS (fun s=>kindS s 0) memB []) fun m=>PN.bnd (fun s=>((),expS kSemi s)) fun _ s=>(⟨nm,g,m,f⟩,s)
theorem rdr_grM (nm:BS) (g:Int) (f:List RD):Rdr (grM nm g f):=Rdr.bnd (rdr_lp rdr_memB _) fun _=>Rdr.bnd (rdr_exp _) fun _=>rdr_pure _
def grF (nm:BS) (g:Int):PS→GrD×PS:=PN.bnd (lpS (fun s=>kindS s 1) facB []) fun f=>PN.bnd (fun s=>((),expS kColon s)) fun _=>grM nm g f
theorem rdr_grF (nm:BS) (g:Int):Rdr (grF nm g):=Rdr.bnd (rdr_lp rdr_facB _) fun f=>Rdr.bnd (rdr_exp _) fun _=>rdr_grM nm g f
theorem groupS_eq:groupS=PN.bnd wordS fun nm=>PN.bnd grT fun g=>grF nm g:=rfl
theorem rdr_group:Rdr groupS:=by rw [groupS_eq];exact Rdr.bnd rdr_word fun nm=>Rdr.bnd rdr_grT fun g=>rdr_grF nm g
def stW (m:MdD) (w:BS):PS→MdD×PS:=
 if w==kEvent then PN.bnd eventS fun x s=>({m with events:=m.events++[x]},s)
 else if w==kHouse then PN.bnd houseS fun x s=>({m with houses:=m.houses++[x]},s)
 else if w==kGate then PN.bnd gateS fun x s=>({m with gates:=m.gates++[x]},s)
 else if w==kPage then PN.bnd pageS fun x s=>({m with pages:=m.pages++[x]},s)
 else if w==kGroup then PN.bnd groupS fun x s=>({m with groups:=m.groups++[x]},s)
 else if w==kPhase then PN.bnd phaseS fun x s=>({m with phases:=m.phases++[x]},s)
 else fun s=>(m,s)
def stM (s:PS):Bool:=isS s kEvent||isS s kHouse||isS s kGate||isS s kPage||isS s kGroup||isS s kPhase
theorem stB_eq (m:MdD) (s:PS):stB m s=PN.bnd (fun s=>takeS (stM s) s) (stW m) s:=by
 show stB m s=stW m (takeS (stM s) s).1 (takeS (stM s) s).2
 unfold stB stW stM
 dsimp only
 generalize takeS _ s=r
 repeat' split
 all_goals rfl
theorem rdr_stW (m:MdD) (w:BS):Rdr (stW m w):=by
 unfold stW
 repeat' split
 ·exact Rdr.bnd rdr_event fun _=>rdr_pure _
 ·exact Rdr.bnd rdr_house fun _=>rdr_pure _
 ·exact Rdr.bnd rdr_gate fun _=>rdr_pure _
 ·exact Rdr.bnd rdr_page fun _=>rdr_pure _
 ·exact Rdr.bnd rdr_group fun _=>rdr_pure _
 ·exact Rdr.bnd rdr_phase fun _=>rdr_pure _
 ·exact rdr_pure _
theorem rdr_stB (m:MdD):Rdr (stB m):=by
 rw [show stB m=PN.bnd (fun s=>takeS (stM s) s) (stW m) from funext (stB_eq m)]
 exact Rdr.bnd (rdr_take stM) (rdr_stW m)
theorem con_stB (m:MdD):Con (stB m):=by
 rw [show stB m=PN.bnd (fun s=>takeS (stM s) s) (stW m) from funext (stB_eq m)]
 exact Con.bnd (con_take stM) (rdr_stW m)
def rdK (m:MdD):PS→MdD×PS:=PN.bnd (fun s=>((),expS kTop s)) fun _=>PN.bnd inputS fun t=>PN.bnd (fun s=>((),expS kSemi s)) fun _ s=>({m with top:=t},endS s)
theorem readS_eq:readS=PN.bnd (fun s=>((),expS kModel s)) fun _=>PN.bnd wordS fun nm=>PN.bnd (fun s=>((),expS kSemi s)) fun _=>PN.bnd (lpS (fun s=> !isS s kTop) stB {md0 with name:=nm}) rdK:=rfl
end Go.PN
namespace Go.PN
open Go.AI
structure RAt (L:List TX) (s:PS) (a:Nat):Prop where
 le:a≤L.length
 nil:¬a<L.length→s.l=[]
 cons:a<L.length→∃l,s.l=(L.getD a tx0).t::l∧L.length-l.length=a+1
theorem rat {L:List TX} {s:PS} (hs:s.l<:+L.map TX.t):RAt L s (L.length-s.l.length):=by
 have hl:=hs.length_le
 rw [List.length_map] at hl
 refine⟨by omega,fun h=>List.length_eq_zero_iff.1 om,fun h=> ?_⟩
 cases hc:s.l with
 |nil=>rw [hc] at h;simp at h
 |cons t l=>
  rw [hc] at hl hs
  rw [List.length_cons] at hl
  refine⟨l,?_,by rw [List.length_cons];omega⟩
  obtain⟨p,hp⟩:=hs
  have hpl:p.length=L.length-(t::l).length:=by
   have:=congrArg List.length hp
   rw [List.length_append,List.length_map] at this
   omega
  have hlt:p.length<L.length:=by rw [List.length_cons] at hpl;omega
  have hg:(L.map TX.t)[p.length]?=some t:=by rw [←hp,List.getElem?_append_right (Nat.le_refl _)];simp
  rw [List.getElem?_map,List.getElem?_eq_getElem hlt] at hg
  rw [←hpl,List.getD_eq_getElem?_getD,List.getElem?_eq_getElem hlt]
  simp only [Option.map_some,Option.some.injEq] at hg
  rw [Option.getD_some,hg]
end Go.PN
namespace Go.Proofs.YteocnikcjjonbaaGreat
open Go.AI Go.PN
abbrev rdA (L:List TX) (a:Nat) (e:Int):AObj:=.cells 82 3 (ofL [txs true L,.int .i64 a,errA e])
abbrev rdO (L:List TX) (s:PS):AObj:=rdA L (L.length-s.l.length) s.e
attribute [local irreducible] aw Fa Fh DrK
theorem is_fg (g:Nat) (L:List TX) (s:PS) (w:BS) (hs:s.l<:+L.map TX.t) (hL:L.length≤1099511627776):Fg Tryz.prog 29 g (rdO L s) [.c (.optr g 0),.c (.str (sB w))] (.c (.bool (isS s w))) (rdO L s):=by
 have h:=rat hs
 generalize ha:L.length-s.l.length=a at h
 have hle:=h.le
 unfold Fg
 rw [show rdO L s=rdA L a s.e from by unfold rdO;rw [ha]]
 refine fh_of_body Tryz.func29 rfl rfl (by simp [Tryz.ntmps29]) fun C hC=> ?_
 simp only [initS,Nat.reduceAdd]
 repeat' first|refine yA1 o0 ?_|(refine xW ?_;refine xS ?_)|refine xP ?_|refine xN ?_|refine aw_cd eE (fun hb=>?_) (fun hb=>?_)|refine aw_ce eE (fun hb=>?_) (fun hb=>?_)|refine aw_cn eE (fun hb=>?_) (fun hb=>?_)|(refine xF (fun hb=>?_) (fun hb=>?_)<;>fail_if_success (cases hb;done))|(refine aw_gsd rfl rfl eE (fun hb=>?_) (fun hb=>?_)<;>refine xS ?_)|(refine aw_gse rfl rfl eE (fun hb=>?_) (fun hb=>?_)<;>refine xS ?_)|(refine aw_gsn rfl rfl eE (fun hb=>?_) (fun hb=>?_)<;>refine xS ?_)|(refine aw_gs rfl rfl eE (fun hb=>?_) (fun hb=>?_)<;>fail_if_success (cases hb;done)<;>refine xS ?_)|(refine drk_gsd rfl rfl eE (fun hb=>?_) (fun hb=>?_)<;>refine xS ?_)|(refine drk_gse rfl rfl eE (fun hb=>?_) (fun hb=>?_)<;>refine xS ?_)|(refine drk_gsn rfl rfl eE (fun hb=>?_) (fun hb=>?_)<;>refine xS ?_)|(refine drk_gs rfl rfl eE (fun hb=>?_) (fun hb=>?_)<;>fail_if_success (cases hb;done)<;>refine xS ?_)
 refine aw_dr 47 ty_mixed (by kernel_rfl) ?_
 repeat' first|refine yA1 o0 ?_|(refine xW ?_;refine xS ?_)|refine xP ?_|refine xN ?_|refine aw_cd eE (fun hb=>?_) (fun hb=>?_)|refine aw_ce eE (fun hb=>?_) (fun hb=>?_)|refine aw_cn eE (fun hb=>?_) (fun hb=>?_)|(refine xF (fun hb=>?_) (fun hb=>?_)<;>fail_if_success (cases hb;done))|(refine aw_gsd rfl rfl eE (fun hb=>?_) (fun hb=>?_)<;>refine xS ?_)|(refine aw_gse rfl rfl eE (fun hb=>?_) (fun hb=>?_)<;>refine xS ?_)|(refine aw_gsn rfl rfl eE (fun hb=>?_) (fun hb=>?_)<;>refine xS ?_)|(refine aw_gs rfl rfl eE (fun hb=>?_) (fun hb=>?_)<;>fail_if_success (cases hb;done)<;>refine xS ?_)|(refine drk_gsd rfl rfl eE (fun hb=>?_) (fun hb=>?_)<;>refine xS ?_)|(refine drk_gse rfl rfl eE (fun hb=>?_) (fun hb=>?_)<;>refine xS ?_)|(refine drk_gsn rfl rfl eE (fun hb=>?_) (fun hb=>?_)<;>refine xS ?_)|(refine drk_gs rfl rfl eE (fun hb=>?_) (fun hb=>?_)<;>fail_if_success (cases hb;done)<;>refine xS ?_)
 all_goals
  refine xU ?_
  refine⟨?_,rfl⟩
 ·rename_i h0 h1
  obtain⟨l',hl,_⟩:=h.cons h1
  rw [is_cons h0 hl,bne_iff_ne.2 hb,Bool.true_and]
 ·rename_i h0 h1
  obtain⟨l',hl,_⟩:=h.cons h1
  rw [is_cons h0 hl,hb];rfl
 ·rw [is_nil (h.nil hb)]
 ·rw [show isS s w=false from by unfold isS;simp [hb]]
theorem kind_fg (g:Nat) (L:List TX) (s:PS) (k:Nat) (hs:s.l<:+L.map TX.t) (hL:L.length≤1099511627776):Fg Tryz.prog 62 g (rdO L s) [.c (.optr g 0),.c (.int .i64 k)] (.c (.bool (kindS s k))) (rdO L s):=by
 have h:=rat hs
 generalize ha:L.length-s.l.length=a at h
 have hle:=h.le
 unfold Fg
 rw [show rdO L s=rdA L a s.e from by unfold rdO;rw [ha]]
 refine fh_of_body Tryz.func62 rfl rfl (by simp [Tryz.ntmps62]) fun C hC=> ?_
 simp only [initS,Nat.reduceAdd]
 repeat' first|refine yA1 o0 ?_|(refine xW ?_;refine xS ?_)|refine xP ?_|refine xN ?_|refine aw_cd eE (fun hb=>?_) (fun hb=>?_)|refine aw_ce eE (fun hb=>?_) (fun hb=>?_)|refine aw_cn eE (fun hb=>?_) (fun hb=>?_)|(refine xF (fun hb=>?_) (fun hb=>?_)<;>fail_if_success (cases hb;done))|(refine aw_gsd rfl rfl eE (fun hb=>?_) (fun hb=>?_)<;>refine xS ?_)|(refine aw_gse rfl rfl eE (fun hb=>?_) (fun hb=>?_)<;>refine xS ?_)|(refine aw_gsn rfl rfl eE (fun hb=>?_) (fun hb=>?_)<;>refine xS ?_)|(refine aw_gs rfl rfl eE (fun hb=>?_) (fun hb=>?_)<;>fail_if_success (cases hb;done)<;>refine xS ?_)|(refine drk_gsd rfl rfl eE (fun hb=>?_) (fun hb=>?_)<;>refine xS ?_)|(refine drk_gse rfl rfl eE (fun hb=>?_) (fun hb=>?_)<;>refine xS ?_)|(refine drk_gsn rfl rfl eE (fun hb=>?_) (fun hb=>?_)<;>refine xS ?_)|(refine drk_gs rfl rfl eE (fun hb=>?_) (fun hb=>?_)<;>fail_if_success (cases hb;done)<;>refine xS ?_)
 refine aw_dr 33 ty_mixed (by kernel_rfl) ?_
 repeat' first|refine yA1 o0 ?_|(refine xW ?_;refine xS ?_)|refine xP ?_|refine xN ?_|refine aw_cd eE (fun hb=>?_) (fun hb=>?_)|refine aw_ce eE (fun hb=>?_) (fun hb=>?_)|refine aw_cn eE (fun hb=>?_) (fun hb=>?_)|(refine xF (fun hb=>?_) (fun hb=>?_)<;>fail_if_success (cases hb;done))|(refine aw_gsd rfl rfl eE (fun hb=>?_) (fun hb=>?_)<;>refine xS ?_)|(refine aw_gse rfl rfl eE (fun hb=>?_) (fun hb=>?_)<;>refine xS ?_)|(refine aw_gsn rfl rfl eE (fun hb=>?_) (fun hb=>?_)<;>refine xS ?_)|(refine aw_gs rfl rfl eE (fun hb=>?_) (fun hb=>?_)<;>fail_if_success (cases hb;done)<;>refine xS ?_)|(refine drk_gsd rfl rfl eE (fun hb=>?_) (fun hb=>?_)<;>refine xS ?_)|(refine drk_gse rfl rfl eE (fun hb=>?_) (fun hb=>?_)<;>refine xS ?_)|(refine drk_gsn rfl rfl eE (fun hb=>?_) (fun hb=>?_)<;>refine xS ?_)|(refine drk_gs rfl rfl eE (fun hb=>?_) (fun hb=>?_)<;>fail_if_success (cases hb;done)<;>refine xS ?_)
 all_goals
  refine xU ?_
  refine⟨?_,rfl⟩
 ·rename_i h0
  obtain⟨l',hl,_⟩:=h.cons hb
  rw [kind_cons h0 hl]
 ·rw [kind_nil (h.nil hb)]
 ·rw [show kindS s k=false from by unfold kindS;simp [hb]]
theorem errA_ne {c:Int} (h:c≠0):errA c=.ifc 51 (.int .i64 c):=by unfold errA errC;rw [if_neg h]
theorem fail_fg (g:Nat) (L:List TX) (s:PS) (c:Int) (hc:c≠0):Fg Tryz.prog 68 g (rdO L s) [.c (.optr g 0),.c (.ifc 51 (.int .i64 c))] (.tup []) (rdO L (failS c s)):=by
 generalize ha:L.length-s.l.length=a
 unfold Fg
 rw [show rdO L s=rdA L a s.e from by unfold rdO;rw [ha]]
 refine fh_of_body Tryz.func68 rfl rfl (by simp [Tryz.ntmps68]) fun C hC=> ?_
 simp only [initS,Nat.reduceAdd]
 repeat' first|refine yA1 o0 ?_|(refine xW ?_;refine xS ?_)|refine xP ?_|refine xN ?_|refine aw_cd eE (fun hb=>?_) (fun hb=>?_)|refine aw_ce eE (fun hb=>?_) (fun hb=>?_)|refine aw_cn eE (fun hb=>?_) (fun hb=>?_)|(refine xF (fun hb=>?_) (fun hb=>?_)<;>fail_if_success (cases hb;done))|(refine aw_gsd rfl rfl eE (fun hb=>?_) (fun hb=>?_)<;>refine xS ?_)|(refine aw_gse rfl rfl eE (fun hb=>?_) (fun hb=>?_)<;>refine xS ?_)|(refine aw_gsn rfl rfl eE (fun hb=>?_) (fun hb=>?_)<;>refine xS ?_)|(refine aw_gs rfl rfl eE (fun hb=>?_) (fun hb=>?_)<;>fail_if_success (cases hb;done)<;>refine xS ?_)|(refine drk_gsd rfl rfl eE (fun hb=>?_) (fun hb=>?_)<;>refine xS ?_)|(refine drk_gse rfl rfl eE (fun hb=>?_) (fun hb=>?_)<;>refine xS ?_)|(refine drk_gsn rfl rfl eE (fun hb=>?_) (fun hb=>?_)<;>refine xS ?_)|(refine drk_gs rfl rfl eE (fun hb=>?_) (fun hb=>?_)<;>fail_if_success (cases hb;done)<;>refine xS ?_)
 ·refine xV ?_
  refine⟨rfl,?_⟩
  unfold failS
  rw [if_pos hb]
  show _=[(g,AObj.cells 82 3 (ofL [txs true L,.int .i64 (L.length-s.l.length:Nat),errA c]))]
  rw [ha,errA_ne hc]
 ·refine xV ?_
  refine⟨rfl,?_⟩
  unfold failS
  rw [if_neg hb,←ha]
theorem ha_of {L:List TX} {s:PS} {a:Nat} (ha:L.length-s.l.length=a):rdO L s=rdA L a s.e:=by unfold rdO;rw [ha]
theorem take_fg (g:Nat) (L:List TX) (s:PS) (m:Bool) (hs:s.l<:+L.map TX.t) (hL:L.length≤1099511627776):Fg Tryz.prog 61 g (rdO L s) [.c (.optr g 0),.c (.bool m)] (.c (.str (sB (takeS m s).1))) (rdO L (takeS m s).2):=by
 have h:=rat hs
 have f1:=fail_fg g L s 20 (by decide)
 have f2:=fail_fg g L s 2 (by decide)
 generalize ha:L.length-s.l.length=a at h
 have hle:=h.le
 unfold Fg
 rw [ha_of ha]
 rw [ha_of ha] at f1 f2
 refine fh_of_body Tryz.func61 rfl rfl (by simp [Tryz.ntmps61]) fun C hC=> ?_
 simp only [initS,Nat.reduceAdd]
 repeat' first|refine yA1 o0 ?_|(refine aw_cg (f1) rfl rfl rfl eE (zL2 o0) ?_;refine xS ?_)|(refine aw_cg (f2) rfl rfl rfl eE (zL2 o0) ?_;refine xS ?_)|(refine xW ?_;refine xS ?_)|refine xP ?_|refine xN ?_|refine aw_cd eE (fun hb=>?_) (fun hb=>?_)|refine aw_ce eE (fun hb=>?_) (fun hb=>?_)|refine aw_cn eE (fun hb=>?_) (fun hb=>?_)|(refine xF (fun hb=>?_) (fun hb=>?_)<;>fail_if_success (cases hb;done))|(refine aw_gsd rfl rfl eE (fun hb=>?_) (fun hb=>?_)<;>refine xS ?_)|(refine aw_gse rfl rfl eE (fun hb=>?_) (fun hb=>?_)<;>refine xS ?_)|(refine aw_gsn rfl rfl eE (fun hb=>?_) (fun hb=>?_)<;>refine xS ?_)|(refine aw_gs rfl rfl eE (fun hb=>?_) (fun hb=>?_)<;>fail_if_success (cases hb;done)<;>refine xS ?_)|(refine drk_gsd rfl rfl eE (fun hb=>?_) (fun hb=>?_)<;>refine xS ?_)|(refine drk_gse rfl rfl eE (fun hb=>?_) (fun hb=>?_)<;>refine xS ?_)|(refine drk_gsn rfl rfl eE (fun hb=>?_) (fun hb=>?_)<;>refine xS ?_)|(refine drk_gs rfl rfl eE (fun hb=>?_) (fun hb=>?_)<;>fail_if_success (cases hb;done)<;>refine xS ?_)
 ·have h0:s.e≠0:=by simpa using hb
  have ht:takeS m s=([],s):=by unfold takeS;rw [if_neg h0]
  refine xU ?_
  rw [ht,←ha_of ha]
  exact⟨rfl,rfl⟩
 have h0:s.e=0:=by simpa using hb
 refine aw_dr 11 ty_mixed (by kernel_rfl) ?_
 repeat' first|refine yA1 o0 ?_|(refine aw_cg (f1) rfl rfl rfl eE (zL2 o0) ?_;refine xS ?_)|(refine aw_cg (f2) rfl rfl rfl eE (zL2 o0) ?_;refine xS ?_)|(refine xW ?_;refine xS ?_)|refine xP ?_|refine xN ?_|refine aw_cd eE (fun hb=>?_) (fun hb=>?_)|refine aw_ce eE (fun hb=>?_) (fun hb=>?_)|refine aw_cn eE (fun hb=>?_) (fun hb=>?_)|(refine xF (fun hb=>?_) (fun hb=>?_)<;>fail_if_success (cases hb;done))|(refine aw_gsd rfl rfl eE (fun hb=>?_) (fun hb=>?_)<;>refine xS ?_)|(refine aw_gse rfl rfl eE (fun hb=>?_) (fun hb=>?_)<;>refine xS ?_)|(refine aw_gsn rfl rfl eE (fun hb=>?_) (fun hb=>?_)<;>refine xS ?_)|(refine aw_gs rfl rfl eE (fun hb=>?_) (fun hb=>?_)<;>fail_if_success (cases hb;done)<;>refine xS ?_)|(refine drk_gsd rfl rfl eE (fun hb=>?_) (fun hb=>?_)<;>refine xS ?_)|(refine drk_gse rfl rfl eE (fun hb=>?_) (fun hb=>?_)<;>refine xS ?_)|(refine drk_gsn rfl rfl eE (fun hb=>?_) (fun hb=>?_)<;>refine xS ?_)|(refine drk_gs rfl rfl eE (fun hb=>?_) (fun hb=>?_)<;>fail_if_success (cases hb;done)<;>refine xS ?_)
 ·have hl:s.l=[]:=h.nil om
  have ht:takeS m s=([],⟨[],20⟩):=take_nil h0 hl
  refine xU ?_
  rw [ht]
  refine⟨rfl,?_⟩
  unfold failS
  rw [if_pos h0,hl]
 ·rename_i h1
  have hm:m=false:=by simpa using hb
  obtain⟨l',hl,hl'⟩:=h.cons om
  have ht:=take_cons (m:=m) h0 hl
  rw [hm] at ht
  refine xU ?_
  rw [hm,ht]
  refine⟨rfl,?_⟩
  unfold failS
  rw [if_pos h0,hl];rfl
 ·rename_i h1
  have hm:m=true:=by simpa using hb
  obtain⟨l',hl,hl'⟩:=h.cons om
  have ht:=take_cons (m:=m) h0 hl
  rw [hm] at ht
  have e1:((a:Int)+1-1).toNat=a:=by omega
  refine aw_dr 13 ty_mixed (by kernel_rfl) ?_
  repeat' first|refine yA1 e1 ?_|(refine yW e1 ?_;refine yS e1 ?_)|refine yP e1 ?_|refine yN e1 ?_|refine aw_cd (zE e1) (fun hb=>?_) (fun hb=>?_)|refine aw_ce (zE e1) (fun hb=>?_) (fun hb=>?_)|refine aw_cn (zE e1) (fun hb=>?_) (fun hb=>?_)|(refine yF e1 (fun hb=>?_) (fun hb=>?_)<;>fail_if_success (cases hb;done))|(refine aw_gsd rfl rfl (zE e1) (fun hb=>?_) (fun hb=>?_)<;>refine yS e1 ?_)|(refine aw_gse rfl rfl (zE e1) (fun hb=>?_) (fun hb=>?_)<;>refine yS e1 ?_)|(refine aw_gsn rfl rfl (zE e1) (fun hb=>?_) (fun hb=>?_)<;>refine yS e1 ?_)|(refine aw_gs rfl rfl (zE e1) (fun hb=>?_) (fun hb=>?_)<;>fail_if_success (cases hb;done)<;>refine yS e1 ?_)|(refine drk_gsd rfl rfl (zE e1) (fun hb=>?_) (fun hb=>?_)<;>refine yS e1 ?_)|(refine drk_gse rfl rfl (zE e1) (fun hb=>?_) (fun hb=>?_)<;>refine yS e1 ?_)|(refine drk_gsn rfl rfl (zE e1) (fun hb=>?_) (fun hb=>?_)<;>refine yS e1 ?_)|(refine drk_gs rfl rfl (zE e1) (fun hb=>?_) (fun hb=>?_)<;>fail_if_success (cases hb;done)<;>refine yS e1 ?_)
  refine yU e1 ?_
  rw [hm,ht]
  refine⟨rfl,?_⟩
  show _=[(g,AObj.cells 82 3 (ofL [txs true L,.int .i64 (L.length-l'.length:Nat),errA 0]))]
  rw [hl',h0];rfl
end Go.Proofs.YteocnikcjjonbaaGreat
namespace Go.Proofs.YteocnikcjjonbaaGreat
open Go.AI Go.PN
attribute [local irreducible] aw Fa Fh DrK
theorem expect_fg (g:Nat) (L:List TX) (s:PS) (w:BS) (hs:s.l<:+L.map TX.t) (hL:L.length≤1099511627776):Fg Tryz.prog 27 g (rdO L s) [.c (.optr g 0),.c (.str (sB w))] (.tup []) (rdO L (expS w s)):=by
 have f1:=is_fg g L s w hs hL
 have f2:=take_fg g L s (isS s w) hs hL
 unfold Fg
 refine fh_of_body Tryz.func27 rfl rfl (by simp [Tryz.ntmps27]) fun C hC=> ?_
 simp only [initS,Nat.reduceAdd]
 repeat' first|refine yA1 o0 ?_|(refine aw_cg (f1) rfl rfl rfl eE (zL2 o0) ?_;refine xS ?_)|(refine aw_cg (f2) rfl rfl rfl eE (zL2 o0) ?_;refine xS ?_)|(refine xW ?_;refine xS ?_)|refine xP ?_|refine xN ?_|refine aw_cd eE (fun hb=>?_) (fun hb=>?_)|refine aw_ce eE (fun hb=>?_) (fun hb=>?_)|refine aw_cn eE (fun hb=>?_) (fun hb=>?_)|(refine xF (fun hb=>?_) (fun hb=>?_)<;>fail_if_success (cases hb;done))|(refine aw_gsd rfl rfl eE (fun hb=>?_) (fun hb=>?_)<;>refine xS ?_)|(refine aw_gse rfl rfl eE (fun hb=>?_) (fun hb=>?_)<;>refine xS ?_)|(refine aw_gsn rfl rfl eE (fun hb=>?_) (fun hb=>?_)<;>refine xS ?_)|(refine aw_gs rfl rfl eE (fun hb=>?_) (fun hb=>?_)<;>fail_if_success (cases hb;done)<;>refine xS ?_)|(refine drk_gsd rfl rfl eE (fun hb=>?_) (fun hb=>?_)<;>refine xS ?_)|(refine drk_gse rfl rfl eE (fun hb=>?_) (fun hb=>?_)<;>refine xS ?_)|(refine drk_gsn rfl rfl eE (fun hb=>?_) (fun hb=>?_)<;>refine xS ?_)|(refine drk_gs rfl rfl eE (fun hb=>?_) (fun hb=>?_)<;>fail_if_success (cases hb;done)<;>refine xS ?_)
 refine xV ?_
 exact⟨rfl,rfl⟩
theorem word_fg (g:Nat) (L:List TX) (s:PS) (hs:s.l<:+L.map TX.t) (hL:L.length≤1099511627776):Fg Tryz.prog 28 g (rdO L s) [.c (.optr g 0)] (.c (.str (sB (wordS s).1))) (rdO L (wordS s).2):=by
 have f1:=kind_fg g L s 0 hs hL
 have f2:=take_fg g L s (kindS s 0) hs hL
 unfold Fg
 refine fh_of_body Tryz.func28 rfl rfl (by simp [Tryz.ntmps28]) fun C hC=> ?_
 simp only [initS,Nat.reduceAdd]
 repeat' first|refine yA1 o0 ?_|(refine aw_cg (f1) rfl rfl rfl eE (zL2 o0) ?_;refine xS ?_)|(refine aw_cg (f2) rfl rfl rfl eE (zL2 o0) ?_;refine xS ?_)|(refine xW ?_;refine xS ?_)|refine xP ?_|refine xN ?_|refine aw_cd eE (fun hb=>?_) (fun hb=>?_)|refine aw_ce eE (fun hb=>?_) (fun hb=>?_)|refine aw_cn eE (fun hb=>?_) (fun hb=>?_)|(refine xF (fun hb=>?_) (fun hb=>?_)<;>fail_if_success (cases hb;done))|(refine aw_gsd rfl rfl eE (fun hb=>?_) (fun hb=>?_)<;>refine xS ?_)|(refine aw_gse rfl rfl eE (fun hb=>?_) (fun hb=>?_)<;>refine xS ?_)|(refine aw_gsn rfl rfl eE (fun hb=>?_) (fun hb=>?_)<;>refine xS ?_)|(refine aw_gs rfl rfl eE (fun hb=>?_) (fun hb=>?_)<;>fail_if_success (cases hb;done)<;>refine xS ?_)|(refine drk_gsd rfl rfl eE (fun hb=>?_) (fun hb=>?_)<;>refine xS ?_)|(refine drk_gse rfl rfl eE (fun hb=>?_) (fun hb=>?_)<;>refine xS ?_)|(refine drk_gsn rfl rfl eE (fun hb=>?_) (fun hb=>?_)<;>refine xS ?_)|(refine drk_gs rfl rfl eE (fun hb=>?_) (fun hb=>?_)<;>fail_if_success (cases hb;done)<;>refine xS ?_)
 refine xU ?_
 exact⟨rfl,rfl⟩
theorem input_fg (g:Nat) (L:List TX) (s:PS) (hs:s.l<:+L.map TX.t) (hL:L.length≤1099511627776) (hw:∀t∈L,t.t.text.length≤1099511627776):Fg Tryz.prog 31 g (rdO L s) [.c (.optr g 0)] (.c (.str (sB (inputS s).1))) (rdO L (inputS s).2):=by
 have f1:=is_fg g L s kAt hs hL
 have f2:=expect_fg g L s kAt hs hL
 have f3:=word_fg g L s hs hL
 have f4:=word_fg g L (expS kAt s) (((rdr_exp kAt).suf s).trans hs) hL
 have hlen:(wordS (expS kAt s)).1.length≤1099511627776:=by
  unfold wordS takeS
  split
  ·split
   ·simp
   ·rename_i t l hl
    split
    ·have hm:t∈L.map TX.t:=(((rdr_exp kAt).suf s).trans hs).subset (by show t∈(expS kAt s).l;rw [hl];exact List.mem_cons_self)
     obtain⟨x,hx,rfl⟩:=List.mem_map.1 hm
     exact hw x hx
    ·simp
  ·simp
 unfold Fg
 unfold inputS
 refine fh_of_body Tryz.func31 rfl rfl (by simp [Tryz.ntmps31]) fun C hC=> ?_
 simp only [initS,Nat.reduceAdd]
 repeat' first|refine yA1 o0 ?_|(refine aw_cg (f1) rfl rfl rfl eE (zL2 o0) ?_;refine xS ?_)|(refine aw_cg (f2) rfl rfl rfl eE (zL2 o0) ?_;refine xS ?_)|(refine aw_cg (f3) rfl rfl rfl eE (zL2 o0) ?_;refine xS ?_)|(refine aw_cg (f4) rfl rfl rfl eE (zL2 o0) ?_;refine xS ?_)|(refine xW ?_;refine xS ?_)|refine xP ?_|refine xN ?_|refine aw_cd eE (fun hb=>?_) (fun hb=>?_)|refine aw_ce eE (fun hb=>?_) (fun hb=>?_)|refine aw_cn eE (fun hb=>?_) (fun hb=>?_)|(refine xF (fun hb=>?_) (fun hb=>?_)<;>fail_if_success (cases hb;done))|(refine aw_gsd rfl rfl eE (fun hb=>?_) (fun hb=>?_)<;>refine xS ?_)|(refine aw_gse rfl rfl eE (fun hb=>?_) (fun hb=>?_)<;>refine xS ?_)|(refine aw_gsn rfl rfl eE (fun hb=>?_) (fun hb=>?_)<;>refine xS ?_)|(refine aw_gs rfl rfl eE (fun hb=>?_) (fun hb=>?_)<;>fail_if_success (cases hb;done)<;>refine xS ?_)|(refine drk_gsd rfl rfl eE (fun hb=>?_) (fun hb=>?_)<;>refine xS ?_)|(refine drk_gse rfl rfl eE (fun hb=>?_) (fun hb=>?_)<;>refine xS ?_)|(refine drk_gsn rfl rfl eE (fun hb=>?_) (fun hb=>?_)<;>refine xS ?_)|(refine drk_gs rfl rfl eE (fun hb=>?_) (fun hb=>?_)<;>fail_if_success (cases hb;done)<;>refine xS ?_)
 ·refine xU ?_
  rw [if_pos hb]
  exact⟨rfl,rfl⟩
 ·refine xU ?_
  rw [if_neg (by rw [hb];decide)]
  exact⟨rfl,rfl⟩
theorem gkind_fa (w:BS):Fa Tryz.prog 106 [.c (.str (sB w))] (.tup [.c (.int .i64 ((gkind w).getD 0)),.c (.bool (gkind w).isSome)]):=by
 unfold gkind
 refine fa_of_body Tryz.func106 rfl rfl (by simp [Tryz.ntmps106]) fun C hC=> ?_
 simp only [initS,Nat.reduceAdd]
 repeat' first|refine yA1 o0 ?_|(refine xW ?_;refine xS ?_)|refine xP ?_|refine xN ?_|refine aw_cd eE (fun hb=>?_) (fun hb=>?_)|refine aw_ce eE (fun hb=>?_) (fun hb=>?_)|refine aw_cn eE (fun hb=>?_) (fun hb=>?_)|(refine xF (fun hb=>?_) (fun hb=>?_)<;>fail_if_success (cases hb;done))|(refine aw_gsd rfl rfl eE (fun hb=>?_) (fun hb=>?_)<;>refine xS ?_)|(refine aw_gse rfl rfl eE (fun hb=>?_) (fun hb=>?_)<;>refine xS ?_)|(refine aw_gsn rfl rfl eE (fun hb=>?_) (fun hb=>?_)<;>refine xS ?_)|(refine aw_gs rfl rfl eE (fun hb=>?_) (fun hb=>?_)<;>fail_if_success (cases hb;done)<;>refine xS ?_)|(refine drk_gsd rfl rfl eE (fun hb=>?_) (fun hb=>?_)<;>refine xS ?_)|(refine drk_gse rfl rfl eE (fun hb=>?_) (fun hb=>?_)<;>refine xS ?_)|(refine drk_gsn rfl rfl eE (fun hb=>?_) (fun hb=>?_)<;>refine xS ?_)|(refine drk_gs rfl rfl eE (fun hb=>?_) (fun hb=>?_)<;>fail_if_success (cases hb;done)<;>refine xS ?_)
 all_goals
  refine xT hC ?_
  refine .tup ⟨.c (ler_int ?_),.c (ler_bool ?_),trivial⟩
  all_goals simp_all
theorem number_fg (g:Nat) (L:List TX) (s:PS) (hs:s.l<:+L.map TX.t) (hL:L.length≤1099511627776) (hw:∀t∈L,t.t.text.length≤1099511627776):Fg Tryz.prog 108 g (rdO L s) [.c (.optr g 0)] (.agg (rdc (numS s).1)) (rdO L (numS s).2):=by
 have f1:=kind_fg g L s 1 hs hL
 have f2:=take_fg g L s (kindS s 1) hs hL
 have hlen:(takeS (kindS s 1) s).1.length≤1099511627776:=by
  unfold takeS
  split
  ·split
   ·simp
   ·rename_i t l hl
    split
    ·have hm:t∈L.map TX.t:=hs.subset (by rw [hl];exact List.mem_cons_self)
     obtain⟨x,hx,rfl⟩:=List.mem_map.1 hm
     exact hw x hx
    ·simp
  ·simp
 have f3:=tvalue_fa (takeS (kindS s 1) s).1 hlen
 unfold Fg
 unfold numS
 dsimp only
 generalize hr:takeS (kindS s 1) s=r at*
 obtain⟨t,s1⟩:=r
 dsimp only at*
 refine fh_of_body Tryz.func108 rfl rfl (by simp [Tryz.ntmps108]) fun C hC=> ?_
 simp only [initS,Nat.reduceAdd]
 repeat' first|refine yA1 o0 ?_|(refine xW ?_;refine xS ?_)|refine xP ?_|refine xN ?_|refine aw_cd eE (fun hb=>?_) (fun hb=>?_)|refine aw_ce eE (fun hb=>?_) (fun hb=>?_)|refine aw_cn eE (fun hb=>?_) (fun hb=>?_)|(refine xF (fun hb=>?_) (fun hb=>?_)<;>fail_if_success (cases hb;done))|(refine aw_gsd rfl rfl eE (fun hb=>?_) (fun hb=>?_)<;>refine xS ?_)|(refine aw_gse rfl rfl eE (fun hb=>?_) (fun hb=>?_)<;>refine xS ?_)|(refine aw_gsn rfl rfl eE (fun hb=>?_) (fun hb=>?_)<;>refine xS ?_)|(refine aw_gs rfl rfl eE (fun hb=>?_) (fun hb=>?_)<;>fail_if_success (cases hb;done)<;>refine xS ?_)|(refine drk_gsd rfl rfl eE (fun hb=>?_) (fun hb=>?_)<;>refine xS ?_)|(refine drk_gse rfl rfl eE (fun hb=>?_) (fun hb=>?_)<;>refine xS ?_)|(refine drk_gsn rfl rfl eE (fun hb=>?_) (fun hb=>?_)<;>refine xS ?_)|(refine drk_gs rfl rfl eE (fun hb=>?_) (fun hb=>?_)<;>fail_if_success (cases hb;done)<;>refine xS ?_)
 refine xA fun g2 hn_g2=>?_
 repeat' first|refine yA1 hn_g2 ?_|(refine aw_cg (f1) rfl rfl rfl (zE hn_g2) (zL2 hn_g2) ?_;refine yS hn_g2 ?_)|(refine aw_cg (f2) rfl rfl rfl (zE hn_g2) (zL2 hn_g2) ?_;refine yS hn_g2 ?_)|(refine yC2 hn_g2 (f3) ?_)|(refine yD2 hn_g2 (f3) ?_)|(refine yW hn_g2 ?_;refine yS hn_g2 ?_)|refine yP hn_g2 ?_|refine yN hn_g2 ?_|refine aw_cd (zE hn_g2) (fun hb=>?_) (fun hb=>?_)|refine aw_ce (zE hn_g2) (fun hb=>?_) (fun hb=>?_)|refine aw_cn (zE hn_g2) (fun hb=>?_) (fun hb=>?_)|(refine yF hn_g2 (fun hb=>?_) (fun hb=>?_)<;>fail_if_success (cases hb;done))|(refine aw_gsd rfl rfl (zE hn_g2) (fun hb=>?_) (fun hb=>?_)<;>refine yS hn_g2 ?_)|(refine aw_gse rfl rfl (zE hn_g2) (fun hb=>?_) (fun hb=>?_)<;>refine yS hn_g2 ?_)|(refine aw_gsn rfl rfl (zE hn_g2) (fun hb=>?_) (fun hb=>?_)<;>refine yS hn_g2 ?_)|(refine aw_gs rfl rfl (zE hn_g2) (fun hb=>?_) (fun hb=>?_)<;>fail_if_success (cases hb;done)<;>refine yS hn_g2 ?_)|(refine drk_gsd rfl rfl (zE hn_g2) (fun hb=>?_) (fun hb=>?_)<;>refine yS hn_g2 ?_)|(refine drk_gse rfl rfl (zE hn_g2) (fun hb=>?_) (fun hb=>?_)<;>refine yS hn_g2 ?_)|(refine drk_gsn rfl rfl (zE hn_g2) (fun hb=>?_) (fun hb=>?_)<;>refine yS hn_g2 ?_)|(refine drk_gs rfl rfl (zE hn_g2) (fun hb=>?_) (fun hb=>?_)<;>fail_if_success (cases hb;done)<;>refine yS hn_g2 ?_)
 ·have h0:s1.e≠0:=by simpa using hb
  refine aw_convR (f':=ofL (rdc rd0)) zero_cells ?_
  refine aw_rethw (h':=[(g,rdO L s1)]) rfl (by first|exact List.Sublist.refl _|exact .cons _ (.refl _)|exact .cons _ (.cons _ (.refl _))|exact .cons _ (.cons _ (.cons _ (.refl _)))) fun R r=>?_;simp only[go_sem,hn_g2];refine r _ rfl ?_;clear r R
  rw [if_neg h0]
  exact⟨rfl,rfl⟩
 have h0:s1.e=0:=by simpa using hb
 refine yA hn_g2 fun g4 hn_g4=>?_
 repeat' first|refine yA1 (oj hn_g2 hn_g4) ?_|(refine yW (oj hn_g2 hn_g4) ?_;refine yS (oj hn_g2 hn_g4) ?_)|refine yP (oj hn_g2 hn_g4) ?_|refine yN (oj hn_g2 hn_g4) ?_|refine aw_cd (zE (oj hn_g2 hn_g4)) (fun hb=>?_) (fun hb=>?_)|refine aw_ce (zE (oj hn_g2 hn_g4)) (fun hb=>?_) (fun hb=>?_)|refine aw_cn (zE (oj hn_g2 hn_g4)) (fun hb=>?_) (fun hb=>?_)|(refine yF (oj hn_g2 hn_g4) (fun hb=>?_) (fun hb=>?_)<;>fail_if_success (cases hb;done))|(refine aw_gsd rfl rfl (zE (oj hn_g2 hn_g4)) (fun hb=>?_) (fun hb=>?_)<;>refine yS (oj hn_g2 hn_g4) ?_)|(refine aw_gse rfl rfl (zE (oj hn_g2 hn_g4)) (fun hb=>?_) (fun hb=>?_)<;>refine yS (oj hn_g2 hn_g4) ?_)|(refine aw_gsn rfl rfl (zE (oj hn_g2 hn_g4)) (fun hb=>?_) (fun hb=>?_)<;>refine yS (oj hn_g2 hn_g4) ?_)|(refine aw_gs rfl rfl (zE (oj hn_g2 hn_g4)) (fun hb=>?_) (fun hb=>?_)<;>fail_if_success (cases hb;done)<;>refine yS (oj hn_g2 hn_g4) ?_)|(refine drk_gsd rfl rfl (zE (oj hn_g2 hn_g4)) (fun hb=>?_) (fun hb=>?_)<;>refine yS (oj hn_g2 hn_g4) ?_)|(refine drk_gse rfl rfl (zE (oj hn_g2 hn_g4)) (fun hb=>?_) (fun hb=>?_)<;>refine yS (oj hn_g2 hn_g4) ?_)|(refine drk_gsn rfl rfl (zE (oj hn_g2 hn_g4)) (fun hb=>?_) (fun hb=>?_)<;>refine yS (oj hn_g2 hn_g4) ?_)|(refine drk_gs rfl rfl (zE (oj hn_g2 hn_g4)) (fun hb=>?_) (fun hb=>?_)<;>fail_if_success (cases hb;done)<;>refine yS (oj hn_g2 hn_g4) ?_)
 ·have hv:valC t≠0:=by simpa using hb
  have f4:=fail_fg g L s1 (valC t) hv
  rw [←errA_ne hv] at f4
  repeat' first|refine yA1 (oj hn_g2 hn_g4) ?_|(refine aw_cg (f4) rfl rfl rfl (zE (oj hn_g2 hn_g4)) (zL2 (oj hn_g2 hn_g4)) ?_;refine yS (oj hn_g2 hn_g4) ?_)|(refine yW (oj hn_g2 hn_g4) ?_;refine yS (oj hn_g2 hn_g4) ?_)|refine yP (oj hn_g2 hn_g4) ?_|refine yN (oj hn_g2 hn_g4) ?_|refine aw_cd (zE (oj hn_g2 hn_g4)) (fun hb=>?_) (fun hb=>?_)|refine aw_ce (zE (oj hn_g2 hn_g4)) (fun hb=>?_) (fun hb=>?_)|refine aw_cn (zE (oj hn_g2 hn_g4)) (fun hb=>?_) (fun hb=>?_)|(refine yF (oj hn_g2 hn_g4) (fun hb=>?_) (fun hb=>?_)<;>fail_if_success (cases hb;done))|(refine aw_gsd rfl rfl (zE (oj hn_g2 hn_g4)) (fun hb=>?_) (fun hb=>?_)<;>refine yS (oj hn_g2 hn_g4) ?_)|(refine aw_gse rfl rfl (zE (oj hn_g2 hn_g4)) (fun hb=>?_) (fun hb=>?_)<;>refine yS (oj hn_g2 hn_g4) ?_)|(refine aw_gsn rfl rfl (zE (oj hn_g2 hn_g4)) (fun hb=>?_) (fun hb=>?_)<;>refine yS (oj hn_g2 hn_g4) ?_)|(refine aw_gs rfl rfl (zE (oj hn_g2 hn_g4)) (fun hb=>?_) (fun hb=>?_)<;>fail_if_success (cases hb;done)<;>refine yS (oj hn_g2 hn_g4) ?_)|(refine drk_gsd rfl rfl (zE (oj hn_g2 hn_g4)) (fun hb=>?_) (fun hb=>?_)<;>refine yS (oj hn_g2 hn_g4) ?_)|(refine drk_gse rfl rfl (zE (oj hn_g2 hn_g4)) (fun hb=>?_) (fun hb=>?_)<;>refine yS (oj hn_g2 hn_g4) ?_)|(refine drk_gsn rfl rfl (zE (oj hn_g2 hn_g4)) (fun hb=>?_) (fun hb=>?_)<;>refine yS (oj hn_g2 hn_g4) ?_)|(refine drk_gs rfl rfl (zE (oj hn_g2 hn_g4)) (fun hb=>?_) (fun hb=>?_)<;>fail_if_success (cases hb;done)<;>refine yS (oj hn_g2 hn_g4) ?_)
  refine aw_rethw (h':=[(g,rdO L (failS (valC t) s1))]) rfl (by first|exact List.Sublist.refl _|exact .cons _ (.refl _)|exact .cons _ (.cons _ (.refl _))|exact .cons _ (.cons _ (.cons _ (.refl _)))) fun R r=>?_;simp only[go_sem,hn_g2,hn_g4];refine r _ rfl ?_;clear r R
  rw [if_pos h0,if_neg hv]
  unfold failS
  rw [if_pos h0]
  exact⟨rfl,rfl⟩
 ·have hv:valC t=0:=by simpa using hb
  refine aw_rethw (h':=[(g,rdO L s1)]) rfl (by first|exact List.Sublist.refl _|exact .cons _ (.refl _)|exact .cons _ (.cons _ (.refl _))|exact .cons _ (.cons _ (.cons _ (.refl _)))) fun R r=>?_;simp only[go_sem,hn_g2,hn_g4];refine r _ rfl ?_;clear r R
  rw [if_pos h0,if_pos hv]
  exact⟨rfl,rfl⟩
end Go.Proofs.YteocnikcjjonbaaGreat
namespace Go.PN
open Go.AI
theorem wdA (n:Nat):(words n).getD 0 0=n%4294967296:=by
 by_cases h:n=0
 ·subst h;rw [words_zero];rfl
 ·rw [words_cons om];rfl
theorem wdB (n:Nat):(words n).getD 1 0=n/4294967296%4294967296:=by
 by_cases h:n=0
 ·subst h;rw [words_zero];rfl
 ·rw [words_cons om]
  show(words (n/4294967296)).getD 0 0=_
  exact wdA _
theorem RD.q_nd {r:RD} {L:Nat} (hw:r.wf L):r.q.den=r.pd∧r.q.num=sgn r.ps r.pn:=by
 have hd:=RD.pd_ne hw
 have hg:(sgn r.ps r.pn).natAbs.gcd r.pd=1:=by
  rw [sgn_abs]
  unfold RD.pn RD.pd
  cases hs:r.some with
  |true=>simp only [if_true];exact(RD.some_spec hw hs).2.2.2.2
  |false=>simp
 obtain⟨h1,h2⟩:=mkRat_nd (n:=sgn r.ps r.pn) hd
 rw [hg] at h1 h2
 exact⟨by unfold RD.q sq;rw [h2];simp,by unfold RD.q sq;rw [h1];simp⟩
end Go.PN
namespace Go.Proofs.YteocnikcjjonbaaGreat
open Go.AI Go.PN
attribute [local irreducible] aw Fa Fh DrK
theorem bits63 (n:Nat):decide (bitlen n>63)= !decide (n<9223372036854775808):=by
 by_cases h:n<9223372036854775808
 ·have:=bitlen_lt (x:=n) (k:=63) om
  rw [decide_eq_true h,decide_eq_false om];rfl
 ·have h1:=bitlen_div (x:=n) (k:=63) om
  have h2:bitlen (n/2^63)≠0:=fun e=>by
   have:=bitlen_zero.1 e
   omega
  rw [decide_eq_false h,decide_eq_true om];rfl
theorem join63 {n:Nat} (h:n<9223372036854775808):wrapZ .i64 (orZ .u64 ((n%4294967296:Nat):Int) (shlZ .u64 ((n/4294967296%4294967296:Nat):Int) 32))=(n:Int):=by
 rw [shl_u64_32 _ om,or_u64_join' _ _ om om]
 rw [wrapZ_eq,wrap_inRange (by simp only [inRange];omega)]
 omega
theorem nint_fa (n:Nat) (hn:(words n).length≤68719476736):Fa Tryz.prog 161 [.c (ws false (words n))] (.tup [.c (.int .i64 (if n<9223372036854775808 then n else 0)),.c (.bool (decide (n<9223372036854775808)))]):=by
 have h1:=bitsW n hn
 have h2:=word_fa (words n) 0 (words_lt _)
 have h3:=word_fa (words n) 1 (words_lt _)
 rw [wdA] at h2
 rw [wdB] at h3
 have hb:=bits63 n
 by_cases h:n<9223372036854775808
 ·have hj:=join63 h
  rw [if_pos h,decide_eq_true h]
  rw [decide_eq_true h] at hb
  refine fa_of_body Tryz.func161 rfl rfl (by simp [Tryz.ntmps161]) fun C hC=> ?_
  simp only [initS,Nat.reduceAdd]
  repeat' first|refine yA1 (oj hb hj) ?_|(refine yC2 (oj hb hj) (h1) ?_)|(refine yD2 (oj hb hj) (h1) ?_)|(refine yC2 (oj hb hj) (h2) ?_)|(refine yD2 (oj hb hj) (h2) ?_)|(refine yC2 (oj hb hj) (h3) ?_)|(refine yD2 (oj hb hj) (h3) ?_)|(refine yW (oj hb hj) ?_;refine yS (oj hb hj) ?_)|refine yP (oj hb hj) ?_|refine yN (oj hb hj) ?_|refine aw_cd (zE (oj hb hj)) (fun hb=>?_) (fun hb=>?_)|refine aw_ce (zE (oj hb hj)) (fun hb=>?_) (fun hb=>?_)|refine aw_cn (zE (oj hb hj)) (fun hb=>?_) (fun hb=>?_)|(refine yF (oj hb hj) (fun hb=>?_) (fun hb=>?_)<;>fail_if_success (cases hb;done))|(refine aw_gsd rfl rfl (zE (oj hb hj)) (fun hb=>?_) (fun hb=>?_)<;>refine yS (oj hb hj) ?_)|(refine aw_gse rfl rfl (zE (oj hb hj)) (fun hb=>?_) (fun hb=>?_)<;>refine yS (oj hb hj) ?_)|(refine aw_gsn rfl rfl (zE (oj hb hj)) (fun hb=>?_) (fun hb=>?_)<;>refine yS (oj hb hj) ?_)|(refine aw_gs rfl rfl (zE (oj hb hj)) (fun hb=>?_) (fun hb=>?_)<;>fail_if_success (cases hb;done)<;>refine yS (oj hb hj) ?_)|(refine drk_gsd rfl rfl (zE (oj hb hj)) (fun hb=>?_) (fun hb=>?_)<;>refine yS (oj hb hj) ?_)|(refine drk_gse rfl rfl (zE (oj hb hj)) (fun hb=>?_) (fun hb=>?_)<;>refine yS (oj hb hj) ?_)|(refine drk_gsn rfl rfl (zE (oj hb hj)) (fun hb=>?_) (fun hb=>?_)<;>refine yS (oj hb hj) ?_)|(refine drk_gs rfl rfl (zE (oj hb hj)) (fun hb=>?_) (fun hb=>?_)<;>fail_if_success (cases hb;done)<;>refine yS (oj hb hj) ?_)
  refine yT hC (oj hb hj) ?_
  exact .tup ⟨.c (.int _ _),.c (.bool _),trivial⟩
 ·rw [if_neg h,decide_eq_false h]
  rw [decide_eq_false h] at hb
  refine fa_of_body Tryz.func161 rfl rfl (by simp [Tryz.ntmps161]) fun C hC=> ?_
  simp only [initS,Nat.reduceAdd]
  repeat' first|refine yA1 hb ?_|(refine yC2 hb (h1) ?_)|(refine yD2 hb (h1) ?_)|(refine yC2 hb (h2) ?_)|(refine yD2 hb (h2) ?_)|(refine yC2 hb (h3) ?_)|(refine yD2 hb (h3) ?_)|(refine yW hb ?_;refine yS hb ?_)|refine yP hb ?_|refine yN hb ?_|refine aw_cd (zE hb) (fun hb=>?_) (fun hb=>?_)|refine aw_ce (zE hb) (fun hb=>?_) (fun hb=>?_)|refine aw_cn (zE hb) (fun hb=>?_) (fun hb=>?_)|(refine yF hb (fun hb=>?_) (fun hb=>?_)<;>fail_if_success (cases hb;done))|(refine aw_gsd rfl rfl (zE hb) (fun hb=>?_) (fun hb=>?_)<;>refine yS hb ?_)|(refine aw_gse rfl rfl (zE hb) (fun hb=>?_) (fun hb=>?_)<;>refine yS hb ?_)|(refine aw_gsn rfl rfl (zE hb) (fun hb=>?_) (fun hb=>?_)<;>refine yS hb ?_)|(refine aw_gs rfl rfl (zE hb) (fun hb=>?_) (fun hb=>?_)<;>fail_if_success (cases hb;done)<;>refine yS hb ?_)|(refine drk_gsd rfl rfl (zE hb) (fun hb=>?_) (fun hb=>?_)<;>refine yS hb ?_)|(refine drk_gse rfl rfl (zE hb) (fun hb=>?_) (fun hb=>?_)<;>refine yS hb ?_)|(refine drk_gsn rfl rfl (zE hb) (fun hb=>?_) (fun hb=>?_)<;>refine yS hb ?_)|(refine drk_gs rfl rfl (zE hb) (fun hb=>?_) (fun hb=>?_)<;>fail_if_success (cases hb;done)<;>refine yS hb ?_)
  refine yT hC hb ?_
  exact .tup ⟨.c (.int _ _),.c (.bool _),trivial⟩
theorem cmpN_eq0 (a b:Nat):cmpN a b=0↔a=b:=by unfold cmpN;split<;>(try split)<;>omega
theorem intQ_of {r:RD} {L:Nat} (hw:r.wf L):intQ r.q=if r.pd=1∧ -9223372036854775808≤sgn r.ps r.pn∧sgn r.ps r.pn≤9223372036854775807 then some (sgn r.ps r.pn) else none:=by
 obtain⟨h1,h2⟩:=RD.q_nd hw
 unfold intQ
 rw [h1,h2]
theorem rint_fa (r:RD) (hw:r.wf 1073741824):Fa Tryz.prog 143 [.agg (rdc r)] (.tup [.c (.int .i64 ((intQ r.q).getD 0)),.c (.bool (intQ r.q).isSome)]):=by
 obtain⟨l1,l2⟩:=RD.p_len hw om
 rw [intQ_of hw]
 have h1:=rparts_fa r hw
 have h2:=one_fa
 have h3:=cmpW r.pd 1 om (by rw [words_one];simp)
 rw [words_one] at h3
 have h4:=rsize_fa (-9223372036854775808) om om
 have h5:=cmpW r.pn 9223372036854775808 om (Nat.le_trans (words_small om) om)
 have h6:=nint_fa r.pn om
 have hn:∀n:Nat,n<9223372036854775808→wrapZ .i64 (0-(n:Int))= -(n:Int):=fun n hn=>int_neg om om
 unfold partsAV at h1
 generalize r.pd=d at*
 generalize r.pn=n at*
 generalize r.ps=p at*
 refine fa_of_body Tryz.func143 rfl rfl (by simp [Tryz.ntmps143]) fun C hC=> ?_
 simp only [initS,Nat.reduceAdd]
 repeat' first|refine yA1 o0 ?_|(refine xW ?_;refine xS ?_)|refine xP ?_|refine xN ?_|refine aw_cd eE (fun hb=>?_) (fun hb=>?_)|refine aw_ce eE (fun hb=>?_) (fun hb=>?_)|refine aw_cn eE (fun hb=>?_) (fun hb=>?_)|(refine xF (fun hb=>?_) (fun hb=>?_)<;>fail_if_success (cases hb;done))|(refine aw_gsd rfl rfl eE (fun hb=>?_) (fun hb=>?_)<;>refine xS ?_)|(refine aw_gse rfl rfl eE (fun hb=>?_) (fun hb=>?_)<;>refine xS ?_)|(refine aw_gsn rfl rfl eE (fun hb=>?_) (fun hb=>?_)<;>refine xS ?_)|(refine aw_gs rfl rfl eE (fun hb=>?_) (fun hb=>?_)<;>fail_if_success (cases hb;done)<;>refine xS ?_)|(refine drk_gsd rfl rfl eE (fun hb=>?_) (fun hb=>?_)<;>refine xS ?_)|(refine drk_gse rfl rfl eE (fun hb=>?_) (fun hb=>?_)<;>refine xS ?_)|(refine drk_gsn rfl rfl eE (fun hb=>?_) (fun hb=>?_)<;>refine xS ?_)|(refine drk_gs rfl rfl eE (fun hb=>?_) (fun hb=>?_)<;>fail_if_success (cases hb;done)<;>refine xS ?_)
 refine xB fun g1 hn_g1=>?_
 repeat' first|refine yA1 hn_g1 ?_|(refine yC2 hn_g1 (h1) ?_)|(refine yD2 hn_g1 (h1) ?_)|(refine yC2 hn_g1 (h2) ?_)|(refine yD2 hn_g1 (h2) ?_)|(refine yC2 hn_g1 (h3) ?_)|(refine yD2 hn_g1 (h3) ?_)|(refine yC2 hn_g1 (h4) ?_)|(refine yD2 hn_g1 (h4) ?_)|(refine yC2 hn_g1 (h5) ?_)|(refine yD2 hn_g1 (h5) ?_)|(refine yC2 hn_g1 (h6) ?_)|(refine yD2 hn_g1 (h6) ?_)|(refine yW hn_g1 ?_;refine yS hn_g1 ?_)|refine yP hn_g1 ?_|refine yN hn_g1 ?_|refine aw_cd (zE hn_g1) (fun hb=>?_) (fun hb=>?_)|refine aw_ce (zE hn_g1) (fun hb=>?_) (fun hb=>?_)|refine aw_cn (zE hn_g1) (fun hb=>?_) (fun hb=>?_)|(refine yF hn_g1 (fun hb=>?_) (fun hb=>?_)<;>fail_if_success (cases hb;done))|(refine aw_gsd rfl rfl (zE hn_g1) (fun hb=>?_) (fun hb=>?_)<;>refine yS hn_g1 ?_)|(refine aw_gse rfl rfl (zE hn_g1) (fun hb=>?_) (fun hb=>?_)<;>refine yS hn_g1 ?_)|(refine aw_gsn rfl rfl (zE hn_g1) (fun hb=>?_) (fun hb=>?_)<;>refine yS hn_g1 ?_)|(refine aw_gs rfl rfl (zE hn_g1) (fun hb=>?_) (fun hb=>?_)<;>fail_if_success (cases hb;done)<;>refine yS hn_g1 ?_)|(refine drk_gsd rfl rfl (zE hn_g1) (fun hb=>?_) (fun hb=>?_)<;>refine yS hn_g1 ?_)|(refine drk_gse rfl rfl (zE hn_g1) (fun hb=>?_) (fun hb=>?_)<;>refine yS hn_g1 ?_)|(refine drk_gsn rfl rfl (zE hn_g1) (fun hb=>?_) (fun hb=>?_)<;>refine yS hn_g1 ?_)|(refine drk_gs rfl rfl (zE hn_g1) (fun hb=>?_) (fun hb=>?_)<;>fail_if_success (cases hb;done)<;>refine yS hn_g1 ?_)
 all_goals
  refine yT hC hn_g1 ?_
  clear h1 h2 h3 h4 h5 h6
  refine .tup ⟨.c (ler_int ?_),.c (ler_bool ?_),trivial⟩
  all_goals
   simp only [ne_eq,cmpN_eq0] at*
   first
    |(exfalso;simp_all;done)
    |(try subst_vars
      try simp only [Bool.not_eq_true',Bool.not_eq_false',decide_eq_false_iff_not,decide_eq_true_eq] at*
      unfold sgn
      try rw [hn _ (by split<;>omega)]
      (repeat' split)<;>simp_all<;>omega)
end Go.Proofs.YteocnikcjjonbaaGreat
