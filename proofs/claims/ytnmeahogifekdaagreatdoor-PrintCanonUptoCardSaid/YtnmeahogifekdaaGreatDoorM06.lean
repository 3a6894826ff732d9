/- Parts of one proof, laid by a program. -/
import Derived.Test.YtnmeahogifekdaaGreatDoorM00
import Derived.Test.YtnmeahogifekdaaGreatDoorM05
import Derived.Lib.Bytealg
set_option linter.unusedSimpArgs false
set_option linter.unusedVariables false
set_option maxRecDepth 100000
set_option maxHeartbeats 12800000
namespace Go.PN
open Go.AI
theorem idxB_le (b:UInt8) (s:BS):idxB b s≤s.length:=(List.takeWhile_sublist _).length_le
theorem ixB_val (b:UInt8):∀s:BS,Lib.indexByte s b=if idxB b s<s.length then(idxB b s:Int) else-1
 |[]=>rfl
 |x::s=>by
  have ih:=ixB_val b s
  have hle:=idxB_le b s
  unfold Lib.indexByte
  by_cases h:x=b
  ·subst h
   have:idxB x (x::s)=0:=by unfold idxB;rw [List.takeWhile_cons_of_neg (by simp)];rfl
   rw [this];simp
  ·have h1:(x==b)=false:=by simpa using h
   have h2:idxB b (x::s)=idxB b s+1:=by unfold idxB;rw [List.takeWhile_cons_of_pos (by simpa using h)];rfl
   rw [h1,h2,List.length_cons]
   simp only [Bool.false_eq_true,if_false]
   rw [ih]
   by_cases h3:idxB b s<s.length
   ·have:((idxB b s:Int)== -1)=false:=by simp
    rw [if_pos h3,if_pos (show idxB b s+1<s.length+1 from by omega),this];simp
   ·rw [if_neg h3,if_neg (show¬idxB b s+1<s.length+1 from by omega)];rfl
theorem idxB_at {b:UInt8}:∀{s:BS} {e:Nat},e<s.length→s.getD e 0=b→(∀j,j<e→s.getD j 0≠b)→idxB b s=e
 |x::s,0,_,h,_=>by
  have:x=b:=by simpa using h
  unfold idxB;rw [List.takeWhile_cons_of_neg (by simp [this])];rfl
 |x::s,e+1,hl,h,hn=>by
  have h0:x≠b:=by simpa using hn 0 om
  have h2:idxB b (x::s)=idxB b s+1:=by unfold idxB;rw [List.takeWhile_cons_of_pos (by simpa using h0)];rfl
  rw [h2,idxB_at (s:=s) (e:=e) (by simpa using hl) (by simpa using h) fun j hj=>by simpa using hn (j+1) om]
theorem idxB_no {b:UInt8}:∀{s:BS},(∀j,j<s.length→s.getD j 0≠b)→idxB b s=s.length
 |[],_=>rfl
 |x::s,hn=>by
  have h0:x≠b:=by simpa using hn 0 (by simp)
  have h2:idxB b (x::s)=idxB b s+1:=by unfold idxB;rw [List.takeWhile_cons_of_pos (by simpa using h0)];rfl
  rw [h2,idxB_no (s:=s) fun j hj=>by simpa using hn (j+1) (by simpa using hj)];rfl
theorem byte_ne {s:BS} {j:Nat} {b:UInt8} (h:bAt s j≠b.toNat):s.getD j 0≠b:=fun e=>h (by unfold bAt;rw [e])
theorem byte_eq {s:BS} {j:Nat} {b:UInt8} (h:bAt s j=b.toNat):s.getD j 0=b:=UInt8.toNat_inj.1 h
inductive NumF (s:BS):Prop where
 |all (h:∀i,i<s.length→isDig (bAt s i)=true)
 |two (e:Nat) (he:e+1<s.length) (hm:bAt s e=46∨bAt s e=47) (h1:∀i,i<e→isDig (bAt s i)=true) (h2:∀i,e<i→i<s.length→isDig (bAt s i)=true)
theorem spanE_dig {s:BS} {i:Nat}:∀j,i≤j→j<spanE isDig s i→isDig (bAt s j)=true:=fun j h1 h2=>spanE_in (p:=isDig) (spanE isDig s i-i) i (by have:=spanE_ge isDig s i;omega) j h1 (by have:=spanE_ge isDig s i;omega)
theorem num_form {s:BS} (h:isNum s=true):NumF s∧0<s.length:=by
 unfold isNum at h
 simp only [Bool.and_eq_true,decide_eq_true_eq,beq_iff_eq] at h
 obtain⟨⟨h0,_⟩,h2⟩:=h
 refine⟨?_,h0⟩
 unfold numE at h2
 split at h2
 ·rename_i h3
  refine .two (spanE isDig s 0) h3.1 h3.2.1 (fun i hi=>spanE_dig i (Nat.zero_le _) hi) fun i hi hl=>spanE_dig (i:=spanE isDig s 0+1) i (Nat.succ_le_of_lt hi) (by rw [h2];exact hl)
 ·exact .all fun i hi=>spanE_dig i (Nat.zero_le _) (by rw [h2];exact hi)
theorem cutS_take (s:BS) (e:Nat):cutS s 0 e=s.take e:=by unfold cutS;simp
theorem cutS_drop (s:BS) (e:Nat):cutS s e s.length=s.drop e:=by unfold cutS;exact List.take_of_length_le (by simp)
theorem bAt_take {s:BS} {e i:Nat} (h:i<e):bAt (s.take e) i=bAt s i:=by
 unfold bAt
 rw [List.getD_eq_getElem?_getD,List.getD_eq_getElem?_getD,List.getElem?_take,if_pos h]
theorem bAt_drop (s:BS) (e i:Nat):bAt (s.drop e) i=bAt s (e+i):=by
 unfold bAt
 rw [List.getD_eq_getElem?_getD,List.getD_eq_getElem?_getD,List.getElem?_drop]
theorem dig_take {s:BS} {e:Nat} (h1:∀i,i<e→isDig (bAt s i)=true):∀i,i<(s.take e).length→isDig (bAt (s.take e) i)=true:=fun i hi=>by
 have:i<e:=by rw [List.length_take] at hi;omega
 rw [bAt_take this];exact h1 i this
theorem dig_drop {s:BS} {e:Nat} (h2:∀i,e<i→i<s.length→isDig (bAt s i)=true):∀i,i<(s.drop (e+1)).length→isDig (bAt (s.drop (e+1)) i)=true:=fun i hi=>by
 rw [List.length_drop] at hi
 rw [bAt_drop];exact h2 _ om om
theorem natB_app (a b:BS):natB (a++b)=natB a*10^b.length+natB b:=by
 have key:∀(b:BS) (n:Nat),b.foldl (fun n x=>n*10+(x.toNat-48)) n=n*10^b.length+b.foldl (fun n x=>n*10+(x.toNat-48)) 0:=by
  intro b
  induction b with
  |nil=>intro n;simp
  |cons x b ih=>
   intro n
   rw [List.foldl_cons,List.foldl_cons,ih,ih (0*10+(x.toNat-48)),List.length_cons,Nat.pow_succ]
   rw [Nat.add_mul,Nat.zero_mul,Nat.zero_add,Nat.mul_assoc,Nat.mul_comm 10,Nat.add_assoc]
 unfold natB
 rw [List.foldl_append,key]
theorem ix_all {s:BS} (h:∀i,i<s.length→isDig (bAt s i)=true):idxB 47 s=s.length∧idxB 46 s=s.length:=by
 have hd:∀i,i<s.length→48≤bAt s i:=fun i hi=>by have:=h i hi;unfold isDig at this;simp at this;omega
 exact⟨idxB_no fun j hj=>byte_ne (by have:=hd j hj;show bAt s j≠47;omega),idxB_no fun j hj=>byte_ne (by have:=hd j hj;show bAt s j≠46;omega)⟩
theorem ix_slash {s:BS} {e:Nat} (he:e+1<s.length) (hm:bAt s e=47) (h1:∀i,i<e→isDig (bAt s i)=true):idxB 47 s=e:=by
 have hd:∀i,i<e→48≤bAt s i:=fun i hi=>by have:=h1 i hi;unfold isDig at this;simp at this;omega
 exact idxB_at om (byte_eq hm) fun j hj=>byte_ne (by have:=hd j hj;show bAt s j≠47;omega)
theorem ix_point {s:BS} {e:Nat} (he:e+1<s.length) (hm:bAt s e=46) (h1:∀i,i<e→isDig (bAt s i)=true) (h2:∀i,e<i→i<s.length→isDig (bAt s i)=true):idxB 47 s=s.length∧idxB 46 s=e:=by
 have hd:∀i,i<s.length→i≠e→48≤bAt s i:=fun i hi hn=>by
  have:isDig (bAt s i)=true:=by
   by_cases h:i<e
   ·exact h1 i h
   ·exact h2 i om hi
  unfold isDig at this;simp at this;omega
 refine⟨idxB_no fun j hj=>byte_ne ?_,idxB_at om (byte_eq hm) fun j hj=>byte_ne (by have:=hd j om om;show bAt s j≠46;omega)⟩
 show bAt s j≠47
 by_cases h:j=e
 ·rw [h,hm];decide
 ·have:=hd j hj h;omega
end Go.PN
namespace Go.PN
theorem pow10_ne (k:Nat):((10^k:Nat):Rat)≠0:=by
 have h:(10^k:Nat)≠0:=Nat.pos_iff_ne_zero.1 (Nat.pow_pos (by decide))
 intro e
 exact h (by exact_mod_cast e)
end Go.PN
namespace Go.Proofs.YtnmeahogifekdaaGreatDoor
open Go.AI Go.PN
attribute [local irreducible] aw Fa Fh DrK
theorem index1_fa (s:BS) (b:UInt8):Fa Tryz.prog 292 [.c (.str (sB s)),.c (.str (sB [b]))] (.c (.int .i64 (Lib.indexByte s b))):=by
 have h:=ixs_fa s b.toNat
 rw [show b.toNat.toUInt8=b from UInt8.ofNat_toNat] at h
 refine fa_of_body Tryz.func292 rfl rfl (by simp [Tryz.ntmps292]) fun C hC=> ?_
 simp only [initS,Nat.reduceAdd]
 repeat' first|refine zV o0 ?_|(refine yC2 o0 (h) ?_)|(refine yD2 o0 (h) ?_)|refine zH o0 (fun hb=>?_) fun hb=>?_|fail
 ·refine xT hC ?_
  have hs:=hb
  subst hs
  refine .one (.c (ler_int ?_))
  unfold Lib.indexByte;simp
 ·refine xT hC ?_
  exact .one (.c (.int _ _))
theorem cutY_fa (s:BS) (b:UInt8) (hl:s.length≤1099511627776) (h:idxB b s<s.length):Fa Tryz.prog 261 [.c (.str (sB s)),.c (.str (sB [b]))] (.tup [.c (.str (sB (s.take (idxB b s)))),.c (.str (sB (s.drop (idxB b s+1)))),.c (.bool true)]):=by
 have h1:=index1_fa s b
 rw [ixB_val,if_pos h] at h1
 have h2:Fa Tryz.prog 284 [.c (.str (sB s)),.c (.str (sB [b]))] (.tup [.c (.str (sB (s.take (idxB b s)))),.c (.str (sB (s.drop (idxB b s+1)))),.c (.bool true)]):=by
  generalize idxB b s=e at*
  refine fa_of_body Tryz.func284 rfl rfl (by simp [Tryz.ntmps284]) fun C hC=> ?_
  simp only [initS,Nat.reduceAdd]
  repeat' first|refine zV o0 ?_|(refine yC2 o0 (h1) ?_)|(refine yD2 o0 (h1) ?_)|refine zH o0 (fun hb=>?_) fun hb=>?_|fail
  refine aw_dr 12 ty_mixed (by kernel_rfl) ?_
  repeat' first|refine zV o0 ?_|refine zH o0 (fun hb=>?_) fun hb=>?_|fail
  refine xT hC ?_
  refine .tup ⟨.c ?_,.c ?_,.c (.bool _),trivial⟩
  ·rw [cutS_take];exact .str _
  ·rw [cutS_drop];exact .str _
 refine fa_of_body Tryz.func261 rfl rfl (by simp [Tryz.ntmps261]) fun C hC=> ?_
 simp only [initS,Nat.reduceAdd]
 repeat' first|refine zV o0 ?_|(refine yC2 o0 (h2) ?_)|(refine yD2 o0 (h2) ?_)|refine zH o0 (fun hb=>?_) fun hb=>?_|fail
 refine xT hC ?_
 exact .tup ⟨.c (.str _),.c (.str _),.c (.bool _),trivial⟩
theorem cutN_fa (s:BS) (b:UInt8) (hl:s.length≤1099511627776) (h:idxB b s=s.length):Fa Tryz.prog 261 [.c (.str (sB s)),.c (.str (sB [b]))] (.tup [.c (.str (sB s)),.c (.str (sB [])),.c (.bool false)]):=by
 have h1:=index1_fa s b
 rw [ixB_val,if_neg om] at h1
 have h2:Fa Tryz.prog 284 [.c (.str (sB s)),.c (.str (sB [b]))] (.tup [.c (.str (sB s)),.c (.str (sB [])),.c (.bool false)]):=by
  refine fa_of_body Tryz.func284 rfl rfl (by simp [Tryz.ntmps284]) fun C hC=> ?_
  simp only [initS,Nat.reduceAdd]
  repeat' first|refine zV o0 ?_|(refine yC2 o0 (h1) ?_)|(refine yD2 o0 (h1) ?_)|refine zH o0 (fun hb=>?_) fun hb=>?_|fail
  refine xT hC ?_
  exact .tup ⟨.c (.str _),.c (.str _),.c (.bool _),trivial⟩
 refine fa_of_body Tryz.func261 rfl rfl (by simp [Tryz.ntmps261]) fun C hC=> ?_
 simp only [initS,Nat.reduceAdd]
 repeat' first|refine zV o0 ?_|(refine yC2 o0 (h2) ?_)|(refine yD2 o0 (h2) ?_)|refine zH o0 (fun hb=>?_) fun hb=>?_|fail
 refine xT hC ?_
 exact .tup ⟨.c (.str _),.c (.str _),.c (.bool _),trivial⟩
theorem tvalue_fa (s:BS) (hl:s.length≤1099511627776):Fa Tryz.prog 215 [.c (.str (sB s))] (.tup [.agg (rdc (valR s)),.c (errA (valC s))]):=by
 by_cases h100:s.length>100
 ·have d1:decide (s.length>100)=true:=decide_eq_true h100
  have hc:valC s=4:=by unfold valC;rw [if_pos h100]
  have hr:valR s=rd0:=by unfold valR;rw [hc];rfl
  rw [hc,hr]
  refine fa_of_body Tryz.func215 rfl rfl (by simp [Tryz.ntmps215]) fun C hC=> ?_
  simp only [initS,Nat.reduceAdd]
  repeat' first|refine zV o0 ?_|refine zH o0 (fun hb=>?_) fun hb=>?_|fail
  refine xA fun g2 hn_g2=>?_
  all_goals try(have Z:=(oj hn_g2 d1);(repeat' first|refine zV Z ?_|refine zH Z (fun hb=>?_) fun hb=>?_|fail);all_goals clear Z)
  refine yT hC (oj hn_g2 d1) ?_
  exact .tup ⟨.agg ⟨.bool _,.nils,.nils,trivial⟩,.c (ler_errN rfl (by decide)),trivial⟩
 have d1:decide (s.length>100)=false:=decide_eq_false h100
 have hw:=tnum_fa s 0 hl (Nat.zero_le _)
 cases hn:isNum s with
 |false=>
  have hc:valC s=2:=by unfold valC;rw [if_neg h100,if_pos hn]
  have hr:valR s=rd0:=by unfold valR;rw [hc];rfl
  rw [hc,hr]
  refine fa_of_body Tryz.func215 rfl rfl (by simp [Tryz.ntmps215]) fun C hC=> ?_
  simp only [initS,Nat.reduceAdd]
  repeat' first|refine zV o0 ?_|refine zH o0 (fun hb=>?_) fun hb=>?_|fail
  refine xA fun g2 hn_g2=>?_
  all_goals try(have Z:=(oj hn_g2 d1);(repeat' first|refine zV Z ?_|(refine yC2 Z (tdig_fa _) ?_)|(refine yD2 Z (tdig_fa _) ?_)|(refine yC2 Z (hw) ?_)|(refine yD2 Z (hw) ?_)|refine zH Z (fun hb=>?_) fun hb=>?_|fail);all_goals clear Z)
  all_goals first
   |(exfalso
     unfold isNum at hn
     simp_all
     done)
   |(refine yT hC (oj hn_g2 d1) ?_
     exact .tup ⟨.agg ⟨.bool _,.nils,.nils,trivial⟩,.c (ler_errN rfl (by decide)),trivial⟩)
 |true=>
  obtain⟨hf,h0⟩:=num_form hn
  have hn':=hn
  unfold isNum at hn'
  simp only [Bool.and_eq_true,decide_eq_true_eq,beq_iff_eq] at hn'
  have f0:(s.length==0)=false:=by simpa using (show s.length≠0 from by omega)
  have f1:isDig (bAt s 0)=true:=hn'.1.2
  have f2:(numE s 0 !=s.length)=false:=by simpa using hn'.2
  have hc0:valC s=if idxB 47 s<s.length∧natB (s.drop (idxB 47 s+1))=0 then 8 else 0:=by unfold valC;rw [if_neg h100,if_neg (by rw [hn];decide)]
  have hA:∀t:BS,t.length≤s.length→(rd (natB t:Rat)).wf 1073741824∨True:=fun _ _=>.inr trivial
  by_cases hsl:idxB 47 s<s.length
  ·obtain⟨e,he,he1,hd1,hd2⟩:∃e,idxB 47 s=e∧e+1<s.length∧(∀i,i<e→isDig (bAt s i)=true)∧(∀i,e<i→i<s.length→isDig (bAt s i)=true):=by
    cases hf with
    |all h=>have:=(ix_all h).1;omega
    |two e he hm h1 h2=>
     rcases hm with hm|hm
     ·have:=(ix_point he hm h1 h2).1;omega
     ·exact⟨e,ix_slash he hm h1,he,h1,h2⟩
   have hcut:=cutY_fa s 47 hl hsl
   rw [he] at hcut hc0 hsl
   have ha:=twhole_fa (s.take e) (dig_take hd1) (by rw [List.length_take];omega)
   have hb:=twhole_fa (s.drop (e+1)) (dig_drop hd2) (by rw [List.length_drop];omega)
   have wa:(rd (natB (s.take e):Rat)).wf 1073741824:=rd_wf (fits_mono (by have:=natB_fits (s:=s.take e) (dig_take hd1) (Nat.le_refl _);rwa [List.take_length] at this) (by rw [List.length_take];omega))
   have wb:(rd (natB (s.drop (e+1)):Rat)).wf 1073741824:=rd_wf (fits_mono (by have:=natB_fits (s:=s.drop (e+1)) (dig_drop hd2) (Nat.le_refl _);rwa [List.take_length] at this) (by rw [List.length_drop];omega))
   by_cases hz:natB (s.drop (e+1))=0
   ·rw [if_pos ⟨hsl,hz⟩] at hc0
    have hr:valR s=rd0:=by unfold valR;rw [hc0];rfl
    have hd:=rdiv_zero _ _ wa wb (by rw [rd_q,hz];rfl)
    rw [hc0,hr]
    refine fa_of_body Tryz.func215 rfl rfl (by simp [Tryz.ntmps215]) fun C hC=> ?_
    simp only [initS,Nat.reduceAdd]
    repeat' first|refine zV o0 ?_|refine zH o0 (fun hb=>?_) fun hb=>?_|fail
    refine xA fun g2 hn_g2=>?_
    all_goals try(have Z:=(oj hn_g2 (oj d1 (oj f0 (oj f1 f2))));(repeat' first|refine zV Z ?_|(refine yC2 Z (tdig_fa _) ?_)|(refine yD2 Z (tdig_fa _) ?_)|(refine yC2 Z (hw) ?_)|(refine yD2 Z (hw) ?_)|(refine yC2 Z (hcut) ?_)|(refine yD2 Z (hcut) ?_)|(refine yC2 Z (ha) ?_)|(refine yD2 Z (ha) ?_)|(refine yC2 Z (hb) ?_)|(refine yD2 Z (hb) ?_)|(refine yC2 Z (hd) ?_)|(refine yD2 Z (hd) ?_)|refine zH Z (fun hb=>?_) fun hb=>?_|fail);all_goals clear Z)
    refine yT hC (oj hn_g2 (oj d1 (oj f0 (oj f1 f2)))) ?_
    exact .tup ⟨.agg lerl_rd,.c ler_err,trivial⟩
   ·rw [if_neg (fun h=>hz h.2)] at hc0
    have hr:valR s=rd (valQ s):=by unfold valR;rw [if_pos hc0]
    have hq:valQ s=(natB (s.take e):Rat)/(natB (s.drop (e+1)):Rat):=by unfold valQ;rw [he,if_pos hsl]
    have hd:=rdiv_fa _ _ wa wb (by rw [rd_q];simpa using hz)
    rw [rd_q,rd_q,←hq,←hr] at hd
    rw [hc0]
    refine fa_of_body Tryz.func215 rfl rfl (by simp [Tryz.ntmps215]) fun C hC=> ?_
    simp only [initS,Nat.reduceAdd]
    repeat' first|refine zV o0 ?_|refine zH o0 (fun hb=>?_) fun hb=>?_|fail
    refine xA fun g2 hn_g2=>?_
    all_goals try(have Z:=(oj hn_g2 (oj d1 (oj f0 (oj f1 f2))));(repeat' first|refine zV Z ?_|(refine yC2 Z (tdig_fa _) ?_)|(refine yD2 Z (tdig_fa _) ?_)|(refine yC2 Z (hw) ?_)|(refine yD2 Z (hw) ?_)|(refine yC2 Z (hcut) ?_)|(refine yD2 Z (hcut) ?_)|(refine yC2 Z (ha) ?_)|(refine yD2 Z (ha) ?_)|(refine yC2 Z (hb) ?_)|(refine yD2 Z (hb) ?_)|(refine yC2 Z (hd) ?_)|(refine yD2 Z (hd) ?_)|refine zH Z (fun hb=>?_) fun hb=>?_|fail);all_goals clear Z)
    refine yT hC (oj hn_g2 (oj d1 (oj f0 (oj f1 f2)))) ?_
    exact .tup ⟨.agg lerl_rd,.c (ler_err0 rfl),trivial⟩
  ·have hcutN:=cutN_fa s 47 hl (by have:=idxB_le 47 s;omega)
   obtain⟨hda,hdb,hcut⟩:(∀i,i<(s.take (idxB 46 s)).length→isDig (bAt (s.take (idxB 46 s)) i)=true)∧(∀i,i<(s.drop (idxB 46 s+1)).length→isDig (bAt (s.drop (idxB 46 s+1)) i)=true)∧∃b,Fa Tryz.prog 261 [.c (.str (sB s)),.c (.str (sB [46]))] (.tup [.c (.str (sB (s.take (idxB 46 s)))),.c (.str (sB (s.drop (idxB 46 s+1)))),.c (.bool b)]):=by
    cases hf with
    |all h=>
     have h2:=(ix_all h).2
     have:=cutN_fa s 46 hl h2
     rw [h2,List.take_length,List.drop_of_length_le om]
     exact⟨h,fun i hi=>absurd hi (by simp),_,this⟩
    |two e he hm h1 h2=>
     rcases hm with hm|hm
     ·have h3:=(ix_point he hm h1 h2).2
      have:=cutY_fa s 46 hl om
      rw [h3] at this⊢
      exact⟨dig_take h1,dig_drop h2,_,this⟩
     ·have:=ix_slash he hm h1;omega
   obtain⟨bx,hcut⟩:=hcut
   rw [if_neg (fun h=>hsl h.1)] at hc0
   have hr:valR s=rd (valQ s):=by unfold valR;rw [if_pos hc0]
   have hq:valQ s=(natB (s.take (idxB 46 s)++s.drop (idxB 46 s+1)):Rat)/((10^(s.drop (idxB 46 s+1)).length:Nat):Rat):=by unfold valQ;rw [if_neg hsl]
   have hla:(s.take (idxB 46 s)).length≤100:=by rw [List.length_take];omega
   have hlb:(s.drop (idxB 46 s+1)).length≤100:=by rw [List.length_drop];omega
   generalize s.take (idxB 46 s)=a at*
   generalize s.drop (idxB 46 s+1)=b at*
   have hab:∀i,i<(a++b).length→isDig (bAt (a++b) i)=true:=fun i hi=>by
    by_cases h:i<a.length
    ·have:=hda i h
     unfold bAt at this⊢
     rw [List.getD_eq_getElem?_getD] at this⊢
     rwa [List.getElem?_append_left h]
    ·have:=hdb (i-a.length) (by rw [List.length_append] at hi;omega)
     unfold bAt at this⊢
     rw [List.getD_eq_getElem?_getD] at this⊢
     rwa [List.getElem?_append_right om]
   have hw2:=twhole_fa (a++b) hab (by rw [List.length_append];omega)
   have fab:fits (natB (a++b):Rat) ((a++b).length+1):=by have:=natB_fits (s:=a++b) hab (Nat.le_refl _);rwa [List.take_length] at this
   have wab:(rd (natB (a++b):Rat)).wf 1073741824:=rd_wf (fits_mono fab (by rw [List.length_append];omega))
   have f10:∀k,k≤100→fits ((10^k:Nat):Rat) (k+1):=fun k _=>nat_fits (pow10_lt k) om
   have w10:∀k,k≤100→(rd ((10^k:Nat):Rat)).wf 1073741824:=fun k hk=>rd_wf (fits_mono (f10 k hk) om)
   have h1:=rof_fa 1 om om
   have h10:=rof_fa 10 om om
   have hd:=rdiv_fa _ _ wab (w10 b.length hlb) (by rw [rd_q];exact pow10_ne _)
   rw [rd_q,rd_q,←hq,←hr] at hd
   rw [hc0]
   refine fa_of_body Tryz.func215 rfl rfl (by simp [Tryz.ntmps215]) fun C hC=> ?_
   simp only [initS,Nat.reduceAdd]
   repeat' first|refine zV o0 ?_|refine zH o0 (fun hb=>?_) fun hb=>?_|fail
   refine xA fun g2 hn_g2=>?_
   all_goals try(have Z:=(oj hn_g2 (oj d1 (oj f0 (oj f1 f2))));(repeat' first|refine zV Z ?_|(refine yC2 Z (tdig_fa _) ?_)|(refine yD2 Z (tdig_fa _) ?_)|(refine yC2 Z (hw) ?_)|(refine yD2 Z (hw) ?_)|(refine yC2 Z (hcutN) ?_)|(refine yD2 Z (hcutN) ?_)|(refine yC2 Z (hcut) ?_)|(refine yD2 Z (hcut) ?_)|(refine yC2 Z (h1) ?_)|(refine yD2 Z (h1) ?_)|refine zH Z (fun hb=>?_) fun hb=>?_|fail);all_goals clear Z)
   refine yA (oj hn_g2 (oj d1 (oj f0 (oj f1 f2)))) fun g10 hn_g10=>?_
   all_goals try(have Z:=(oj hn_g2 (oj d1 (oj f0 (oj f1 (oj f2 hn_g10)))));(repeat' first|refine zV Z ?_|refine zH Z (fun hb=>?_) fun hb=>?_|fail);all_goals clear Z)
   refine aw_lp (fun x:Nat=>[(0,.c (.str (sB s))),(2,.c (.optr g2 0)),(3,.c .nilI),(7,.c (.str (sB a))),(8,.c (.str (sB b))),(10,.c (.optr g10 0)),(56,.c (.int .i64 b.length)),(57,.c (.int .i64 x))]) (fun x=>[(g10,.cells 47 3 (ofL (rdc (rd ((10^x:Nat):Rat))))),(g2,.cells 47 3 (ofL [.bool false,.nils,.nils]))]) (fun x=>x≤b.length) (fun x=>b.length-x) 0 (zB (oj hn_g2 (oj d1 (oj f0 (oj f1 (oj f2 hn_g10)))))) (by rw [show((10^0:Nat):Rat)=((1:Int):Rat) from by simp];exact List.Sublist.refl _) (Nat.zero_le _) ?_
   rintro x hx
   all_goals try(have Z:=(oj hn_g2 (oj d1 (oj f0 (oj f1 (oj f2 hn_g10)))));(repeat' first|refine zV Z ?_|refine zH Z (fun hb=>?_) fun hb=>?_|fail);all_goals clear Z)
   ·have hm:=rmul_fa _ _ (w10 x om) (show(rd ((10:Int):Rat)).wf 1073741824 from rd_wf (fits_mono (fitsZ (by decide)) om))
    rw [rd_q,rd_q,show((10^x:Nat):Rat)*((10:Int):Rat)=((10^(x+1):Nat):Rat) from by rw [Nat.pow_succ];push_cast;rfl] at hm
    refine aw_dr 3 ty_mixed (by kernel_rfl) ?_
    all_goals try(have Z:=(oj hn_g2 (oj d1 (oj f0 (oj f1 (oj f2 hn_g10)))));(repeat' first|refine zV Z ?_|(refine yC2 Z (h10) ?_)|(refine yD2 Z (h10) ?_)|(refine yC2 Z (hm) ?_)|(refine yD2 Z (hm) ?_)|refine zH Z (fun hb=>?_) fun hb=>?_|fail);all_goals clear Z)
    exact aw_stop ⟨x+1,by omega,(zB (oj hn_g2 (oj d1 (oj f0 (oj f1 (oj f2 hn_g10)))))),List.Sublist.refl _,by omega⟩
   ·obtain rfl:x=b.length:=by omega
    refine aw_dr 8 ty_mixed (by kernel_rfl) ?_
    all_goals try(have Z:=(oj hn_g2 (oj d1 (oj f0 (oj f1 (oj f2 hn_g10)))));(repeat' first|refine zV Z ?_|(refine yC2 Z (hw2) ?_)|(refine yD2 Z (hw2) ?_)|(refine yC2 Z (hd) ?_)|(refine yD2 Z (hd) ?_)|refine zH Z (fun hb=>?_) fun hb=>?_|fail);all_goals clear Z)
    refine yT hC (oj hn_g2 (oj d1 (oj f0 (oj f1 (oj f2 hn_g10))))) ?_
    exact .tup ⟨.agg lerl_rd,.c (ler_err0 rfl),trivial⟩
end Go.Proofs.YtnmeahogifekdaaGreatDoor
namespace Go.PN
open Go.AI
variable {α β γ δ : Type}
def bnd (f:PS→α×PS) (k:α→PS→β×PS) (s:PS):β×PS:=k (f s).1 (f s).2
structure Rdr (f:PS→α×PS):Prop where
 suf:∀s,(f s).2.l<:+s.l
 stk:∀s,s.e≠0→(f s).2=s
theorem Rdr.bnd {f:PS→α×PS} {k:α→PS→β×PS} (hf:Rdr f) (hk:∀a,Rdr (k a)):Rdr (bnd f k):=
 ⟨fun s=>((hk _).suf _).trans (hf.suf s),fun s h=>by
  have h1:=hf.stk s h
  show(k (f s).1 (f s).2).2=s
  rw [h1]
  exact(hk _).stk s h⟩
theorem rdr_pure (a:α):Rdr fun s=>(a,s):=⟨fun _=>List.suffix_refl _,fun _ _=>rfl⟩
theorem rdr_take (m:PS→Bool):Rdr fun s=>takeS (m s) s:=by
 refine⟨fun s=> ?_,fun s h=> ?_⟩
 ·unfold takeS
  split
  ·split
   ·rename_i h;rw [h];exact List.suffix_refl _
   ·rename_i t l h
    rw [h]
    split
    ·exact List.suffix_cons t l
    ·exact List.suffix_refl _
  ·exact List.suffix_refl _
 ·unfold takeS
  rw [if_neg h]
theorem rdr_fail (c:PS→Int) (a:α):Rdr fun s=>(a,failS (c s) s):=by
 refine⟨fun s=> ?_,fun s h=> ?_⟩
 ·show(failS (c s) s).l<:+s.l
  unfold failS
  split<;>exact List.suffix_refl _
 ·show failS (c s) s=s
  unfold failS
  rw [if_neg h]
theorem rdr_ite {c:PS→Prop} [DecidablePred c] {f g:PS→α×PS} (hf:Rdr f) (hg:Rdr g):Rdr fun s=>if c s then f s else g s:=by
 refine⟨fun s=> ?_,fun s h=> ?_⟩
 ·show(if c s then f s else g s).2.l<:+s.l
  split
  ·exact hf.suf s
  ·exact hg.suf s
 ·show(if c s then f s else g s).2=s
  split
  ·exact hf.stk s h
  ·exact hg.stk s h
theorem rdr_loop {c:PS→Bool} {b:α→PS→α×PS} (hb:∀a,Rdr (b a)):∀(n:Nat) (a:α),Rdr (loopS c b n a):=by
 intro n
 induction n with
 |zero=>exact fun a=>rdr_pure a
 |succ n ih=>
  intro a
  refine⟨fun s=> ?_,fun s h=> ?_⟩
  ·unfold loopS
   split
   ·exact((ih _).suf _).trans ((hb a).suf s)
   ·exact List.suffix_refl _
  ·unfold loopS
   rw [if_neg (fun x=>h x.1)]
theorem rdr_lp {c:PS→Bool} {b:α→PS→α×PS} (hb:∀a,Rdr (b a)) (a:α):Rdr (lpS c b a):=
 ⟨fun s=>(rdr_loop hb _ a).suf s,fun s h=>(rdr_loop hb _ a).stk s h⟩
theorem rdr_word:Rdr wordS:=rdr_take _
theorem rdr_exp (w:BS):Rdr fun s=>((),expS w s):=⟨fun s=>(rdr_take fun s=>isS s w).suf s,fun s h=>(rdr_take fun s=>isS s w).stk s h⟩
theorem rdr_num:Rdr numS:=by
 have h:=rdr_take fun s=>kindS s 1
 refine⟨fun s=> ?_,fun s h0=> ?_⟩
 ·have h1:=h.suf s
  unfold numS
  dsimp only
  split
  ·split
   ·exact h1
   ·exact h1
  ·exact h1
 ·have h1:=h.stk s h0
  unfold numS
  dsimp only at h1⊢
  rw [h1,if_neg h0]
theorem rdr_whole:Rdr wholeS:=by
 refine⟨fun s=> ?_,fun s h0=> ?_⟩
 ·have h1:=rdr_num.suf s
  unfold wholeS
  dsimp only
  split
  ·split
   ·split
    ·exact h1
    ·exact h1
   ·exact h1
  ·exact h1
 ·have h1:=rdr_num.stk s h0
  unfold wholeS
  dsimp only
  rw [h1,if_neg h0]
theorem rdr_input:Rdr inputS:=rdr_ite (c:=fun s=>isS s kAt=true) (Rdr.bnd (rdr_exp kAt) fun _=>Rdr.bnd rdr_word fun t=>rdr_pure (64::t)) rdr_word
def TksOk (l:List TK):Prop:=∀t∈l,TkOk t
theorem TksOk.suf {l r:List TK} (h:TksOk l) (hs:r<:+l):TksOk r:=fun t ht=>h t (hs.subset ht)
def Agr (R:α→β→Prop) (f:PS→α×PS) (g:PS→β×PS):Prop:=
 ∀s,TksOk s.l→s.e=0→(f s).2.e=(g s).2.e∧((f s).2.e=0→(f s).2=(g s).2∧R (f s).1 (g s).1)
theorem Agr.bnd {R:α→β→Prop} {T:γ→δ→Prop} {f:PS→α×PS} {g:PS→β×PS} {k:α→PS→γ×PS} {k':β→PS→δ×PS} (h:Agr R f g) (hf:Rdr f) (hk:∀a b,R a b→Agr T (k a) (k' b)) (r:∀a,Rdr (k a)) (r':∀b,Rdr (k' b)):Agr T (PN.bnd f k) (PN.bnd g k'):=by
 intro s ok e0
 obtain⟨h1,h2⟩:=h s ok e0
 show((k (f s).1 (f s).2).2.e=(k' (g s).1 (g s).2).2.e)∧_
 by_cases e1:(f s).2.e=0
 ·obtain⟨h3,h4⟩:=h2 e1
  have:=hk _ _ h4 (f s).2 (ok.suf (hf.suf s)) e1
  unfold PN.bnd
  rw [←h3]
  exact this
 ·have e3:=(r (f s).1).stk _ e1
  have e4:=(r' (g s).1).stk _ (by rw [←h1];exact e1)
  rw [e3,e4]
  exact⟨h1,fun x=>absurd (show(k (f s).1 (f s).2).2.e=0 from x) (by rw [e3];exact e1)⟩
theorem Agr.pure {R:α→β→Prop} {a:α} {b:β} (h:R a b):Agr R (fun s=>(a,s)) (fun s=>(b,s)):=fun _ _ _=>⟨rfl,fun _=>⟨rfl,h⟩⟩
theorem Agr.loop {R:α→β→Prop} {T:γ→δ→Prop} {c c':PS→Bool} {b:α→PS→α×PS} {b':β→PS→β×PS} {k:α→PS→γ×PS} {k':β→PS→δ×PS}
  (rb:∀a,Rdr (b a)) (rk:∀a,Rdr (k a)) (rk':∀a,Rdr (k' a)) (hd:∀a s,s.e=0→c s=true→mS (b a s).2<mS s) (hd':∀a s,s.e=0→c' s=true→mS (b' a s).2<mS s)
  (h11:∀a a' s,R a a'→TksOk s.l→s.e=0→c s=true→c' s=true→(b a s).2.e=(b' a' s).2.e∧((b a s).2.e=0→(b a s).2=(b' a' s).2∧R (b a s).1 (b' a' s).1))
  (h10:∀(a:α) (a':β) s,TksOk s.l→s.e=0→c s=true→c' s=false→False)
  (h01:∀(a:α) (a':β) s,TksOk s.l→s.e=0→c s=false→c' s=true→(k a s).2.e≠0∧(b' a' s).2.e=(k a s).2.e)
  (h00:∀a a' s,R a a'→TksOk s.l→s.e=0→c s=false→c' s=false→(k a s).2.e=(k' a' s).2.e∧((k a s).2.e=0→(k a s).2=(k' a' s).2∧T (k a s).1 (k' a' s).1)):
  ∀a a',R a a'→Agr T (PN.bnd (lpS c b a) k) (PN.bnd (lpS c' b' a') k'):=by
 intro a a' hR s
 generalize hn:mS s=n
 induction n using Nat.strongRecOn generalizing a a' s with
 |_ n ih=>
  intro ok e0
  cases hc:c s with
  |true=>
   cases hc':c' s with
   |false=>exact(h10 a a' s ok e0 hc hc').elim
   |true=>
    obtain⟨h1,h2⟩:=h11 a a' s hR ok e0 hc hc'
    have l1:=hd a s e0 hc
    have l2:=hd' a' s e0 hc'
    have s1:PN.bnd (lpS c b a) k s=PN.bnd (lpS c b (b a s).1) k (b a s).2:=by unfold PN.bnd;rw [lpS_step hd e0 hc]
    have s2:PN.bnd (lpS c' b' a') k' s=PN.bnd (lpS c' b' (b' a' s).1) k' (b' a' s).2:=by unfold PN.bnd;rw [lpS_step hd' e0 hc']
    rw [s1,s2]
    by_cases e1:(b a s).2.e=0
    ·obtain⟨h3,h4⟩:=h2 e1
     rw [←h3]
     exact ih _ om _ _ h4 _ rfl (ok.suf ((rb a).suf s)) e1
    ·have q1:PN.bnd (lpS c b (b a s).1) k (b a s).2=k (b a s).1 (b a s).2:=by unfold PN.bnd;rw [lpS_end (fun x=>e1 x.1)]
     have q2:PN.bnd (lpS c' b' (b' a' s).1) k' (b' a' s).2=k' (b' a' s).1 (b' a' s).2:=by unfold PN.bnd;rw [lpS_end (fun x=>e1 (h1.trans x.1))]
     rw [q1,q2,(rk _).stk _ e1,(rk' _).stk _ (by rw [←h1];exact e1)]
     exact⟨h1,fun x=>absurd x e1⟩
  |false=>
   have q1:PN.bnd (lpS c b a) k s=k a s:=by unfold PN.bnd;rw [lpS_end (fun x=>by rw [hc] at x;exact absurd x.2 (by decide))]
   rw [q1]
   cases hc':c' s with
   |false=>
    have q2:PN.bnd (lpS c' b' a') k' s=k' a' s:=by unfold PN.bnd;rw [lpS_end (fun x=>by rw [hc'] at x;exact absurd x.2 (by decide))]
    rw [q2]
    exact h00 a a' s hR ok e0 hc hc'
   |true=>
    obtain⟨h1,h2⟩:=h01 a a' s ok e0 hc hc'
    have s2:PN.bnd (lpS c' b' a') k' s=k' (b' a' s).1 (b' a' s).2:=by
     unfold PN.bnd
     rw [lpS_step hd' e0 hc',lpS_end (fun x=>h1 (h2.symm.trans x.1))]
    rw [s2,(rk' _).stk _ (by rw [h2];exact h1)]
    exact⟨h2.symm,fun x=>absurd x h1⟩
def Con (f:PS→α×PS):Prop:=∀s,s.e=0→mS (f s).2<mS s
theorem con_take (m:PS→Bool):Con fun s=>takeS (m s) s:=by
 intro s h
 dsimp only
 unfold takeS mS
 rw [if_pos h,if_pos h]
 split
 ·simp
 ·rename_i t l hl
  rw [hl]
  split
  ·simp
  ·simp
theorem mS_suf {s r:PS} (h:s.e=0) (hs:r.l<:+s.l):mS r≤mS s:=by
 unfold mS
 rw [if_pos h]
 split
 ·have:=hs.length_le;omega
 ·omega
theorem rdr_mS {f:PS→α×PS} (hf:Rdr f) (s:PS):mS (f s).2≤mS s:=by
 by_cases h:s.e=0
 ·exact mS_suf h (hf.suf s)
 ·rw [hf.stk s h];exact Nat.le_refl _
theorem Con.bnd {f:PS→α×PS} {k:α→PS→β×PS} (hf:Con f) (hk:∀a,Rdr (k a)):Con (bnd f k):=fun s h=>Nat.lt_of_le_of_lt (rdr_mS (hk _) _) (hf s h)
theorem Con.ite {c:PS→Prop} [DecidablePred c] {f g:PS→α×PS} (hf:Con f) (hg:Con g):Con fun s=>if c s then f s else g s:=fun s h=>by
 show mS (if c s then f s else g s).2<mS s
 split
 ·exact hf s h
 ·exact hg s h
theorem con_word:Con wordS:=con_take _
theorem con_exp (w:BS):Con fun s=>((),expS w s):=fun s h=>con_take (fun s=>isS s w) s h
theorem con_num:Con numS:=by
 intro s h
 have h1:=con_take (fun s=>kindS s 1) s h
 dsimp only at h1
 unfold numS
 dsimp only
 split
 ·split
  ·exact h1
  ·rename_i h2
   unfold mS at h1⊢
   rw [if_neg h2]
   rw [if_pos h]
   omega
 ·exact h1
theorem con_input:Con inputS:=Con.ite (c:=fun s=>isS s kAt=true) (Con.bnd (con_exp kAt) fun _=>Rdr.bnd rdr_word fun t=>rdr_pure (64::t)) con_word
end Go.PN
namespace Go.PN
open Go.AI
variable {α β γ δ : Type}
theorem rdr_inB (x:List BS):Rdr (inB x):=Rdr.bnd rdr_input fun t=>rdr_pure (x++[t])
theorem con_inB (x:List BS):Con (inB x):=Con.bnd con_input fun t=>rdr_pure (x++[t])
def insS (s:PS):List BS×PS:=let q:=lpS (fun s=> !isS s kSemi) inB [] s
 (q.1,expS kSemi q.2)
theorem rdr_ins:Rdr insS:=Rdr.bnd (rdr_lp rdr_inB []) fun q=>Rdr.bnd (rdr_exp kSemi) fun _=>rdr_pure q
def kdS (s:PS):Option Int:=if kindS s 0 then gkind (hdT s) else none
def gkS (s:PS):Option Int×PS:=(kdS s,(takeS (kdS s).isSome s).2)
theorem take_nil {m:Bool} {s:PS} (e0:s.e=0) (h:s.l=[]):takeS m s=([],⟨[],20⟩):=by unfold takeS;rw [if_pos e0,h]
theorem take_cons {m:Bool} {s:PS} {t:TK} {l:List TK} (e0:s.e=0) (h:s.l=t::l):takeS m s=if m then(t.text,⟨l,0⟩) else([],⟨t::l,2⟩):=by unfold takeS;rw [if_pos e0,h]
theorem kind_nil {k:Nat} {s:PS} (h:s.l=[]):kindS s k=false:=by unfold kindS;rw [h];simp
theorem kind_cons {k:Nat} {s:PS} {t:TK} {l:List TK} (e0:s.e=0) (h:s.l=t::l):kindS s k=(t.kind==k):=by unfold kindS;rw [h,e0];simp
theorem rdr_gk:Rdr gkS:=by
 have h:=rdr_take fun s=>(kdS s).isSome
 exact⟨fun s=>h.suf s,fun s h0=>h.stk s h0⟩
def gtK (nm:BS) (k:Option Int):PS→GtD×PS:=PN.bnd (fun s=>if k=some 2 then wholeS s else(0,s)) fun v=>PN.bnd (fun s=>if k=some 7 then numS s else(rd0,s)) fun d=>PN.bnd insS fun q s=>(⟨nm,k.getD 0,v,q,d⟩,s)
theorem rdr_gtK (nm:BS) (k:Option Int):Rdr (gtK nm k):=Rdr.bnd (rdr_ite rdr_whole (rdr_pure 0)) fun _=>Rdr.bnd (rdr_ite rdr_num (rdr_pure rd0)) fun _=>Rdr.bnd rdr_ins fun _=>rdr_pure _
theorem gateS_eq:gateS=PN.bnd wordS fun nm=>PN.bnd gkS fun k=>gtK nm k:=rfl
theorem rdr_gate:Rdr gateS:=by rw [gateS_eq];exact Rdr.bnd rdr_word fun nm=>Rdr.bnd rdr_gk fun k=>rdr_gtK nm k
end Go.PN
namespace Go.PN
open Go.AI
variable {α β γ δ : Type}
theorem is_nil {w:BS} {s:PS} (h:s.l=[]):isS s w=false:=by unfold isS;rw [h];simp
theorem is_cons {w:BS} {s:PS} {t:TK} {l:List TK} (e0:s.e=0) (h:s.l=t::l):isS s w=(t.kind !=1&&t.text==w):=by unfold isS;rw [h,e0];simp
theorem hd_cons {s:PS} {t:TK} {l:List TK} (h:s.l=t::l):hdT s=t.text:=by unfold hdT;rw [h]
structure EvR (x:List BS×EvD) (y:List Bool×EvD):Prop where
 ev:x.2=y.2
 len:y.1.length=4
 p:x.1.contains kP=y.1.getD 0 false
 f:x.1.contains kFail=y.1.getD 1 false
 r:x.1.contains kRepair=y.1.getD 2 false
 c:x.1.contains kCost=y.1.getD 3 false
theorem set4 {l:List Bool} (h:l.length=4) (k j:Nat) (hk:k<4):(l.set k true).getD j false=if k=j then true else l.getD j false:=by
 rw [List.getD_eq_getElem?_getD,List.getElem?_set]
 by_cases e:k=j
 ·subst e;rw [if_pos rfl,if_pos om,if_pos rfl];rfl
 ·rw [if_neg e,if_neg e,List.getD_eq_getElem?_getD]
theorem EvR.cons {x:List BS×EvD} {y:List Bool×EvD} (h:EvR x y) (k:Nat) (w:BS) (hw:(k=0∧w=kP)∨(k=1∧w=kFail)∨(k=2∧w=kRepair)∨(k=3∧w=kCost)) {u v:EvD} (e:u=v):EvR (w::x.1,u) (y.1.set k true,v):=by
 have hp:=h.p
 have hf:=h.f
 have hr:=h.r
 have hc:=h.c
 refine⟨e,by rw [List.length_set];exact h.len,?_,?_,?_,?_⟩
 all_goals
  dsimp only
  rw [List.contains_cons,set4 h.len k _ om]
  rcases hw with ⟨rfl,rfl⟩|⟨rfl,rfl⟩|⟨rfl,rfl⟩|⟨rfl,rfl⟩
  all_goals first|(rw [hp];rfl)|(rw [hf];rfl)|(rw [hr];rfl)|(rw [hc];rfl)|rfl
theorem rdr_evB (x:List BS×EvD):Rdr (evB x):=by
 refine⟨fun s=> ?_,fun s h=> ?_⟩
 ·have ht:=(rdr_take fun s=>isS s kP||isS s kFail||isS s kRepair||isS s kCost).suf s
  unfold evB
  dsimp only at ht⊢
  split
  ·exact(rdr_fail (fun _=>6) x).suf s
  ·repeat' split
   all_goals first|exact(rdr_num.suf _).trans ht|exact(rdr_whole.suf _).trans ht|exact ht
 ·have ht:=(rdr_take fun s=>isS s kP||isS s kFail||isS s kRepair||isS s kCost).stk s h
  have hv:∀m,takeS m s=([],s):=fun m=>by unfold takeS;rw [if_neg h]
  have hz:∀w,isS s w=false:=fun w=>by unfold isS;simp [h]
  unfold evB
  dsimp only
  rw [hz,hz,hz,hz,hv]
  rfl
theorem con_evB (x:List BS×EvD):Con (evB x):=by
 intro s e0
 have ht:=con_take (fun s=>isS s kP||isS s kFail||isS s kRepair||isS s kCost) s e0
 dsimp only at ht
 unfold evB
 dsimp only
 split
 ·show mS (failS 6 s)<mS s
  unfold failS mS
  rw [if_pos e0,if_pos e0];simp
 ·repeat' split
  all_goals first|exact Nat.lt_of_le_of_lt (rdr_mS rdr_num _) ht|exact Nat.lt_of_le_of_lt (rdr_mS rdr_whole _) ht|exact ht
def evK (q:List BS×EvD):PS→EvD×PS:=PN.bnd (fun s=>((),expS kSemi s)) fun _ s=>(q.2,s)
theorem eventS_eq:eventS=PN.bnd wordS fun nm=>PN.bnd (lpS (fun s=> !isS s kSemi) evB ([],{ev0 with name:=nm})) evK:=rfl
theorem rdr_evK (q:List BS×EvD):Rdr (evK q):=Rdr.bnd (rdr_exp kSemi) fun _=>rdr_pure _
theorem rdr_event:Rdr eventS:=by rw [eventS_eq];exact Rdr.bnd rdr_word fun nm=>Rdr.bnd (rdr_lp rdr_evB _) rdr_evK
def hsT (s:PS):Bool×PS:=((takeS (isS s kOn||isS s kOff) s).1==kOn,(takeS (isS s kOn||isS s kOff) s).2)
theorem rdr_hsT:Rdr hsT:=by
 have h:=rdr_take fun s=>isS s kOn||isS s kOff
 exact⟨fun s=>h.suf s,fun s h0=>h.stk s h0⟩
theorem houseS_eq:houseS=PN.bnd wordS fun nm=>PN.bnd hsT fun b=>PN.bnd (fun s=>((),expS kSemi s)) fun _ s=>(⟨nm,b⟩,s):=rfl
theorem rdr_house:Rdr houseS:=by rw [houseS_eq];exact Rdr.bnd rdr_word fun nm=>Rdr.bnd rdr_hsT fun b=>Rdr.bnd (rdr_exp _) fun _=>rdr_pure _
end Go.PN
namespace Go.PN
open Go.AI
variable {α β γ δ : Type}
theorem rdr_pgB (x:List GtD):Rdr (pgB x):=Rdr.bnd (rdr_exp kGate) fun _=>Rdr.bnd rdr_gate fun g=>rdr_pure (x++[g])
theorem con_pgB (x:List GtD):Con (pgB x):=Con.bnd (con_exp kGate) fun _=>Rdr.bnd rdr_gate fun g=>rdr_pure (x++[g])
def pgK (nm t:BS) (q:List GtD):PS→PgD×PS:=PN.bnd (fun s=>((),expS kClose s)) fun _ s=>(⟨nm,t,q⟩,s)
theorem rdr_pgK (nm t:BS) (q:List GtD):Rdr (pgK nm t q):=Rdr.bnd (rdr_exp _) fun _=>rdr_pure _
def topK (k:BS→PS→α×PS):PS→α×PS:=PN.bnd (fun s=>((),expS kTop s)) fun _=>PN.bnd inputS fun t=>PN.bnd (fun s=>((),expS kOpen s)) fun _=>k t
theorem rdr_topK {k:BS→PS→α×PS} (h:∀t,Rdr (k t)):Rdr (topK k):=Rdr.bnd (rdr_exp _) fun _=>Rdr.bnd rdr_input fun t=>Rdr.bnd (rdr_exp _) fun _=>h t
theorem pageS_eq:pageS=PN.bnd wordS fun nm=>topK fun t=>PN.bnd (lpS (fun s=> !isS s kClose) pgB []) (pgK nm t):=rfl
theorem rdr_page:Rdr pageS:=by rw [pageS_eq];exact Rdr.bnd rdr_word fun nm=>rdr_topK fun t=>Rdr.bnd (rdr_lp rdr_pgB _) (rdr_pgK nm t)
theorem vlB_eq (x:List VlD):vlB x=PN.bnd wordS fun w=>PN.bnd numS fun q=>PN.bnd (fun s=>((),expS kSemi s)) fun _ s=>(x++[⟨w,q⟩],s):=rfl
theorem rdr_vlB (x:List VlD):Rdr (vlB x):=by rw [vlB_eq];exact Rdr.bnd rdr_word fun w=>Rdr.bnd rdr_num fun q=>Rdr.bnd (rdr_exp kSemi) fun _=>rdr_pure (x++[⟨w,q⟩])
theorem con_vlB (x:List VlD):Con (vlB x):=by rw [vlB_eq];exact Con.bnd con_word fun w=>Rdr.bnd rdr_num fun q=>Rdr.bnd (rdr_exp kSemi) fun _=>rdr_pure (x++[⟨w,q⟩])
def phK (nm t:BS) (q:List VlD):PS→PhD×PS:=PN.bnd (fun s=>((),expS kClose s)) fun _ s=>(⟨nm,t,q⟩,s)
theorem rdr_phK (nm t:BS) (q:List VlD):Rdr (phK nm t q):=Rdr.bnd (rdr_exp _) fun _=>rdr_pure _
theorem phaseS_eq:phaseS=PN.bnd wordS fun nm=>topK fun t=>PN.bnd (lpS (fun s=> !isS s kClose) vlB []) (phK nm t):=rfl
theorem rdr_phase:Rdr phaseS:=by rw [phaseS_eq];exact Rdr.bnd rdr_word fun nm=>rdr_topK fun t=>Rdr.bnd (rdr_lp rdr_vlB _) (rdr_phK nm t)
end Go.PN
namespace Go.PN
open Go.AI
variable {α β γ δ : Type}
def grT (s:PS):Int×PS:=(if(takeS (isS s kBeta||isS s kGreek) s).1==kGreek then 1 else 0,(takeS (isS s kBeta||isS s kGreek) s).2)
theorem rdr_grT:Rdr grT:=by
 have h:=rdr_take fun s=>isS s kBeta||isS s kGreek
 exact⟨fun s=>h.suf s,fun s h0=>h.stk s h0⟩
theorem rdr_facB (x:List RD):Rdr (facB x):=Rdr.bnd rdr_num fun q=>rdr_pure (x++[q])
theorem con_facB (x:List RD):Con (facB x):=Con.bnd con_num fun q=>rdr_pure (x++[q])
theorem rdr_memB (x:List BS):Rdr (memB x):=Rdr.bnd rdr_word fun q=>rdr_pure (x++[q])
theorem con_memB (x:List BS):Con (memB x):=Con.bnd con_word fun q=>rdr_pure (x++[q])
def grM (nm:BS) (g:Int) (f:List RD):PS→GrD×PS:=PN.bnd (lpS (fun s=>kindS s 0) memB []) fun m=>PN.bnd (fun s=>((),expS kSemi s)) fun _ s=>(⟨nm,g,m,f⟩,s)
theorem rdr_grM (nm:BS) (g:Int) (f:List RD):Rdr (grM nm g f):=Rdr.bnd (rdr_lp rdr_memB _) fun _=>Rdr.bnd (rdr_exp _) fun _=>rdr_pure _
def grF (nm:BS) (g:Int):PS→GrD×PS:=PN.bnd (lpS (fun s=>kindS s 1) facB []) fun f=>PN.bnd (fun s=>((),expS kColon s)) fun _=>grM nm g f
theorem rdr_grF (nm:BS) (g:Int):Rdr (grF nm g):=Rdr.bnd (rdr_lp rdr_facB _) fun f=>Rdr.bnd (rdr_exp _) fun _=>rdr_grM nm g f
theorem groupS_eq:groupS=PN.bnd wordS fun nm=>PN.bnd grT fun g=>grF nm g:=rfl
theorem rdr_group:Rdr groupS:=by rw [groupS_eq];exact Rdr.bnd rdr_word fun nm=>Rdr.bnd rdr_grT fun g=>rdr_grF nm g
def stW (m:MdD) (w:BS):PS→MdD×PS:=
 if w==kEvent then PN.bnd eventS fun x s=>({m with events:=m.events++[x]},s)
 else if w==kHouse then PN.bnd houseS fun x s=>({m with houses:=m.houses++[x]},s)
 else if w==kGate then PN.bnd gateS fun x s=>({m with gates:=m.gates++[x]},s)
 else if w==kPage then PN.bnd pageS fun x s=>({m with pages:=m.pages++[x]},s)
 else if w==kGroup then PN.bnd groupS fun x s=>({m with groups:=m.groups++[x]},s)
 else if w==kPhase then PN.bnd phaseS fun x s=>({m with phases:=m.phases++[x]},s)
 else fun s=>(m,s)
def stM (s:PS):Bool:=isS s kEvent||isS s kHouse||isS s kGate||isS s kPage||isS s kGroup||isS s kPhase
theorem stB_eq (m:MdD) (s:PS):stB m s=PN.bnd (fun s=>takeS (stM s) s) (stW m) s:=by
 show stB m s=stW m (takeS (stM s) s).1 (takeS (stM s) s).2
 unfold stB stW stM
 dsimp only
 generalize takeS _ s=r
 repeat' split
 all_goals rfl
theorem rdr_stW (m:MdD) (w:BS):Rdr (stW m w):=by
 unfold stW
 repeat' split
 ·exact Rdr.bnd rdr_event fun _=>rdr_pure _
 ·exact Rdr.bnd rdr_house fun _=>rdr_pure _
 ·exact Rdr.bnd rdr_gate fun _=>rdr_pure _
 ·exact Rdr.bnd rdr_page fun _=>rdr_pure _
 ·exact Rdr.bnd rdr_group fun _=>rdr_pure _
 ·exact Rdr.bnd rdr_phase fun _=>rdr_pure _
 ·exact rdr_pure _
theorem rdr_stB (m:MdD):Rdr (stB m):=by
 rw [show stB m=PN.bnd (fun s=>takeS (stM s) s) (stW m) from funext (stB_eq m)]
 exact Rdr.bnd (rdr_take stM) (rdr_stW m)
theorem con_stB (m:MdD):Con (stB m):=by
 rw [show stB m=PN.bnd (fun s=>takeS (stM s) s) (stW m) from funext (stB_eq m)]
 exact Con.bnd (con_take stM) (rdr_stW m)
def rdK (m:MdD):PS→MdD×PS:=PN.bnd (fun s=>((),expS kTop s)) fun _=>PN.bnd inputS fun t=>PN.bnd (fun s=>((),expS kSemi s)) fun _ s=>({m with top:=t},endS s)
theorem readS_eq:readS=PN.bnd (fun s=>((),expS kModel s)) fun _=>PN.bnd wordS fun nm=>PN.bnd (fun s=>((),expS kSemi s)) fun _=>PN.bnd (lpS (fun s=> !isS s kTop) stB {md0 with name:=nm}) rdK:=rfl
end Go.PN
namespace Go.PN
open Go.AI
structure RAt (L:List TX) (s:PS) (a:Nat):Prop where
 le:a≤L.length
 nil:¬a<L.length→s.l=[]
 cons:a<L.length→∃l,s.l=(L.getD a tx0).t::l∧L.length-l.length=a+1
theorem rat {L:List TX} {s:PS} (hs:s.l<:+L.map TX.t):RAt L s (L.length-s.l.length):=by
 have hl:=hs.length_le
 rw [List.length_map] at hl
 refine⟨by omega,fun h=>List.length_eq_zero_iff.1 om,fun h=> ?_⟩
 cases hc:s.l with
 |nil=>rw [hc] at h;simp at h
 |cons t l=>
  rw [hc] at hl hs
  rw [List.length_cons] at hl
  refine⟨l,?_,by rw [List.length_cons];omega⟩
  obtain⟨p,hp⟩:=hs
  have hpl:p.length=L.length-(t::l).length:=by
   have:=congrArg List.length hp
   rw [List.length_append,List.length_map] at this
   omega
  have hlt:p.length<L.length:=by rw [List.length_cons] at hpl;omega
  have hg:(L.map TX.t)[p.length]?=some t:=by rw [←hp,List.getElem?_append_right (Nat.le_refl _)];simp
  rw [List.getElem?_map,List.getElem?_eq_getElem hlt] at hg
  rw [←hpl,List.getD_eq_getElem?_getD,List.getElem?_eq_getElem hlt]
  simp only [Option.map_some,Option.some.injEq] at hg
  rw [Option.getD_some,hg]
end Go.PN
namespace Go.Proofs.YtnmeahogifekdaaGreatDoor
open Go.AI Go.PN
abbrev rdA (L:List TX) (a:Nat) (e:Int):AObj:=.cells 92 3 (ofL [txs true L,.int .i64 a,errA e])
abbrev rdO (L:List TX) (s:PS):AObj:=rdA L (L.length-s.l.length) s.e
attribute [local irreducible] aw Fa Fh DrK
theorem is_fg (g:Nat) (L:List TX) (s:PS) (w:BS) (hs:s.l<:+L.map TX.t) (hL:L.length≤1099511627776):Fg Tryz.prog 39 g (rdO L s) [.c (.optr g 0),.c (.str (sB w))] (.c (.bool (isS s w))) (rdO L s):=by
 have h:=rat hs
 generalize ha:L.length-s.l.length=a at h
 have hle:=h.le
 unfold Fg
 rw [show rdO L s=rdA L a s.e from by unfold rdO;rw [ha]]
 refine fh_of_body Tryz.func39 rfl rfl (by simp [Tryz.ntmps39]) fun C hC=> ?_
 simp only [initS,Nat.reduceAdd]
 repeat' first|refine zV o0 ?_|refine zH o0 (fun hb=>?_) fun hb=>?_|fail
 refine aw_dr 47 ty_mixed (by kernel_rfl) ?_
 repeat' first|refine zV o0 ?_|refine zH o0 (fun hb=>?_) fun hb=>?_|fail
 all_goals
  refine xU ?_
  refine⟨?_,rfl⟩
 ·rename_i h0 h1
  obtain⟨l',hl,_⟩:=h.cons h1
  rw [is_cons h0 hl,bne_iff_ne.2 hb,Bool.true_and]
 ·rename_i h0 h1
  obtain⟨l',hl,_⟩:=h.cons h1
  rw [is_cons h0 hl,hb];rfl
 ·rw [is_nil (h.nil hb)]
 ·rw [show isS s w=false from by unfold isS;simp [hb]]
theorem kind_fg (g:Nat) (L:List TX) (s:PS) (k:Nat) (hs:s.l<:+L.map TX.t) (hL:L.length≤1099511627776):Fg Tryz.prog 98 g (rdO L s) [.c (.optr g 0),.c (.int .i64 k)] (.c (.bool (kindS s k))) (rdO L s):=by
 have h:=rat hs
 generalize ha:L.length-s.l.length=a at h
 have hle:=h.le
 unfold Fg
 rw [show rdO L s=rdA L a s.e from by unfold rdO;rw [ha]]
 refine fh_of_body Tryz.func98 rfl rfl (by simp [Tryz.ntmps98]) fun C hC=> ?_
 simp only [initS,Nat.reduceAdd]
 repeat' first|refine zV o0 ?_|refine zH o0 (fun hb=>?_) fun hb=>?_|fail
 refine aw_dr 33 ty_mixed (by kernel_rfl) ?_
 repeat' first|refine zV o0 ?_|refine zH o0 (fun hb=>?_) fun hb=>?_|fail
 all_goals
  refine xU ?_
  refine⟨?_,rfl⟩
 ·rename_i h0
  obtain⟨l',hl,_⟩:=h.cons hb
  rw [kind_cons h0 hl]
 ·rw [kind_nil (h.nil hb)]
 ·rw [show kindS s k=false from by unfold kindS;simp [hb]]
theorem errA_ne {c:Int} (h:c≠0):errA c=.ifc 38 (.int .i64 c):=by unfold errA errC;rw [if_neg h]
theorem fail_fg (g:Nat) (L:List TX) (s:PS) (c:Int) (hc:c≠0):Fg Tryz.prog 105 g (rdO L s) [.c (.optr g 0),.c (.ifc 38 (.int .i64 c))] (.tup []) (rdO L (failS c s)):=by
 generalize ha:L.length-s.l.length=a
 unfold Fg
 rw [show rdO L s=rdA L a s.e from by unfold rdO;rw [ha]]
 refine fh_of_body Tryz.func105 rfl rfl (by simp [Tryz.ntmps105]) fun C hC=> ?_
 simp only [initS,Nat.reduceAdd]
 repeat' first|refine zV o0 ?_|refine zH o0 (fun hb=>?_) fun hb=>?_|fail
 ·refine xV ?_
  refine⟨rfl,?_⟩
  unfold failS
  rw [if_pos hb]
  show _=[(g,AObj.cells 92 3 (ofL [txs true L,.int .i64 (L.length-s.l.length:Nat),errA c]))]
  rw [ha,errA_ne hc]
 ·refine xV ?_
  refine⟨rfl,?_⟩
  unfold failS
  rw [if_neg hb,←ha]
theorem ha_of {L:List TX} {s:PS} {a:Nat} (ha:L.length-s.l.length=a):rdO L s=rdA L a s.e:=by unfold rdO;rw [ha]
theorem take_fg (g:Nat) (L:List TX) (s:PS) (m:Bool) (hs:s.l<:+L.map TX.t) (hL:L.length≤1099511627776):Fg Tryz.prog 97 g (rdO L s) [.c (.optr g 0),.c (.bool m)] (.c (.str (sB (takeS m s).1))) (rdO L (takeS m s).2):=by
 have h:=rat hs
 have f1:=fail_fg g L s 20 (by decide)
 have f2:=fail_fg g L s 2 (by decide)
 generalize ha:L.length-s.l.length=a at h
 have hle:=h.le
 unfold Fg
 rw [ha_of ha]
 rw [ha_of ha] at f1 f2
 refine fh_of_body Tryz.func97 rfl rfl (by simp [Tryz.ntmps97]) fun C hC=> ?_
 simp only [initS,Nat.reduceAdd]
 repeat' first|refine zV o0 ?_|(refine zg o0 (f1) ?_)|(refine zg o0 (f2) ?_)|refine zH o0 (fun hb=>?_) fun hb=>?_|fail
 ·have h0:s.e≠0:=by simpa using hb
  have ht:takeS m s=([],s):=by unfold takeS;rw [if_neg h0]
  refine xU ?_
  rw [ht,←ha_of ha]
  exact⟨rfl,rfl⟩
 have h0:s.e=0:=by simpa using hb
 refine aw_dr 11 ty_mixed (by kernel_rfl) ?_
 repeat' first|refine zV o0 ?_|(refine zg o0 (f1) ?_)|(refine zg o0 (f2) ?_)|refine zH o0 (fun hb=>?_) fun hb=>?_|fail
 ·have hl:s.l=[]:=h.nil om
  have ht:takeS m s=([],⟨[],20⟩):=take_nil h0 hl
  refine xU ?_
  rw [ht]
  refine⟨rfl,?_⟩
  unfold failS
  rw [if_pos h0,hl]
 ·rename_i h1
  have hm:m=false:=by simpa using hb
  obtain⟨l',hl,hl'⟩:=h.cons om
  have ht:=take_cons (m:=m) h0 hl
  rw [hm] at ht
  refine xU ?_
  rw [hm,ht]
  refine⟨rfl,?_⟩
  unfold failS
  rw [if_pos h0,hl];rfl
 ·rename_i h1
  have hm:m=true:=by simpa using hb
  obtain⟨l',hl,hl'⟩:=h.cons om
  have ht:=take_cons (m:=m) h0 hl
  rw [hm] at ht
  have e1:((a:Int)+1-1).toNat=a:=by omega
  refine aw_dr 13 ty_mixed (by kernel_rfl) ?_
  repeat' first|refine zV e1 ?_|refine zH e1 (fun hb=>?_) fun hb=>?_|fail
  refine yU e1 ?_
  rw [hm,ht]
  refine⟨rfl,?_⟩
  show _=[(g,AObj.cells 92 3 (ofL [txs true L,.int .i64 (L.length-l'.length:Nat),errA 0]))]
  rw [hl',h0];rfl
end Go.Proofs.YtnmeahogifekdaaGreatDoor
namespace Go.Proofs.YtnmeahogifekdaaGreatDoor
open Go.AI Go.PN
attribute [local irreducible] aw Fa Fh DrK
theorem expect_fg (g:Nat) (L:List TX) (s:PS) (w:BS) (hs:s.l<:+L.map TX.t) (hL:L.length≤1099511627776):Fg Tryz.prog 37 g (rdO L s) [.c (.optr g 0),.c (.str (sB w))] (.tup []) (rdO L (expS w s)):=by
 have f1:=is_fg g L s w hs hL
 have f2:=take_fg g L s (isS s w) hs hL
 unfold Fg
 refine fh_of_body Tryz.func37 rfl rfl (by simp [Tryz.ntmps37]) fun C hC=> ?_
 simp only [initS,Nat.reduceAdd]
 repeat' first|refine zV o0 ?_|(refine zg o0 (f1) ?_)|(refine zg o0 (f2) ?_)|refine zH o0 (fun hb=>?_) fun hb=>?_|fail
 refine xV ?_
 exact⟨rfl,rfl⟩
theorem word_fg (g:Nat) (L:List TX) (s:PS) (hs:s.l<:+L.map TX.t) (hL:L.length≤1099511627776):Fg Tryz.prog 38 g (rdO L s) [.c (.optr g 0)] (.c (.str (sB (wordS s).1))) (rdO L (wordS s).2):=by
 have f1:=kind_fg g L s 0 hs hL
 have f2:=take_fg g L s (kindS s 0) hs hL
 unfold Fg
 refine fh_of_body Tryz.func38 rfl rfl (by simp [Tryz.ntmps38]) fun C hC=> ?_
 simp only [initS,Nat.reduceAdd]
 repeat' first|refine zV o0 ?_|(refine zg o0 (f1) ?_)|(refine zg o0 (f2) ?_)|refine zH o0 (fun hb=>?_) fun hb=>?_|fail
 refine xU ?_
 exact⟨rfl,rfl⟩
theorem input_fg (g:Nat) (L:List TX) (s:PS) (hs:s.l<:+L.map TX.t) (hL:L.length≤1099511627776) (hw:∀t∈L,t.t.text.length≤1099511627776):Fg Tryz.prog 41 g (rdO L s) [.c (.optr g 0)] (.c (.str (sB (inputS s).1))) (rdO L (inputS s).2):=by
 have f1:=is_fg g L s kAt hs hL
 have f2:=expect_fg g L s kAt hs hL
 have f3:=word_fg g L s hs hL
 have f4:=word_fg g L (expS kAt s) (((rdr_exp kAt).suf s).trans hs) hL
 have hlen:(wordS (expS kAt s)).1.length≤1099511627776:=by
  unfold wordS takeS
  split
  ·split
   ·simp
   ·rename_i t l hl
    split
    ·have hm:t∈L.map TX.t:=(((rdr_exp kAt).suf s).trans hs).subset (by show t∈(expS kAt s).l;rw [hl];exact List.mem_cons_self)
     obtain⟨x,hx,rfl⟩:=List.mem_map.1 hm
     exact hw x hx
    ·simp
  ·simp
 unfold Fg
 unfold inputS
 refine fh_of_body Tryz.func41 rfl rfl (by simp [Tryz.ntmps41]) fun C hC=> ?_
 simp only [initS,Nat.reduceAdd]
 repeat' first|refine zV o0 ?_|(refine zg o0 (f1) ?_)|(refine zg o0 (f2) ?_)|(refine zg o0 (f3) ?_)|(refine zg o0 (f4) ?_)|refine zH o0 (fun hb=>?_) fun hb=>?_|fail
 ·refine xU ?_
  rw [if_pos hb]
  exact⟨rfl,rfl⟩
 ·refine xU ?_
  rw [if_neg (by rw [hb];decide)]
  exact⟨rfl,rfl⟩
theorem gkind_fa (w:BS):Fa Tryz.prog 147 [.c (.str (sB w))] (.tup [.c (.int .i64 ((gkind w).getD 0)),.c (.bool (gkind w).isSome)]):=by
 unfold gkind
 refine fa_of_body Tryz.func147 rfl rfl (by simp [Tryz.ntmps147]) fun C hC=> ?_
 simp only [initS,Nat.reduceAdd]
 repeat' first|refine zV o0 ?_|refine zH o0 (fun hb=>?_) fun hb=>?_|fail
 all_goals
  refine xT hC ?_
  refine .tup ⟨.c (ler_int ?_),.c (ler_bool ?_),trivial⟩
  all_goals simp_all
theorem number_fg (g:Nat) (L:List TX) (s:PS) (hs:s.l<:+L.map TX.t) (hL:L.length≤1099511627776) (hw:∀t∈L,t.t.text.length≤1099511627776):Fg Tryz.prog 145 g (rdO L s) [.c (.optr g 0)] (.agg (rdc (numS s).1)) (rdO L (numS s).2):=by
 have f1:=kind_fg g L s 1 hs hL
 have f2:=take_fg g L s (kindS s 1) hs hL
 have hlen:(takeS (kindS s 1) s).1.length≤1099511627776:=by
  unfold takeS
  split
  ·split
   ·simp
   ·rename_i t l hl
    split
    ·have hm:t∈L.map TX.t:=hs.subset (by rw [hl];exact List.mem_cons_self)
     obtain⟨x,hx,rfl⟩:=List.mem_map.1 hm
     exact hw x hx
    ·simp
  ·simp
 have f3:=tvalue_fa (takeS (kindS s 1) s).1 hlen
 unfold Fg
 unfold numS
 dsimp only
 generalize hr:takeS (kindS s 1) s=r at*
 obtain⟨t,s1⟩:=r
 dsimp only at*
 refine fh_of_body Tryz.func145 rfl rfl (by simp [Tryz.ntmps145]) fun C hC=> ?_
 simp only [initS,Nat.reduceAdd]
 repeat' first|refine zV o0 ?_|refine zH o0 (fun hb=>?_) fun hb=>?_|fail
 refine xA fun g2 hn_g2=>?_
 repeat' first|refine zV hn_g2 ?_|(refine zg hn_g2 (f1) ?_)|(refine zg hn_g2 (f2) ?_)|(refine yC2 hn_g2 (f3) ?_)|(refine yD2 hn_g2 (f3) ?_)|refine zH hn_g2 (fun hb=>?_) fun hb=>?_|fail
 ·have h0:s1.e≠0:=by simpa using hb
  refine aw_convR (f':=ofL (rdc rd0)) zero_cells ?_
  refine aw_rethw (h':=[(g,rdO L s1)]) rfl sL fun R r=>?_;simp only[go_sem,hn_g2];refine r _ rfl ?_;clear r R
  rw [if_neg h0]
  exact⟨rfl,rfl⟩
 have h0:s1.e=0:=by simpa using hb
 refine yA hn_g2 fun g4 hn_g4=>?_
 all_goals try(have Z:=(oj hn_g2 hn_g4);(repeat' first|refine zV Z ?_|refine zH Z (fun hb=>?_) fun hb=>?_|fail);all_goals clear Z)
 ·have hv:valC t≠0:=by simpa using hb
  have f4:=fail_fg g L s1 (valC t) hv
  rw [←errA_ne hv] at f4
  all_goals try(have Z:=(oj hn_g2 hn_g4);(repeat' first|refine zV Z ?_|(refine zg Z (f4) ?_)|refine zH Z (fun hb=>?_) fun hb=>?_|fail);all_goals clear Z)
  refine aw_rethw (h':=[(g,rdO L (failS (valC t) s1))]) rfl sL fun R r=>?_;simp only[go_sem,hn_g2,hn_g4];refine r _ rfl ?_;clear r R
  rw [if_pos h0,if_neg hv]
  unfold failS
  rw [if_pos h0]
  exact⟨rfl,rfl⟩
 ·have hv:valC t=0:=by simpa using hb
  refine aw_rethw (h':=[(g,rdO L s1)]) rfl sL fun R r=>?_;simp only[go_sem,hn_g2,hn_g4];refine r _ rfl ?_;clear r R
  rw [if_pos h0,if_pos hv]
  exact⟨rfl,rfl⟩
end Go.Proofs.YtnmeahogifekdaaGreatDoor
namespace Go.PN
open Go.AI
theorem wdA (n:Nat):(words n).getD 0 0=n%4294967296:=by
 by_cases h:n=0
 ·subst h;rw [words_zero];rfl
 ·rw [words_cons om];rfl
theorem wdB (n:Nat):(words n).getD 1 0=n/4294967296%4294967296:=by
 by_cases h:n=0
 ·subst h;rw [words_zero];rfl
 ·rw [words_cons om]
  show(words (n/4294967296)).getD 0 0=_
  exact wdA _
theorem RD.q_nd {r:RD} {L:Nat} (hw:r.wf L):r.q.den=r.pd∧r.q.num=sgn r.ps r.pn:=by
 have hd:=RD.pd_ne hw
 have hg:(sgn r.ps r.pn).natAbs.gcd r.pd=1:=by
  rw [sgn_abs]
  unfold RD.pn RD.pd
  cases hs:r.some with
  |true=>simp only [if_true];exact(RD.some_spec hw hs).2.2.2.2
  |false=>simp
 obtain⟨h1,h2⟩:=mkRat_nd (n:=sgn r.ps r.pn) hd
 rw [hg] at h1 h2
 exact⟨by unfold RD.q sq;rw [h2];simp,by unfold RD.q sq;rw [h1];simp⟩
end Go.PN
namespace Go.Proofs.YtnmeahogifekdaaGreatDoor
open Go.AI Go.PN
attribute [local irreducible] aw Fa Fh DrK
theorem bits63 (n:Nat):decide (bitlen n>63)= !decide (n<9223372036854775808):=by
 by_cases h:n<9223372036854775808
 ·have:=bitlen_lt (x:=n) (k:=63) om
  rw [decide_eq_true h,decide_eq_false om];rfl
 ·have h1:=bitlen_div (x:=n) (k:=63) om
  have h2:bitlen (n/2^63)≠0:=fun e=>by
   have:=bitlen_zero.1 e
   omega
  rw [decide_eq_false h,decide_eq_true om];rfl
theorem join63 {n:Nat} (h:n<9223372036854775808):wrapZ .i64 (orZ .u64 ((n%4294967296:Nat):Int) (shlZ .u64 ((n/4294967296%4294967296:Nat):Int) 32))=(n:Int):=by
 rw [shl_u64_32 _ om,or_u64_join' _ _ om om]
 rw [wrapZ_eq,wrap_inRange (by simp only [inRange];omega)]
 omega
theorem nint_fa (n:Nat) (hn:(words n).length≤68719476736):Fa Tryz.prog 265 [.c (ws false (words n))] (.tup [.c (.int .i64 (if n<9223372036854775808 then n else 0)),.c (.bool (decide (n<9223372036854775808)))]):=by
 have h1:=bitsW n hn
 have h2:=word_fa (words n) 0 (words_lt _)
 have h3:=word_fa (words n) 1 (words_lt _)
 rw [wdA] at h2
 rw [wdB] at h3
 have hb:=bits63 n
 by_cases h:n<9223372036854775808
 ·have hj:=join63 h
  rw [if_pos h,decide_eq_true h]
  rw [decide_eq_true h] at hb
  refine fa_of_body Tryz.func265 rfl rfl (by simp [Tryz.ntmps265]) fun C hC=> ?_
  simp only [initS,Nat.reduceAdd]
  all_goals try(have Z:=(oj hb hj);(repeat' first|refine zV Z ?_|(refine yC2 Z (h1) ?_)|(refine yD2 Z (h1) ?_)|(refine yC2 Z (h2) ?_)|(refine yD2 Z (h2) ?_)|(refine yC2 Z (h3) ?_)|(refine yD2 Z (h3) ?_)|refine zH Z (fun hb=>?_) fun hb=>?_|fail);all_goals clear Z)
  refine yT hC (oj hb hj) ?_
  exact .tup ⟨.c (.int _ _),.c (.bool _),trivial⟩
 ·rw [if_neg h,decide_eq_false h]
  rw [decide_eq_false h] at hb
  refine fa_of_body Tryz.func265 rfl rfl (by simp [Tryz.ntmps265]) fun C hC=> ?_
  simp only [initS,Nat.reduceAdd]
  repeat' first|refine zV hb ?_|(refine yC2 hb (h1) ?_)|(refine yD2 hb (h1) ?_)|(refine yC2 hb (h2) ?_)|(refine yD2 hb (h2) ?_)|(refine yC2 hb (h3) ?_)|(refine yD2 hb (h3) ?_)|refine zH hb (fun hb=>?_) fun hb=>?_|fail
  refine yT hC hb ?_
  exact .tup ⟨.c (.int _ _),.c (.bool _),trivial⟩
theorem cmpN_eq0 (a b:Nat):cmpN a b=0↔a=b:=by unfold cmpN;split<;>(try split)<;>omega
theorem intQ_of {r:RD} {L:Nat} (hw:r.wf L):intQ r.q=if r.pd=1∧ -9223372036854775808≤sgn r.ps r.pn∧sgn r.ps r.pn≤9223372036854775807 then some (sgn r.ps r.pn) else none:=by
 obtain⟨h1,h2⟩:=RD.q_nd hw
 unfold intQ
 rw [h1,h2]
theorem rint_fa (r:RD) (hw:r.wf 1073741824):Fa Tryz.prog 216 [.agg (rdc r)] (.tup [.c (.int .i64 ((intQ r.q).getD 0)),.c (.bool (intQ r.q).isSome)]):=by
 obtain⟨l1,l2⟩:=RD.p_len hw om
 rw [intQ_of hw]
 have h1:=rparts_fa r hw
 have h2:=one_fa
 have h3:=cmpW r.pd 1 om (by rw [words_one];simp)
 rw [words_one] at h3
 have h4:=rsize_fa (-9223372036854775808) om om
 have h5:=cmpW r.pn 9223372036854775808 om (Nat.le_trans (words_small om) om)
 have h6:=nint_fa r.pn om
 have hn:∀n:Nat,n<9223372036854775808→wrapZ .i64 (0-(n:Int))= -(n:Int):=fun n hn=>int_neg om om
 unfold partsAV at h1
 generalize r.pd=d at*
 generalize r.pn=n at*
 generalize r.ps=p at*
 refine fa_of_body Tryz.func216 rfl rfl (by simp [Tryz.ntmps216]) fun C hC=> ?_
 simp only [initS,Nat.reduceAdd]
 repeat' first|refine zV o0 ?_|refine zH o0 (fun hb=>?_) fun hb=>?_|fail
 refine xB fun g1 hn_g1=>?_
 repeat' first|refine zV hn_g1 ?_|(refine yC2 hn_g1 (h1) ?_)|(refine yD2 hn_g1 (h1) ?_)|(refine yC2 hn_g1 (h2) ?_)|(refine yD2 hn_g1 (h2) ?_)|(refine yC2 hn_g1 (h3) ?_)|(refine yD2 hn_g1 (h3) ?_)|(refine yC2 hn_g1 (h4) ?_)|(refine yD2 hn_g1 (h4) ?_)|(refine yC2 hn_g1 (h5) ?_)|(refine yD2 hn_g1 (h5) ?_)|(refine yC2 hn_g1 (h6) ?_)|(refine yD2 hn_g1 (h6) ?_)|refine zH hn_g1 (fun hb=>?_) fun hb=>?_|fail
 all_goals
  refine yT hC hn_g1 ?_
  clear h1 h2 h3 h4 h5 h6
  refine .tup ⟨.c (ler_int ?_),.c (ler_bool ?_),trivial⟩
  all_goals
   simp only [ne_eq,cmpN_eq0] at*
   first
    |(exfalso;simp_all;done)
    |(try subst_vars
      try simp only [Bool.not_eq_true',Bool.not_eq_false',decide_eq_false_iff_not,decide_eq_true_eq] at*
      unfold sgn
      try rw [hn _ (by split<;>omega)]
      (repeat' split)<;>simp_all<;>omega)
end Go.Proofs.YtnmeahogifekdaaGreatDoor
namespace Go.PN
open Go.AI
theorem natB_fit {s:BS} (hd:∀i,i<s.length→isDig (bAt s i)=true):fits (natB s:Rat) (s.length+1):=by have:=natB_fits hd (Nat.le_refl s.length);rwa [List.take_length] at this
theorem val_fits {s:BS} (h:valC s=0):fits (valQ s) 500:=by
 unfold valC at h
 split at h
 ·cases h
 ·rename_i h100
  split at h
  ·cases h
  ·rename_i hn
   have hn:isNum s=true:=by simpa using hn
   obtain⟨hf,h0⟩:=num_form hn
   unfold valQ
   by_cases hsl:idxB 47 s<s.length
   ·rw [if_pos hsl]
    have hz:natB (s.drop (idxB 47 s+1))≠0:=fun e=>by rw [if_pos ⟨hsl,e⟩] at h;cases h
    cases hf with
    |all hh=>have:=(ix_all hh).1;omega
    |two e he hm h1 h2=>
     rcases hm with hm|hm
     ·have:=(ix_point he hm h1 h2).1;omega
     ·rw [ix_slash he hm h1] at hz⊢
      have f1:=natB_fit (dig_take h1)
      have f2:=natB_fit (dig_drop h2)
      exact fits_mono (fits_div f1 f2 (by simpa using hz)) (by rw [List.length_take,List.length_drop];omega)
   ·rw [if_neg hsl]
    have key:(∀i,i<(s.take (idxB 46 s)++s.drop (idxB 46 s+1)).length→isDig (bAt (s.take (idxB 46 s)++s.drop (idxB 46 s+1)) i)=true):=by
     have app:∀(a b:BS),(∀i,i<a.length→isDig (bAt a i)=true)→(∀i,i<b.length→isDig (bAt b i)=true)→∀i,i<(a++b).length→isDig (bAt (a++b) i)=true:=fun a b hda hdb i hi=>by
      by_cases h:i<a.length
      ·have:=hda i h
       unfold bAt at this⊢
       rw [List.getD_eq_getElem?_getD] at this⊢
       rwa [List.getElem?_append_left h]
      ·have:=hdb (i-a.length) (by rw [List.length_append] at hi;omega)
       unfold bAt at this⊢
       rw [List.getD_eq_getElem?_getD] at this⊢
       rwa [List.getElem?_append_right om]
     cases hf with
     |all hh=>
      rw [(ix_all hh).2,List.take_length,List.drop_of_length_le om]
      exact app _ _ hh fun i hi=>absurd hi (by simp)
     |two e he hm h1 h2=>
      rcases hm with hm|hm
      ·rw [(ix_point he hm h1 h2).2];exact app _ _ (dig_take h1) (dig_drop h2)
      ·have:=ix_slash he hm h1;omega
    have f1:=natB_fit key
    have f2:fits ((10^(s.drop (idxB 46 s+1)).length:Nat):Rat) ((s.drop (idxB 46 s+1)).length+1):=nat_fits (pow10_lt _) om
    exact fits_mono (fits_div f1 f2 (pow10_ne _)) (by rw [List.length_append,List.length_take,List.length_drop];omega)
theorem valR_wf (s:BS):(valR s).wf 500:=by
 unfold valR
 split
 ·rename_i h;exact rd_wf (val_fits h)
 ·exact⟨fun x hx=>(by cases hx),fun x hx=>(by cases hx),Nat.zero_le _,Nat.zero_le _⟩
theorem numS_wf (s:PS):(numS s).1.wf 500:=by
 unfold numS
 dsimp only
 split
 ·exact valR_wf _
 ·exact⟨fun x hx=>(by cases hx),fun x hx=>(by cases hx),Nat.zero_le _,Nat.zero_le _⟩
end Go.PN
namespace Go.Proofs.YtnmeahogifekdaaGreatDoor
open Go.AI Go.PN
attribute [local irreducible] aw Fa Fh DrK
theorem whole_fg (g:Nat) (L:List TX) (s:PS) (hs:s.l<:+L.map TX.t) (hL:L.length≤1099511627776) (hw:∀t∈L,t.t.text.length≤1099511627776):Fg Tryz.prog 146 g (rdO L s) [.c (.optr g 0)] (.c (.int .i64 (wholeS s).1)) (rdO L (wholeS s).2):=by
 have f1:=number_fg g L s hs hL hw
 have f2:=rint_fa (numS s).1 (wf_mono (numS_wf s) om)
 unfold Fg
 unfold wholeS
 dsimp only
 generalize hr:numS s=r at*
 obtain⟨q,s1⟩:=r
 dsimp only at*
 have f3:=fail_fg g L s1 3 (by decide)
 generalize hi:intQ q.q=o at*
 cases o with
 |none=>
  simp only [Option.isSome_none,Option.getD_none] at f2
  refine fh_of_body Tryz.func146 rfl rfl (by simp [Tryz.ntmps146]) fun C hC=> ?_
  simp only [initS,Nat.reduceAdd]
  repeat' first|refine zV o0 ?_|(refine zg o0 (f1) ?_)|refine zH o0 (fun hb=>?_) fun hb=>?_|fail
  refine xA fun g3 hn_g3=>?_
  repeat' first|refine zV hn_g3 ?_|(refine yC2 hn_g3 (f2) ?_)|(refine yD2 hn_g3 (f2) ?_)|(refine zg hn_g3 (f3) ?_)|refine zH hn_g3 (fun hb=>?_) fun hb=>?_|fail
  ·have h0:s1.e≠0:=by simpa using hb
   refine aw_rethw (h':=[(g,rdO L s1)]) rfl sL fun R r=>?_;simp only[go_sem,hn_g3];refine r _ rfl ?_;clear r R
   rw [if_neg h0]
   exact⟨rfl,rfl⟩
  ·have h0:s1.e=0:=by simpa using hb
   refine aw_rethw (h':=[(g,rdO L (failS 3 s1))]) rfl sL fun R r=>?_;simp only[go_sem,hn_g3];refine r _ rfl ?_;clear r R
   rw [if_pos h0]
   unfold failS
   rw [if_pos h0]
   exact⟨rfl,rfl⟩
 |some n=>
  simp only [Option.isSome_some,Option.getD_some] at f2
  refine fh_of_body Tryz.func146 rfl rfl (by simp [Tryz.ntmps146]) fun C hC=> ?_
  simp only [initS,Nat.reduceAdd]
  repeat' first|refine zV o0 ?_|(refine zg o0 (f1) ?_)|refine zH o0 (fun hb=>?_) fun hb=>?_|fail
  refine xA fun g3 hn_g3=>?_
  repeat' first|refine zV hn_g3 ?_|(refine yC2 hn_g3 (f2) ?_)|(refine yD2 hn_g3 (f2) ?_)|(refine zg hn_g3 (f3) ?_)|refine zH hn_g3 (fun hb=>?_) fun hb=>?_|fail
  ·have h0:s1.e≠0:=by simpa using hb
   refine aw_rethw (h':=[(g,rdO L s1)]) rfl sL fun R r=>?_;simp only[go_sem,hn_g3];refine r _ rfl ?_;clear r R
   rw [if_neg h0]
   exact⟨rfl,rfl⟩
  ·rename_i hb0
   have h0:s1.e=0:=by simpa using hb0
   have hn:n<0:=hb
   refine aw_rethw (h':=[(g,rdO L (failS 3 s1))]) rfl sL fun R r=>?_;simp only[go_sem,hn_g3];refine r _ rfl ?_;clear r R
   rw [if_pos h0]
   try dsimp only
   unfold failS
   rw [if_pos h0,if_neg om]
   exact⟨rfl,rfl⟩
  ·rename_i hb0 hb1
   have h0:s1.e=0:=by simpa using hb0
   have hn:n>1073741824:=hb
   refine aw_rethw (h':=[(g,rdO L (failS 3 s1))]) rfl sL fun R r=>?_;simp only[go_sem,hn_g3];refine r _ rfl ?_;clear r R
   rw [if_pos h0]
   try dsimp only
   unfold failS
   rw [if_pos h0,if_neg om]
   exact⟨rfl,rfl⟩
  ·rename_i hb0 hb1
   have h0:s1.e=0:=by simpa using hb0
   have h1:¬n<0:=hb1
   have h2:¬n>1073741824:=hb
   refine aw_rethw (h':=[(g,rdO L s1)]) rfl sL fun R r=>?_;simp only[go_sem,hn_g3];refine r _ rfl ?_;clear r R
   rw [if_pos h0]
   try dsimp only
   rw [if_pos om]
   exact⟨rfl,rfl⟩
theorem house_fg (g:Nat) (L:List TX) (s:PS) (hs:s.l<:+L.map TX.t) (hL:L.length≤1099511627776):Fg Tryz.prog 100 g (rdO L s) [.c (.optr g 0)] (.agg (hsc (houseS s).1)) (rdO L (houseS s).2):=by
 have f1:=word_fg g L s hs hL
 unfold houseS
 dsimp only
 have hs1:=(rdr_word.suf s).trans hs
 generalize hr:wordS s=r at*
 obtain⟨nm,s1⟩:=r
 dsimp only at*
 have f2:=is_fg g L s1 kOn hs1 hL
 have f3:=is_fg g L s1 kOff hs1 hL
 have f4:=take_fg g L s1 (isS s1 kOn||isS s1 kOff) hs1 hL
 have hs2:=((rdr_take fun s=>isS s kOn||isS s kOff).suf s1).trans hs1
 try dsimp only at hs2
 cases h1:isS s1 kOn with
 |true=>
  rw [h1] at f2 f4 hs2
  rw [Bool.true_or] at f4 hs2
  rw [Bool.true_or]
  generalize takeS true s1=r at*
  obtain⟨t,s2⟩:=r
  dsimp only at*
  have f6:=expect_fg g L s2 kSemi hs2 hL
  unfold Fg
  refine fh_of_body Tryz.func100 rfl rfl (by simp [Tryz.ntmps100]) fun C hC=> ?_
  simp only [initS,Nat.reduceAdd]
  repeat' first|refine zV o0 ?_|refine zH o0 (fun hb=>?_) fun hb=>?_|fail
  refine xA fun g2 hn_g2=>?_
  repeat' first|refine zV hn_g2 ?_|(refine zg hn_g2 (f1) ?_)|refine zH hn_g2 (fun hb=>?_) fun hb=>?_|fail
  refine yA hn_g2 fun g3 hn_g3=>?_
  all_goals try(have Z:=(oj hn_g2 hn_g3);(repeat' first|refine zV Z ?_|(refine zg Z (f2) ?_)|(refine zg Z (f3) ?_)|(refine zg Z (f4) ?_)|(refine zg Z (f6) ?_)|refine zH Z (fun hb=>?_) fun hb=>?_|fail);all_goals clear Z)
  refine aw_rethw (h':=[(g,rdO L (expS kSemi s2))]) rfl sL fun R r=>?_;simp only[go_sem,hn_g2,hn_g3];refine r _ rfl ?_;clear r R
  exact⟨rfl,rfl⟩
 |false=>
  rw [h1] at f2 f4 hs2
  rw [Bool.false_or] at f4 hs2
  rw [Bool.false_or]
  generalize takeS (isS s1 kOff) s1=r at*
  obtain⟨t,s2⟩:=r
  dsimp only at*
  have f6:=expect_fg g L s2 kSemi hs2 hL
  unfold Fg
  refine fh_of_body Tryz.func100 rfl rfl (by simp [Tryz.ntmps100]) fun C hC=> ?_
  simp only [initS,Nat.reduceAdd]
  repeat' first|refine zV o0 ?_|refine zH o0 (fun hb=>?_) fun hb=>?_|fail
  refine xA fun g2 hn_g2=>?_
  repeat' first|refine zV hn_g2 ?_|(refine zg hn_g2 (f1) ?_)|refine zH hn_g2 (fun hb=>?_) fun hb=>?_|fail
  refine yA hn_g2 fun g3 hn_g3=>?_
  all_goals try(have Z:=(oj hn_g2 hn_g3);(repeat' first|refine zV Z ?_|(refine zg Z (f2) ?_)|(refine zg Z (f3) ?_)|(refine zg Z (f4) ?_)|(refine zg Z (f6) ?_)|refine zH Z (fun hb=>?_) fun hb=>?_|fail);all_goals clear Z)
  refine aw_rethw (h':=[(g,rdO L (expS kSemi s2))]) rfl sL fun R r=>?_;simp only[go_sem,hn_g2,hn_g3];refine r _ rfl ?_;clear r R
  exact⟨rfl,rfl⟩
end Go.Proofs.YtnmeahogifekdaaGreatDoor
namespace Go.AI
section
variable {E : Env} {K : List It} {l : List Oper} {FP FP' : Heap} {σ σ' : Sl} {h : Heap} {o : Oper} {i m : Nat} {cs : List (Nat × Nat)}
theorem cw_buildSlice {t e size bytes len:Nat} {xs:List Operand} {cells:List CV} (ho:l[i]?=some o) (hop:o.op=.buildSlice t len (enumO 0 xs).toArray) (hw:wantA l σ o=some true) (hd:dstOk E.N o.dst=true) (ht:tElem E.P t=some (e,size,bytes))
  (hz:(tZero E.P e).isSome=true) (hl:xs.length=len) (hsm:len*size≤16777216) (hlm:len≤16777216) (hx:∀x∈xs,(ev σ x).flat=true∧(ev σ x).cells.all CV.solid=true∧(ev σ x).cells.length=size) (hc:(xs.map (ev σ)).flatMap AV.cells=cells) (hops:∀x∈xs,x∈o.op.operands) (hFP:Has0 FP' h)
  (k:∀g,g∉h.keys→CW E l K FP' cs (σ.setO o.dst (.c (.osl g size 0 len))) ((g,.cells e (len*size) (ofL cells))::h)) (hm:m=2∨m=1∧FP'=FP:=by first|exact .inl rfl|exact .inr ⟨rfl,rfl⟩):CW E l K FP ((i,m)::cs) σ h:=by
 refine .pin ho hm (R:=fun r h2=>∃g,g∉h.keys∧r=.c (.osl g size 0 len)∧h2=(g,.cells e (len*size) (ofL cells))::h) (fun σ' K hs=> ?_) ?_ ?_
 ·have he:∀x∈xs,ev σ' x=ev σ x:=fun x hxx=>ev_same (hops x hxx) hs
  exact aw_buildSlice hop ((want_same hs).trans hw) hd ht hz hl hsm hlm (fun x hxx=>by rw [he x hxx];exact hx x hxx) (by rw [List.map_congr_left he];exact hc) fun g hg=>aw_ops_nil (aw_stop ⟨_,⟨g,hg,rfl,rfl⟩,rfl⟩)
 ·rintro r h2 ⟨g,_,_,rfl⟩;exact fun p hp=>List.mem_cons_of_mem _ (hFP p hp)
 ·rintro r h2 ⟨g,hg,rfl,rfl⟩;exact k g hg
theorem cw_callqP {f:FuncId} {xs:List Operand} {ts:Array TypeId} {args:List AV} {r:AV} (ho:l[i]?=some o) (hf:Fa E.P f args r) (hop:o.op=.call {callee:=.value (.func f),args:=xs.toArray,argTypes:=ts}) (hw:wantA l σ o=some true) (hd:dstOk E.N o.dst=true)
  (le:LeA h (xs.map (ev σ)) args) (hFP:Has0 FP' h) (k:CW E l K FP' cs (σ.setO o.dst r) h) (hm:m=2∨m=1∧FP'=FP:=by first|exact .inl rfl|exact .inr ⟨rfl,rfl⟩):CW E l K FP ((i,m)::cs) σ h:=by
 refine .pin ho hm (R:=fun x h2=>x=r∧h2=h) (fun σ' K hs=> ?_) ?_ ?_
 ·have he:xs.map (ev σ')=xs.map (ev σ):=evs_same (fun x hx=>by rw [hop];simp [Op.operands,Call.operands,hx]) hs
  exact aw_callq hf hop ((want_same hs).trans hw) hd (by rw [he];exact le) (aw_ops_nil (aw_stop ⟨r,⟨rfl,rfl⟩,rfl⟩))
 ·rintro _ _ ⟨_,rfl⟩;exact hFP
 ·rintro _ _ ⟨rfl,rfl⟩;exact k
theorem cw_push {t e size bytes n d1 s gt:Nat} {z:List CV} {og:Option Nat} {f f':Nat→CV} {pre:Heap} {v:AV} (ho:l[i]?=some o) (hop2:o.op=.call {callee:=.builtin .append,args:= #[.tmp s,.tmp d1],argTypes:= #[t,t]})
  (hg2:o.guard=none) (hd2:dstOk E.N o.dst=true)
  (ht:tElem E.P t=some (e,size,bytes)) (hz:tZero E.P e=some z) (hzl:z.length=size) (hs0:0<size) (hsz:size≤16777216)
  (hevs:ev σ (.tmp s)=.c (gs og size n)) (hev1:ev σ (.tmp d1)=.c (.osl gt size 0 1)) (hog:og=none→n=0) (hok:okPart v=true) (hvl:v.cells.length=size) (hh:h=(gt,.cells e (1*size) (ofL v.cells))::(pre++gh og e (n*size) f))
  (h63:n+1≤maxLen) (hby:(n+1)*bytes≤140737488355328) (hf:∀j,j<(n+1)*size→appF f (n*size) (ofL v.cells) j=f' j) (hFP:Has0 FP' ((gt,.cells e (1*size) (ofL v.cells))::pre))
  (k:∀g',g'∉Heap.keys ((gt,.cells e (1*size) (ofL v.cells))::pre)→CW E l K FP' cs (σ.setO o.dst (.c (gs (some g') size (n+1)))) ((gt,.cells e (1*size) (ofL v.cells))::(pre++gh (some g') e ((n+1)*size) f')))
  (hm:m=2∨m=1∧FP'=FP:=by first|exact .inl rfl|exact .inr ⟨rfl,rfl⟩):CW E l K FP ((i,m)::cs) σ h:=by
 subst hh
 obtain⟨ok1,ok2⟩:=okPart_spec hok
 refine .pin ho hm (R:=fun r h2=>∃g',g'∉Heap.keys ((gt,.cells e (1*size) (ofL v.cells))::pre)∧r=.c (gs (some g') size (n+1))∧h2=(gt,.cells e (1*size) (ofL v.cells))::(pre++gh (some g') e ((n+1)*size) f')) (fun σ' K hs=> ?_) ?_ ?_
 ·have hw2:∀σ2,wantA l σ2 o=some true:=fun σ2=>by unfold wantA;rw [hg2]
  have hevs':ev σ' (.tmp s)=.c (gs og size n):=(ev_same (by rw [hop2];simp [Op.operands,Call.operands]) hs).trans hevs
  have hev1':ev σ' (.tmp d1)=.c (.osl gt size 0 1):=(ev_same (by rw [hop2];simp [Op.operands,Call.operands]) hs).trans hev1
  have hsrc:∀h0:Heap,Src ((gt,.cells e (1*size) (ofL v.cells))::h0) size (.osl gt size 0 1) 1 (ofL v.cells):=fun h0=>by
   refine .osl (f':=ofL v.cells) (m:=1*size) (ty:=e) (by simp [Heap.get]) om (fun j _=>by rw [Nat.zero_add])
  cases og with
  |none=>
   have hn0:n=0:=hog rfl
   subst hn0
   refine aw_appendN (cx:=.osl gt size 0 1) (k:=1) (f2:=ofL v.cells) hop2 (hw2 _) hd2 ht hz hzl hs0 hevs' hev1' (hsrc _) om om om fun g' hg'=> ?_
   refine aw_conv1 (f':=f') (fun j hj=> ?_) ?_
   ·have:=hf j om
    rw [←this];simp [appF]
   ·have hnew:g'∉Heap.keys ((gt,.cells e (1*size) (ofL v.cells))::pre):=fun hm=>hg' (by simpa [gh] using hm)
    refine aw_perm (h':=(gt,.cells e (1*size) (ofL v.cells))::(pre++[(g',.cells e (1*size) f')])) ?_ ?_
    ·have:(pre++gh none e (0*size) f)=pre:=by simp [gh]
     rw [this]
     refine(List.Perm.swap _ _ _).trans (List.Perm.cons _ ?_)
     exact(List.perm_append_singleton _ _).symm
    ·exact aw_ops_nil (aw_stop ⟨_,⟨g',hnew,rfl,by simp [gh]⟩,rfl⟩)
  |some g=>
   refine aw_nd fun hnd=> ?_
   have hnp:g∉pre.keys:=fun hm=>by
    simp only [Heap.keys,gh,List.map_cons,List.map_append,List.map_nil,List.nodup_cons] at hnd
    have:=(List.nodup_append.1 hnd.2).2.2 g hm g (by simp)
    exact this rfl
   have hgtg:gt≠g:=fun e=>by
    subst e
    simp [Heap.keys,gh] at hnd
   refine aw_append (cx:=.osl gt size 0 1) (k:=1) (f2:=ofL v.cells) (g:=g) (m:=n*size) (f:=f) (h2:=(gt,.cells e (1*size) (ofL v.cells))::pre) hop2 (hw2 _) hd2 ht hz hzl hs0 hevs' ?_ (Nat.le_refl _) hev1' (hsrc _) ?_ om h63 hby ?_ fun g' hg'=> ?_
   ·show Heap.get ((gt,_)::(pre++[(g,_)])) g=_
    simp only [Heap.get,if_neg hgtg]
    exact Heap.get_app hnp
   ·intro j hj
    have hjl:j<v.cells.length:=by omega
    rw [ofL_get v.cells j v.cells[j] (List.getElem?_eq_getElem hjl)]
    exact List.all_eq_true.1 ok2 _ (List.getElem_mem hjl)
   ·show Heap.del ((gt,_)::(pre++[(g,_)])) g=_
    rw [Heap.del_ne hgtg,Heap.del_app hnp]
   ·refine aw_conv1 (f':=f') hf ?_
    refine aw_perm (h':=(gt,.cells e (1*size) (ofL v.cells))::(pre++[(g',.cells e ((n+1)*size) f')])) ?_ ?_
    ·refine(List.Perm.swap _ _ _).trans (List.Perm.cons _ ?_)
     exact(List.perm_append_singleton _ _).symm
    ·exact aw_ops_nil (aw_stop ⟨_,⟨g',hg',rfl,rfl⟩,rfl⟩)
 ·rintro r h2 ⟨g',_,_,rfl⟩
  intro p hp
  rcases List.mem_cons.1 (hFP p hp) with e|hm
  ·exact e▸List.mem_cons_self ..
  ·exact List.mem_cons_of_mem _ (List.mem_append_left _ hm)
 ·rintro r h2 ⟨g',hg,rfl,rfl⟩;exact k g' hg
end
end Go.AI
namespace Go.AI
section
variable {E : Env} {K : List It} {l : List Oper} {FP : Heap} {σ σ' : Sl} {h : Heap} {o : Oper} {i : Nat} {cs : List (Nat × Nat)}
theorem cw_cg {f:FuncId} {xs:List Operand} {ts:Array TypeId} {g:Nat} {ob ob':AObj} {args:List AV} {r:AV} (ho:l[i]?=some o) (hf:Fg E.P f g ob args r ob') (hop:o.op=.call {callee:=.value (.func f),args:=xs.toArray,argTypes:=ts}) (hw:wantA l σ o=some true) (hd:dstOk E.N o.dst=true)
  (hg:h.get g=some ob) (le:LeA [] (xs.map (ev σ)) args) (hFP:Has0 FP (h.set g ob')) (k:CW E l K FP cs (σ.setO o.dst r) (h.set g ob')):CW E l K FP ((i,1)::cs) σ h:=by
 refine cw_callh (hc:=[(g,ob)]) (hr:=h.del g) ho hf hop hw hd (Heap.get_perm hg) le ?_ ?_ (hm:=.inr ⟨rfl,rfl⟩)
 ·rintro _ _ ⟨rfl,rfl⟩
  exact fun p hp=>(Heap.set_perm (ob':=ob') hg).mem_iff.1 (hFP p hp)
 ·rintro _ _ ⟨rfl,rfl⟩ _
  exact cw_perm (Heap.set_perm hg).symm k
end
end Go.AI
namespace Go.PN
open Go.AI
theorem kd_true {s:PS} {L:List TX} (hs:s.l<:+L.map TX.t) (h:kindS s 0=true):s.e=0∧L.length-s.l.length<L.length∧(L.getD (L.length-s.l.length) tx0).t.text=hdT s:=by
 have hr:=rat hs
 unfold kindS at h
 simp only [Bool.and_eq_true,decide_eq_true_eq] at h
 refine⟨h.1,?_⟩
 by_cases hl:L.length-s.l.length<L.length
 ·obtain⟨l,h1,_⟩:=hr.cons hl
  refine⟨hl,?_⟩
  have h2:hdT s=(L.getD (L.length-s.l.length) tx0).t.text:=hd_cons h1
  rw [h2]
 ·have:=hr.nil hl
  rw [this] at h
  simp at h
def gtV (k:Option Int) (s:PS):Int×PS:=if k=some 2 then wholeS s else(0,s)
def gtD (k:Option Int) (s:PS):RD×PS:=if k=some 7 then numS (gtV k s).2 else(rd0,(gtV k s).2)
theorem gtD_suf (k:Option Int) (s:PS):(gtD k s).2.l<:+s.l:=by
 have h1:(gtV k s).2.l<:+s.l:=by
  unfold gtV;split
  ·exact rdr_whole.suf s
  ·exact List.suffix_refl _
 unfold gtD;split
 ·exact(rdr_num.suf _).trans h1
 ·exact h1
theorem suf_word {L:List TX} {s:PS} (hs:s.l<:+L.map TX.t):(wordS s).2.l<:+L.map TX.t:=(rdr_word.suf s).trans hs
end Go.PN
namespace Go.AI
open Go.PN
theorem strs_push {xs:List BS} {n:Nat} (hn:xs.length=n) (t:BS):∀j,j<(n+1)*1→appF (strsF xs) (n*1) (ofL (stc t)) j=strsF (xs++[t]) j:=lf_push (s:=1) (c:=stc) (d:=([]:BS)) hn t (by decide)
end Go.AI
namespace Go.Proofs.YtnmeahogifekdaaGreatDoor
open Go.AI Go.PN
theorem conv_gate {a b c:CV}:∀j,j<7→∀(S:Bool→Nat→Prop) w u,RepC S w (ofL [a,b,c,.nils,.bool false,.nils,.nils] j) u→RepC S w (ofL ([a,b,c,.nils]++rdc rd0) j) u:=fun j hj S w u hr=>by
 match j,hj with
 |0,_=>exact hr
 |1,_=>exact hr
 |2,_=>exact hr
 |3,_=>exact hr
 |4,_=>exact hr
 |5,_=>exact repC_nil hr
 |6,_=>exact repC_nil hr
attribute [local irreducible] aw Fa Fh DrK
theorem gate_fg (g:Nat) (L:List TX) (s:PS) (hs:s.l<:+L.map TX.t) (hL:L.length≤1048576) (hw:∀t∈L,t.t.text.length≤1099511627776):Fg Tryz.prog 101 g (rdO L s) [.c (.optr g 0)] (.agg (gtc (gateS s).1)) (rdO L (gateS s).2):=by
 have f1:=word_fg g L s hs om
 have hs1:=suf_word hs
 rw [gateS_eq]
 unfold PN.bnd
 generalize wordS s=r at*
 obtain⟨nm,s1⟩:=r
 dsimp only at*
 have f2:=kind_fg g L s1 0 hs1 om
 have f3:=take_fg g L s1 (kdS s1).isSome hs1 om
 have hs2:=(rdr_gk.suf s1).trans hs1
 have hg1:(gkS s1).1=kdS s1:=rfl
 have hg2:(gkS s1).2=(takeS (kdS s1).isSome s1).2:=rfl
 rw [hg1]
 rw [←hg2] at f3
 generalize (gkS s1).2=s2 at*
 generalize (takeS (kdS s1).isSome s1).1=tw at*
 unfold Fg
 refine fh_of_body Tryz.func101 rfl rfl (by simp [Tryz.ntmps101]) fun C hC=> ?_
 simp only [initS,Nat.reduceAdd]
 apply wa1
 apply wa6
 refine xA fun g2 hn_g2=>?_
 refine yH hn_g2 ?_
 apply wa1
 apply wa6
 refine yH hn_g2 ?_
 refine aw_cg f1 rfl rfl rfl (zE hn_g2) (zL2 o0) ?_
 refine yS hn_g2 ?_
 refine yH hn_g2 ?_
 refine yA hn_g2 fun g3 hn_g3=>?_
 have J1:=oj hn_g2 hn_g3
 refine yW J1 ?_
 refine yS J1 ?_
 refine yH J1 ?_
 apply wa1
 apply wa6
 refine yH J1 ?_
 apply wa1
 refine aw_cut (fun _:Unit=>[(0,.c (.optr g 0)),(2,.c (.optr g2 0)),(3,.c (.optr g3 0)),(4,.c (.bool (kdS s1).isSome))]) (fun _=>[(g3,.cells 60 7 (ofL [.str (sB nm),.int .i64 ((kdS s1).getD 0),.int .i64 0,.nils,.bool false,.nils,.nils])),(g2,.cells 60 7 (ofL [.str (sB []),.int .i64 0,.int .i64 0,.nils,.bool false,.nils,.nils])),(g,rdO L s1)]) (fun _=>1=1) ?_ ?_
 ·all_goals try(have Z:=J1;(repeat' first|refine zV Z ?_|(refine zg Z (f2) ?_)|refine zH Z (fun hb=>?_) fun hb=>?_|fail);all_goals clear Z)
  ·obtain⟨h0,h1,h2⟩:=kd_true hs1 hb
   have hk:kdS s1=gkind (hdT s1):=by unfold kdS;rw [if_pos hb]
   have hgk:=gkind_fa (hdT s1)
   rw [←hk] at hgk
   refine aw_cw ([(g3,.cells 60 7 (ofL [.str (sB nm),.int .i64 0,.int .i64 0,.nils,.bool false,.nils,.nils])),(g,rdO L s1)]) [(0,0),(1,0),(2,0),(3,0),(4,0),(5,0),(6,0),(7,0),(8,0),(9,0),(10,0),(11,0),(12,0),(13,0),(15,0),(14,3),(16,2),(17,0)] ty_mixed (by kernel_rfl) eI ?_
   have J2:=oj hn_g2 (oj hn_g3 h2)
   refine yG J2 ?_
   refine cw_callq rfl hgk rfl rfl rfl (fun _ _=>(zL J2)) ?_
   refine ySG J2 ?_
   iterate 1 (refine wc3 rfl rfl fun R r=> ?_;simp only [go_sem,hn_g2,hn_g3,h2];with_reducible show R (some _);with_reducible refine r _ _ ?_;clear r R)
   have J3:=oj hn_g2 (oj hn_g3 h2)
   refine yS J3 ?_
   refine cw_store (FP':=[]) rfl rfl rfl rfl rfl (zE J3) (zE J3) (zE J3) (zE J3) (fun _ e=>by cases e) rfl rfl (show 2≤7 from by omega) rfl has0_nil ?_
   refine ySG J3 ?_
   refine aw_stop ⟨(),?_⟩
   and_intros<;>first|rfl|exact List.Sublist.refl _|exact True.intro
  ·have hk:kdS s1=none:=by unfold kdS;rw [if_neg (by rw [hb];decide)]
   rw [hk]
   refine aw_stop ⟨(),?_⟩
   and_intros<;>first|rfl|exact List.Sublist.refl _|exact True.intro
 rintro _ _
 apply wa1
 apply wa6
 have J4:=oj hn_g2 hn_g3
 refine yH J4 ?_
 refine aw_cg f3 rfl rfl rfl (zE J4) (zL2 o0) ?_
 refine yS J4 ?_
 refine yH J4 ?_
 apply wa1
 refine aw_cut (fun _:Unit=>[(0,.c (.optr g 0)),(2,.c (.optr g2 0)),(3,.c (.optr g3 0))]) (fun _=>[(g3,.cells 60 7 (ofL ([.str (sB nm),.int .i64 ((kdS s1).getD 0),.int .i64 (gtV (kdS s1) s2).1,.nils]++rdc (gtD (kdS s1) s2).1))),(g2,.cells 60 7 (ofL [.str (sB []),.int .i64 0,.int .i64 0,.nils,.bool false,.nils,.nils])),(g,rdO L (gtD (kdS s1) s2).2)]) (fun _=>1=1) ?_ ?_
 ·have f4:=whole_fg g L s2 hs2 om hw
  have f5:=number_fg g L s2 hs2 om hw
  by_cases k2:kdS s1=some 2
  ·have hv:gtV (kdS s1) s2=wholeS s2:=by unfold gtV;rw [if_pos k2]
   have hd:gtD (kdS s1) s2=(rd0,(wholeS s2).2):=by unfold gtD;rw [if_neg (by rw [k2];decide),hv]
   rw [hv,hd,k2]
   all_goals try(have Z:=J4;(repeat' first|refine zV Z ?_|(refine zg Z (f4) ?_)|refine zH Z (fun hb=>?_) fun hb=>?_|fail);all_goals clear Z)
   refine aw_convR (f':=ofL ([.str (sB nm),.int .i64 2,.int .i64 (wholeS s2).1,.nils]++rdc rd0)) conv_gate ?_
   refine aw_stop ⟨(),?_⟩
   and_intros<;>first|rfl|exact List.Sublist.refl _|exact True.intro
  by_cases k7:kdS s1=some 7
  ·have hv:gtV (kdS s1) s2=(0,s2):=by unfold gtV;rw [if_neg k2]
   have hd:gtD (kdS s1) s2=numS s2:=by unfold gtD;rw [if_pos k7,hv]
   rw [hv,hd,k7]
   all_goals try(have Z:=J4;(repeat' first|refine zV Z ?_|(refine zg Z (f5) ?_)|refine zH Z (fun hb=>?_) fun hb=>?_|fail);all_goals clear Z)
   refine aw_stop ⟨(),?_⟩
   and_intros<;>first|rfl|exact List.Sublist.refl _|exact True.intro
  ·have hv:gtV (kdS s1) s2=(0,s2):=by unfold gtV;rw [if_neg k2]
   have hd:gtD (kdS s1) s2=(rd0,s2):=by unfold gtD;rw [if_neg k7,hv]
   have n2:((kdS s1).getD 0==(2:Int))=false:=by
    cases hk:kdS s1 with
    |none=>rfl
    |some v=>simp only [Option.getD_some];rw [beq_eq_false_iff_ne];intro e;exact k2 (by rw [hk,e])
   have n7:((kdS s1).getD 0==(7:Int))=false:=by
    cases hk:kdS s1 with
    |none=>rfl
    |some v=>simp only [Option.getD_some];rw [beq_eq_false_iff_ne];intro e;exact k7 (by rw [hk,e])
   rw [hv,hd]
   all_goals try(have Z:=(oj hn_g2 (oj hn_g3 (oj n2 n7)));(repeat' first|refine zV Z ?_|refine zH Z (fun hb=>?_) fun hb=>?_|fail);all_goals clear Z)
   refine aw_convR (f':=ofL ([.str (sB nm),.int .i64 ((kdS s1).getD 0),.int .i64 0,.nils]++rdc rd0)) conv_gate ?_
   refine aw_stop ⟨(),?_⟩
   and_intros<;>first|rfl|exact List.Sublist.refl _|exact True.intro
 rintro _ _
 have hs3:(gtD (kdS s1) s2).2.l<:+L.map TX.t:=(gtD_suf _ _).trans hs2
 have hsp:gtK nm (kdS s1) s2=(⟨nm,(kdS s1).getD 0,(gtV (kdS s1) s2).1,(insS (gtD (kdS s1) s2).2).1,(gtD (kdS s1) s2).1⟩,(insS (gtD (kdS s1) s2).2).2):=rfl
 rw [hsp]
 generalize gtV (kdS s1) s2=v at*
 generalize gtD (kdS s1) s2=d at*
 generalize (kdS s1).getD 0=kd at*
 obtain⟨d,s3⟩:=d
 obtain⟨v,s3'⟩:=v
 dsimp only at*
 clear f1 f2 f3 hg1 hg2 hs2 hs1 J4
 unfold insS
 dsimp only
 generalize hF:lpS (fun s=> !isS s kSemi) inB [] s3=F at*
 apply wa1
 refine aw_cut (fun _:Nat×Option Nat=>[(0,.c (.optr g 0)),(2,.c (.optr g2 0)),(3,.c (.optr g3 0))]) (fun x=>[(g3,.cells 60 7 (ofL ([.str (sB nm),.int .i64 kd,.int .i64 v,gs x.2 1 x.1]++rdc d))),(g2,.cells 60 7 (ofL [.str (sB []),.int .i64 0,.int .i64 0,.nils,.bool false,.nils,.nils])),(g,rdO L F.2)]++gh x.2 9 x.1 (strsF F.1)) (fun x=>F.1.length=x.1∧(x.2=none→x.1=0)) ?_ ?_
 ·apply wa2
  refine aw_lp (fun _:PS×List BS×Nat×Option Nat=>[(0,.c (.optr g 0)),(2,.c (.optr g2 0)),(3,.c (.optr g3 0))]) (fun x=>[(g3,.cells 60 7 (ofL ([.str (sB nm),.int .i64 kd,.int .i64 v,gs x.2.2.2 1 x.2.2.1]++rdc d))),(g2,.cells 60 7 (ofL [.str (sB []),.int .i64 0,.int .i64 0,.nils,.bool false,.nils,.nils])),(g,rdO L x.1)]++gh x.2.2.2 9 x.2.2.1 (strsF x.2.1))
   (fun x=>x.1.l<:+L.map TX.t∧x.2.1.length=x.2.2.1∧(x.2.2.2=none→x.2.2.1=0)∧x.2.2.1+mS x.1≤1048577∧lpS (fun s=> !isS s kSemi) inB x.2.1 x.1=F) (fun x=>mS x.1) (s3,[],0,none) (zB (oj hn_g2 hn_g3)) zZ ⟨hs3,rfl,fun _=>rfl,?_,hF⟩ ?_
  ·have:=hs3.length_le
   rw [List.length_map] at this
   dsimp only
   unfold mS
   split<;>omega
  rintro ⟨sx,xs,n,og⟩ ⟨hsx,hn,hog,hm,hlp⟩
  dsimp only at hsx hn hog hm hlp⊢
  have f2:=is_fg g L sx kSemi hsx om
  have f4:=input_fg g L sx hsx om hw
  all_goals try(have Z:=(oj hn_g2 hn_g3);(repeat' first|refine zV Z ?_|(refine zg Z (f2) ?_)|refine zH Z (fun hb=>?_) fun hb=>?_|fail);all_goals clear Z)
  ·rename_i h0
   have hc:(!isS sx kSemi)=true:=hb
   have hst:=lpS_step (c:=fun s=> !isS s kSemi) (b:=inB) (a:=xs) (fun a s h _=>con_inB a s h) h0 hc
   have hlt:=con_inB xs sx h0
   rw [hst] at hlp
   have hsy:(inB xs sx).2.l<:+L.map TX.t:=((rdr_inB xs).suf sx).trans hsx
   have e1:(inB xs sx).1=xs++[(inputS sx).1]:=rfl
   have e2:(inB xs sx).2=(inputS sx).2:=rfl
   rw [e2] at hlt hsy
   rw [e1,e2] at hlp
   generalize inputS sx=y at*
   obtain⟨t,sy⟩:=y
   dsimp only at*
   refine aw_cw ([(g3,.cells 60 7 (ofL (.str (sB nm)::.int .i64 kd::.int .i64 v::gs og 1 n::rdc d)))]) [(0,0),(1,0),(2,0),(3,1),(4,1),(5,1),(6,0),(7,2)] ty_mixed (by kernel_rfl) eI ?_
   have J5:=oj hn_g2 hn_g3
   refine yG J5 ?_
   refine cw_cg rfl f4 rfl rfl rfl (zE J5) (zL J5) (by refine yS J5 ?_;exact has0_cons (List.mem_cons_self ..) has0_nil) ?_
   refine ySG J5 ?_
   refine cw_buildSlice (xs:=[.tmp 54]) (cells:=[.str (sB t)]) rfl rfl rfl rfl (zE J5) (by refine yS J5 ?_;rfl) rfl om om (by intro x hx;simp only [List.mem_singleton] at hx;subst hx;exact⟨rfl,rfl,rfl⟩) rfl (by simp [Op.operands]) (has0_cons (List.mem_cons_self ..) has0_nil) (fun ga hn_ga=> ?_) (hm:=.inr ⟨rfl,rfl⟩)
   refine yS J5 ?_
   refine cw_push (pre:=[(g3,.cells 60 7 (ofL (.str (sB nm)::.int .i64 kd::.int .i64 v::gs og 1 n::rdc d))),(g2,.cells 60 7 (ofL [.str (sB []),.int .i64 0,.int .i64 0,.nils,.bool false,.nils,.nils])),(g,rdO L sy)]) (og:=og) (n:=n) (s:=52) (d1:=55) (gt:=ga) (v:=.c (.str (sB t))) rfl rfl rfl rfl (zE J5) (zE J5) (by rfl) om om (zE J5) (zE J5) hog (by rfl) (by rfl) (by simp only [Nat.mul_one,List.cons_append,List.nil_append];rfl) (by unfold maxLen;omega) om (strs_push hn t) (has0_skip (has0_cons (List.mem_cons_self ..) has0_nil)) (fun gb hn_gb=> ?_) (hm:=.inr ⟨rfl,rfl⟩)
   replace hn_ga:=Heap.ne_of hn_ga
   simp only [Heap.ne] at hn_ga
   have J6:=oj hn_g2 (oj hn_g3 hn_ga)
   refine ySG J6 ?_
   refine cw_store (FP':=[]) rfl rfl rfl rfl rfl (zE J6) (zE J6) (zE J6) (zE J6) (fun _ e=>by cases e) rfl rfl (show 4≤7 from by omega) rfl has0_nil ?_
   refine ySG J6 ?_
   refine aw_stop ⟨(sy,xs++[t],n+1,some gb),?_⟩
   refine⟨hlt,?_⟩
   and_intros
   all_goals first|rfl|exact List.Sublist.cons _ (List.Sublist.refl _)|exact True.intro|exact hsy|exact some_ne|exact hlp|(dsimp only;rw [List.length_append,hn];rfl)|(dsimp only;omega)
  ·have hc:¬(sx.e=0∧(!isS sx kSemi)=true):=fun z=>by rw [hb] at z;exact absurd z.2 (by decide)
   rw [lpS_end hc] at hlp
   subst hlp
   refine aw_stop ⟨(n,og),?_⟩
   and_intros<;>first|rfl|exact List.Sublist.refl _|exact True.intro|exact hn|exact hog
  ·have hc:¬(sx.e=0∧(!isS sx kSemi)=true):=fun z=>hb z.1
   rw [lpS_end hc] at hlp
   subst hlp
   refine aw_stop ⟨(n,og),?_⟩
   and_intros<;>first|rfl|exact List.Sublist.refl _|exact True.intro|exact hn|exact hog
 rintro ⟨n,og⟩ ⟨hn,hog⟩
 dsimp only at hn hog⊢
 have hs4:F.2.l<:+L.map TX.t:=by
  rw [←hF];exact((rdr_lp rdr_inB []).suf s3).trans hs3
 have f6:=expect_fg g L F.2 kSemi hs4 om
 subst hn
 refine aw_nd fun hnd=> ?_
 have hog2:∀q,og=some q→¬C.own0 q:=fun q hq hown=>by
  subst hq
  have:q=g:=by simpa [Heap.keys] using (hC q).1 hown
  subst this
  simp [Heap.keys,gh] at hnd
 refine aw_perm (h':=(g3,.cells 60 7 (ofL (.str (sB nm)::.int .i64 kd::.int .i64 v::gs og 1 F.1.length::rdc d)))::(gh og 9 (F.1.length*1) (strsF F.1)++[(g2,.cells 60 7 (ofL [.str (sB []),.int .i64 0,.int .i64 0,.nils,.bool false,.nils,.nils])),(g,rdO L F.2)])) (by rw [Nat.mul_one];exact .cons _ (List.perm_append_comm (l₁:=[(g2,.cells 60 7 (ofL [.str (sB []),.int .i64 0,.int .i64 0,.nils,.bool false,.nils,.nils])),(g,rdO L F.2)]))) ?_
 refine aw_frzG (j0:=3) (n:=F.1.length) (s:=1) (f':=ofL (.str (sB nm)::.int .i64 kd::.int .i64 v::strs true F.1::rdc d)) rfl rfl (fun j hj hj3=>by
  match j,hj,hj3 with
  |0,_,_=>rfl
  |1,_,_=>rfl
  |2,_,_=>rfl
  |4,_,_=>rfl
  |5,_,_=>rfl
  |6,_,_=>rfl) hog hog2 ?_
 all_goals try(have Z:=(oj hn_g2 hn_g3);(repeat' first|refine zV Z ?_|(refine zg Z (f6) ?_)|refine zH Z (fun hb=>?_) fun hb=>?_|fail);all_goals clear Z)
 refine aw_rethw (h':=[(g,rdO L (expS kSemi F.2))]) rfl sL fun R r=>?_;simp only[go_sem,hn_g2,hn_g3];refine r _ rfl ?_;clear r R
 exact⟨rfl,rfl⟩
end Go.Proofs.YtnmeahogifekdaaGreatDoor
namespace Go.AI
open Go.PN
theorem gts_push {xs:List GtD} {n:Nat} (hn:xs.length=n) (t:GtD):∀j,j<(n+1)*7→appF (gtsF xs) (n*7) (ofL (gtc t)) j=gtsF (xs++[t]) j:=lf_push (s:=7) (c:=gtc) (d:=(gt0:GtD)) hn t (by decide)
end Go.AI
namespace Go.Proofs.YtnmeahogifekdaaGreatDoor
open Go.AI Go.PN
attribute [local irreducible] aw Fa Fh DrK
theorem page_fg (g:Nat) (L:List TX) (s:PS) (hs:s.l<:+L.map TX.t) (hL:L.length≤1048576) (hw:∀t∈L,t.t.text.length≤1099511627776):Fg Tryz.prog 102 g (rdO L s) [.c (.optr g 0)] (.agg (pgc (pageS s).1)) (rdO L (pageS s).2):=by
 have f1:=word_fg g L s hs om
 have hs1:=suf_word hs
 unfold pageS
 dsimp only
 generalize wordS s=r at*
 obtain⟨nm,s1⟩:=r
 dsimp only at*
 have f2:=expect_fg g L s1 kTop hs1 om
 have hs2:(expS kTop s1).l<:+L.map TX.t:=((rdr_exp kTop).suf s1).trans hs1
 generalize expS kTop s1=s2 at*
 have f3:=input_fg g L s2 hs2 om hw
 have hs3:=(rdr_input.suf s2).trans hs2
 generalize inputS s2=r at*
 obtain⟨tp,s3⟩:=r
 dsimp only at*
 have f4:=expect_fg g L s3 kOpen hs3 om
 have hs4:(expS kOpen s3).l<:+L.map TX.t:=((rdr_exp kOpen).suf s3).trans hs3
 generalize expS kOpen s3=s4 at*
 generalize hF:lpS (fun s=> !isS s kClose) pgB [] s4=F at*
 unfold Fg
 refine fh_of_body Tryz.func102 rfl rfl (by simp [Tryz.ntmps102]) fun C hC=> ?_
 simp only [initS,Nat.reduceAdd]
 repeat' first|refine zV o0 ?_|refine zH o0 (fun hb=>?_) fun hb=>?_|fail
 refine xA fun g2 hn_g2=>?_
 repeat' first|refine zV hn_g2 ?_|(refine zg hn_g2 (f1) ?_)|refine zH hn_g2 (fun hb=>?_) fun hb=>?_|fail
 refine yA hn_g2 fun g3 hn_g3=>?_
 all_goals try(have Z:=(oj hn_g2 hn_g3);(repeat' first|refine zV Z ?_|(refine zg Z (f2) ?_)|(refine zg Z (f3) ?_)|refine zH Z (fun hb=>?_) fun hb=>?_|fail);all_goals clear Z)
 refine aw_cg f4 rfl rfl rfl (zE (oj hn_g2 hn_g3)) (zL2 o0) ?_
 have J1:=oj hn_g2 hn_g3
 refine yS J1 ?_
 refine yH J1 ?_
 apply wa1
 refine aw_cut (fun _:Nat×Option Nat=>[(0,.c (.optr g 0)),(2,.c (.optr g2 0)),(3,.c (.optr g3 0))]) (fun x=>[(g3,.cells 57 3 (ofL [.str (sB nm),.str (sB tp),gs x.2 7 x.1])),(g2,.cells 57 3 (ofL [.str (sB []),.str (sB []),.nils])),(g,rdO L F.2)]++gh x.2 60 (x.1*7) (gtsF F.1)) (fun x=>F.1.length=x.1∧(x.2=none→x.1=0)) ?_ ?_
 ·apply wa2
  refine aw_lp (fun _:PS×List GtD×Nat×Option Nat=>[(0,.c (.optr g 0)),(2,.c (.optr g2 0)),(3,.c (.optr g3 0))]) (fun x=>[(g3,.cells 57 3 (ofL [.str (sB nm),.str (sB tp),gs x.2.2.2 7 x.2.2.1])),(g2,.cells 57 3 (ofL [.str (sB []),.str (sB []),.nils])),(g,rdO L x.1)]++gh x.2.2.2 60 (x.2.2.1*7) (gtsF x.2.1))
   (fun x=>x.1.l<:+L.map TX.t∧x.2.1.length=x.2.2.1∧(x.2.2.2=none→x.2.2.1=0)∧x.2.2.1+mS x.1≤1048577∧lpS (fun s=> !isS s kClose) pgB x.2.1 x.1=F) (fun x=>mS x.1) (s4,[],0,none) (zB J1) zZ ⟨hs4,rfl,fun _=>rfl,?_,hF⟩ ?_
  ·have:=hs4.length_le
   rw [List.length_map] at this
   dsimp only
   unfold mS
   split<;>omega
  rintro ⟨sx,xs,n,og⟩ ⟨hsx,hn,hog,hm,hlp⟩
  dsimp only at hsx hn hog hm hlp⊢
  have f5:=is_fg g L sx kClose hsx om
  have f6:=expect_fg g L sx kGate hsx om
  have hsw:(expS kGate sx).l<:+L.map TX.t:=((rdr_exp kGate).suf sx).trans hsx
  have f7:=gate_fg g L (expS kGate sx) hsw hL hw
  all_goals try(have Z:=J1;(repeat' first|refine zV Z ?_|(refine zg Z (f5) ?_)|(refine zg Z (f6) ?_)|refine zH Z (fun hb=>?_) fun hb=>?_|fail);all_goals clear Z)
  ·rename_i h0
   have hc:(!isS sx kClose)=true:=hb
   have hst:=lpS_step (c:=fun s=> !isS s kClose) (b:=pgB) (a:=xs) (fun a s h _=>con_pgB a s h) h0 hc
   have hlt:=con_pgB xs sx h0
   rw [hst] at hlp
   have hsy:(pgB xs sx).2.l<:+L.map TX.t:=((rdr_pgB xs).suf sx).trans hsx
   have e1:(pgB xs sx).1=xs++[(gateS (expS kGate sx)).1]:=rfl
   have e2:(pgB xs sx).2=(gateS (expS kGate sx)).2:=rfl
   rw [e2] at hlt hsy
   rw [e1,e2] at hlp
   generalize gateS (expS kGate sx)=y at*
   obtain⟨t,sy⟩:=y
   dsimp only at*
   refine aw_cw ([(g3,.cells 57 3 (ofL [.str (sB nm),.str (sB tp),gs og 7 n]))]) [(0,0),(1,0),(2,0),(3,1),(4,1),(5,1),(6,0),(7,2)] ty_mixed (by kernel_rfl) eI ?_
   refine yG J1 ?_
   refine cw_cg rfl f7 rfl rfl rfl (zE J1) (zL J1) (by refine yS J1 ?_;exact has0_cons (List.mem_cons_self ..) has0_nil) ?_
   refine ySG J1 ?_
   refine cw_buildSlice (xs:=[.tmp 29]) (cells:=gtc t) rfl rfl rfl rfl (zE J1) (by refine yS J1 ?_;rfl) rfl om om (by intro x hx;simp only [List.mem_singleton] at hx;subst hx;exact⟨rfl,rfl,rfl⟩) rfl (by simp [Op.operands]) (has0_cons (List.mem_cons_self ..) has0_nil) (fun ga hn_ga=> ?_) (hm:=.inr ⟨rfl,rfl⟩)
   refine yS J1 ?_
   refine cw_push (pre:=[(g3,.cells 57 3 (ofL [.str (sB nm),.str (sB tp),gs og 7 n])),(g2,.cells 57 3 (ofL [.str (sB []),.str (sB []),.nils])),(g,rdO L sy)]) (og:=og) (n:=n) (s:=27) (d1:=30) (gt:=ga) (v:=.agg (gtc t)) rfl rfl rfl rfl (zE J1) (zE J1) (by rfl) om om (zE J1) (zE J1) hog (by rfl) (by rfl) (by simp only [Nat.mul_one,List.cons_append,List.nil_append];rfl) (by unfold maxLen;omega) om (gts_push hn t) (has0_skip (has0_cons (List.mem_cons_self ..) has0_nil)) (fun gb hn_gb=> ?_) (hm:=.inr ⟨rfl,rfl⟩)
   replace hn_ga:=Heap.ne_of hn_ga
   simp only [Heap.ne] at hn_ga
   have J2:=oj hn_g2 (oj hn_g3 hn_ga)
   refine ySG J2 ?_
   refine cw_store (FP':=[]) rfl rfl rfl rfl rfl (zE J2) (zE J2) (zE J2) (zE J2) (fun _ e=>by cases e) rfl rfl (show 3≤3 from by omega) rfl has0_nil ?_
   refine ySG J2 ?_
   refine aw_stop ⟨(sy,xs++[t],n+1,some gb),?_⟩
   refine⟨hlt,?_⟩
   and_intros
   all_goals first|rfl|exact List.Sublist.cons _ (List.Sublist.refl _)|exact True.intro|exact hsy|exact some_ne|exact hlp|(dsimp only;rw [List.length_append,hn];rfl)|(dsimp only;omega)
  ·have hc:¬(sx.e=0∧(!isS sx kClose)=true):=fun z=>by rw [hb] at z;exact absurd z.2 (by decide)
   rw [lpS_end hc] at hlp
   subst hlp
   refine aw_stop ⟨(n,og),?_⟩
   and_intros<;>first|rfl|exact List.Sublist.refl _|exact True.intro|exact hn|exact hog
  ·have hc:¬(sx.e=0∧(!isS sx kClose)=true):=fun z=>hb z.1
   rw [lpS_end hc] at hlp
   subst hlp
   refine aw_stop ⟨(n,og),?_⟩
   and_intros<;>first|rfl|exact List.Sublist.refl _|exact True.intro|exact hn|exact hog
 rintro ⟨n,og⟩ ⟨hn,hog⟩
 dsimp only at hn hog⊢
 have hs5:F.2.l<:+L.map TX.t:=by
  rw [←hF];exact((rdr_lp rdr_pgB []).suf s4).trans hs4
 have f6:=expect_fg g L F.2 kClose hs5 om
 subst hn
 refine aw_nd fun hnd=> ?_
 have hog2:∀q,og=some q→¬C.own0 q:=fun q hq hown=>by
  subst hq
  have:q=g:=by simpa [Heap.keys] using (hC q).1 hown
  subst this
  simp [Heap.keys,gh] at hnd
 refine aw_perm (h':=(g3,.cells 57 3 (ofL [.str (sB nm),.str (sB tp),gs og 7 F.1.length]))::(gh og 60 (F.1.length*7) (gtsF F.1)++[(g2,.cells 57 3 (ofL [.str (sB []),.str (sB []),.nils])),(g,rdO L F.2)])) (.cons _ (List.perm_append_comm (l₁:=[(g2,.cells 57 3 (ofL [.str (sB []),.str (sB []),.nils])),(g,rdO L F.2)]))) ?_
 refine aw_frzG (j0:=2) (n:=F.1.length) (s:=7) (f':=ofL [.str (sB nm),.str (sB tp),gts true F.1]) rfl rfl (fun j hj hj3=>by
  match j,hj,hj3 with
  |0,_,_=>rfl
  |1,_,_=>rfl
  |j+2,h1,h2=>exact absurd (show j+2=2 from by omega) h2) hog hog2 ?_
 all_goals try(have Z:=J1;(repeat' first|refine zV Z ?_|(refine zg Z (f6) ?_)|refine zH Z (fun hb=>?_) fun hb=>?_|fail);all_goals clear Z)
 refine aw_rethw (h':=[(g,rdO L (expS kClose F.2))]) rfl sL fun R r=>?_;simp only[go_sem,hn_g2,hn_g3];refine r _ rfl ?_;clear r R
 exact⟨rfl,rfl⟩
end Go.Proofs.YtnmeahogifekdaaGreatDoor
namespace Go.PN
open Go.AI
theorem kindS_e {s:PS} {k:Nat} (h:kindS s k=true):s.e=0:=by
 unfold kindS at h
 simp only [Bool.and_eq_true,decide_eq_true_eq] at h
 exact h.1
end Go.PN
namespace Go.Proofs.YtnmeahogifekdaaGreatDoor
open Go.AI Go.PN
theorem rats_push' {xs:List RD} {n:Nat} (hn:xs.length=n) (t:RD):∀j,j<(n+1)*3→appF (ratsF xs) (n*3) (ofL (rdc t)) j=ratsF (xs++[t]) j:=lf_push (s:=3) (c:=fun r:RD=>[CV.bool r.neg,ws true r.num,ws true r.den]) (d:=rd0) hn t (by decide)
attribute [local irreducible] aw Fa Fh DrK
theorem group_fg (g:Nat) (L:List TX) (s:PS) (hs:s.l<:+L.map TX.t) (hL:L.length≤1048576) (hw:∀t∈L,t.t.text.length≤1099511627776):Fg Tryz.prog 103 g (rdO L s) [.c (.optr g 0)] (.agg (grc (groupS s).1)) (rdO L (groupS s).2):=by
 have f1:=word_fg g L s hs om
 have hs1:=suf_word hs
 unfold groupS
 dsimp only
 generalize wordS s=r at*
 obtain⟨nm,s1⟩:=r
 dsimp only at*
 have f2:=is_fg g L s1 kBeta hs1 om
 have f3:=is_fg g L s1 kGreek hs1 om
 have f4:=take_fg g L s1 (isS s1 kBeta||isS s1 kGreek) hs1 om
 have hs2:=((rdr_take fun s=>isS s kBeta||isS s kGreek).suf s1).trans hs1
 try dsimp only at hs2
 generalize hr:takeS (isS s1 kBeta||isS s1 kGreek) s1=r at*
 obtain⟨tw,s2⟩:=r
 dsimp only at*
 generalize hkd:(if(tw==kGreek)=true then(1:Int) else 0)=kd
 generalize hF:lpS (fun s=>kindS s 1) facB [] s2=F at*
 unfold Fg
 refine fh_of_body Tryz.func103 rfl rfl (by simp [Tryz.ntmps103]) fun C hC=> ?_
 simp only [initS,Nat.reduceAdd]
 apply wa1
 apply wa6
 refine xA fun g2 hn_g2=>?_
 refine yH hn_g2 ?_
 apply wa1
 apply wa6
 refine yH hn_g2 ?_
 refine aw_cg f1 rfl rfl rfl (zE hn_g2) (zL2 o0) ?_
 refine yS hn_g2 ?_
 refine yH hn_g2 ?_
 refine yA hn_g2 fun g3 hn_g3=>?_
 have J1:=oj hn_g2 hn_g3
 refine yW J1 ?_
 refine yS J1 ?_
 refine yH J1 ?_
 apply wa1
 refine aw_cut (fun _:Unit=>[(0,.c (.optr g 0)),(2,.c (.optr g2 0)),(3,.c (.optr g3 0))]) (fun _=>[(g3,.cells 55 4 (ofL [.str (sB nm),.int .i64 kd,.nils,.nils])),(g2,.cells 55 4 (ofL [.str (sB []),.int .i64 0,.nils,.nils])),(g,rdO L s2)]) (fun _=>1=1) ?_ ?_
 ·cases h1:isS s1 kBeta with
  |true=>
   rw [h1] at f2 f4
   rw [Bool.true_or] at f4
   all_goals try(have Z:=J1;(repeat' first|refine zV Z ?_|(refine zg Z (f2) ?_)|(refine zg Z (f3) ?_)|(refine zg Z (f4) ?_)|refine zH Z (fun hb=>?_) fun hb=>?_|fail);all_goals clear Z)
   all_goals
    refine aw_stop ⟨(),?_⟩
    rw [←hkd]
    simp only [hb,beq_self_eq_true,if_true,if_false,beq_iff_eq]
    and_intros<;>first|rfl|exact List.Sublist.refl _|exact True.intro
  |false=>
   rw [h1] at f2 f4
   rw [Bool.false_or] at f4
   all_goals try(have Z:=J1;(repeat' first|refine zV Z ?_|(refine zg Z (f2) ?_)|(refine zg Z (f3) ?_)|(refine zg Z (f4) ?_)|refine zH Z (fun hb=>?_) fun hb=>?_|fail);all_goals clear Z)
   all_goals
    refine aw_stop ⟨(),?_⟩
    rw [←hkd]
    simp only [hb,beq_self_eq_true,if_true,if_false,beq_iff_eq]
    and_intros<;>first|rfl|exact List.Sublist.refl _|exact True.intro
 rintro _ _
 clear f1 f2 f3 f4 J1
 apply wa1
 refine aw_cut (fun _:Nat×Option Nat=>[(0,.c (.optr g 0)),(2,.c (.optr g2 0)),(3,.c (.optr g3 0))]) (fun x=>[(g3,.cells 55 4 (ofL [.str (sB nm),.int .i64 kd,.nils,gs x.2 3 x.1])),(g2,.cells 55 4 (ofL [.str (sB []),.int .i64 0,.nils,.nils])),(g,rdO L F.2)]++gh x.2 47 (x.1*3) (ratsF F.1)) (fun x=>F.1.length=x.1∧(x.2=none→x.1=0)) ?_ ?_
 ·apply wa2
  refine aw_lp (fun _:PS×List RD×Nat×Option Nat=>[(0,.c (.optr g 0)),(2,.c (.optr g2 0)),(3,.c (.optr g3 0))]) (fun x=>[(g3,.cells 55 4 (ofL [.str (sB nm),.int .i64 kd,.nils,gs x.2.2.2 3 x.2.2.1])),(g2,.cells 55 4 (ofL [.str (sB []),.int .i64 0,.nils,.nils])),(g,rdO L x.1)]++gh x.2.2.2 47 (x.2.2.1*3) (ratsF x.2.1))
   (fun x=>x.1.l<:+L.map TX.t∧x.2.1.length=x.2.2.1∧(x.2.2.2=none→x.2.2.1=0)∧x.2.2.1+mS x.1≤1048577∧lpS (fun s=>kindS s 1) facB x.2.1 x.1=F) (fun x=>mS x.1) (s2,[],0,none) (zB (oj hn_g2 hn_g3)) zZ ⟨hs2,rfl,fun _=>rfl,?_,hF⟩ ?_
  ·have:=(hs2).length_le
   rw [List.length_map] at this
   dsimp only
   unfold mS
   split<;>omega
  rintro ⟨sx,xs,n,og⟩ ⟨hsx,hn,hog,hm,hlp⟩
  dsimp only at hsx hn hog hm hlp⊢
  have f5:=kind_fg g L sx 1 hsx om
  have f7:=number_fg g L sx hsx om hw
  all_goals try(have Z:=(oj hn_g2 hn_g3);(repeat' first|refine zV Z ?_|(refine zg Z (f5) ?_)|refine zH Z (fun hb=>?_) fun hb=>?_|fail);all_goals clear Z)
  ·have h0:sx.e=0:=(kindS_e hb)
   have hc:(fun s=>kindS s 1) sx=true:=hb
   have hst:=lpS_step (c:=fun s=>kindS s 1) (b:=facB) (a:=xs) (fun a s h _=>con_facB a s h) h0 hc
   have hlt:=con_facB xs sx h0
   rw [hst] at hlp
   have hsy:(facB xs sx).2.l<:+L.map TX.t:=((rdr_facB xs).suf sx).trans hsx
   have e1:(facB xs sx).1=xs++[(numS sx).1]:=rfl
   have e2:(facB xs sx).2=(numS sx).2:=rfl
   rw [e2] at hlt hsy
   rw [e1,e2] at hlp
   generalize numS sx=y at*
   obtain⟨t,sy⟩:=y
   dsimp only at*
   refine aw_cw ([(g3,.cells 55 4 (ofL [.str (sB nm),.int .i64 kd,.nils,gs og 3 n]))]) [(0,0),(1,0),(2,0),(3,1),(4,1),(5,1),(6,0),(7,2)] ty_mixed (by kernel_rfl) eI ?_
   have J2:=oj hn_g2 hn_g3
   refine yG J2 ?_
   refine cw_cg rfl f7 rfl rfl rfl (zE J2) (zL J2) (by refine yS J2 ?_;exact has0_cons (List.mem_cons_self ..) has0_nil) ?_
   refine ySG J2 ?_
   refine cw_buildSlice (xs:=[.tmp 22]) (cells:=rdc t) rfl rfl rfl rfl (zE J2) (by refine yS J2 ?_;rfl) rfl om om (by intro x hx;simp only [List.mem_singleton] at hx;subst hx;exact⟨rfl,rfl,rfl⟩) rfl (by simp [Op.operands]) (has0_cons (List.mem_cons_self ..) has0_nil) (fun ga hn_ga=> ?_) (hm:=.inr ⟨rfl,rfl⟩)
   refine yS J2 ?_
   refine cw_push (pre:=[(g3,.cells 55 4 (ofL [.str (sB nm),.int .i64 kd,.nils,gs og 3 n])),(g2,.cells 55 4 (ofL [.str (sB []),.int .i64 0,.nils,.nils])),(g,rdO L sy)]) (og:=og) (n:=n) (s:=20) (d1:=23) (gt:=ga) (v:=.agg (rdc t)) rfl rfl rfl rfl (zE J2) (zE J2) (by rfl) om om (zE J2) (zE J2) hog (by rfl) (by rfl) (by simp only [Nat.mul_one,List.cons_append,List.nil_append];rfl) (by unfold maxLen;omega) om (rats_push' hn t) (has0_skip (has0_cons (List.mem_cons_self ..) has0_nil)) (fun gb hn_gb=> ?_) (hm:=.inr ⟨rfl,rfl⟩)
   replace hn_ga:=Heap.ne_of hn_ga
   simp only [Heap.ne] at hn_ga
   have J3:=oj hn_g2 (oj hn_g3 hn_ga)
   refine ySG J3 ?_
   refine cw_store (FP':=[]) rfl rfl rfl rfl rfl (zE J3) (zE J3) (zE J3) (zE J3) (fun _ e=>by cases e) rfl rfl (show 4≤4 from by omega) rfl has0_nil ?_
   refine ySG J3 ?_
   refine aw_stop ⟨(sy,xs++[t],n+1,some gb),?_⟩
   refine⟨hlt,?_⟩
   and_intros
   all_goals first|rfl|exact List.Sublist.cons _ (List.Sublist.refl _)|exact True.intro|exact hsy|exact some_ne|exact hlp|(dsimp only;rw [List.length_append,hn];rfl)|(dsimp only;omega)
  ·have hc:¬(sx.e=0∧(fun s=>kindS s 1) sx=true):=fun z=>by rw [show(fun s=>kindS s 1) sx=false from hb] at z;exact absurd z.2 (by decide)
   rw [lpS_end hc] at hlp
   subst hlp
   refine aw_stop ⟨(n,og),?_⟩
   and_intros<;>first|rfl|exact List.Sublist.refl _|exact True.intro|exact hn|exact hog
 rintro ⟨n,og⟩ ⟨hn,hog⟩
 dsimp only at hn hog⊢
 have hs5:F.2.l<:+L.map TX.t:=by
  rw [←hF];exact((rdr_lp rdr_facB []).suf s2).trans (hs2)
 subst hn
 refine aw_nd fun hnd=> ?_
 have hog2:∀q,og=some q→¬C.own0 q:=fun q hq hown=>by
  subst hq
  have:q=g:=by simpa [Heap.keys] using (hC q).1 hown
  subst this
  simp [Heap.keys,gh] at hnd
 refine aw_perm (h':=(g3,.cells 55 4 (ofL [.str (sB nm),.int .i64 kd,.nils,gs og 3 F.1.length]))::(gh og 47 (F.1.length*3) (ratsF F.1)++[(g2,.cells 55 4 (ofL [.str (sB []),.int .i64 0,.nils,.nils])),(g,rdO L F.2)])) (by exact .cons _ (List.perm_append_comm (l₁:=[(g2,.cells 55 4 (ofL [.str (sB []),.int .i64 0,.nils,.nils])),(g,rdO L F.2)]))) ?_
 refine aw_frzG (j0:=3) (n:=F.1.length) (s:=3) (f':=ofL [.str (sB nm),.int .i64 kd,.nils,.row true 3 F.1.length (ratsF F.1)]) rfl rfl (fun j hj hj3=>by
  match j,hj,hj3 with
  |0,_,_=>rfl
  |1,_,_=>rfl
  |2,_,_=>rfl
  |j+3,h1,h2=>exact absurd (show j+3=3 from by omega) h2) hog hog2 ?_
 obtain⟨fs,s3⟩:=F
 dsimp only at hs5⊢
 have f6:=expect_fg g L s3 kColon hs5 om
 have hs4:(expS kColon s3).l<:+L.map TX.t:=((rdr_exp kColon).suf s3).trans hs5
 generalize expS kColon s3=s4 at*
 generalize hF':lpS (fun s=>kindS s 0) memB [] s4=F
 clear hF hs5 hog2 hnd hog
 have hF:=hF'
 apply wa1
 apply wa6
 have J4:=oj hn_g2 hn_g3
 refine yH J4 ?_
 refine aw_cg f6 rfl rfl rfl (zE J4) (zL2 o0) ?_
 refine yS J4 ?_
 refine yH J4 ?_
 apply wa1
 refine aw_cut (fun _:Nat×Option Nat=>[(0,.c (.optr g 0)),(2,.c (.optr g2 0)),(3,.c (.optr g3 0))]) (fun x=>[(g3,.cells 55 4 (ofL [.str (sB nm),.int .i64 kd,gs x.2 1 x.1,.row true 3 fs.length (ratsF fs)])),(g2,.cells 55 4 (ofL [.str (sB []),.int .i64 0,.nils,.nils])),(g,rdO L F.2)]++gh x.2 9 (x.1*1) (strsF F.1)) (fun x=>F.1.length=x.1∧(x.2=none→x.1=0)) ?_ ?_
 ·apply wa2
  refine aw_lp (fun _:PS×List BS×Nat×Option Nat=>[(0,.c (.optr g 0)),(2,.c (.optr g2 0)),(3,.c (.optr g3 0))]) (fun x=>[(g3,.cells 55 4 (ofL [.str (sB nm),.int .i64 kd,gs x.2.2.2 1 x.2.2.1,.row true 3 fs.length (ratsF fs)])),(g2,.cells 55 4 (ofL [.str (sB []),.int .i64 0,.nils,.nils])),(g,rdO L x.1)]++gh x.2.2.2 9 (x.2.2.1*1) (strsF x.2.1))
   (fun x=>x.1.l<:+L.map TX.t∧x.2.1.length=x.2.2.1∧(x.2.2.2=none→x.2.2.1=0)∧x.2.2.1+mS x.1≤1048577∧lpS (fun s=>kindS s 0) memB x.2.1 x.1=F) (fun x=>mS x.1) (s4,[],0,none) (zB J4) zZ ⟨hs4,rfl,fun _=>rfl,?_,hF⟩ ?_
  ·have:=(hs4).length_le
   rw [List.length_map] at this
   dsimp only
   unfold mS
   split<;>omega
  rintro ⟨sx,xs,n,og⟩ ⟨hsx,hn,hog,hm,hlp⟩
  dsimp only at hsx hn hog hm hlp⊢
  have f5:=kind_fg g L sx 0 hsx om
  have f7:=word_fg g L sx hsx om
  all_goals try(have Z:=J4;(repeat' first|refine zV Z ?_|(refine zg Z (f5) ?_)|refine zH Z (fun hb=>?_) fun hb=>?_|fail);all_goals clear Z)
  ·have h0:sx.e=0:=(kindS_e hb)
   have hc:(fun s=>kindS s 0) sx=true:=hb
   have hst:=lpS_step (c:=fun s=>kindS s 0) (b:=memB) (a:=xs) (fun a s h _=>con_memB a s h) h0 hc
   have hlt:=con_memB xs sx h0
   rw [hst] at hlp
   have hsy:(memB xs sx).2.l<:+L.map TX.t:=((rdr_memB xs).suf sx).trans hsx
   have e1:(memB xs sx).1=xs++[(wordS sx).1]:=rfl
   have e2:(memB xs sx).2=(wordS sx).2:=rfl
   rw [e2] at hlt hsy
   rw [e1,e2] at hlp
   generalize wordS sx=y at*
   obtain⟨t,sy⟩:=y
   dsimp only at*
   refine aw_cw ([(g3,.cells 55 4 (ofL [.str (sB nm),.int .i64 kd,gs og 1 n,.row true 3 fs.length (ratsF fs)]))]) [(0,0),(1,0),(2,0),(3,1),(4,1),(5,1),(6,0),(7,2)] ty_mixed (by kernel_rfl) eI ?_
   refine yG J4 ?_
   refine cw_cg rfl f7 rfl rfl rfl (zE J4) (zL J4) (by refine yS J4 ?_;exact has0_cons (List.mem_cons_self ..) has0_nil) ?_
   refine ySG J4 ?_
   refine cw_buildSlice (xs:=[.tmp 33]) (cells:=[.str (sB t)]) rfl rfl rfl rfl (zE J4) (by refine yS J4 ?_;rfl) rfl om om (by intro x hx;simp only [List.mem_singleton] at hx;subst hx;exact⟨rfl,rfl,rfl⟩) rfl (by simp [Op.operands]) (has0_cons (List.mem_cons_self ..) has0_nil) (fun ga hn_ga=> ?_) (hm:=.inr ⟨rfl,rfl⟩)
   refine yS J4 ?_
   refine cw_push (pre:=[(g3,.cells 55 4 (ofL [.str (sB nm),.int .i64 kd,gs og 1 n,.row true 3 fs.length (ratsF fs)])),(g2,.cells 55 4 (ofL [.str (sB []),.int .i64 0,.nils,.nils])),(g,rdO L sy)]) (og:=og) (n:=n) (s:=31) (d1:=34) (gt:=ga) (v:=.c (.str (sB t))) rfl rfl rfl rfl (zE J4) (zE J4) (by rfl) om om (zE J4) (zE J4) hog (by rfl) (by rfl) (by simp only [Nat.mul_one,List.cons_append,List.nil_append];rfl) (by unfold maxLen;omega) om (strs_push hn t) (has0_skip (has0_cons (List.mem_cons_self ..) has0_nil)) (fun gb hn_gb=> ?_) (hm:=.inr ⟨rfl,rfl⟩)
   replace hn_ga:=Heap.ne_of hn_ga
   simp only [Heap.ne] at hn_ga
   have J5:=oj hn_g2 (oj hn_g3 hn_ga)
   refine ySG J5 ?_
   refine cw_store (FP':=[]) rfl rfl rfl rfl rfl (zE J5) (zE J5) (zE J5) (zE J5) (fun _ e=>by cases e) rfl rfl (show 3≤4 from by omega) rfl has0_nil ?_
   refine ySG J5 ?_
   refine aw_stop ⟨(sy,xs++[t],n+1,some gb),?_⟩
   refine⟨hlt,?_⟩
   and_intros
   all_goals first|rfl|exact List.Sublist.cons _ (List.Sublist.refl _)|exact True.intro|exact hsy|exact some_ne|exact hlp|(dsimp only;rw [List.length_append,hn];rfl)|(dsimp only;omega)
  ·have hc:¬(sx.e=0∧(fun s=>kindS s 0) sx=true):=fun z=>by rw [show(fun s=>kindS s 0) sx=false from hb] at z;exact absurd z.2 (by decide)
   rw [lpS_end hc] at hlp
   subst hlp
   refine aw_stop ⟨(n,og),?_⟩
   and_intros<;>first|rfl|exact List.Sublist.refl _|exact True.intro|exact hn|exact hog
 rintro ⟨n,og⟩ ⟨hn,hog⟩
 dsimp only at hn hog⊢
 have hs5:F.2.l<:+L.map TX.t:=by
  rw [←hF];exact((rdr_lp rdr_memB []).suf s4).trans (hs4)
 subst hn
 refine aw_nd fun hnd=> ?_
 have hog2:∀q,og=some q→¬C.own0 q:=fun q hq hown=>by
  subst hq
  have:q=g:=by simpa [Heap.keys] using (hC q).1 hown
  subst this
  simp [Heap.keys,gh] at hnd
 refine aw_perm (h':=(g3,.cells 55 4 (ofL [.str (sB nm),.int .i64 kd,gs og 1 F.1.length,.row true 3 fs.length (ratsF fs)]))::(gh og 9 (F.1.length*1) (strsF F.1)++[(g2,.cells 55 4 (ofL [.str (sB []),.int .i64 0,.nils,.nils])),(g,rdO L F.2)])) (by rw [Nat.mul_one];exact .cons _ (List.perm_append_comm (l₁:=[(g2,.cells 55 4 (ofL [.str (sB []),.int .i64 0,.nils,.nils])),(g,rdO L F.2)]))) ?_
 refine aw_frzG (j0:=2) (n:=F.1.length) (s:=1) (f':=ofL [.str (sB nm),.int .i64 kd,.row true 1 F.1.length (strsF F.1),.row true 3 fs.length (ratsF fs)]) rfl rfl (fun j hj hj3=>by
  match j,hj,hj3 with
  |0,_,_=>rfl
  |1,_,_=>rfl
  |3,_,_=>rfl) hog hog2 ?_
 have f8:=expect_fg g L F.2 kSemi hs5 om
 all_goals try(have Z:=J4;(repeat' first|refine zV Z ?_|(refine zg Z (f8) ?_)|refine zH Z (fun hb=>?_) fun hb=>?_|fail);all_goals clear Z)
 refine aw_rethw (h':=[(g,rdO L (expS kSemi F.2))]) rfl sL fun R r=>?_;simp only[go_sem,hn_g2,hn_g3];refine r _ rfl ?_;clear r R
 exact⟨rfl,rfl⟩
end Go.Proofs.YtnmeahogifekdaaGreatDoor
