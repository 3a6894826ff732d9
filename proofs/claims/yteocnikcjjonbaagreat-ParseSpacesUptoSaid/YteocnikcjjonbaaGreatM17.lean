/- Parts of one proof, laid by a program. -/
import Derived.Test.YteocnikcjjonbaaGreatM00
import Derived.Test.YteocnikcjjonbaaGreatM14
import Derived.Test.YteocnikcjjonbaaGreatM15
import Derived.Laws.IdiomStrings
set_option linter.unusedSimpArgs false
set_option linter.unusedVariables false
set_option maxRecDepth 100000
set_option maxHeartbeats 12800000
namespace Go.Proofs.YteocnikcjjonbaaGreat
open Go.AI Go.PN
attribute [local irreducible] aw Fa Fh DrK
theorem num_fa (c:Int):Fa Tryz.prog 12 [.c (errA c)] (.c (.int .i64 c)):=by
 by_cases h:c=0
 ·have e:errA c=.nilI:=by unfold errA errC;rw [if_pos h]
  rw [e]
  refine fa_of_body Tryz.func12 rfl rfl (by simp [Tryz.ntmps12]) fun C hC=> ?_
  simp only [initS,Nat.reduceAdd]
  refine xG ?_
  refine xP ?_
  refine xGT hC ?_
  exact .one (.c (ler_int h.symm))
 ·have e:errA c=.ifc 51 (.int .i64 c):=by unfold errA errC;rw [if_neg h]
  rw [e]
  refine fa_of_body Tryz.func12 rfl rfl (by simp [Tryz.ntmps12]) fun C hC=> ?_
  simp only [initS,Nat.reduceAdd]
  refine xG ?_
  refine xN ?_
  refine xG ?_
  refine xP ?_
  refine xGT hC ?_
  exact .one (.c (.int _ _))
end Go.Proofs.YteocnikcjjonbaaGreat
namespace Go.PN
open Go.AI
def lineS (t:TK):BS:=t.text++([32,35,32,59,32,116,111,112,32]++(t.text++[10]))
def linesS (l:List TK):BS:=l.flatMap lineS
theorem LexOk.no10 {t:TK} (h:LexOk t):∀x∈t.text,x.toNat≠10:=by
 intro x hx
 obtain⟨j,hj,rfl⟩:=List.getElem_of_mem hx
 rw [←bAt_get hj]
 have hins:∀n,isIns n=true→n≠10:=fun n hn e=>by subst e;revert hn;decide
 cases h with
 |word _ _ _ _ h3=>exact hins _ (h3 j hj)
 |num _ _ _ h1=>
  cases h1 with
  |all h=>exact hins _ (dig_cls (h j hj)).2.2.2
  |two e he hm h2 h3=>
   by_cases h4:j<e
   ·exact hins _ (dig_cls (h2 j h4)).2.2.2
   ·by_cases h5:j=e
    ·subst h5;rcases hm with q|q<;>rw [q]<;>decide
    ·exact hins _ (dig_cls (h3 j om hj)).2.2.2
 |sgn _ h0 h1=>
  have:j=0:=by omega
  subst this
  exact(sgn_cls h1).2.2.2.2
theorem linesS_lx:∀{l:List TK},LexAll l→Lx (linesS l) l
 |[],_=>.nil
 |t::l,h=>by
  have ht:=h t List.mem_cons_self
  have ih:=linesS_lx fun x hx=>h x (List.mem_cons_of_mem _ hx)
  have h1:Lx (35::(([32,59,32,116,111,112,32]++t.text)++10::linesS l)) l:=.note _ _ _ (fun x hx=>by
   rcases List.mem_append.1 hx with e|e
   ·revert e;clear hx;revert x;decide
   ·exact ht.no10 x e) ih
  have h2:=Lx.tok t _ _ ht (.inr ⟨rfl,fun h=>absurd (show(32:Nat)=47 from h) (by decide)⟩:endB (32::35::(([32,59,32,116,111,112,32]++t.text)++10::linesS l))) (.blank 32 _ _ rfl h1)
  have e:linesS (t::l)=t.text++32::35::(([32,59,32,116,111,112,32]++t.text)++10::linesS l):=by
   show lineS t++linesS l=_
   simp [lineS]
  rw [e]
  exact h2
theorem linesS_len:∀l:List TK,(linesS l).length=2*txLen l+10*l.length
 |[]=>rfl
 |t::l=>by
  have:=linesS_len l
  have e:linesS (t::l)=lineS t++linesS l:=rfl
  have e2:txLen (t::l)=t.text.length+txLen l:=rfl
  rw [e,e2,List.length_append,this,List.length_cons]
  unfold lineS
  simp
  omega
end Go.PN
namespace Go.AI
def byF (l:List UInt8) (j:Nat):CV:=.int .u8 ((l.getD j 0).toNat:Int)
theorem byF_rep {S:Bool→Nat→Prop} {w:World} {l:List UInt8} {j:Nat} (h:j<l.length) {u:Value} (hr:RepC S w (byF l j) u):u=.int .u8 ((l[j]).toNat:Int):=by
 have:u=.int .u8 ((l.getD j 0).toNat:Int):=hr
 rw [this,List.getD_eq_getElem?_getD,List.getElem?_eq_getElem h];rfl
section
variable {P : Program} {h : Heap} {ρ : Operand → AV}
theorem POk.bytesStr {s d el ty:TypeId} {x:Operand} {g m n:Nat} {f:Nat→CV} (l:List UInt8) (hs:P.underlying s=some (.slice el)) (he:P.underlying el=some (.int .u8)) (hd:P.underlying d=some .string) (hx:ρ x=.c (.osl g 1 0 n)) (hn:l.length=n)
  (hg:h.get g=some (.cells ty m f)) (hm:n≤m) (hf:∀j,j<n→f j=byF l j):POk P h ρ (.convert s d x) (.c (.str (sB l))):=fun S w e _ ho hh=>by
 subst hn
 have h2:=ho x (by simp [Op.operands])
 rw [hx] at h2
 obtain⟨c,hv,_,_,_⟩:=h2
 obtain⟨cs,hb,hn,hj⟩:=hh _ _ (Heap.get_mem hg)
 refine⟨.string ⟨l.toArray⟩,fun o hop=> ?_,rfl⟩
 have:=run_convert_bytes_back (P:=P) w s d el ⟨g,0,none⟩ c l hs he hd (fun j hjl=>by
  obtain⟨u,hu,hr⟩:=hj j om
  rw [hf j hjl] at hr
  rw [add_mk,cell_own hb,Nat.zero_add,hu,byF_rep hjl hr])
 simp [execOp,hop,hv,this]
end
section
variable {E : Env} {K : List It} {l : List Oper} {FP FP' : Heap} {σ σ' : Sl} {h : Heap} {o : Oper} {i m : Nat} {cs : List (Nat × Nat)}
theorem POk.congr {P:Program} {ρ ρ':Operand→AV} {op:Op} {r:AV} (hp:POk P h ρ op r) (he:∀x∈op.operands,ρ' x=ρ x):POk P h ρ' op r:=fun S w e hm ho hh=>hp S w e hm (fun x hx=>by rw [←he x hx];exact ho x hx) hh
end
end Go.AI
namespace Go.PN
open Go.AI
theorem linesS_snoc (l:List TK) (t:TK):linesS (l++[t])=linesS l++lineS t:=by unfold linesS;rw [List.flatMap_append];simp
theorem modelP_split {ck:MdD→Int} {a b:BS} (h:splitS a=splitS b):modelP ck a=modelP ck b:=by unfold modelP;rw [h]
end Go.PN
namespace Go.Proofs.YteocnikcjjonbaaGreat
open Go.AI Go.PN
attribute [local irreducible] aw Fa Fh DrK
theorem lawPSpaces_fa (l:BS) (hl:l.length≤1048576):Fa Tryz.prog 5 [.c (.str (sB l))] (.c (.bool true)):=by
 have f0:=awake23_fa
 refine fa_of_body Tryz.func5 rfl rfl (by simp [Tryz.ntmps5]) fun C hC=> ?_
 simp only [initS,Nat.reduceAdd]
 repeat' first|refine yA1 o0 ?_|(refine yC2 o0 (f0) ?_)|(refine yD2 o0 (f0) ?_)|(refine xW ?_;refine xS ?_)|refine xP ?_|refine xN ?_|refine aw_cd eE (fun hb=>?_) (fun hb=>?_)|refine aw_ce eE (fun hb=>?_) (fun hb=>?_)|refine aw_cn eE (fun hb=>?_) (fun hb=>?_)|(refine xF (fun hb=>?_) (fun hb=>?_)<;>fail_if_success (cases hb;done))|(refine aw_gsd rfl rfl eE (fun hb=>?_) (fun hb=>?_)<;>refine xS ?_)|(refine aw_gse rfl rfl eE (fun hb=>?_) (fun hb=>?_)<;>refine xS ?_)|(refine aw_gsn rfl rfl eE (fun hb=>?_) (fun hb=>?_)<;>refine xS ?_)|(refine aw_gs rfl rfl eE (fun hb=>?_) (fun hb=>?_)<;>fail_if_success (cases hb;done)<;>refine xS ?_)|(refine drk_gsd rfl rfl eE (fun hb=>?_) (fun hb=>?_)<;>refine xS ?_)|(refine drk_gse rfl rfl eE (fun hb=>?_) (fun hb=>?_)<;>refine xS ?_)|(refine drk_gsn rfl rfl eE (fun hb=>?_) (fun hb=>?_)<;>refine xS ?_)|(refine drk_gs rfl rfl eE (fun hb=>?_) (fun hb=>?_)<;>fail_if_success (cases hb;done)<;>refine xS ?_)
 ·repeat' first|refine yA1 o0 ?_|(refine yC2 o0 (f0) ?_)|(refine yD2 o0 (f0) ?_)|(refine xW ?_;refine xS ?_)|refine xP ?_|refine xN ?_|refine aw_cd eE (fun hb=>?_) (fun hb=>?_)|refine aw_ce eE (fun hb=>?_) (fun hb=>?_)|refine aw_cn eE (fun hb=>?_) (fun hb=>?_)|(refine xF (fun hb=>?_) (fun hb=>?_)<;>fail_if_success (cases hb;done))|(refine aw_gsd rfl rfl eE (fun hb=>?_) (fun hb=>?_)<;>refine xS ?_)|(refine aw_gse rfl rfl eE (fun hb=>?_) (fun hb=>?_)<;>refine xS ?_)|(refine aw_gsn rfl rfl eE (fun hb=>?_) (fun hb=>?_)<;>refine xS ?_)|(refine aw_gs rfl rfl eE (fun hb=>?_) (fun hb=>?_)<;>fail_if_success (cases hb;done)<;>refine xS ?_)|(refine drk_gsd rfl rfl eE (fun hb=>?_) (fun hb=>?_)<;>refine xS ?_)|(refine drk_gse rfl rfl eE (fun hb=>?_) (fun hb=>?_)<;>refine xS ?_)|(refine drk_gsn rfl rfl eE (fun hb=>?_) (fun hb=>?_)<;>refine xS ?_)|(refine drk_gs rfl rfl eE (fun hb=>?_) (fun hb=>?_)<;>fail_if_success (cases hb;done)<;>refine xS ?_)
  refine xT hC ?_
  exact .one (.c (.bool _))
 have h3:l.length≤3000:=by omega
 have hlx:=splitS_lex l
 have htx:=splitS_tx l
 have hn:=splitS_n l
 refine aw_callh (hc:=[]) (hr:=[]) (rsplit_fh l om) rfl rfl rfl (.refl _) eL ?_
 rintro _ _ ⟨rfl,out,ho,rfl⟩ _
 simp only [List.nil_append]
 refine xS ?_
 repeat' first|refine yA1 o0 ?_|(refine xW ?_;refine xS ?_)|refine xP ?_|refine xN ?_|refine aw_cd eE (fun hb=>?_) (fun hb=>?_)|refine aw_ce eE (fun hb=>?_) (fun hb=>?_)|refine aw_cn eE (fun hb=>?_) (fun hb=>?_)|(refine xF (fun hb=>?_) (fun hb=>?_)<;>fail_if_success (cases hb;done))|(refine aw_gsd rfl rfl eE (fun hb=>?_) (fun hb=>?_)<;>refine xS ?_)|(refine aw_gse rfl rfl eE (fun hb=>?_) (fun hb=>?_)<;>refine xS ?_)|(refine aw_gsn rfl rfl eE (fun hb=>?_) (fun hb=>?_)<;>refine xS ?_)|(refine aw_gs rfl rfl eE (fun hb=>?_) (fun hb=>?_)<;>fail_if_success (cases hb;done)<;>refine xS ?_)|(refine drk_gsd rfl rfl eE (fun hb=>?_) (fun hb=>?_)<;>refine xS ?_)|(refine drk_gse rfl rfl eE (fun hb=>?_) (fun hb=>?_)<;>refine xS ?_)|(refine drk_gsn rfl rfl eE (fun hb=>?_) (fun hb=>?_)<;>refine xS ?_)|(refine drk_gs rfl rfl eE (fun hb=>?_) (fun hb=>?_)<;>fail_if_success (cases hb;done)<;>refine xS ?_)
 ·refine xT hC ?_
  exact .one (.c (.bool _))
 have q1:(splitS l).1=0:=by simpa using hb
 generalize hL:(splitS l).2=L at*
 have hlen:out.length=L.length:=by rw [←ho,List.length_map]
 refine aw_lp (fun i:Nat=>[(0,.c (.str (sB l))),(5,.c (.str (sB (linesS (L.take i))))),(27,.c (txs true out)),(28,.c (.int .i64 out.length)),(29,.c (.int .i64 i))]) (fun _=>[]) (fun i=>i≤out.length) (fun i=>out.length-i) 0 eB zZ (Nat.zero_le _) ?_
 intro i hi
 have t1:=linesS_len (L.take i)
 have t2:=txLen_take L i
 have t3:(L.take i).length≤L.length:=by rw [List.length_take];omega
 repeat' first|refine yA1 o0 ?_|(refine xW ?_;refine xS ?_)|refine xP ?_|refine xN ?_|refine aw_cd eE (fun hb=>?_) (fun hb=>?_)|refine aw_ce eE (fun hb=>?_) (fun hb=>?_)|refine aw_cn eE (fun hb=>?_) (fun hb=>?_)|(refine xF (fun hb=>?_) (fun hb=>?_)<;>fail_if_success (cases hb;done))|(refine aw_gsd rfl rfl eE (fun hb=>?_) (fun hb=>?_)<;>refine xS ?_)|(refine aw_gse rfl rfl eE (fun hb=>?_) (fun hb=>?_)<;>refine xS ?_)|(refine aw_gsn rfl rfl eE (fun hb=>?_) (fun hb=>?_)<;>refine xS ?_)|(refine aw_gs rfl rfl eE (fun hb=>?_) (fun hb=>?_)<;>fail_if_success (cases hb;done)<;>refine xS ?_)|(refine drk_gsd rfl rfl eE (fun hb=>?_) (fun hb=>?_)<;>refine xS ?_)|(refine drk_gse rfl rfl eE (fun hb=>?_) (fun hb=>?_)<;>refine xS ?_)|(refine drk_gsn rfl rfl eE (fun hb=>?_) (fun hb=>?_)<;>refine xS ?_)|(refine drk_gs rfl rfl eE (fun hb=>?_) (fun hb=>?_)<;>fail_if_success (cases hb;done)<;>refine xS ?_)
 ·have hi':=hb
  have hiL:i<L.length:=by omega
  have e1:(out.getD i tx0).t=L.getD i ⟨0,[]⟩:=by
   rw [←ho,List.getD_eq_getElem?_getD,List.getD_eq_getElem?_getD,List.getElem?_map,List.getElem?_eq_getElem hi'];rfl
  have hst:linesS (L.take (i+1))=linesS (L.take i)++lineS (L.getD i ⟨0,[]⟩):=by rw [take_snoc ⟨0,[]⟩ hiL,linesS_snoc]
  have b2:(L.getD i ⟨0,[]⟩).text.length≤3000:=Nat.le_trans (tx_mem (by rw [List.getD_eq_getElem?_getD,List.getElem?_eq_getElem hiL];exact List.getElem_mem hiL)) om
  refine xA fun g7 hn_g7=>?_
  rw [e1]
  generalize L.getD i ⟨0,[]⟩=tk at*
  obtain⟨kd,tx⟩:=tk
  dsimp only at*
  have c1:(tx++[32,35,32,59,32,116,111,112,32]).length≤3009:=by rw [List.length_append];exact Nat.add_le_add_right b2 9
  have c2:((tx++[32,35,32,59,32,116,111,112,32])++tx).length≤6009:=by rw [List.length_append];omega
  have c3:(((tx++[32,35,32,59,32,116,111,112,32])++tx)++[10]).length≤6010:=by rw [List.length_append];exact Nat.add_le_add_right c2 1
  repeat' first|refine yA1 hn_g7 ?_|(refine yW hn_g7 ?_;refine yS hn_g7 ?_)|refine yP hn_g7 ?_|refine yN hn_g7 ?_|refine aw_cd (zE hn_g7) (fun hb=>?_) (fun hb=>?_)|refine aw_ce (zE hn_g7) (fun hb=>?_) (fun hb=>?_)|refine aw_cn (zE hn_g7) (fun hb=>?_) (fun hb=>?_)|(refine yF hn_g7 (fun hb=>?_) (fun hb=>?_)<;>fail_if_success (cases hb;done))|(refine aw_gsd rfl rfl (zE hn_g7) (fun hb=>?_) (fun hb=>?_)<;>refine yS hn_g7 ?_)|(refine aw_gse rfl rfl (zE hn_g7) (fun hb=>?_) (fun hb=>?_)<;>refine yS hn_g7 ?_)|(refine aw_gsn rfl rfl (zE hn_g7) (fun hb=>?_) (fun hb=>?_)<;>refine yS hn_g7 ?_)|(refine aw_gs rfl rfl (zE hn_g7) (fun hb=>?_) (fun hb=>?_)<;>fail_if_success (cases hb;done)<;>refine yS hn_g7 ?_)|(refine drk_gsd rfl rfl (zE hn_g7) (fun hb=>?_) (fun hb=>?_)<;>refine yS hn_g7 ?_)|(refine drk_gse rfl rfl (zE hn_g7) (fun hb=>?_) (fun hb=>?_)<;>refine yS hn_g7 ?_)|(refine drk_gsn rfl rfl (zE hn_g7) (fun hb=>?_) (fun hb=>?_)<;>refine yS hn_g7 ?_)|(refine drk_gs rfl rfl (zE hn_g7) (fun hb=>?_) (fun hb=>?_)<;>fail_if_success (cases hb;done)<;>refine yS hn_g7 ?_)
  refine aw_buildSlice (xs:=[.const (.int .u8 10)]) (cells:=[.int .u8 10]) rfl rfl rfl (zE hn_g7) (by refine yS hn_g7 ?_;rfl) rfl om om (by intro z hz;simp only [List.mem_singleton] at hz;subst hz;exact⟨rfl,rfl,rfl⟩) rfl fun gw hgw=> ?_
  replace hgw:=Heap.ne_of hgw
  dsimp only [Heap.ne] at hgw
  have J1:=oj hn_g7 hgw
  refine yS J1 ?_
  refine aw_pok (POk.bytesStr (el:=5) (m:=1) (f:=ofL [.int .u8 10]) [10] (by kernel_rfl) (by kernel_rfl) (by kernel_rfl) (zE J1) rfl (zE J1) (by decide) (fun j hj=>by
   match j,hj with
   |0,_=>rfl)) rfl rfl ?_
  refine yS J1 ?_
  have c4:(linesS (L.take i)).length≤40000:=by omega
  repeat' first|refine yA1 J1 ?_|(refine yW J1 ?_;refine yS J1 ?_)|refine yP J1 ?_|refine yN J1 ?_|refine aw_cd (zE J1) (fun hb=>?_) (fun hb=>?_)|refine aw_ce (zE J1) (fun hb=>?_) (fun hb=>?_)|refine aw_cn (zE J1) (fun hb=>?_) (fun hb=>?_)|(refine yF J1 (fun hb=>?_) (fun hb=>?_)<;>fail_if_success (cases hb;done))|(refine aw_gsd rfl rfl (zE J1) (fun hb=>?_) (fun hb=>?_)<;>refine yS J1 ?_)|(refine aw_gse rfl rfl (zE J1) (fun hb=>?_) (fun hb=>?_)<;>refine yS J1 ?_)|(refine aw_gsn rfl rfl (zE J1) (fun hb=>?_) (fun hb=>?_)<;>refine yS J1 ?_)|(refine aw_gs rfl rfl (zE J1) (fun hb=>?_) (fun hb=>?_)<;>fail_if_success (cases hb;done)<;>refine yS J1 ?_)|(refine drk_gsd rfl rfl (zE J1) (fun hb=>?_) (fun hb=>?_)<;>refine yS J1 ?_)|(refine drk_gse rfl rfl (zE J1) (fun hb=>?_) (fun hb=>?_)<;>refine yS J1 ?_)|(refine drk_gsn rfl rfl (zE J1) (fun hb=>?_) (fun hb=>?_)<;>refine yS J1 ?_)|(refine drk_gs rfl rfl (zE J1) (fun hb=>?_) (fun hb=>?_)<;>fail_if_success (cases hb;done)<;>refine yS J1 ?_)
  refine aw_stop ⟨i+1,?_⟩
  have e5:linesS (L.take i)++lineS ⟨kd,tx⟩=linesS (L.take i)++(((tx++[32,35,32,59,32,116,111,112,32])++tx)++[10]):=by
   unfold lineS
   simp
  rw [e5] at hst
  and_intros
  all_goals first|rfl|exact List.nil_sublist _|exact True.intro|omega|(rw [hst];rfl)|(rw [hst])
 have hie:i=L.length:=by omega
 subst hie
 rw [List.take_length] at t1 t2 t3⊢
 have hsp:splitS (linesS L)=splitS l:=by
  rw [splitS_lx (linesS_lx hlx) om,←hL,←q1]
 have f1:=pm_fa l om
 have f2:=pm_fa (linesS L) om
 rw [modelP_split hsp] at f2
 have hmo:=modelP_o mcC l
 have f3:=same_fa (modelP mcC l).1 (modelP mcC l).1 hmo hmo
 have f4:=num_fa (modelP mcC l).2
 generalize modelP mcC l=M at*
 obtain⟨m,e⟩:=M
 dsimp only at*
 clear hsp hL ho hlx
 repeat' first|refine yA1 o0 ?_|(refine yC2 o0 (f1) ?_)|(refine yD2 o0 (f1) ?_)|(refine xW ?_;refine xS ?_)|refine xP ?_|refine xN ?_|refine aw_cd eE (fun hb=>?_) (fun hb=>?_)|refine aw_ce eE (fun hb=>?_) (fun hb=>?_)|refine aw_cn eE (fun hb=>?_) (fun hb=>?_)|(refine xF (fun hb=>?_) (fun hb=>?_)<;>fail_if_success (cases hb;done))|(refine aw_gsd rfl rfl eE (fun hb=>?_) (fun hb=>?_)<;>refine xS ?_)|(refine aw_gse rfl rfl eE (fun hb=>?_) (fun hb=>?_)<;>refine xS ?_)|(refine aw_gsn rfl rfl eE (fun hb=>?_) (fun hb=>?_)<;>refine xS ?_)|(refine aw_gs rfl rfl eE (fun hb=>?_) (fun hb=>?_)<;>fail_if_success (cases hb;done)<;>refine xS ?_)|(refine drk_gsd rfl rfl eE (fun hb=>?_) (fun hb=>?_)<;>refine xS ?_)|(refine drk_gse rfl rfl eE (fun hb=>?_) (fun hb=>?_)<;>refine xS ?_)|(refine drk_gsn rfl rfl eE (fun hb=>?_) (fun hb=>?_)<;>refine xS ?_)|(refine drk_gs rfl rfl eE (fun hb=>?_) (fun hb=>?_)<;>fail_if_success (cases hb;done)<;>refine xS ?_)
 refine xA fun g8 hn_g8=>?_
 repeat' first|refine yA1 hn_g8 ?_|(refine yC2 hn_g8 (f2) ?_)|(refine yD2 hn_g8 (f2) ?_)|(refine yW hn_g8 ?_;refine yS hn_g8 ?_)|refine yP hn_g8 ?_|refine yN hn_g8 ?_|refine aw_cd (zE hn_g8) (fun hb=>?_) (fun hb=>?_)|refine aw_ce (zE hn_g8) (fun hb=>?_) (fun hb=>?_)|refine aw_cn (zE hn_g8) (fun hb=>?_) (fun hb=>?_)|(refine yF hn_g8 (fun hb=>?_) (fun hb=>?_)<;>fail_if_success (cases hb;done))|(refine aw_gsd rfl rfl (zE hn_g8) (fun hb=>?_) (fun hb=>?_)<;>refine yS hn_g8 ?_)|(refine aw_gse rfl rfl (zE hn_g8) (fun hb=>?_) (fun hb=>?_)<;>refine yS hn_g8 ?_)|(refine aw_gsn rfl rfl (zE hn_g8) (fun hb=>?_) (fun hb=>?_)<;>refine yS hn_g8 ?_)|(refine aw_gs rfl rfl (zE hn_g8) (fun hb=>?_) (fun hb=>?_)<;>fail_if_success (cases hb;done)<;>refine yS hn_g8 ?_)|(refine drk_gsd rfl rfl (zE hn_g8) (fun hb=>?_) (fun hb=>?_)<;>refine yS hn_g8 ?_)|(refine drk_gse rfl rfl (zE hn_g8) (fun hb=>?_) (fun hb=>?_)<;>refine yS hn_g8 ?_)|(refine drk_gsn rfl rfl (zE hn_g8) (fun hb=>?_) (fun hb=>?_)<;>refine yS hn_g8 ?_)|(refine drk_gs rfl rfl (zE hn_g8) (fun hb=>?_) (fun hb=>?_)<;>fail_if_success (cases hb;done)<;>refine yS hn_g8 ?_)
 refine yA hn_g8 fun g10 hn_g10=>?_
 repeat' first|refine yA1 (oj hn_g8 hn_g10) ?_|(refine yC2 (oj hn_g8 hn_g10) (f4) ?_)|(refine yD2 (oj hn_g8 hn_g10) (f4) ?_)|(refine yC2 (oj hn_g8 hn_g10) (f3) ?_)|(refine yD2 (oj hn_g8 hn_g10) (f3) ?_)|(refine yW (oj hn_g8 hn_g10) ?_;refine yS (oj hn_g8 hn_g10) ?_)|refine yP (oj hn_g8 hn_g10) ?_|refine yN (oj hn_g8 hn_g10) ?_|refine aw_cd (zE (oj hn_g8 hn_g10)) (fun hb=>?_) (fun hb=>?_)|refine aw_ce (zE (oj hn_g8 hn_g10)) (fun hb=>?_) (fun hb=>?_)|refine aw_cn (zE (oj hn_g8 hn_g10)) (fun hb=>?_) (fun hb=>?_)|(refine yF (oj hn_g8 hn_g10) (fun hb=>?_) (fun hb=>?_)<;>fail_if_success (cases hb;done))|(refine aw_gsd rfl rfl (zE (oj hn_g8 hn_g10)) (fun hb=>?_) (fun hb=>?_)<;>refine yS (oj hn_g8 hn_g10) ?_)|(refine aw_gse rfl rfl (zE (oj hn_g8 hn_g10)) (fun hb=>?_) (fun hb=>?_)<;>refine yS (oj hn_g8 hn_g10) ?_)|(refine aw_gsn rfl rfl (zE (oj hn_g8 hn_g10)) (fun hb=>?_) (fun hb=>?_)<;>refine yS (oj hn_g8 hn_g10) ?_)|(refine aw_gs rfl rfl (zE (oj hn_g8 hn_g10)) (fun hb=>?_) (fun hb=>?_)<;>fail_if_success (cases hb;done)<;>refine yS (oj hn_g8 hn_g10) ?_)|(refine drk_gsd rfl rfl (zE (oj hn_g8 hn_g10)) (fun hb=>?_) (fun hb=>?_)<;>refine yS (oj hn_g8 hn_g10) ?_)|(refine drk_gse rfl rfl (zE (oj hn_g8 hn_g10)) (fun hb=>?_) (fun hb=>?_)<;>refine yS (oj hn_g8 hn_g10) ?_)|(refine drk_gsn rfl rfl (zE (oj hn_g8 hn_g10)) (fun hb=>?_) (fun hb=>?_)<;>refine yS (oj hn_g8 hn_g10) ?_)|(refine drk_gs rfl rfl (zE (oj hn_g8 hn_g10)) (fun hb=>?_) (fun hb=>?_)<;>fail_if_success (cases hb;done)<;>refine yS (oj hn_g8 hn_g10) ?_)
 all_goals first
  |(exfalso;exact hb rfl)
  |(refine yT hC (oj hn_g8 hn_g10) ?_
    exact .one (.c (ler_bool (by simp))))
end Go.Proofs.YteocnikcjjonbaaGreat
