/- Parts of one proof, laid by a program. -/
import Derived.Test.YteocnikcjjonbaaGreatO00
import Derived.Test.YteocnikcjjonbaaGreatO05
import Derived.Lib.Bytealg
set_option linter.unusedSimpArgs false
set_option linter.unusedVariables false
set_option maxRecDepth 100000
set_option maxHeartbeats 12800000
namespace Go.AI
open Go.PN
theorem POk.indexByte {P:Program} {h:Heap} {ρ:Operand→AV} {f:FuncId} {fn:Func} {x y:Operand} {ts:Array TypeId} {l:BS} {c:Int} (hf:P.funcs[f]?=some fn) (hname:(fn.name== "runtime.NumGoroutine")=false) (hb:fn.body.isNone=true) (hn:Extern.findNext fn=none) (he:Extern.find fn=some Extern.BytealgIndexByte.indexByte) (hk:ρ (.func f)=.c (.raw (.func (.func f) #[] #[]))) (hx:ρ x=.c (.str (sB l))) (hy:ρ y=.c (.int .u8 c)):
  POk P h ρ (.call {callee:=.value (.func f),args:= #[x,y],argTypes:=ts}) (.c (.int .i64 (Lib.indexByte l c.toNat.toUInt8))):=fun S w e _ ho _=>by
 have h1:e x=.string (sB l):=by have:=ho x (by simp [Op.operands,Call.operands]);rw [hx] at this;exact this
 have h2:e y=.int .u8 c:=by have:=ho y (by simp [Op.operands,Call.operands]);rw [hy] at this;exact this
 refine⟨.int .i64 (Lib.indexByte l c.toNat.toUInt8),fun o hop=> ?_,rfl⟩
 have:=run_callFunc_extern (P:=P) hf hname hb hn he #[.string (sB l),.int .u8 c] w
 rw [Lib.run_indexByteString] at this
 have h3:=ho (.func f) (by simp [Op.operands,Call.operands])
 rw [hk] at h3
 have h3':e (.func f)=.func (.func f) #[] #[]:=h3
 simp [execOp,hop,resolve,invoke,h3',h1,h2,Deferred.ofValue,this,Result.andThen]
end Go.AI
namespace Go.PN
theorem ixB_has (l:BS) (c:UInt8):decide (Lib.indexByte l c≥0)=l.contains c:=by
 induction l with
 |nil=>rfl
 |cons b l ih=>
  rw [List.contains_cons]
  unfold Lib.indexByte
  by_cases h:b=c
  ·subst h;simp
  ·have h1:(b==c)=false:=by simpa using h
   have h2:(c==b)=false:=by simpa using fun e=>h e.symm
   rw [h1,h2,Bool.false_or,←ih]
   by_cases h3:Lib.indexByte l c= -1
   ·rw [h3];rfl
   ·have:(Lib.indexByte l c== -1)=false:=by simpa using h3
    rw [this]
    have h4: -1≤Lib.indexByte l c:=by
     clear ih h1 h2 this h h3
     induction l with
     |nil=>unfold Lib.indexByte;decide
     |cons b l ih=>
      unfold Lib.indexByte
      split
      ·decide
      ·split
       ·decide
       ·omega
    simp only [Bool.false_eq_true,if_false]
    rw [decide_eq_decide]
    omega
theorem sgn_ix:∀n:Nat,n<256→[123,125,59,58,64].contains (n.toUInt8)=isSgn n:=by decide
theorem blk_ix:∀n:Nat,n<256→[32,9,10,13].contains (n.toUInt8)=isBlk n:=by decide
end Go.PN
namespace Go.Proofs.YteocnikcjjonbaaGreat
open Go.AI Go.PN
attribute [local irreducible] aw Fa Fh DrK
theorem tlet_fa (n:Nat):Fa Tryz.prog 82 [.c (.int .u8 n)] (.c (.bool (isLet n))):=by
 refine fa_of_body Tryz.func82 rfl rfl (by simp [Tryz.ntmps82]) fun C hC=> ?_
 simp only [initS,Nat.reduceAdd]
 repeat' first|refine yA1 o0 ?_|refine zW o0 ?_|refine yP o0 ?_|refine yN o0 ?_|refine zC o0 (fun hb=>?_) fun hb=>?_|refine zG o0 (fun hb=>?_) fun hb=>?_|refine zD o0 (fun hb=>?_) fun hb=>?_
 all_goals
  refine xT hC ?_
  exact .one (.c (ler_bool (by rw [Bool.eq_iff_iff];simp [isLet];omega)))
theorem tdig_fa (n:Nat):Fa Tryz.prog 113 [.c (.int .u8 n)] (.c (.bool (isDig n))):=by
 refine fa_of_body Tryz.func113 rfl rfl (by simp [Tryz.ntmps113]) fun C hC=> ?_
 simp only [initS,Nat.reduceAdd]
 repeat' first|refine yA1 o0 ?_|refine zW o0 ?_|refine yP o0 ?_|refine yN o0 ?_|refine zC o0 (fun hb=>?_) fun hb=>?_|refine zG o0 (fun hb=>?_) fun hb=>?_|refine zD o0 (fun hb=>?_) fun hb=>?_
 all_goals
  refine xT hC ?_
  exact .one (.c (ler_bool (by rw [Bool.eq_iff_iff];simp [isDig];omega)))
theorem ixs_fa (l:BS) (c:Nat):Fa Tryz.prog 173 [.c (.str (sB l)),.c (.int .u8 c)] (.c (.int .i64 (Lib.indexByte l c.toUInt8))):=by
 refine fa_of_body Tryz.func173 rfl rfl (by simp [Tryz.ntmps173]) fun C hC=> ?_
 simp only [initS,Nat.reduceAdd]
 refine xG ?_
 refine aw_pok (POk.indexByte Tryz.func192 rfl rfl rfl rfl eE rfl eE) rfl rfl ?_
 refine xSGT hC ?_
 exact .one (.c (.int _ _))
theorem ixb_fa (l:BS) (c:Nat):Fa Tryz.prog 147 [.c (.str (sB l)),.c (.int .u8 c)] (.c (.int .i64 (Lib.indexByte l c.toUInt8))):=by
 refine fa_of_body Tryz.func147 rfl rfl (by simp [Tryz.ntmps147]) fun C hC=> ?_
 simp only [initS,Nat.reduceAdd]
 repeat' first|refine yA1 o0 ?_|(refine yC2 o0 (ixs_fa l c) ?_)|(refine yD2 o0 (ixs_fa l c) ?_)|refine zW o0 ?_|refine yP o0 ?_|refine yN o0 ?_|refine zC o0 (fun hb=>?_) fun hb=>?_|refine zG o0 (fun hb=>?_) fun hb=>?_|refine zD o0 (fun hb=>?_) fun hb=>?_
 refine xT hC ?_
 exact .one (.c (.int _ _))
theorem tsgn_fa (n:Nat) (hn:n<256):Fa Tryz.prog 115 [.c (.int .u8 n)] (.c (.bool (isSgn n))):=by
 refine fa_of_body Tryz.func115 rfl rfl (by simp [Tryz.ntmps115]) fun C hC=> ?_
 simp only [initS,Nat.reduceAdd]
 repeat' first|refine yA1 o0 ?_|(refine yC2 o0 (ixb_fa [123,125,59,58,64] n) ?_)|(refine yD2 o0 (ixb_fa [123,125,59,58,64] n) ?_)|refine zW o0 ?_|refine yP o0 ?_|refine yN o0 ?_|refine zC o0 (fun hb=>?_) fun hb=>?_|refine zG o0 (fun hb=>?_) fun hb=>?_|refine zD o0 (fun hb=>?_) fun hb=>?_
 refine xT hC ?_
 exact .one (.c (ler_bool (by rw [ixB_has,sgn_ix n hn])))
theorem tblk_fa (n:Nat) (hn:n<256):Fa Tryz.prog 112 [.c (.int .u8 n)] (.c (.bool (isBlk n))):=by
 refine fa_of_body Tryz.func112 rfl rfl (by simp [Tryz.ntmps112]) fun C hC=> ?_
 simp only [initS,Nat.reduceAdd]
 repeat' first|refine yA1 o0 ?_|(refine yC2 o0 (ixb_fa [32,9,10,13] n) ?_)|(refine yD2 o0 (ixb_fa [32,9,10,13] n) ?_)|refine zW o0 ?_|refine yP o0 ?_|refine yN o0 ?_|refine zC o0 (fun hb=>?_) fun hb=>?_|refine zG o0 (fun hb=>?_) fun hb=>?_|refine zD o0 (fun hb=>?_) fun hb=>?_
 refine xT hC ?_
 exact .one (.c (ler_bool (by rw [ixB_has,blk_ix n hn])))
end Go.Proofs.YteocnikcjjonbaaGreat
namespace Go.PN
def nameB (s:BS):Bool:=decide (0<s.length)&&decide (s.length≤24)&&isLet (bAt s 0)&&decide (spanE isIns s 0=s.length)
end Go.PN
namespace Go.Proofs.YteocnikcjjonbaaGreat
open Go.AI Go.PN
attribute [local irreducible] aw Fa Fh DrK
theorem tdigs_fa (l:BS) (i:Nat) (hl:l.length≤1099511627776) (hi:i≤l.length):Fa Tryz.prog 148 [.c (.str (sB l)),.c (.int .i64 i)] (.c (.int .i64 (spanE isDig l i:Nat))):=by
 refine fa_of_body Tryz.func148 rfl rfl (by simp [Tryz.ntmps148]) fun C hC=> ?_
 simp only [initS,Nat.reduceAdd]
 refine xG ?_
 generalize hS:spanE isDig l i=S
 refine aw_lp (fun x:Nat=>[(0,.c (.str (sB l))),(1,.c (.int .i64 x))]) (fun _=>[]) (fun x=>x≤l.length∧spanE isDig l x=S) (fun x=>l.length-x) i eB zZ ⟨hi,hS⟩ ?_
 rintro x ⟨hx,hs⟩
 repeat' first|refine yA1 o0 ?_|(refine yC2 o0 (tdig_fa _) ?_)|(refine yD2 o0 (tdig_fa _) ?_)|refine zW o0 ?_|refine yP o0 ?_|refine yN o0 ?_|refine zC o0 (fun hb=>?_) fun hb=>?_|refine zG o0 (fun hb=>?_) fun hb=>?_|refine zD o0 (fun hb=>?_) fun hb=>?_
 ·refine aw_stop ⟨x+1,by omega,eB,zZ,by omega,?_⟩
  rw [←spanE_yes om (by assumption)];exact hs
 all_goals
  refine xT hC ?_
  refine .one (.c (ler_int ?_))
 ·rw [←hs,spanE_no om (by assumption)]
 ·rw [←hs,spanE_out om]
theorem twend_fa (l:BS) (i:Nat) (hl:l.length≤1099511627776) (hi:i≤l.length):Fa Tryz.prog 83 [.c (.str (sB l)),.c (.int .i64 i)] (.c (.int .i64 (spanE isIns l i:Nat))):=by
 refine fa_of_body Tryz.func83 rfl rfl (by simp [Tryz.ntmps83]) fun C hC=> ?_
 simp only [initS,Nat.reduceAdd]
 refine xG ?_
 generalize hS:spanE isIns l i=S
 refine aw_lp (fun x:Nat=>[(0,.c (.str (sB l))),(1,.c (.int .i64 x))]) (fun _=>[]) (fun x=>x≤l.length∧spanE isIns l x=S) (fun x=>l.length-x) i eB zZ ⟨hi,hS⟩ ?_
 rintro x ⟨hx,hs⟩
 repeat' first|refine yA1 o0 ?_|(refine yC2 o0 (tlet_fa _) ?_)|(refine yD2 o0 (tlet_fa _) ?_)|(refine yC2 o0 (tdig_fa _) ?_)|(refine yD2 o0 (tdig_fa _) ?_)|refine zW o0 ?_|refine yP o0 ?_|refine yN o0 ?_|refine zC o0 (fun hb=>?_) fun hb=>?_|refine zG o0 (fun hb=>?_) fun hb=>?_|refine zD o0 (fun hb=>?_) fun hb=>?_
 all_goals first
  |(refine aw_stop ⟨x+1,by omega,eB,zZ,by omega,?_⟩
    rw [←spanE_yes om (by unfold isIns;simp_all)];exact hs)
  |(refine xT hC ?_
    refine .one (.c (ler_int ?_))
    first
     |(rw [←hs,spanE_out om];done)
     |(rw [←hs,spanE_no om (by unfold isIns;simp_all)]))
theorem num_w {l:BS} {i:Nat} (hl:l.length≤1099511627776) (hi:i≤l.length):∃e,spanE isDig l i=e∧e≤l.length:=⟨_,rfl,spanE_le hi⟩
theorem tnum_fa (l:BS) (i:Nat) (hl:l.length≤1099511627776) (hi:i≤l.length):Fa Tryz.prog 114 [.c (.str (sB l)),.c (.int .i64 i)] (.c (.int .i64 (numE l i:Nat))):=by
 unfold numE
 have h1:=tdigs_fa l i hl hi
 obtain⟨e,he,hel⟩:=num_w hl hi
 rw [he] at h1⊢
 refine fa_of_body Tryz.func114 rfl rfl (by simp [Tryz.ntmps114]) fun C hC=> ?_
 simp only [initS,Nat.reduceAdd]
 repeat' first|refine yA1 o0 ?_|(refine yC2 o0 (h1) ?_)|(refine yD2 o0 (h1) ?_)|(refine yC2 o0 (tdig_fa _) ?_)|(refine yD2 o0 (tdig_fa _) ?_)|(refine yC2 o0 (tdigs_fa l (e+1) hl ?_) ?_;· omega)|(refine yD2 o0 (tdigs_fa l (e+1) hl ?_) ?_;· omega)|refine zW o0 ?_|refine yP o0 ?_|refine yN o0 ?_|refine zC o0 (fun hb=>?_) fun hb=>?_|refine zG o0 (fun hb=>?_) fun hb=>?_|refine zD o0 (fun hb=>?_) fun hb=>?_
 all_goals
  refine xT hC ?_
  refine .one (.c (ler_int ?_))
  split<;>simp_all<;>omega
theorem tname_fa (l:BS) (hl:l.length≤1099511627776):Fa Tryz.prog 42 [.c (.str (sB l))] (.c (.bool (nameB l))):=by
 have hw:=twend_fa l 0 hl (Nat.zero_le _)
 unfold nameB
 refine fa_of_body Tryz.func42 rfl rfl (by simp [Tryz.ntmps42]) fun C hC=> ?_
 simp only [initS,Nat.reduceAdd]
 repeat' first|refine yA1 o0 ?_|(refine yC2 o0 (tlet_fa _) ?_)|(refine yD2 o0 (tlet_fa _) ?_)|(refine yC2 o0 (hw) ?_)|(refine yD2 o0 (hw) ?_)|refine zW o0 ?_|refine yP o0 ?_|refine yN o0 ?_|refine zC o0 (fun hb=>?_) fun hb=>?_|refine zG o0 (fun hb=>?_) fun hb=>?_|refine zD o0 (fun hb=>?_) fun hb=>?_
 all_goals
  refine xT hC ?_
  refine .one (.c (ler_bool ?_))
  first|(simp_all;done)|(simp_all;omega)|(rw [Bool.eq_iff_iff];simp_all;done)|(rw [Bool.eq_iff_iff];simp_all;omega)
end Go.Proofs.YteocnikcjjonbaaGreat
namespace Go.AI
open Go.PN
structure TX where
 t:TK
 a:Int
 b:Int
 c:Int
abbrev tx0:TX:=⟨⟨0,[]⟩,0,0,0⟩
abbrev stc (r:BS):List CV:=[CV.str (sB r)]
def strsF (l:List BS):Nat→CV:=lf 1 stc ([]:BS) l
@[go_sem] theorem strsF_0 (l:List BS) (i:Nat):strsF l (i)=.str (sB (l.getD i [])):=by have:=lf_at (s:=1) (c:=stc) (d:=([]:BS)) (xs:=l) (i:=i) (k:=0) om;rw [Nat.mul_one,Nat.add_zero] at this;exact this
abbrev strs (t:Bool) (l:List BS):CV:=.row t 1 l.length (strsF l)
abbrev evc (r:EvD):List CV:=[CV.str (sB r.name),.bool r.p.neg,ws true r.p.num,ws true r.p.den,.bool r.fail.neg,ws true r.fail.num,ws true r.fail.den,.bool r.rep.neg,ws true r.rep.num,ws true r.rep.den,.int .i64 r.cost]
def evsF (l:List EvD):Nat→CV:=lf 11 evc (ev0:EvD) l
@[go_sem] theorem evsF_0 (l:List EvD) (i:Nat):evsF l (i*11)=.str (sB (l.getD i ev0).name):=by have:=lf_at (s:=11) (c:=evc) (d:=(ev0:EvD)) (xs:=l) (i:=i) (k:=0) om;exact this
@[go_sem] theorem evsF_1 (l:List EvD) (i:Nat):evsF l (i*11+1)=.bool (l.getD i ev0).p.neg:=by have:=lf_at (s:=11) (c:=evc) (d:=(ev0:EvD)) (xs:=l) (i:=i) (k:=1) om;exact this
@[go_sem] theorem evsF_2 (l:List EvD) (i:Nat):evsF l (i*11+2)=ws true (l.getD i ev0).p.num:=by have:=lf_at (s:=11) (c:=evc) (d:=(ev0:EvD)) (xs:=l) (i:=i) (k:=2) om;exact this
@[go_sem] theorem evsF_3 (l:List EvD) (i:Nat):evsF l (i*11+3)=ws true (l.getD i ev0).p.den:=by have:=lf_at (s:=11) (c:=evc) (d:=(ev0:EvD)) (xs:=l) (i:=i) (k:=3) om;exact this
@[go_sem] theorem evsF_4 (l:List EvD) (i:Nat):evsF l (i*11+4)=.bool (l.getD i ev0).fail.neg:=by have:=lf_at (s:=11) (c:=evc) (d:=(ev0:EvD)) (xs:=l) (i:=i) (k:=4) om;exact this
@[go_sem] theorem evsF_5 (l:List EvD) (i:Nat):evsF l (i*11+5)=ws true (l.getD i ev0).fail.num:=by have:=lf_at (s:=11) (c:=evc) (d:=(ev0:EvD)) (xs:=l) (i:=i) (k:=5) om;exact this
@[go_sem] theorem evsF_6 (l:List EvD) (i:Nat):evsF l (i*11+6)=ws true (l.getD i ev0).fail.den:=by have:=lf_at (s:=11) (c:=evc) (d:=(ev0:EvD)) (xs:=l) (i:=i) (k:=6) om;exact this
@[go_sem] theorem evsF_7 (l:List EvD) (i:Nat):evsF l (i*11+7)=.bool (l.getD i ev0).rep.neg:=by have:=lf_at (s:=11) (c:=evc) (d:=(ev0:EvD)) (xs:=l) (i:=i) (k:=7) om;exact this
@[go_sem] theorem evsF_8 (l:List EvD) (i:Nat):evsF l (i*11+8)=ws true (l.getD i ev0).rep.num:=by have:=lf_at (s:=11) (c:=evc) (d:=(ev0:EvD)) (xs:=l) (i:=i) (k:=8) om;exact this
@[go_sem] theorem evsF_9 (l:List EvD) (i:Nat):evsF l (i*11+9)=ws true (l.getD i ev0).rep.den:=by have:=lf_at (s:=11) (c:=evc) (d:=(ev0:EvD)) (xs:=l) (i:=i) (k:=9) om;exact this
@[go_sem] theorem evsF_10 (l:List EvD) (i:Nat):evsF l (i*11+10)=.int .i64 (l.getD i ev0).cost:=by have:=lf_at (s:=11) (c:=evc) (d:=(ev0:EvD)) (xs:=l) (i:=i) (k:=10) om;exact this
abbrev evs (t:Bool) (l:List EvD):CV:=.row t 11 l.length (evsF l)
abbrev hsc (r:HsD):List CV:=[CV.str (sB r.name),.bool r.on]
def hssF (l:List HsD):Nat→CV:=lf 2 hsc (hs0:HsD) l
@[go_sem] theorem hssF_0 (l:List HsD) (i:Nat):hssF l (i*2)=.str (sB (l.getD i hs0).name):=by have:=lf_at (s:=2) (c:=hsc) (d:=(hs0:HsD)) (xs:=l) (i:=i) (k:=0) om;exact this
@[go_sem] theorem hssF_1 (l:List HsD) (i:Nat):hssF l (i*2+1)=.bool (l.getD i hs0).on:=by have:=lf_at (s:=2) (c:=hsc) (d:=(hs0:HsD)) (xs:=l) (i:=i) (k:=1) om;exact this
abbrev hss (t:Bool) (l:List HsD):CV:=.row t 2 l.length (hssF l)
abbrev gtc (r:GtD):List CV:=[CV.str (sB r.name),.int .i64 r.kind,.int .i64 r.k,strs true r.inputs,.bool r.dorm.neg,ws true r.dorm.num,ws true r.dorm.den]
def gtsF (l:List GtD):Nat→CV:=lf 7 gtc (gt0:GtD) l
@[go_sem] theorem gtsF_0 (l:List GtD) (i:Nat):gtsF l (i*7)=.str (sB (l.getD i gt0).name):=by have:=lf_at (s:=7) (c:=gtc) (d:=(gt0:GtD)) (xs:=l) (i:=i) (k:=0) om;exact this
@[go_sem] theorem gtsF_1 (l:List GtD) (i:Nat):gtsF l (i*7+1)=.int .i64 (l.getD i gt0).kind:=by have:=lf_at (s:=7) (c:=gtc) (d:=(gt0:GtD)) (xs:=l) (i:=i) (k:=1) om;exact this
@[go_sem] theorem gtsF_2 (l:List GtD) (i:Nat):gtsF l (i*7+2)=.int .i64 (l.getD i gt0).k:=by have:=lf_at (s:=7) (c:=gtc) (d:=(gt0:GtD)) (xs:=l) (i:=i) (k:=2) om;exact this
@[go_sem] theorem gtsF_3 (l:List GtD) (i:Nat):gtsF l (i*7+3)=strs true (l.getD i gt0).inputs:=by have:=lf_at (s:=7) (c:=gtc) (d:=(gt0:GtD)) (xs:=l) (i:=i) (k:=3) om;exact this
@[go_sem] theorem gtsF_4 (l:List GtD) (i:Nat):gtsF l (i*7+4)=.bool (l.getD i gt0).dorm.neg:=by have:=lf_at (s:=7) (c:=gtc) (d:=(gt0:GtD)) (xs:=l) (i:=i) (k:=4) om;exact this
@[go_sem] theorem gtsF_5 (l:List GtD) (i:Nat):gtsF l (i*7+5)=ws true (l.getD i gt0).dorm.num:=by have:=lf_at (s:=7) (c:=gtc) (d:=(gt0:GtD)) (xs:=l) (i:=i) (k:=5) om;exact this
@[go_sem] theorem gtsF_6 (l:List GtD) (i:Nat):gtsF l (i*7+6)=ws true (l.getD i gt0).dorm.den:=by have:=lf_at (s:=7) (c:=gtc) (d:=(gt0:GtD)) (xs:=l) (i:=i) (k:=6) om;exact this
abbrev gts (t:Bool) (l:List GtD):CV:=.row t 7 l.length (gtsF l)
abbrev pgc (r:PgD):List CV:=[CV.str (sB r.name),.str (sB r.top),gts true r.gates]
def pgsF (l:List PgD):Nat→CV:=lf 3 pgc (pg0:PgD) l
@[go_sem] theorem pgsF_0 (l:List PgD) (i:Nat):pgsF l (i*3)=.str (sB (l.getD i pg0).name):=by have:=lf_at (s:=3) (c:=pgc) (d:=(pg0:PgD)) (xs:=l) (i:=i) (k:=0) om;exact this
@[go_sem] theorem pgsF_1 (l:List PgD) (i:Nat):pgsF l (i*3+1)=.str (sB (l.getD i pg0).top):=by have:=lf_at (s:=3) (c:=pgc) (d:=(pg0:PgD)) (xs:=l) (i:=i) (k:=1) om;exact this
@[go_sem] theorem pgsF_2 (l:List PgD) (i:Nat):pgsF l (i*3+2)=gts true (l.getD i pg0).gates:=by have:=lf_at (s:=3) (c:=pgc) (d:=(pg0:PgD)) (xs:=l) (i:=i) (k:=2) om;exact this
abbrev pgs (t:Bool) (l:List PgD):CV:=.row t 3 l.length (pgsF l)
abbrev grc (r:GrD):List CV:=[CV.str (sB r.name),.int .i64 r.kind,strs true r.members,rats true r.factors]
def grsF (l:List GrD):Nat→CV:=lf 4 grc (gr0:GrD) l
@[go_sem] theorem grsF_0 (l:List GrD) (i:Nat):grsF l (i*4)=.str (sB (l.getD i gr0).name):=by have:=lf_at (s:=4) (c:=grc) (d:=(gr0:GrD)) (xs:=l) (i:=i) (k:=0) om;exact this
@[go_sem] theorem grsF_1 (l:List GrD) (i:Nat):grsF l (i*4+1)=.int .i64 (l.getD i gr0).kind:=by have:=lf_at (s:=4) (c:=grc) (d:=(gr0:GrD)) (xs:=l) (i:=i) (k:=1) om;exact this
@[go_sem] theorem grsF_2 (l:List GrD) (i:Nat):grsF l (i*4+2)=strs true (l.getD i gr0).members:=by have:=lf_at (s:=4) (c:=grc) (d:=(gr0:GrD)) (xs:=l) (i:=i) (k:=2) om;exact this
@[go_sem] theorem grsF_3 (l:List GrD) (i:Nat):grsF l (i*4+3)=rats true (l.getD i gr0).factors:=by have:=lf_at (s:=4) (c:=grc) (d:=(gr0:GrD)) (xs:=l) (i:=i) (k:=3) om;exact this
abbrev grs (t:Bool) (l:List GrD):CV:=.row t 4 l.length (grsF l)
abbrev vlc (r:VlD):List CV:=[CV.str (sB r.event),.bool r.p.neg,ws true r.p.num,ws true r.p.den]
def vlsF (l:List VlD):Nat→CV:=lf 4 vlc (vl0:VlD) l
@[go_sem] theorem vlsF_0 (l:List VlD) (i:Nat):vlsF l (i*4)=.str (sB (l.getD i vl0).event):=by have:=lf_at (s:=4) (c:=vlc) (d:=(vl0:VlD)) (xs:=l) (i:=i) (k:=0) om;exact this
@[go_sem] theorem vlsF_1 (l:List VlD) (i:Nat):vlsF l (i*4+1)=.bool (l.getD i vl0).p.neg:=by have:=lf_at (s:=4) (c:=vlc) (d:=(vl0:VlD)) (xs:=l) (i:=i) (k:=1) om;exact this
@[go_sem] theorem vlsF_2 (l:List VlD) (i:Nat):vlsF l (i*4+2)=ws true (l.getD i vl0).p.num:=by have:=lf_at (s:=4) (c:=vlc) (d:=(vl0:VlD)) (xs:=l) (i:=i) (k:=2) om;exact this
@[go_sem] theorem vlsF_3 (l:List VlD) (i:Nat):vlsF l (i*4+3)=ws true (l.getD i vl0).p.den:=by have:=lf_at (s:=4) (c:=vlc) (d:=(vl0:VlD)) (xs:=l) (i:=i) (k:=3) om;exact this
abbrev vls (t:Bool) (l:List VlD):CV:=.row t 4 l.length (vlsF l)
abbrev phc (r:PhD):List CV:=[CV.str (sB r.name),.str (sB r.top),vls true r.values]
def phsF (l:List PhD):Nat→CV:=lf 3 phc (ph0:PhD) l
@[go_sem] theorem phsF_0 (l:List PhD) (i:Nat):phsF l (i*3)=.str (sB (l.getD i ph0).name):=by have:=lf_at (s:=3) (c:=phc) (d:=(ph0:PhD)) (xs:=l) (i:=i) (k:=0) om;exact this
@[go_sem] theorem phsF_1 (l:List PhD) (i:Nat):phsF l (i*3+1)=.str (sB (l.getD i ph0).top):=by have:=lf_at (s:=3) (c:=phc) (d:=(ph0:PhD)) (xs:=l) (i:=i) (k:=1) om;exact this
@[go_sem] theorem phsF_2 (l:List PhD) (i:Nat):phsF l (i*3+2)=vls true (l.getD i ph0).values:=by have:=lf_at (s:=3) (c:=phc) (d:=(ph0:PhD)) (xs:=l) (i:=i) (k:=2) om;exact this
abbrev phs (t:Bool) (l:List PhD):CV:=.row t 3 l.length (phsF l)
abbrev txc (r:TX):List CV:=[CV.int .i64 r.t.kind,.str (sB r.t.text),.int .i64 r.a,.int .i64 r.b,.int .i64 r.c]
def txsF (l:List TX):Nat→CV:=lf 5 txc (tx0:TX) l
@[go_sem] theorem txsF_0 (l:List TX) (i:Nat):txsF l (i*5)=.int .i64 (l.getD i tx0).t.kind:=by have:=lf_at (s:=5) (c:=txc) (d:=(tx0:TX)) (xs:=l) (i:=i) (k:=0) om;exact this
@[go_sem] theorem txsF_1 (l:List TX) (i:Nat):txsF l (i*5+1)=.str (sB (l.getD i tx0).t.text):=by have:=lf_at (s:=5) (c:=txc) (d:=(tx0:TX)) (xs:=l) (i:=i) (k:=1) om;exact this
@[go_sem] theorem txsF_2 (l:List TX) (i:Nat):txsF l (i*5+2)=.int .i64 (l.getD i tx0).a:=by have:=lf_at (s:=5) (c:=txc) (d:=(tx0:TX)) (xs:=l) (i:=i) (k:=2) om;exact this
@[go_sem] theorem txsF_3 (l:List TX) (i:Nat):txsF l (i*5+3)=.int .i64 (l.getD i tx0).b:=by have:=lf_at (s:=5) (c:=txc) (d:=(tx0:TX)) (xs:=l) (i:=i) (k:=3) om;exact this
@[go_sem] theorem txsF_4 (l:List TX) (i:Nat):txsF l (i*5+4)=.int .i64 (l.getD i tx0).c:=by have:=lf_at (s:=5) (c:=txc) (d:=(tx0:TX)) (xs:=l) (i:=i) (k:=4) om;exact this
abbrev txs (t:Bool) (l:List TX):CV:=.row t 5 l.length (txsF l)
abbrev mdc (t:Bool) (m:MdD):List CV:=[.str (sB m.name),.str (sB m.top),evs t m.events,hss t m.houses,gts t m.gates,pgs t m.pages,grs t m.groups,phs t m.phases]
end Go.AI
namespace Go.PN
open Go.AI
theorem numE_at {l:BS} {i:Nat} (h:numE l i<l.length):isDig (bAt l (numE l i))=false:=by
 unfold numE at h⊢
 split at h
 ·rename_i h1;rw [if_pos h1];exact spanE_at h
 ·rename_i h1;rw [if_neg h1];exact spanE_at h
theorem ins_no {n:Nat} (h1:isLet n=false) (h2:isDig n=false) (h3:¬n=95) (h4:¬n=46):¬isIns n=true:=by unfold isIns;simp [h1,h2,h3,h4]
theorem stepT_blk {l:BS} {i:Nat} (h:isBlk (bAt l i)=true):stepT l i=.skip (i+1):=by unfold stepT;rw [if_pos h]
theorem stepT_cmt {l:BS} {i:Nat} (h:isBlk (bAt l i)=false) (h1:bAt l i=35):stepT l i=.skip (spanE (fun b=>b !=10) l i):=by unfold stepT;rw [if_neg (by rw [h];decide),if_pos h1]
theorem stepT_let {l:BS} {i:Nat} (h:isBlk (bAt l i)=false) (h1:¬bAt l i=35) (h2:isLet (bAt l i)=true):stepT l i=if spanE isIns l i-i>24 then .err 5 else .tok 0 (spanE isIns l i):=by unfold stepT;rw [if_neg (by rw [h];decide),if_neg h1,if_pos h2]
theorem stepT_dig {l:BS} {i:Nat} (h:isBlk (bAt l i)=false) (h1:¬bAt l i=35) (h2:isLet (bAt l i)=false) (h3:isDig (bAt l i)=true):stepT l i=if numE l i<l.length∧(isIns (bAt l (numE l i))=true∨bAt l (numE l i)=47) then .err 2 else .tok 1 (numE l i):=by unfold stepT;rw [if_neg (by rw [h];decide),if_neg h1,if_neg (by rw [h2];decide),if_pos h3]
theorem stepT_els {l:BS} {i:Nat} (h:isBlk (bAt l i)=false) (h1:¬bAt l i=35) (h2:isLet (bAt l i)=false) (h3:isDig (bAt l i)=false):stepT l i=if isSgn (bAt l i) then .tok 2 (i+1) else .err 2:=by unfold stepT;rw [if_neg (by rw [h];decide),if_neg h1,if_neg (by rw [h2];decide),if_neg (by rw [h3];decide)]
theorem split_err {l:BS} {i:Nat} {out:List TK} {S:Int×List TK} {c:Int} (hs:splitT l (l.length-i) i out=S) (hi:i<l.length) (h:stepT l i=.err c):S=(c,[]):=by rw [splitT_step hi,h] at hs;exact hs.symm
theorem split_skip {l:BS} {i e:Nat} {out:List TK} {S:Int×List TK} (hs:splitT l (l.length-i) i out=S) (hi:i<l.length) (h:stepT l i=.skip e):splitT l (l.length-e) e out=S:=by rw [splitT_step hi,h] at hs;exact hs
theorem split_tok {l:BS} {i e k:Nat} {out:List TX} {S:Int×List TK} (hs:splitT l (l.length-i) i (out.map TX.t)=S) (hi:i<l.length) (h:stepT l i=.tok k e) (a b c:Int):splitT l (l.length-e) e ((out++[(⟨⟨k,cutS l i e⟩,a,b,c⟩:TX)]).map TX.t)=S:=by
 rw [splitT_step hi,h] at hs
 rw [List.map_append]
 exact hs
theorem split_end {l:BS} {i:Nat} {out:List TK} {S:Int×List TK} (hs:splitT l (l.length-i) i out=S) (hi:¬i<l.length):S=(0,out):=by rw [splitT_end om] at hs;exact hs.symm
end Go.PN
namespace Go.Proofs.YteocnikcjjonbaaGreat
open Go.AI Go.PN
attribute [local irreducible] aw Fa Fh DrK
theorem tsplit_fh (l:BS) (hl:l.length≤1099511627776):Fh Tryz.prog 60 [] [.c (.str (sB l))] (fun x h=>h=[]∧∃out:List TX,out.map TX.t=(splitS l).2∧x=.tup [.c (txs true out),.c (errA (splitS l).1)]):=by
 refine fh_of_body Tryz.func60 rfl rfl (by simp [Tryz.ntmps60]) fun C hC=> ?_
 simp only [initS,Nat.reduceAdd]
 repeat' first|refine yA1 o0 ?_|refine zW o0 ?_|refine yP o0 ?_|refine yN o0 ?_|refine zC o0 (fun hb=>?_) fun hb=>?_|refine zG o0 (fun hb=>?_) fun hb=>?_|refine zD o0 (fun hb=>?_) fun hb=>?_
 ·refine aw_conv (t:=2) (v:=.c (txs true [])) (fun S w u hr=>repC_nil hr) rfl ?_
  refine xS ?_
  refine xU ?_
  unfold splitS
  rw [if_pos om]
  exact⟨rfl,[],rfl,rfl⟩
 generalize hS:splitT l l.length 0 []=S
 have hS':splitS l=S:=by unfold splitS;rw [if_neg om];exact hS
 rw [hS']
 refine aw_lp (fun x:Nat×Option Nat×Nat×List TX×Int×Int=>[(0,.c (.str (sB l))),(4,.c (gs x.2.1 5 x.2.2.1)),(5,.c (.int .i64 x.2.2.2.2.1)),(6,.c (.int .i64 x.2.2.2.2.2)),(7,.c (.int .i64 x.1))]) (fun x=>gh x.2.1 45 (x.2.2.1*5) (txsF x.2.2.2.1))
  (fun x=>x.1≤l.length∧(x.2.1=none→x.2.2.1=0)∧x.2.2.1≤x.1∧x.2.2.2.1.length=x.2.2.1∧0≤x.2.2.2.2.1∧x.2.2.2.2.1≤x.1+1∧0≤x.2.2.2.2.2∧x.2.2.2.2.2≤x.1∧splitT l (l.length-x.1) x.1 (x.2.2.2.1.map TX.t)=S) (fun x=>l.length-x.1) (0,none,0,[],1,0) eB (by simp only [gh];exact List.Sublist.refl _) ⟨Nat.zero_le _,fun _=>rfl,Nat.zero_le _,rfl,by decide,by decide,by decide,by decide,hS⟩ ?_
 rintro ⟨i,og,n,out,line,start⟩ ⟨hi,hog,hol,hn,hl0,hl1,hs0,hs1,hsp⟩
 dsimp only at hi hog hol hn hl0 hl1 hs0 hs1 hsp⊢
 have e1:=spanE_ge isIns l i
 have e2:=spanE_le (p:=isIns) hi
 have e3:=numE_ge l i
 have e4:=numE_le hi
 repeat' first|refine yA1 o0 ?_|(refine yC2 o0 (tblk_fa _ ?_) ?_;· exact bAt_lt l _)|(refine yD2 o0 (tblk_fa _ ?_) ?_;· exact bAt_lt l _)|(refine yC2 o0 (tlet_fa _) ?_)|(refine yD2 o0 (tlet_fa _) ?_)|(refine yC2 o0 (tdig_fa _) ?_)|(refine yD2 o0 (tdig_fa _) ?_)|(refine yC2 o0 (tsgn_fa _ ?_) ?_;· exact bAt_lt l _)|(refine yD2 o0 (tsgn_fa _ ?_) ?_;· exact bAt_lt l _)|(refine yC2 o0 (twend_fa l i hl ?_) ?_;· omega)|(refine yD2 o0 (twend_fa l i hl ?_) ?_;· omega)|(refine yC2 o0 (tnum_fa l i hl ?_) ?_;· omega)|(refine yD2 o0 (tnum_fa l i hl ?_) ?_;· omega)|refine zW o0 ?_|refine yP o0 ?_|refine yN o0 ?_|refine zC o0 (fun hb=>?_) fun hb=>?_|refine zG o0 (fun hb=>?_) fun hb=>?_|refine zD o0 (fun hb=>?_) fun hb=>?_
 ·rename_i hi' hk
  refine aw_stop ⟨(i+1,og,n,out,line+1,i+1),by dsimp only;omega,eB,List.Sublist.refl _,by dsimp only;omega,hog,by dsimp only;omega,hn,by dsimp only;omega,by dsimp only;omega,by dsimp only;omega,by dsimp only;omega,split_skip hsp hi' (stepT_blk hk)⟩
 ·rename_i hi' hk
  refine aw_stop ⟨(i+1,og,n,out,line,start),by dsimp only;omega,eB,List.Sublist.refl _,by dsimp only;omega,hog,by dsimp only;omega,hn,by dsimp only;omega,by dsimp only;omega,by dsimp only;omega,by dsimp only;omega,split_skip hsp hi' (stepT_blk hk)⟩
 ·rename_i hi' hk
  have h35:=hb
  have hq:=split_skip hsp hi' (stepT_cmt hk h35)
  have g1:=(stepT_skip hi' (stepT_cmt hk h35))
  generalize hE:spanE (fun b=>b !=10) l i=e at hq g1
  refine aw_lp (fun x:Nat=>[(0,.c (.str (sB l))),(4,.c (gs og 5 n)),(5,.c (.int .i64 line)),(6,.c (.int .i64 start)),(7,.c (.int .i64 x))]) (fun _=>gh og 45 (n*5) (txsF out)) (fun x=>i≤x∧x≤l.length∧spanE (fun b=>b !=10) l x=e) (fun x=>l.length-x) i eB zZ ⟨Nat.le_refl _,hi,hE⟩ ?_
  rintro x ⟨hx0,hx,hxe⟩
  repeat' first|refine yA1 o0 ?_|refine zW o0 ?_|refine yP o0 ?_|refine yN o0 ?_|refine zC o0 (fun hb=>?_) fun hb=>?_|refine zG o0 (fun hb=>?_) fun hb=>?_|refine zD o0 (fun hb=>?_) fun hb=>?_
  ·rename_i hx1
   have hx2:=hb
   refine aw_stop ⟨x+1,by omega,eB,List.Sublist.refl _,by omega,by omega,?_⟩
   rw [←spanE_yes hx1 (by simpa using hx2)];exact hxe
  ·rename_i hx1
   have hx2:=hb
   have:x=e:=by rw [←hxe,spanE_no hx1 (by simpa using hx2)]
   subst this
   exact aw_stop ⟨(x,og,n,out,line,start),by dsimp only;omega,eB,List.Sublist.refl _,by dsimp only;omega,hog,by dsimp only;omega,hn,by dsimp only;omega,by dsimp only;omega,by dsimp only;omega,by dsimp only;omega,hq⟩
  ·have hx1:=hb
   have:x=e:=by rw [←hxe,spanE_out om]
   subst this
   exact aw_stop ⟨(x,og,n,out,line,start),by dsimp only;omega,eB,List.Sublist.refl _,by dsimp only;omega,hog,by dsimp only;omega,hn,by dsimp only;omega,by dsimp only;omega,by dsimp only;omega,by dsimp only;omega,hq⟩
 ·rename_i hi' hk h35 hlt
  have hc:=split_err hsp hi' (by rw [stepT_let hk h35 hlt,if_pos om])
  refine aw_weak (h':=[]) (fun t=>.inr rfl) (List.nil_sublist _) ?_
  refine aw_conv (t:=2) (v:=.c (txs true [])) (fun S w u hr=>repC_nil hr) rfl ?_
  refine xS ?_
  refine xU ?_
  rw [hc]
  exact⟨rfl,[],rfl,rfl⟩
 ·rename_i hi' hk h35 hlt
  have hp:=split_tok hsp hi' (k:=0) (e:=spanE isIns l i) (by rw [stepT_let hk h35 hlt,if_neg om]) (i:Int) line ((i:Int)-start+1)
  have hp2:=stepT_tok (k:=0) (e:=spanE isIns l i) hi' (by rw [stepT_let hk h35 hlt,if_neg om])
  refine aw_push (pre:=[]) rfl rfl rfl rfl rfl rfl rfl eE eE (by rfl) om om eE om (by exact hog) eE (by rfl) (by rfl) (by first|rfl|simp only [Nat.mul_one,List.nil_append,List.cons_append]<;>rfl) (by unfold maxLen;omega) om (by exact lf_push hn (⟨⟨0,cutS l i (spanE isIns l i)⟩,i,line,(i:Int)-start+1⟩:TX) om) fun g hn_g=> ?_
  replace hn_g:=Heap.ne_of hn_g
  first|dsimp only [Heap.ne,gh] at hn_g|dsimp only [Heap.ne] at hn_g|skip
  refine yS hn_g ?_
  repeat' first|refine yA1 hn_g ?_|refine zW hn_g ?_|refine yP hn_g ?_|refine yN hn_g ?_|refine zC hn_g (fun hb=>?_) fun hb=>?_|refine zG hn_g (fun hb=>?_) fun hb=>?_|refine zD hn_g (fun hb=>?_) fun hb=>?_
  exact aw_stop ⟨(spanE isIns l i,some g,n+1,out++[⟨⟨0,cutS l i (spanE isIns l i)⟩,i,line,(i:Int)-start+1⟩],line,start),by dsimp only;omega,(zB hn_g),List.Sublist.refl _,by dsimp only;omega,some_ne,by dsimp only;omega,by dsimp only;rw [List.length_append,hn];rfl,by dsimp only;omega,by dsimp only;omega,by dsimp only;omega,by dsimp only;omega,hp⟩
 ·rename_i hi' hk h35 hlt hdg hnl
  have hc:=split_err hsp hi' (by rw [stepT_dig hk h35 hlt hdg,if_pos ⟨hnl,.inl (isLet_ins hb)⟩])
  refine aw_weak (h':=[]) (fun t=>.inr rfl) (List.nil_sublist _) ?_
  refine aw_conv (t:=2) (v:=.c (txs true [])) (fun S w u hr=>repC_nil hr) rfl ?_
  refine xS ?_
  refine xU ?_
  rw [hc]
  exact⟨rfl,[],rfl,rfl⟩
 ·rename_i hi' hk h35 hlt hdg hnl h1
  have hc:=split_err hsp hi' (by rw [stepT_dig hk h35 hlt hdg,if_pos ⟨hnl,.inl (by unfold isIns;rw [hb];simp)⟩])
  refine aw_weak (h':=[]) (fun t=>.inr rfl) (List.nil_sublist _) ?_
  refine aw_conv (t:=2) (v:=.c (txs true [])) (fun S w u hr=>repC_nil hr) rfl ?_
  refine xS ?_
  refine xU ?_
  rw [hc]
  exact⟨rfl,[],rfl,rfl⟩
 ·rename_i hi' hk h35 hlt hdg hnl h1 h2
  have hc:=split_err hsp hi' (by rw [stepT_dig hk h35 hlt hdg,if_pos ⟨hnl,.inl (by unfold isIns;rw [hb];simp)⟩])
  refine aw_weak (h':=[]) (fun t=>.inr rfl) (List.nil_sublist _) ?_
  refine aw_conv (t:=2) (v:=.c (txs true [])) (fun S w u hr=>repC_nil hr) rfl ?_
  refine xS ?_
  refine xU ?_
  rw [hc]
  exact⟨rfl,[],rfl,rfl⟩
 ·rename_i hi' hk h35 hlt hdg hnl h1 h2 h3
  have hc:=split_err hsp hi' (by rw [stepT_dig hk h35 hlt hdg,if_pos ⟨hnl,.inr hb⟩])
  refine aw_weak (h':=[]) (fun t=>.inr rfl) (List.nil_sublist _) ?_
  refine aw_conv (t:=2) (v:=.c (txs true [])) (fun S w u hr=>repC_nil hr) rfl ?_
  refine xS ?_
  refine xU ?_
  rw [hc]
  exact⟨rfl,[],rfl,rfl⟩
 ·rename_i hi' hk h35 hlt hdg hnl h1 h2 h3
  have hp:=split_tok hsp hi' (k:=1) (e:=numE l i) (by rw [stepT_dig hk h35 hlt hdg,if_neg (fun z=>z.2.elim (ins_no h1 (numE_at hnl) h2 h3) hb)]) (i:Int) line ((i:Int)-start+1)
  have hp2:=stepT_tok (k:=1) (e:=numE l i) hi' (by rw [stepT_dig hk h35 hlt hdg,if_neg (fun z=>z.2.elim (ins_no h1 (numE_at hnl) h2 h3) hb)])
  refine aw_push (pre:=[]) rfl rfl rfl rfl rfl rfl rfl eE eE (by rfl) om om eE om (by exact hog) eE (by rfl) (by rfl) (by first|rfl|simp only [Nat.mul_one,List.nil_append,List.cons_append]<;>rfl) (by unfold maxLen;omega) om (by exact lf_push hn (⟨⟨1,cutS l i (numE l i)⟩,i,line,(i:Int)-start+1⟩:TX) om) fun g hn_g=> ?_
  replace hn_g:=Heap.ne_of hn_g
  first|dsimp only [Heap.ne,gh] at hn_g|dsimp only [Heap.ne] at hn_g|skip
  refine yS hn_g ?_
  repeat' first|refine yA1 hn_g ?_|refine zW hn_g ?_|refine yP hn_g ?_|refine yN hn_g ?_|refine zC hn_g (fun hb=>?_) fun hb=>?_|refine zG hn_g (fun hb=>?_) fun hb=>?_|refine zD hn_g (fun hb=>?_) fun hb=>?_
  exact aw_stop ⟨(numE l i,some g,n+1,out++[⟨⟨1,cutS l i (numE l i)⟩,i,line,(i:Int)-start+1⟩],line,start),by dsimp only;omega,(zB hn_g),List.Sublist.refl _,by dsimp only;omega,some_ne,by dsimp only;omega,by dsimp only;rw [List.length_append,hn];rfl,by dsimp only;omega,by dsimp only;omega,by dsimp only;omega,by dsimp only;omega,hp⟩
 ·rename_i hi' hk h35 hlt hdg
  have hp:=split_tok hsp hi' (k:=1) (e:=numE l i) (by rw [stepT_dig hk h35 hlt hdg,if_neg (fun z=>hb z.1)]) (i:Int) line ((i:Int)-start+1)
  have hp2:=stepT_tok (k:=1) (e:=numE l i) hi' (by rw [stepT_dig hk h35 hlt hdg,if_neg (fun z=>hb z.1)])
  refine aw_push (pre:=[]) rfl rfl rfl rfl rfl rfl rfl eE eE (by rfl) om om eE om (by exact hog) eE (by rfl) (by rfl) (by first|rfl|simp only [Nat.mul_one,List.nil_append,List.cons_append]<;>rfl) (by unfold maxLen;omega) om (by exact lf_push hn (⟨⟨1,cutS l i (numE l i)⟩,i,line,(i:Int)-start+1⟩:TX) om) fun g hn_g=> ?_
  replace hn_g:=Heap.ne_of hn_g
  first|dsimp only [Heap.ne,gh] at hn_g|dsimp only [Heap.ne] at hn_g|skip
  refine yS hn_g ?_
  repeat' first|refine yA1 hn_g ?_|refine zW hn_g ?_|refine yP hn_g ?_|refine yN hn_g ?_|refine zC hn_g (fun hb=>?_) fun hb=>?_|refine zG hn_g (fun hb=>?_) fun hb=>?_|refine zD hn_g (fun hb=>?_) fun hb=>?_
  exact aw_stop ⟨(numE l i,some g,n+1,out++[⟨⟨1,cutS l i (numE l i)⟩,i,line,(i:Int)-start+1⟩],line,start),by dsimp only;omega,(zB hn_g),List.Sublist.refl _,by dsimp only;omega,some_ne,by dsimp only;omega,by dsimp only;rw [List.length_append,hn];rfl,by dsimp only;omega,by dsimp only;omega,by dsimp only;omega,by dsimp only;omega,hp⟩
 ·rename_i hi' hk h35 hlt hdg
  have hp:=split_tok hsp hi' (k:=2) (e:=i+1) (by rw [stepT_els hk h35 hlt hdg,hb];rfl) (i:Int) line ((i:Int)-start+1)
  have hp2:=stepT_tok (k:=2) (e:=i+1) hi' (by rw [stepT_els hk h35 hlt hdg,hb];rfl)
  refine aw_push (pre:=[]) rfl rfl rfl rfl rfl rfl rfl eE eE (by rfl) om om eE om (by exact hog) eE (by rfl) (by rfl) (by first|rfl|simp only [Nat.mul_one,List.nil_append,List.cons_append]<;>rfl) (by unfold maxLen;omega) om (by exact lf_push hn (⟨⟨2,cutS l i (i+1)⟩,i,line,(i:Int)-start+1⟩:TX) om) fun g hn_g=> ?_
  replace hn_g:=Heap.ne_of hn_g
  first|dsimp only [Heap.ne,gh] at hn_g|dsimp only [Heap.ne] at hn_g|skip
  refine yS hn_g ?_
  repeat' first|refine yA1 hn_g ?_|refine zW hn_g ?_|refine yP hn_g ?_|refine yN hn_g ?_|refine zC hn_g (fun hb=>?_) fun hb=>?_|refine zG hn_g (fun hb=>?_) fun hb=>?_|refine zD hn_g (fun hb=>?_) fun hb=>?_
  exact aw_stop ⟨(i+1,some g,n+1,out++[⟨⟨2,cutS l i (i+1)⟩,i,line,(i:Int)-start+1⟩],line,start),by dsimp only;omega,(zB hn_g),List.Sublist.refl _,by dsimp only;omega,some_ne,by dsimp only;omega,by dsimp only;rw [List.length_append,hn];rfl,by dsimp only;omega,by dsimp only;omega,by dsimp only;omega,by dsimp only;omega,hp⟩
 ·rename_i hi' hk h35 hlt hdg
  have hc:=split_err hsp hi' (by rw [stepT_els hk h35 hlt hdg,hb];rfl)
  refine aw_weak (h':=[]) (fun t=>.inr rfl) (List.nil_sublist _) ?_
  refine aw_conv (t:=2) (v:=.c (txs true [])) (fun S w u hr=>repC_nil hr) rfl ?_
  refine xS ?_
  refine xU ?_
  rw [hc]
  exact⟨rfl,[],rfl,rfl⟩
 ·have hc:=split_end hsp hb
  rw [show gh og 45 (n*5) (txsF out)=gh og 45 (n*5) (txsF out)++[] from(List.append_nil _).symm]
  refine aw_frzGT (t:=2) (n':=out.length) (f':=txsF out) hog hn.symm eE (fun g _ h=>by simpa [Heap.keys] using (hC g).1 h) (fun _ _=>rfl) rfl ?_
  refine xS ?_
  refine xU ?_
  rw [hc]
  exact⟨rfl,out,rfl,rfl⟩
end Go.Proofs.YteocnikcjjonbaaGreat
namespace Go.PN
structure Perm0 (o:List Int):Prop where
 range:∀x∈o,0≤x∧x<o.length
 nodup:o.Nodup
theorem nodup_le:∀{l m:List Int},l.Nodup→(∀x∈l,x∈m)→l.length≤m.length
 |[],m,_,_=>by simp
 |a::l,m,hn,hs=>by
  simp only [List.nodup_cons] at hn
  have ha:=hs a (by simp)
  have:=nodup_le (l:=l) (m:=m.erase a) hn.2 fun x hx=>(List.mem_erase_of_ne (fun e=>hn.1 (by rw [←e];exact hx))).2 (hs x (by simp [hx]))
  rw [List.length_erase_of_mem ha] at this
  have:0<m.length:=List.length_pos_of_mem ha
  simp only [List.length_cons]
  omega
theorem Perm0.all {o:List Int} (h:Perm0 o) {j:Nat} (hj:j<o.length):(j:Int)∈o:=by
 by_cases hm:(j:Int)∈o
 ·exact hm
 ·exfalso
  have:=nodup_le (l:=(j:Int)::o) (m:=(List.range o.length).map (fun k:Nat=>(k:Int))) (by simp only [List.nodup_cons];exact⟨hm,h.nodup⟩) (fun x hx=>by
   rw [List.mem_map]
   rcases List.mem_cons.1 hx with rfl|hx
   ·exact⟨j,by simpa using hj,rfl⟩
   ·obtain⟨h1,h2⟩:=h.range x hx
    exact⟨x.toNat,by simp;omega,by omega⟩)
  simp at this
  omega
end Go.PN
namespace Go.AI
open Go.PN
theorem updF_bs {zs:List Bool} {i:Nat} {v:Bool} (hi:i<zs.length):updF (bsF zs) i [.bool v]=bsF (zs.set i v):=by
 funext j
 simp only [updF]
 by_cases e:j=i
 ·subst e;simp [hi,bsF]
 ·rw [if_neg e]
  show CV.bool (zs.getD j false)=CV.bool ((zs.set i v).getD j false)
  rw [List.getD_eq_getElem?_getD,List.getD_eq_getElem?_getD,List.getElem?_set_ne (fun h=>e h.symm)]
end Go.AI

namespace Go.AI
theorem updF_ofL {xs bs:List CV} (h:xs.length=bs.length):updF (ofL xs) 0 bs=ofL bs:=by
 funext j
 by_cases hj:j<bs.length
 ·have:=updF_in bs (ofL xs) 0 j hj
  rw [Nat.zero_add] at this
  exact this
 ·rw [updF_out _ _ _ _ om,ofL_at,ofL_at,List.getElem?_eq_none om,List.getElem?_eq_none om]
@[go_sem ↓] theorem updF_1 (a b:CV):updF (ofL [a]) 0 [b]=ofL [b]:=updF_ofL rfl
@[go_sem ↓] theorem updF_2 (a b c d:CV):updF (ofL [a,b]) 0 [c,d]=ofL [c,d]:=updF_ofL rfl
@[go_sem ↓] theorem updF_3 (a b c x y z:CV):updF (ofL [a,b,c]) 0 [x,y,z]=ofL [x,y,z]:=updF_ofL rfl
end Go.AI
namespace Go.PN
open Go.AI
structure NodeOk (m k:Nat) (n:DN):Prop where
 v0:0≤n.v
 v1:n.v<m
 l0:0≤n.lo
 l1:n.lo<k+2
 h0:0≤n.hi
 h1:n.hi<k+2
end Go.PN

namespace Go.PN
open Go.AI
theorem sq_one {k:Nat} (h:k≠0):sq false k k=1:=by
 unfold sq sgn
 have:=Rat.mkRat_mul_left (n:=1) (d:=1) h
 rw [Int.mul_one,Nat.mul_one] at this
 simp only [Bool.false_eq_true,if_false]
 rw [this]
 rfl
theorem sq_div (x y:Bool) {n m d e:Nat} (hm:m≠0) (he:e≠0):sq (x !=y) (n*e) (d*m)=sq x n d/sq y m e:=by
 have h1:sq y m e*sq y e m=1:=by
  rw [←sq_mul,Nat.mul_comm e m,bne_self_eq_false]
  exact sq_one (Nat.mul_ne_zero hm he)
 have hb:sq y m e≠0:=fun h=>by rw [h,Rat.zero_mul] at h1;exact absurd h1 (by decide)
 have h2:(sq y m e)⁻¹=sq y e m:=by
  have h3:=Rat.inv_mul_cancel (sq y m e) hb
  have h4:(sq y m e)⁻¹*(sq y m e*sq y e m)=sq y e m:=by rw [←Rat.mul_assoc,h3,Rat.one_mul]
  rw [h1,Rat.mul_one] at h4
  exact h4
 rw [sq_mul,Rat.div_def,h2]
theorem RD.pn_ne {r:RD} (h:r.q≠0):r.pn≠0:=fun e=>h (by unfold RD.q;rw [e,sq_zero])
theorem q_div {a b:RD} {L:Nat} (hb:b.wf L) (hz:b.q≠0):sq (a.ps !=b.ps) (a.pn*b.pd) (a.pd*b.pn)=a.q/b.q:=sq_div _ _ (RD.pn_ne hz) (RD.pd_ne hb)
theorem fits_inv {q:Rat} {L:Nat} (h:fits q L) (hz:q≠0):fits q⁻¹ L:=by
 obtain⟨h1,h2⟩:=h
 have hn:q.num≠0:=fun e=>hz (Rat.num_eq_zero.1 e)
 have h3:(rd q).q=q:=rd_q q
 obtain⟨p1,p2,p3⟩:(rd q).ps=decide (q.num<0)∧(rd q).pn=q.num.natAbs∧(rd q).pd=q.den:=by
  have hs:=(rd_some hz).1
  unfold RD.ps RD.pn RD.pd
  rw [if_pos hs,if_pos hs,if_pos hs]
  unfold rd
  rw [if_neg hn]
  exact⟨rfl,val_words _,val_words _⟩
 have h4:q=sq (decide (q.num<0)) q.num.natAbs q.den:=by
  have:(rd q).q=sq (rd q).ps (rd q).pn (rd q).pd:=rfl
  rw [h3,p1,p2,p3] at this
  exact this
 have h5:sq false 1 1=1:=sq_one om
 have h6:=sq_div false (decide (q.num<0)) (n:=1) (d:=1) (m:=q.num.natAbs) (e:=q.den) om q.den_nz
 rw [h5,←h4,Rat.div_def,Rat.one_mul,Nat.one_mul,Nat.one_mul] at h6
 rw [←h6]
 exact fits_sq om h2 h1
theorem fits_div {a b:Rat} {L M:Nat} (ha:fits a L) (hb:fits b M) (hz:b≠0):fits (a/b) (L+M):=by
 rw [Rat.div_def]
 exact fits_mul ha (fits_inv hb hz)
end Go.PN
namespace Go.Proofs.YteocnikcjjonbaaGreat
open Go.AI Go.PN
attribute [local irreducible] aw Fa Fh DrK
theorem rdiv_fa (a b:RD) (ha:a.wf 1073741824) (hb:b.wf 1073741824) (hz:b.q≠0):Fa Tryz.prog 163 [.agg (rdc a),.agg (rdc b)] (.tup [.agg (rdc (rd (a.q/b.q))),.c .nilI]):=by
 obtain⟨l1,l2⟩:=RD.p_len ha om
 obtain⟨l3,l4⟩:=RD.p_len hb om
 have dd:a.pd*b.pn≠0:=Nat.mul_ne_zero (RD.pd_ne ha) (RD.pn_ne hz)
 have m1:=words_mul_len a.pn b.pd
 have m3:=words_mul_len a.pd b.pn
 have hl:(((words b.pn).length:Int)==0)=false:=by
  rw [beq_eq_false_iff_ne]
  intro e
  exact RD.pn_ne hz (words_eq_nil.1 (List.length_eq_zero_iff.1 om))
 refine fa_of_body Tryz.func163 rfl rfl (by simp [Tryz.ntmps163]) fun C hC=> ?_
 simp only [initS,Nat.reduceAdd]
 refine yG hl ?_
 refine yB hl fun g2 hn_g2=>?_
 refine yB (oj hl hn_g2) fun g3 hn_g3=>?_
 refine yA (oj hl (oj hn_g2 hn_g3)) fun g4 hn_g4=>?_
 have J1:=oj hl (oj hn_g2 (oj hn_g3 hn_g4))
 refine yG J1 ?_
 refine yC J1 (rparts_fa a ha) ?_
 refine yG J1 ?_
 refine yC J1 (rparts_fa b hb) ?_
 refine yG J1 ?_
 refine yN J1 ?_
 refine yG J1 ?_
 refine yC J1 (mulW _ _ ?_ ?_) ?_
 ·omega
 ·omega
 refine yG J1 ?_
 refine yC J1 (mulW _ _ ?_ ?_) ?_
 ·omega
 ·omega
 refine yG J1 ?_
 refine yC J1 (rform_fa _ _ _ ?_ ?_ dd) ?_
 ·omega
 ·omega
 rw [q_div hb hz]
 refine yGWSGT hC J1 ?_
 exact .tup ⟨.agg lerl_rd,.c .nilI,trivial⟩
theorem rdiv_zero (a b:RD) (ha:a.wf 1073741824) (hb:b.wf 1073741824) (hz:b.q=0):Fa Tryz.prog 163 [.agg (rdc a),.agg (rdc b)] (.tup [.agg (rdc rd0),.c (errA 8)]):=by
 have hp:b.pn=0:=Classical.byContradiction fun h=>sq_ne h (RD.pd_ne hb) hz
 have hl:(((words b.pn).length:Int)==0)=true:=by rw [hp,words_zero];rfl
 refine fa_of_body Tryz.func163 rfl rfl (by simp [Tryz.ntmps163]) fun C hC=> ?_
 simp only [initS,Nat.reduceAdd]
 refine yG hl ?_
 refine yB hl fun g2 hn_g2=>?_
 refine yB (oj hl hn_g2) fun g3 hn_g3=>?_
 refine yA (oj hl (oj hn_g2 hn_g3)) fun g4 hn_g4=>?_
 have J1:=oj hl (oj hn_g2 (oj hn_g3 hn_g4))
 refine yG J1 ?_
 refine yC J1 (rparts_fa a ha) ?_
 refine yG J1 ?_
 refine yC J1 (rparts_fa b hb) ?_
 refine yG J1 ?_
 refine yP J1 ?_
 refine yGWSGT hC J1 ?_
 exact .tup ⟨.agg ⟨.bool _,.nils,.nils,trivial⟩,.c (ler_errN rfl (by decide)),trivial⟩
end Go.Proofs.YteocnikcjjonbaaGreat
namespace Go.PN
open Go.AI
theorem natB_take {s:BS} {i:Nat} (h:i<s.length):natB (s.take (i+1))=natB (s.take i)*10+(bAt s i-48):=by
 unfold natB
 rw [List.take_succ_eq_append_getElem h,List.foldl_append,bAt_get h];rfl
theorem dig_le {n:Nat} (h:isDig n=true):48≤n∧n≤57:=by
 unfold isDig at h
 simp only [Bool.and_eq_true,decide_eq_true_eq] at h
 exact h
theorem natB_lt {s:BS} (hd:∀i,i<s.length→isDig (bAt s i)=true):∀i,i≤s.length→natB (s.take i)<10^i
 |0,_=>by simp [natB]
 |i+1,h=>by
  have h1:=natB_lt hd i om
  have h2:=dig_le (hd i om)
  rw [natB_take om,Nat.pow_succ]
  omega
theorem nat_fits {n L:Nat} (h:n<4294967296^L) (hL:1≤L):fits (n:Rat) L:=by
 have h1:(1:Nat)<4294967296^L:=Nat.one_lt_pow om (by decide)
 exact⟨by simpa using h,by simpa using h1⟩
theorem pow10_lt (k:Nat):10^k<4294967296^(k+1):=Nat.lt_of_le_of_lt (Nat.pow_le_pow_left (by decide) k) (Nat.pow_lt_pow_right (by decide) om)
theorem natB_fits {s:BS} (hd:∀i,i<s.length→isDig (bAt s i)=true) {i:Nat} (hi:i≤s.length):fits (natB (s.take i):Rat) (i+1):=
 nat_fits (Nat.lt_trans (natB_lt hd i hi) (pow10_lt i)) om
theorem step10 {s:BS} {i:Nat} (h:i<s.length) (hd:isDig (bAt s i)=true):(natB (s.take i):Rat)*((10:Int):Rat)+(((bAt s i:Nat):Int)-48:Int)=(natB (s.take (i+1)):Rat):=by
 have h2:=dig_le hd
 rw [natB_take h]
 have:(((bAt s i:Nat):Int)-48:Int)=((bAt s i-48:Nat):Int):=by omega
 rw [this]
 push_cast
 rfl
theorem fitsZ {n:Int} (h:n.natAbs<4294967296):fits (n:Rat) 1:=⟨by simpa using h,by simp⟩
end Go.PN
namespace Go.Proofs.YteocnikcjjonbaaGreat
open Go.AI Go.PN
theorem zero_cells:∀j,j<3→∀(S:Bool→Nat→Prop) w u,RepC S w (ofL [.bool false,.nils,.nils] j) u→RepC S w (ofL (rdc rd0) j) u:=fun j hj S w u hr=>by
 match j,hj with
 |0,_=>exact hr
 |1,_=>exact repC_nil hr
 |2,_=>exact repC_nil hr
attribute [local irreducible] aw Fa Fh DrK
theorem twhole_fa (s:BS) (hd:∀i,i<s.length→isDig (bAt s i)=true) (hl:s.length≤1000):Fa Tryz.prog 164 [.c (.str (sB s))] (.agg (rdc (rd (natB s:Rat)))):=by
 refine fa_of_body Tryz.func164 rfl rfl (by simp [Tryz.ntmps164]) fun C hC=> ?_
 simp only [initS,Nat.reduceAdd]
 repeat' first|refine yA1 o0 ?_|refine zW o0 ?_|refine yP o0 ?_|refine yN o0 ?_|refine zC o0 (fun hb=>?_) fun hb=>?_|refine zG o0 (fun hb=>?_) fun hb=>?_|refine zD o0 (fun hb=>?_) fun hb=>?_
 refine xA fun g2 hn_g2=>?_
 repeat' first|refine yA1 hn_g2 ?_|refine zW hn_g2 ?_|refine yP hn_g2 ?_|refine yN hn_g2 ?_|refine zC hn_g2 (fun hb=>?_) fun hb=>?_|refine zG hn_g2 (fun hb=>?_) fun hb=>?_|refine zD hn_g2 (fun hb=>?_) fun hb=>?_
 refine yA hn_g2 fun g3 hn_g3=>?_
 all_goals try(have Z:=(oj hn_g2 hn_g3);(repeat' first|refine yA1 Z ?_|refine zW Z ?_|refine yP Z ?_|refine yN Z ?_|refine zC Z (fun hb=>?_) fun hb=>?_|refine zG Z (fun hb=>?_) fun hb=>?_|refine zD Z (fun hb=>?_) fun hb=>?_);all_goals clear Z)
 refine aw_convR (f':=ofL (rdc rd0)) zero_cells ?_
 refine aw_lp (fun x:Nat=>[(0,.c (.str (sB s))),(2,.c (.optr g2 0)),(3,.c (.optr g3 0)),(7,.c (.int .i64 s.length)),(8,.c (.int .i64 x))]) (fun x=>[(g3,.cells 59 3 (ofL (rdc (rd (natB (s.take x):Rat))))),(g2,.cells 59 3 (ofL [.bool false,.nils,.nils]))]) (fun x=>x≤s.length) (fun x=>s.length-x) 0 (zB (oj hn_g2 hn_g3)) (by rw [show rd (natB (s.take 0):Rat)=rd0 from rd_zero];exact List.Sublist.refl _) (Nat.zero_le _) ?_
 rintro x hx
 all_goals try(have Z:=(oj hn_g2 hn_g3);(repeat' first|refine yA1 Z ?_|refine zW Z ?_|refine yP Z ?_|refine yN Z ?_|refine zC Z (fun hb=>?_) fun hb=>?_|refine zG Z (fun hb=>?_) fun hb=>?_|refine zD Z (fun hb=>?_) fun hb=>?_);all_goals clear Z)
 ·have hdx:=hd x hb
  have hx':=dig_le hdx
  have w0:(rd (natB (s.take x):Rat)).wf 1073741824:=rd_wf (fits_mono (natB_fits hd hx) om)
  have h10:=rof_fa 10 om om
  have w1:(rd ((10:Int):Rat)).wf 1073741824:=rd_wf (fits_mono (L:=1) ⟨by decide,by decide⟩ om)
  have hm:=rmul_fa _ _ w0 w1
  have w2:(rd ((natB (s.take x):Rat)*((10:Int):Rat))).wf 1073741824:=rd_wf (fits_mono (fits_mul (natB_fits hd hx) (L:=x+1) (M:=1) ⟨by decide,by decide⟩) om)
  rw [rd_q,rd_q] at hm
  have hs:=rof_fa (((bAt s x:Nat):Int)-48) om om
  have w3:(rd ((((bAt s x:Nat):Int)-48:Int):Rat)).wf 1073741824:=rd_wf (fits_mono (fitsZ om) om)
  have ha:=radd_fa _ _ w2 w3
  rw [rd_q,rd_q,step10 hb hdx] at ha
  refine aw_dr 10 ty_mixed (by kernel_rfl) ?_
  all_goals try(have Z:=(oj hn_g2 hn_g3);(repeat' first|refine yA1 Z ?_|(refine yC2 Z (h10) ?_)|(refine yD2 Z (h10) ?_)|(refine yC2 Z (hm) ?_)|(refine yD2 Z (hm) ?_)|(refine yC2 Z (hs) ?_)|(refine yD2 Z (hs) ?_)|(refine yC2 Z (ha) ?_)|(refine yD2 Z (ha) ?_)|refine zW Z ?_|refine yP Z ?_|refine yN Z ?_|refine zC Z (fun hb=>?_) fun hb=>?_|refine zG Z (fun hb=>?_) fun hb=>?_|refine zD Z (fun hb=>?_) fun hb=>?_);all_goals clear Z)
  exact aw_stop ⟨x+1,by omega,(zB (oj hn_g2 hn_g3)),List.Sublist.refl _,by omega⟩
 ·refine yT hC (oj hn_g2 hn_g3) ?_
  obtain rfl:x=s.length:=by omega
  rw [List.take_length]
  exact .one (.agg lerl_rd)
end Go.Proofs.YteocnikcjjonbaaGreat
namespace Go.PN
theorem pow10_ne (k:Nat):((10^k:Nat):Rat)≠0:=by
 have h:(10^k:Nat)≠0:=Nat.pos_iff_ne_zero.1 (Nat.pow_pos (by decide))
 intro e
 exact h (by exact_mod_cast e)
end Go.PN
namespace Go.Proofs.YteocnikcjjonbaaGreat
open Go.AI Go.PN
attribute [local irreducible] aw Fa Fh DrK
theorem index1_fa (s:BS) (b:UInt8):Fa Tryz.prog 204 [.c (.str (sB s)),.c (.str (sB [b]))] (.c (.int .i64 (Lib.indexByte s b))):=by
 have h:=ixs_fa s b.toNat
 rw [show b.toNat.toUInt8=b from UInt8.ofNat_toNat] at h
 refine fa_of_body Tryz.func204 rfl rfl (by simp [Tryz.ntmps204]) fun C hC=> ?_
 simp only [initS,Nat.reduceAdd]
 repeat' first|refine yA1 o0 ?_|(refine yC2 o0 (h) ?_)|(refine yD2 o0 (h) ?_)|refine zW o0 ?_|refine yP o0 ?_|refine yN o0 ?_|refine zC o0 (fun hb=>?_) fun hb=>?_|refine zG o0 (fun hb=>?_) fun hb=>?_|refine zD o0 (fun hb=>?_) fun hb=>?_
 ·refine xT hC ?_
  have hs:=hb
  subst hs
  refine .one (.c (ler_int ?_))
  unfold Lib.indexByte;simp
 ·refine xT hC ?_
  exact .one (.c (.int _ _))
theorem cutY_fa (s:BS) (b:UInt8) (hl:s.length≤1099511627776) (h:idxB b s<s.length):Fa Tryz.prog 162 [.c (.str (sB s)),.c (.str (sB [b]))] (.tup [.c (.str (sB (s.take (idxB b s)))),.c (.str (sB (s.drop (idxB b s+1)))),.c (.bool true)]):=by
 have h1:=index1_fa s b
 rw [ixB_val,if_pos h] at h1
 have h2:Fa Tryz.prog 182 [.c (.str (sB s)),.c (.str (sB [b]))] (.tup [.c (.str (sB (s.take (idxB b s)))),.c (.str (sB (s.drop (idxB b s+1)))),.c (.bool true)]):=by
  generalize idxB b s=e at*
  refine fa_of_body Tryz.func182 rfl rfl (by simp [Tryz.ntmps182]) fun C hC=> ?_
  simp only [initS,Nat.reduceAdd]
  repeat' first|refine yA1 o0 ?_|(refine yC2 o0 (h1) ?_)|(refine yD2 o0 (h1) ?_)|refine zW o0 ?_|refine yP o0 ?_|refine yN o0 ?_|refine zC o0 (fun hb=>?_) fun hb=>?_|refine zG o0 (fun hb=>?_) fun hb=>?_|refine zD o0 (fun hb=>?_) fun hb=>?_
  refine aw_dr 12 ty_mixed (by kernel_rfl) ?_
  repeat' first|refine yA1 o0 ?_|refine zW o0 ?_|refine yP o0 ?_|refine yN o0 ?_|refine zC o0 (fun hb=>?_) fun hb=>?_|refine zG o0 (fun hb=>?_) fun hb=>?_|refine zD o0 (fun hb=>?_) fun hb=>?_
  refine xT hC ?_
  refine .tup ⟨.c ?_,.c ?_,.c (.bool _),trivial⟩
  ·rw [cutS_take];exact .str _
  ·rw [cutS_drop];exact .str _
 refine fa_of_body Tryz.func162 rfl rfl (by simp [Tryz.ntmps162]) fun C hC=> ?_
 simp only [initS,Nat.reduceAdd]
 repeat' first|refine yA1 o0 ?_|(refine yC2 o0 (h2) ?_)|(refine yD2 o0 (h2) ?_)|refine zW o0 ?_|refine yP o0 ?_|refine yN o0 ?_|refine zC o0 (fun hb=>?_) fun hb=>?_|refine zG o0 (fun hb=>?_) fun hb=>?_|refine zD o0 (fun hb=>?_) fun hb=>?_
 refine xT hC ?_
 exact .tup ⟨.c (.str _),.c (.str _),.c (.bool _),trivial⟩
theorem cutN_fa (s:BS) (b:UInt8) (hl:s.length≤1099511627776) (h:idxB b s=s.length):Fa Tryz.prog 162 [.c (.str (sB s)),.c (.str (sB [b]))] (.tup [.c (.str (sB s)),.c (.str (sB [])),.c (.bool false)]):=by
 have h1:=index1_fa s b
 rw [ixB_val,if_neg om] at h1
 have h2:Fa Tryz.prog 182 [.c (.str (sB s)),.c (.str (sB [b]))] (.tup [.c (.str (sB s)),.c (.str (sB [])),.c (.bool false)]):=by
  refine fa_of_body Tryz.func182 rfl rfl (by simp [Tryz.ntmps182]) fun C hC=> ?_
  simp only [initS,Nat.reduceAdd]
  repeat' first|refine yA1 o0 ?_|(refine yC2 o0 (h1) ?_)|(refine yD2 o0 (h1) ?_)|refine zW o0 ?_|refine yP o0 ?_|refine yN o0 ?_|refine zC o0 (fun hb=>?_) fun hb=>?_|refine zG o0 (fun hb=>?_) fun hb=>?_|refine zD o0 (fun hb=>?_) fun hb=>?_
  refine xT hC ?_
  exact .tup ⟨.c (.str _),.c (.str _),.c (.bool _),trivial⟩
 refine fa_of_body Tryz.func162 rfl rfl (by simp [Tryz.ntmps162]) fun C hC=> ?_
 simp only [initS,Nat.reduceAdd]
 repeat' first|refine yA1 o0 ?_|(refine yC2 o0 (h2) ?_)|(refine yD2 o0 (h2) ?_)|refine zW o0 ?_|refine yP o0 ?_|refine yN o0 ?_|refine zC o0 (fun hb=>?_) fun hb=>?_|refine zG o0 (fun hb=>?_) fun hb=>?_|refine zD o0 (fun hb=>?_) fun hb=>?_
 refine xT hC ?_
 exact .tup ⟨.c (.str _),.c (.str _),.c (.bool _),trivial⟩
theorem tvalue_fa (s:BS) (hl:s.length≤1099511627776):Fa Tryz.prog 144 [.c (.str (sB s))] (.tup [.agg (rdc (valR s)),.c (errA (valC s))]):=by
 by_cases h100:s.length>100
 ·have d1:decide (s.length>100)=true:=decide_eq_true h100
  have hc:valC s=4:=by unfold valC;rw [if_pos h100]
  have hr:valR s=rd0:=by unfold valR;rw [hc];rfl
  rw [hc,hr]
  refine fa_of_body Tryz.func144 rfl rfl (by simp [Tryz.ntmps144]) fun C hC=> ?_
  simp only [initS,Nat.reduceAdd]
  repeat' first|refine yA1 o0 ?_|refine zW o0 ?_|refine yP o0 ?_|refine yN o0 ?_|refine zC o0 (fun hb=>?_) fun hb=>?_|refine zG o0 (fun hb=>?_) fun hb=>?_|refine zD o0 (fun hb=>?_) fun hb=>?_
  refine xA fun g2 hn_g2=>?_
  all_goals try(have Z:=(oj hn_g2 d1);(repeat' first|refine yA1 Z ?_|refine zW Z ?_|refine yP Z ?_|refine yN Z ?_|refine zC Z (fun hb=>?_) fun hb=>?_|refine zG Z (fun hb=>?_) fun hb=>?_|refine zD Z (fun hb=>?_) fun hb=>?_);all_goals clear Z)
  refine yT hC (oj hn_g2 d1) ?_
  exact .tup ⟨.agg ⟨.bool _,.nils,.nils,trivial⟩,.c (ler_errN rfl (by decide)),trivial⟩
 have d1:decide (s.length>100)=false:=decide_eq_false h100
 have hw:=tnum_fa s 0 hl (Nat.zero_le _)
 cases hn:isNum s with
 |false=>
  have hc:valC s=2:=by unfold valC;rw [if_neg h100,if_pos hn]
  have hr:valR s=rd0:=by unfold valR;rw [hc];rfl
  rw [hc,hr]
  refine fa_of_body Tryz.func144 rfl rfl (by simp [Tryz.ntmps144]) fun C hC=> ?_
  simp only [initS,Nat.reduceAdd]
  repeat' first|refine yA1 o0 ?_|refine zW o0 ?_|refine yP o0 ?_|refine yN o0 ?_|refine zC o0 (fun hb=>?_) fun hb=>?_|refine zG o0 (fun hb=>?_) fun hb=>?_|refine zD o0 (fun hb=>?_) fun hb=>?_
  refine xA fun g2 hn_g2=>?_
  all_goals try(have Z:=(oj hn_g2 d1);(repeat' first|refine yA1 Z ?_|(refine yC2 Z (tdig_fa _) ?_)|(refine yD2 Z (tdig_fa _) ?_)|(refine yC2 Z (hw) ?_)|(refine yD2 Z (hw) ?_)|refine zW Z ?_|refine yP Z ?_|refine yN Z ?_|refine zC Z (fun hb=>?_) fun hb=>?_|refine zG Z (fun hb=>?_) fun hb=>?_|refine zD Z (fun hb=>?_) fun hb=>?_);all_goals clear Z)
  all_goals first
   |(exfalso
     unfold isNum at hn
     simp_all
     done)
   |(refine yT hC (oj hn_g2 d1) ?_
     exact .tup ⟨.agg ⟨.bool _,.nils,.nils,trivial⟩,.c (ler_errN rfl (by decide)),trivial⟩)
 |true=>
  obtain⟨hf,h0⟩:=num_form hn
  have hn':=hn
  unfold isNum at hn'
  simp only [Bool.and_eq_true,decide_eq_true_eq,beq_iff_eq] at hn'
  have f0:(s.length==0)=false:=by simpa using (show s.length≠0 from by omega)
  have f1:isDig (bAt s 0)=true:=hn'.1.2
  have f2:(numE s 0 !=s.length)=false:=by simpa using hn'.2
  have hc0:valC s=if idxB 47 s<s.length∧natB (s.drop (idxB 47 s+1))=0 then 8 else 0:=by unfold valC;rw [if_neg h100,if_neg (by rw [hn];decide)]
  have hA:∀t:BS,t.length≤s.length→(rd (natB t:Rat)).wf 1073741824∨True:=fun _ _=>.inr trivial
  by_cases hsl:idxB 47 s<s.length
  ·obtain⟨e,he,he1,hd1,hd2⟩:∃e,idxB 47 s=e∧e+1<s.length∧(∀i,i<e→isDig (bAt s i)=true)∧(∀i,e<i→i<s.length→isDig (bAt s i)=true):=by
    cases hf with
    |all h=>have:=(ix_all h).1;omega
    |two e he hm h1 h2=>
     rcases hm with hm|hm
     ·have:=(ix_point he hm h1 h2).1;omega
     ·exact⟨e,ix_slash he hm h1,he,h1,h2⟩
   have hcut:=cutY_fa s 47 hl hsl
   rw [he] at hcut hc0 hsl
   have ha:=twhole_fa (s.take e) (dig_take hd1) (by rw [List.length_take];omega)
   have hb:=twhole_fa (s.drop (e+1)) (dig_drop hd2) (by rw [List.length_drop];omega)
   have wa:(rd (natB (s.take e):Rat)).wf 1073741824:=rd_wf (fits_mono (by have:=natB_fits (s:=s.take e) (dig_take hd1) (Nat.le_refl _);rwa [List.take_length] at this) (by rw [List.length_take];omega))
   have wb:(rd (natB (s.drop (e+1)):Rat)).wf 1073741824:=rd_wf (fits_mono (by have:=natB_fits (s:=s.drop (e+1)) (dig_drop hd2) (Nat.le_refl _);rwa [List.take_length] at this) (by rw [List.length_drop];omega))
   by_cases hz:natB (s.drop (e+1))=0
   ·rw [if_pos ⟨hsl,hz⟩] at hc0
    have hr:valR s=rd0:=by unfold valR;rw [hc0];rfl
    have hd:=rdiv_zero _ _ wa wb (by rw [rd_q,hz];rfl)
    rw [hc0,hr]
    refine fa_of_body Tryz.func144 rfl rfl (by simp [Tryz.ntmps144]) fun C hC=> ?_
    simp only [initS,Nat.reduceAdd]
    repeat' first|refine yA1 o0 ?_|refine zW o0 ?_|refine yP o0 ?_|refine yN o0 ?_|refine zC o0 (fun hb=>?_) fun hb=>?_|refine zG o0 (fun hb=>?_) fun hb=>?_|refine zD o0 (fun hb=>?_) fun hb=>?_
    refine xA fun g2 hn_g2=>?_
    all_goals try(have Z:=(oj hn_g2 (oj d1 (oj f0 (oj f1 f2))));(repeat' first|refine yA1 Z ?_|(refine yC2 Z (tdig_fa _) ?_)|(refine yD2 Z (tdig_fa _) ?_)|(refine yC2 Z (hw) ?_)|(refine yD2 Z (hw) ?_)|(refine yC2 Z (hcut) ?_)|(refine yD2 Z (hcut) ?_)|(refine yC2 Z (ha) ?_)|(refine yD2 Z (ha) ?_)|(refine yC2 Z (hb) ?_)|(refine yD2 Z (hb) ?_)|(refine yC2 Z (hd) ?_)|(refine yD2 Z (hd) ?_)|refine zW Z ?_|refine yP Z ?_|refine yN Z ?_|refine zC Z (fun hb=>?_) fun hb=>?_|refine zG Z (fun hb=>?_) fun hb=>?_|refine zD Z (fun hb=>?_) fun hb=>?_);all_goals clear Z)
    refine yT hC (oj hn_g2 (oj d1 (oj f0 (oj f1 f2)))) ?_
    exact .tup ⟨.agg lerl_rd,.c ler_err,trivial⟩
   ·rw [if_neg (fun h=>hz h.2)] at hc0
    have hr:valR s=rd (valQ s):=by unfold valR;rw [if_pos hc0]
    have hq:valQ s=(natB (s.take e):Rat)/(natB (s.drop (e+1)):Rat):=by unfold valQ;rw [he,if_pos hsl]
    have hd:=rdiv_fa _ _ wa wb (by rw [rd_q];simpa using hz)
    rw [rd_q,rd_q,←hq,←hr] at hd
    rw [hc0]
    refine fa_of_body Tryz.func144 rfl rfl (by simp [Tryz.ntmps144]) fun C hC=> ?_
    simp only [initS,Nat.reduceAdd]
    repeat' first|refine yA1 o0 ?_|refine zW o0 ?_|refine yP o0 ?_|refine yN o0 ?_|refine zC o0 (fun hb=>?_) fun hb=>?_|refine zG o0 (fun hb=>?_) fun hb=>?_|refine zD o0 (fun hb=>?_) fun hb=>?_
    refine xA fun g2 hn_g2=>?_
    all_goals try(have Z:=(oj hn_g2 (oj d1 (oj f0 (oj f1 f2))));(repeat' first|refine yA1 Z ?_|(refine yC2 Z (tdig_fa _) ?_)|(refine yD2 Z (tdig_fa _) ?_)|(refine yC2 Z (hw) ?_)|(refine yD2 Z (hw) ?_)|(refine yC2 Z (hcut) ?_)|(refine yD2 Z (hcut) ?_)|(refine yC2 Z (ha) ?_)|(refine yD2 Z (ha) ?_)|(refine yC2 Z (hb) ?_)|(refine yD2 Z (hb) ?_)|(refine yC2 Z (hd) ?_)|(refine yD2 Z (hd) ?_)|refine zW Z ?_|refine yP Z ?_|refine yN Z ?_|refine zC Z (fun hb=>?_) fun hb=>?_|refine zG Z (fun hb=>?_) fun hb=>?_|refine zD Z (fun hb=>?_) fun hb=>?_);all_goals clear Z)
    refine yT hC (oj hn_g2 (oj d1 (oj f0 (oj f1 f2)))) ?_
    exact .tup ⟨.agg lerl_rd,.c (ler_err0 rfl),trivial⟩
  ·have hcutN:=cutN_fa s 47 hl (by have:=idxB_le 47 s;omega)
   obtain⟨hda,hdb,hcut⟩:(∀i,i<(s.take (idxB 46 s)).length→isDig (bAt (s.take (idxB 46 s)) i)=true)∧(∀i,i<(s.drop (idxB 46 s+1)).length→isDig (bAt (s.drop (idxB 46 s+1)) i)=true)∧∃b,Fa Tryz.prog 162 [.c (.str (sB s)),.c (.str (sB [46]))] (.tup [.c (.str (sB (s.take (idxB 46 s)))),.c (.str (sB (s.drop (idxB 46 s+1)))),.c (.bool b)]):=by
    cases hf with
    |all h=>
     have h2:=(ix_all h).2
     have:=cutN_fa s 46 hl h2
     rw [h2,List.take_length,List.drop_of_length_le om]
     exact⟨h,fun i hi=>absurd hi (by simp),_,this⟩
    |two e he hm h1 h2=>
     rcases hm with hm|hm
     ·have h3:=(ix_point he hm h1 h2).2
      have:=cutY_fa s 46 hl om
      rw [h3] at this⊢
      exact⟨dig_take h1,dig_drop h2,_,this⟩
     ·have:=ix_slash he hm h1;omega
   obtain⟨bx,hcut⟩:=hcut
   rw [if_neg (fun h=>hsl h.1)] at hc0
   have hr:valR s=rd (valQ s):=by unfold valR;rw [if_pos hc0]
   have hq:valQ s=(natB (s.take (idxB 46 s)++s.drop (idxB 46 s+1)):Rat)/((10^(s.drop (idxB 46 s+1)).length:Nat):Rat):=by unfold valQ;rw [if_neg hsl]
   have hla:(s.take (idxB 46 s)).length≤100:=by rw [List.length_take];omega
   have hlb:(s.drop (idxB 46 s+1)).length≤100:=by rw [List.length_drop];omega
   generalize s.take (idxB 46 s)=a at*
   generalize s.drop (idxB 46 s+1)=b at*
   have hab:∀i,i<(a++b).length→isDig (bAt (a++b) i)=true:=fun i hi=>by
    by_cases h:i<a.length
    ·have:=hda i h
     unfold bAt at this⊢
     rw [List.getD_eq_getElem?_getD] at this⊢
     rwa [List.getElem?_append_left h]
    ·have:=hdb (i-a.length) (by rw [List.length_append] at hi;omega)
     unfold bAt at this⊢
     rw [List.getD_eq_getElem?_getD] at this⊢
     rwa [List.getElem?_append_right om]
   have hw2:=twhole_fa (a++b) hab (by rw [List.length_append];omega)
   have fab:fits (natB (a++b):Rat) ((a++b).length+1):=by have:=natB_fits (s:=a++b) hab (Nat.le_refl _);rwa [List.take_length] at this
   have wab:(rd (natB (a++b):Rat)).wf 1073741824:=rd_wf (fits_mono fab (by rw [List.length_append];omega))
   have f10:∀k,k≤100→fits ((10^k:Nat):Rat) (k+1):=fun k _=>nat_fits (pow10_lt k) om
   have w10:∀k,k≤100→(rd ((10^k:Nat):Rat)).wf 1073741824:=fun k hk=>rd_wf (fits_mono (f10 k hk) om)
   have h1:=rof_fa 1 om om
   have h10:=rof_fa 10 om om
   have hd:=rdiv_fa _ _ wab (w10 b.length hlb) (by rw [rd_q];exact pow10_ne _)
   rw [rd_q,rd_q,←hq,←hr] at hd
   rw [hc0]
   refine fa_of_body Tryz.func144 rfl rfl (by simp [Tryz.ntmps144]) fun C hC=> ?_
   simp only [initS,Nat.reduceAdd]
   repeat' first|refine yA1 o0 ?_|refine zW o0 ?_|refine yP o0 ?_|refine yN o0 ?_|refine zC o0 (fun hb=>?_) fun hb=>?_|refine zG o0 (fun hb=>?_) fun hb=>?_|refine zD o0 (fun hb=>?_) fun hb=>?_
   refine xA fun g2 hn_g2=>?_
   all_goals try(have Z:=(oj hn_g2 (oj d1 (oj f0 (oj f1 f2))));(repeat' first|refine yA1 Z ?_|(refine yC2 Z (tdig_fa _) ?_)|(refine yD2 Z (tdig_fa _) ?_)|(refine yC2 Z (hw) ?_)|(refine yD2 Z (hw) ?_)|(refine yC2 Z (hcutN) ?_)|(refine yD2 Z (hcutN) ?_)|(refine yC2 Z (hcut) ?_)|(refine yD2 Z (hcut) ?_)|(refine yC2 Z (h1) ?_)|(refine yD2 Z (h1) ?_)|refine zW Z ?_|refine yP Z ?_|refine yN Z ?_|refine zC Z (fun hb=>?_) fun hb=>?_|refine zG Z (fun hb=>?_) fun hb=>?_|refine zD Z (fun hb=>?_) fun hb=>?_);all_goals clear Z)
   refine yA (oj hn_g2 (oj d1 (oj f0 (oj f1 f2)))) fun g10 hn_g10=>?_
   all_goals try(have Z:=(oj hn_g2 (oj d1 (oj f0 (oj f1 (oj f2 hn_g10)))));(repeat' first|refine yA1 Z ?_|refine zW Z ?_|refine yP Z ?_|refine yN Z ?_|refine zC Z (fun hb=>?_) fun hb=>?_|refine zG Z (fun hb=>?_) fun hb=>?_|refine zD Z (fun hb=>?_) fun hb=>?_);all_goals clear Z)
   refine aw_lp (fun x:Nat=>[(0,.c (.str (sB s))),(2,.c (.optr g2 0)),(3,.c .nilI),(7,.c (.str (sB a))),(8,.c (.str (sB b))),(10,.c (.optr g10 0)),(56,.c (.int .i64 b.length)),(57,.c (.int .i64 x))]) (fun x=>[(g10,.cells 59 3 (ofL (rdc (rd ((10^x:Nat):Rat))))),(g2,.cells 59 3 (ofL [.bool false,.nils,.nils]))]) (fun x=>x≤b.length) (fun x=>b.length-x) 0 (zB (oj hn_g2 (oj d1 (oj f0 (oj f1 (oj f2 hn_g10)))))) (by rw [show((10^0:Nat):Rat)=((1:Int):Rat) from by simp];exact List.Sublist.refl _) (Nat.zero_le _) ?_
   rintro x hx
   all_goals try(have Z:=(oj hn_g2 (oj d1 (oj f0 (oj f1 (oj f2 hn_g10)))));(repeat' first|refine yA1 Z ?_|refine zW Z ?_|refine yP Z ?_|refine yN Z ?_|refine zC Z (fun hb=>?_) fun hb=>?_|refine zG Z (fun hb=>?_) fun hb=>?_|refine zD Z (fun hb=>?_) fun hb=>?_);all_goals clear Z)
   ·have hm:=rmul_fa _ _ (w10 x om) (show(rd ((10:Int):Rat)).wf 1073741824 from rd_wf (fits_mono (fitsZ (by decide)) om))
    rw [rd_q,rd_q,show((10^x:Nat):Rat)*((10:Int):Rat)=((10^(x+1):Nat):Rat) from by rw [Nat.pow_succ];push_cast;rfl] at hm
    refine aw_dr 3 ty_mixed (by kernel_rfl) ?_
    all_goals try(have Z:=(oj hn_g2 (oj d1 (oj f0 (oj f1 (oj f2 hn_g10)))));(repeat' first|refine yA1 Z ?_|(refine yC2 Z (h10) ?_)|(refine yD2 Z (h10) ?_)|(refine yC2 Z (hm) ?_)|(refine yD2 Z (hm) ?_)|refine zW Z ?_|refine yP Z ?_|refine yN Z ?_|refine zC Z (fun hb=>?_) fun hb=>?_|refine zG Z (fun hb=>?_) fun hb=>?_|refine zD Z (fun hb=>?_) fun hb=>?_);all_goals clear Z)
    exact aw_stop ⟨x+1,by omega,(zB (oj hn_g2 (oj d1 (oj f0 (oj f1 (oj f2 hn_g10)))))),List.Sublist.refl _,by omega⟩
   ·obtain rfl:x=b.length:=by omega
    refine aw_dr 8 ty_mixed (by kernel_rfl) ?_
    all_goals try(have Z:=(oj hn_g2 (oj d1 (oj f0 (oj f1 (oj f2 hn_g10)))));(repeat' first|refine yA1 Z ?_|(refine yC2 Z (hw2) ?_)|(refine yD2 Z (hw2) ?_)|(refine yC2 Z (hd) ?_)|(refine yD2 Z (hd) ?_)|refine zW Z ?_|refine yP Z ?_|refine yN Z ?_|refine zC Z (fun hb=>?_) fun hb=>?_|refine zG Z (fun hb=>?_) fun hb=>?_|refine zD Z (fun hb=>?_) fun hb=>?_);all_goals clear Z)
    refine yT hC (oj hn_g2 (oj d1 (oj f0 (oj f1 (oj f2 hn_g10))))) ?_
    exact .tup ⟨.agg lerl_rd,.c (ler_err0 rfl),trivial⟩
end Go.Proofs.YteocnikcjjonbaaGreat
namespace Go.PN
open Go.AI
structure RAt (L:List TX) (s:PS) (a:Nat):Prop where
 le:a≤L.length
 nil:¬a<L.length→s.l=[]
 cons:a<L.length→∃l,s.l=(L.getD a tx0).t::l∧L.length-l.length=a+1
theorem rat {L:List TX} {s:PS} (hs:s.l<:+L.map TX.t):RAt L s (L.length-s.l.length):=by
 have hl:=hs.length_le
 rw [List.length_map] at hl
 refine⟨by omega,fun h=>List.length_eq_zero_iff.1 om,fun h=> ?_⟩
 cases hc:s.l with
 |nil=>rw [hc] at h;simp at h
 |cons t l=>
  rw [hc] at hl hs
  rw [List.length_cons] at hl
  refine⟨l,?_,by rw [List.length_cons];omega⟩
  obtain⟨p,hp⟩:=hs
  have hpl:p.length=L.length-(t::l).length:=by
   have:=congrArg List.length hp
   rw [List.length_append,List.length_map] at this
   omega
  have hlt:p.length<L.length:=by rw [List.length_cons] at hpl;omega
  have hg:(L.map TX.t)[p.length]?=some t:=by rw [←hp,List.getElem?_append_right (Nat.le_refl _)];simp
  rw [List.getElem?_map,List.getElem?_eq_getElem hlt] at hg
  rw [←hpl,List.getD_eq_getElem?_getD,List.getElem?_eq_getElem hlt]
  simp only [Option.map_some,Option.some.injEq] at hg
  rw [Option.getD_some,hg]
end Go.PN
namespace Go.Proofs.YteocnikcjjonbaaGreat
open Go.AI Go.PN
abbrev rdA (L:List TX) (a:Nat) (e:Int):AObj:=.cells 82 3 (ofL [txs true L,.int .i64 a,errA e])
abbrev rdO (L:List TX) (s:PS):AObj:=rdA L (L.length-s.l.length) s.e
attribute [local irreducible] aw Fa Fh DrK
theorem is_fg (g:Nat) (L:List TX) (s:PS) (w:BS) (hs:s.l<:+L.map TX.t) (hL:L.length≤1099511627776):Fg Tryz.prog 29 g (rdO L s) [.c (.optr g 0),.c (.str (sB w))] (.c (.bool (isS s w))) (rdO L s):=by
 have h:=rat hs
 generalize ha:L.length-s.l.length=a at h
 have hle:=h.le
 unfold Fg
 rw [show rdO L s=rdA L a s.e from by unfold rdO;rw [ha]]
 refine fh_of_body Tryz.func29 rfl rfl (by simp [Tryz.ntmps29]) fun C hC=> ?_
 simp only [initS,Nat.reduceAdd]
 repeat' first|refine yA1 o0 ?_|refine zW o0 ?_|refine yP o0 ?_|refine yN o0 ?_|refine zC o0 (fun hb=>?_) fun hb=>?_|refine zG o0 (fun hb=>?_) fun hb=>?_|refine zD o0 (fun hb=>?_) fun hb=>?_
 refine aw_dr 47 ty_mixed (by kernel_rfl) ?_
 repeat' first|refine yA1 o0 ?_|refine zW o0 ?_|refine yP o0 ?_|refine yN o0 ?_|refine zC o0 (fun hb=>?_) fun hb=>?_|refine zG o0 (fun hb=>?_) fun hb=>?_|refine zD o0 (fun hb=>?_) fun hb=>?_
 all_goals
  refine xU ?_
  refine⟨?_,rfl⟩
 ·rename_i h0 h1
  obtain⟨l',hl,_⟩:=h.cons h1
  rw [is_cons h0 hl,bne_iff_ne.2 hb,Bool.true_and]
 ·rename_i h0 h1
  obtain⟨l',hl,_⟩:=h.cons h1
  rw [is_cons h0 hl,hb];rfl
 ·rw [is_nil (h.nil hb)]
 ·rw [show isS s w=false from by unfold isS;simp [hb]]
theorem kind_fg (g:Nat) (L:List TX) (s:PS) (k:Nat) (hs:s.l<:+L.map TX.t) (hL:L.length≤1099511627776):Fg Tryz.prog 62 g (rdO L s) [.c (.optr g 0),.c (.int .i64 k)] (.c (.bool (kindS s k))) (rdO L s):=by
 have h:=rat hs
 generalize ha:L.length-s.l.length=a at h
 have hle:=h.le
 unfold Fg
 rw [show rdO L s=rdA L a s.e from by unfold rdO;rw [ha]]
 refine fh_of_body Tryz.func62 rfl rfl (by simp [Tryz.ntmps62]) fun C hC=> ?_
 simp only [initS,Nat.reduceAdd]
 repeat' first|refine yA1 o0 ?_|refine zW o0 ?_|refine yP o0 ?_|refine yN o0 ?_|refine zC o0 (fun hb=>?_) fun hb=>?_|refine zG o0 (fun hb=>?_) fun hb=>?_|refine zD o0 (fun hb=>?_) fun hb=>?_
 refine aw_dr 33 ty_mixed (by kernel_rfl) ?_
 repeat' first|refine yA1 o0 ?_|refine zW o0 ?_|refine yP o0 ?_|refine yN o0 ?_|refine zC o0 (fun hb=>?_) fun hb=>?_|refine zG o0 (fun hb=>?_) fun hb=>?_|refine zD o0 (fun hb=>?_) fun hb=>?_
 all_goals
  refine xU ?_
  refine⟨?_,rfl⟩
 ·rename_i h0
  obtain⟨l',hl,_⟩:=h.cons hb
  rw [kind_cons h0 hl]
 ·rw [kind_nil (h.nil hb)]
 ·rw [show kindS s k=false from by unfold kindS;simp [hb]]
theorem errA_ne {c:Int} (h:c≠0):errA c=.ifc 51 (.int .i64 c):=by unfold errA errC;rw [if_neg h]
theorem fail_fg (g:Nat) (L:List TX) (s:PS) (c:Int) (hc:c≠0):Fg Tryz.prog 68 g (rdO L s) [.c (.optr g 0),.c (.ifc 51 (.int .i64 c))] (.tup []) (rdO L (failS c s)):=by
 generalize ha:L.length-s.l.length=a
 unfold Fg
 rw [show rdO L s=rdA L a s.e from by unfold rdO;rw [ha]]
 refine fh_of_body Tryz.func68 rfl rfl (by simp [Tryz.ntmps68]) fun C hC=> ?_
 simp only [initS,Nat.reduceAdd]
 repeat' first|refine yA1 o0 ?_|refine zW o0 ?_|refine yP o0 ?_|refine yN o0 ?_|refine zC o0 (fun hb=>?_) fun hb=>?_|refine zG o0 (fun hb=>?_) fun hb=>?_|refine zD o0 (fun hb=>?_) fun hb=>?_
 ·refine xV ?_
  refine⟨rfl,?_⟩
  unfold failS
  rw [if_pos hb]
  show _=[(g,AObj.cells 82 3 (ofL [txs true L,.int .i64 (L.length-s.l.length:Nat),errA c]))]
  rw [ha,errA_ne hc]
 ·refine xV ?_
  refine⟨rfl,?_⟩
  unfold failS
  rw [if_neg hb,←ha]
theorem ha_of {L:List TX} {s:PS} {a:Nat} (ha:L.length-s.l.length=a):rdO L s=rdA L a s.e:=by unfold rdO;rw [ha]
theorem take_fg (g:Nat) (L:List TX) (s:PS) (m:Bool) (hs:s.l<:+L.map TX.t) (hL:L.length≤1099511627776):Fg Tryz.prog 61 g (rdO L s) [.c (.optr g 0),.c (.bool m)] (.c (.str (sB (takeS m s).1))) (rdO L (takeS m s).2):=by
 have h:=rat hs
 have f1:=fail_fg g L s 20 (by decide)
 have f2:=fail_fg g L s 2 (by decide)
 generalize ha:L.length-s.l.length=a at h
 have hle:=h.le
 unfold Fg
 rw [ha_of ha]
 rw [ha_of ha] at f1 f2
 refine fh_of_body Tryz.func61 rfl rfl (by simp [Tryz.ntmps61]) fun C hC=> ?_
 simp only [initS,Nat.reduceAdd]
 repeat' first|refine yA1 o0 ?_|(refine zg o0 (f1) ?_)|(refine zg o0 (f2) ?_)|refine zW o0 ?_|refine yP o0 ?_|refine yN o0 ?_|refine zC o0 (fun hb=>?_) fun hb=>?_|refine zG o0 (fun hb=>?_) fun hb=>?_|refine zD o0 (fun hb=>?_) fun hb=>?_
 ·have h0:s.e≠0:=by simpa using hb
  have ht:takeS m s=([],s):=by unfold takeS;rw [if_neg h0]
  refine xU ?_
  rw [ht,←ha_of ha]
  exact⟨rfl,rfl⟩
 have h0:s.e=0:=by simpa using hb
 refine aw_dr 11 ty_mixed (by kernel_rfl) ?_
 repeat' first|refine yA1 o0 ?_|(refine zg o0 (f1) ?_)|(refine zg o0 (f2) ?_)|refine zW o0 ?_|refine yP o0 ?_|refine yN o0 ?_|refine zC o0 (fun hb=>?_) fun hb=>?_|refine zG o0 (fun hb=>?_) fun hb=>?_|refine zD o0 (fun hb=>?_) fun hb=>?_
 ·have hl:s.l=[]:=h.nil om
  have ht:takeS m s=([],⟨[],20⟩):=take_nil h0 hl
  refine xU ?_
  rw [ht]
  refine⟨rfl,?_⟩
  unfold failS
  rw [if_pos h0,hl]
 ·rename_i h1
  have hm:m=false:=by simpa using hb
  obtain⟨l',hl,hl'⟩:=h.cons om
  have ht:=take_cons (m:=m) h0 hl
  rw [hm] at ht
  refine xU ?_
  rw [hm,ht]
  refine⟨rfl,?_⟩
  unfold failS
  rw [if_pos h0,hl];rfl
 ·rename_i h1
  have hm:m=true:=by simpa using hb
  obtain⟨l',hl,hl'⟩:=h.cons om
  have ht:=take_cons (m:=m) h0 hl
  rw [hm] at ht
  have e1:((a:Int)+1-1).toNat=a:=by omega
  refine aw_dr 13 ty_mixed (by kernel_rfl) ?_
  repeat' first|refine yA1 e1 ?_|refine zW e1 ?_|refine yP e1 ?_|refine yN e1 ?_|refine zC e1 (fun hb=>?_) fun hb=>?_|refine zG e1 (fun hb=>?_) fun hb=>?_|refine zD e1 (fun hb=>?_) fun hb=>?_
  refine yU e1 ?_
  rw [hm,ht]
  refine⟨rfl,?_⟩
  show _=[(g,AObj.cells 82 3 (ofL [txs true L,.int .i64 (L.length-l'.length:Nat),errA 0]))]
  rw [hl',h0];rfl
end Go.Proofs.YteocnikcjjonbaaGreat
namespace Go.Proofs.YteocnikcjjonbaaGreat
open Go.AI Go.PN
attribute [local irreducible] aw Fa Fh DrK
theorem expect_fg (g:Nat) (L:List TX) (s:PS) (w:BS) (hs:s.l<:+L.map TX.t) (hL:L.length≤1099511627776):Fg Tryz.prog 27 g (rdO L s) [.c (.optr g 0),.c (.str (sB w))] (.tup []) (rdO L (expS w s)):=by
 have f1:=is_fg g L s w hs hL
 have f2:=take_fg g L s (isS s w) hs hL
 unfold Fg
 refine fh_of_body Tryz.func27 rfl rfl (by simp [Tryz.ntmps27]) fun C hC=> ?_
 simp only [initS,Nat.reduceAdd]
 repeat' first|refine yA1 o0 ?_|(refine zg o0 (f1) ?_)|(refine zg o0 (f2) ?_)|refine zW o0 ?_|refine yP o0 ?_|refine yN o0 ?_|refine zC o0 (fun hb=>?_) fun hb=>?_|refine zG o0 (fun hb=>?_) fun hb=>?_|refine zD o0 (fun hb=>?_) fun hb=>?_
 refine xV ?_
 exact⟨rfl,rfl⟩
theorem word_fg (g:Nat) (L:List TX) (s:PS) (hs:s.l<:+L.map TX.t) (hL:L.length≤1099511627776):Fg Tryz.prog 28 g (rdO L s) [.c (.optr g 0)] (.c (.str (sB (wordS s).1))) (rdO L (wordS s).2):=by
 have f1:=kind_fg g L s 0 hs hL
 have f2:=take_fg g L s (kindS s 0) hs hL
 unfold Fg
 refine fh_of_body Tryz.func28 rfl rfl (by simp [Tryz.ntmps28]) fun C hC=> ?_
 simp only [initS,Nat.reduceAdd]
 repeat' first|refine yA1 o0 ?_|(refine zg o0 (f1) ?_)|(refine zg o0 (f2) ?_)|refine zW o0 ?_|refine yP o0 ?_|refine yN o0 ?_|refine zC o0 (fun hb=>?_) fun hb=>?_|refine zG o0 (fun hb=>?_) fun hb=>?_|refine zD o0 (fun hb=>?_) fun hb=>?_
 refine xU ?_
 exact⟨rfl,rfl⟩
theorem input_fg (g:Nat) (L:List TX) (s:PS) (hs:s.l<:+L.map TX.t) (hL:L.length≤1099511627776) (hw:∀t∈L,t.t.text.length≤1099511627776):Fg Tryz.prog 31 g (rdO L s) [.c (.optr g 0)] (.c (.str (sB (inputS s).1))) (rdO L (inputS s).2):=by
 have f1:=is_fg g L s kAt hs hL
 have f2:=expect_fg g L s kAt hs hL
 have f3:=word_fg g L s hs hL
 have f4:=word_fg g L (expS kAt s) (((rdr_exp kAt).suf s).trans hs) hL
 have hlen:(wordS (expS kAt s)).1.length≤1099511627776:=by
  unfold wordS takeS
  split
  ·split
   ·simp
   ·rename_i t l hl
    split
    ·have hm:t∈L.map TX.t:=(((rdr_exp kAt).suf s).trans hs).subset (by show t∈(expS kAt s).l;rw [hl];exact List.mem_cons_self)
     obtain⟨x,hx,rfl⟩:=List.mem_map.1 hm
     exact hw x hx
    ·simp
  ·simp
 unfold Fg
 unfold inputS
 refine fh_of_body Tryz.func31 rfl rfl (by simp [Tryz.ntmps31]) fun C hC=> ?_
 simp only [initS,Nat.reduceAdd]
 repeat' first|refine yA1 o0 ?_|(refine zg o0 (f1) ?_)|(refine zg o0 (f2) ?_)|(refine zg o0 (f3) ?_)|(refine zg o0 (f4) ?_)|refine zW o0 ?_|refine yP o0 ?_|refine yN o0 ?_|refine zC o0 (fun hb=>?_) fun hb=>?_|refine zG o0 (fun hb=>?_) fun hb=>?_|refine zD o0 (fun hb=>?_) fun hb=>?_
 ·refine xU ?_
  rw [if_pos hb]
  exact⟨rfl,rfl⟩
 ·refine xU ?_
  rw [if_neg (by rw [hb];decide)]
  exact⟨rfl,rfl⟩
theorem gkind_fa (w:BS):Fa Tryz.prog 106 [.c (.str (sB w))] (.tup [.c (.int .i64 ((gkind w).getD 0)),.c (.bool (gkind w).isSome)]):=by
 unfold gkind
 refine fa_of_body Tryz.func106 rfl rfl (by simp [Tryz.ntmps106]) fun C hC=> ?_
 simp only [initS,Nat.reduceAdd]
 repeat' first|refine yA1 o0 ?_|refine zW o0 ?_|refine yP o0 ?_|refine yN o0 ?_|refine zC o0 (fun hb=>?_) fun hb=>?_|refine zG o0 (fun hb=>?_) fun hb=>?_|refine zD o0 (fun hb=>?_) fun hb=>?_
 all_goals
  refine xT hC ?_
  refine .tup ⟨.c (ler_int ?_),.c (ler_bool ?_),trivial⟩
  all_goals simp_all
theorem number_fg (g:Nat) (L:List TX) (s:PS) (hs:s.l<:+L.map TX.t) (hL:L.length≤1099511627776) (hw:∀t∈L,t.t.text.length≤1099511627776):Fg Tryz.prog 108 g (rdO L s) [.c (.optr g 0)] (.agg (rdc (numS s).1)) (rdO L (numS s).2):=by
 have f1:=kind_fg g L s 1 hs hL
 have f2:=take_fg g L s (kindS s 1) hs hL
 have hlen:(takeS (kindS s 1) s).1.length≤1099511627776:=by
  unfold takeS
  split
  ·split
   ·simp
   ·rename_i t l hl
    split
    ·have hm:t∈L.map TX.t:=hs.subset (by rw [hl];exact List.mem_cons_self)
     obtain⟨x,hx,rfl⟩:=List.mem_map.1 hm
     exact hw x hx
    ·simp
  ·simp
 have f3:=tvalue_fa (takeS (kindS s 1) s).1 hlen
 unfold Fg
 unfold numS
 dsimp only
 generalize hr:takeS (kindS s 1) s=r at*
 obtain⟨t,s1⟩:=r
 dsimp only at*
 refine fh_of_body Tryz.func108 rfl rfl (by simp [Tryz.ntmps108]) fun C hC=> ?_
 simp only [initS,Nat.reduceAdd]
 repeat' first|refine yA1 o0 ?_|refine zW o0 ?_|refine yP o0 ?_|refine yN o0 ?_|refine zC o0 (fun hb=>?_) fun hb=>?_|refine zG o0 (fun hb=>?_) fun hb=>?_|refine zD o0 (fun hb=>?_) fun hb=>?_
 refine xA fun g2 hn_g2=>?_
 repeat' first|refine yA1 hn_g2 ?_|(refine zg hn_g2 (f1) ?_)|(refine zg hn_g2 (f2) ?_)|(refine yC2 hn_g2 (f3) ?_)|(refine yD2 hn_g2 (f3) ?_)|refine zW hn_g2 ?_|refine yP hn_g2 ?_|refine yN hn_g2 ?_|refine zC hn_g2 (fun hb=>?_) fun hb=>?_|refine zG hn_g2 (fun hb=>?_) fun hb=>?_|refine zD hn_g2 (fun hb=>?_) fun hb=>?_
 ·have h0:s1.e≠0:=by simpa using hb
  refine aw_convR (f':=ofL (rdc rd0)) zero_cells ?_
  refine aw_rethw (h':=[(g,rdO L s1)]) rfl (by first|exact List.Sublist.refl _|exact .cons _ (.refl _)|exact .cons _ (.cons _ (.refl _))|exact .cons _ (.cons _ (.cons _ (.refl _)))) fun R r=>?_;simp only[go_sem,hn_g2];refine r _ rfl ?_;clear r R
  rw [if_neg h0]
  exact⟨rfl,rfl⟩
 have h0:s1.e=0:=by simpa using hb
 refine yA hn_g2 fun g4 hn_g4=>?_
 all_goals try(have Z:=(oj hn_g2 hn_g4);(repeat' first|refine yA1 Z ?_|refine zW Z ?_|refine yP Z ?_|refine yN Z ?_|refine zC Z (fun hb=>?_) fun hb=>?_|refine zG Z (fun hb=>?_) fun hb=>?_|refine zD Z (fun hb=>?_) fun hb=>?_);all_goals clear Z)
 ·have hv:valC t≠0:=by simpa using hb
  have f4:=fail_fg g L s1 (valC t) hv
  rw [←errA_ne hv] at f4
  all_goals try(have Z:=(oj hn_g2 hn_g4);(repeat' first|refine yA1 Z ?_|(refine zg Z (f4) ?_)|refine zW Z ?_|refine yP Z ?_|refine yN Z ?_|refine zC Z (fun hb=>?_) fun hb=>?_|refine zG Z (fun hb=>?_) fun hb=>?_|refine zD Z (fun hb=>?_) fun hb=>?_);all_goals clear Z)
  refine aw_rethw (h':=[(g,rdO L (failS (valC t) s1))]) rfl (by first|exact List.Sublist.refl _|exact .cons _ (.refl _)|exact .cons _ (.cons _ (.refl _))|exact .cons _ (.cons _ (.cons _ (.refl _)))) fun R r=>?_;simp only[go_sem,hn_g2,hn_g4];refine r _ rfl ?_;clear r R
  rw [if_pos h0,if_neg hv]
  unfold failS
  rw [if_pos h0]
  exact⟨rfl,rfl⟩
 ·have hv:valC t=0:=by simpa using hb
  refine aw_rethw (h':=[(g,rdO L s1)]) rfl (by first|exact List.Sublist.refl _|exact .cons _ (.refl _)|exact .cons _ (.cons _ (.refl _))|exact .cons _ (.cons _ (.cons _ (.refl _)))) fun R r=>?_;simp only[go_sem,hn_g2,hn_g4];refine r _ rfl ?_;clear r R
  rw [if_pos h0,if_pos hv]
  exact⟨rfl,rfl⟩
end Go.Proofs.YteocnikcjjonbaaGreat
namespace Go.PN
open Go.AI
theorem wdA (n:Nat):(words n).getD 0 0=n%4294967296:=by
 by_cases h:n=0
 ·subst h;rw [words_zero];rfl
 ·rw [words_cons om];rfl
theorem wdB (n:Nat):(words n).getD 1 0=n/4294967296%4294967296:=by
 by_cases h:n=0
 ·subst h;rw [words_zero];rfl
 ·rw [words_cons om]
  show(words (n/4294967296)).getD 0 0=_
  exact wdA _
theorem RD.q_nd {r:RD} {L:Nat} (hw:r.wf L):r.q.den=r.pd∧r.q.num=sgn r.ps r.pn:=by
 have hd:=RD.pd_ne hw
 have hg:(sgn r.ps r.pn).natAbs.gcd r.pd=1:=by
  rw [sgn_abs]
  unfold RD.pn RD.pd
  cases hs:r.some with
  |true=>simp only [if_true];exact(RD.some_spec hw hs).2.2.2.2
  |false=>simp
 obtain⟨h1,h2⟩:=mkRat_nd (n:=sgn r.ps r.pn) hd
 rw [hg] at h1 h2
 exact⟨by unfold RD.q sq;rw [h2];simp,by unfold RD.q sq;rw [h1];simp⟩
end Go.PN
namespace Go.Proofs.YteocnikcjjonbaaGreat
open Go.AI Go.PN
attribute [local irreducible] aw Fa Fh DrK
theorem bits63 (n:Nat):decide (bitlen n>63)= !decide (n<9223372036854775808):=by
 by_cases h:n<9223372036854775808
 ·have:=bitlen_lt (x:=n) (k:=63) om
  rw [decide_eq_true h,decide_eq_false om];rfl
 ·have h1:=bitlen_div (x:=n) (k:=63) om
  have h2:bitlen (n/2^63)≠0:=fun e=>by
   have:=bitlen_zero.1 e
   omega
  rw [decide_eq_false h,decide_eq_true om];rfl
theorem join63 {n:Nat} (h:n<9223372036854775808):wrapZ .i64 (orZ .u64 ((n%4294967296:Nat):Int) (shlZ .u64 ((n/4294967296%4294967296:Nat):Int) 32))=(n:Int):=by
 rw [shl_u64_32 _ om,or_u64_join' _ _ om om]
 rw [wrapZ_eq,wrap_inRange (by simp only [inRange];omega)]
 omega
theorem nint_fa (n:Nat) (hn:(words n).length≤68719476736):Fa Tryz.prog 161 [.c (ws false (words n))] (.tup [.c (.int .i64 (if n<9223372036854775808 then n else 0)),.c (.bool (decide (n<9223372036854775808)))]):=by
 have h1:=bitsW n hn
 have h2:=word_fa (words n) 0 (words_lt _)
 have h3:=word_fa (words n) 1 (words_lt _)
 rw [wdA] at h2
 rw [wdB] at h3
 have hb:=bits63 n
 by_cases h:n<9223372036854775808
 ·have hj:=join63 h
  rw [if_pos h,decide_eq_true h]
  rw [decide_eq_true h] at hb
  refine fa_of_body Tryz.func161 rfl rfl (by simp [Tryz.ntmps161]) fun C hC=> ?_
  simp only [initS,Nat.reduceAdd]
  all_goals try(have Z:=(oj hb hj);(repeat' first|refine yA1 Z ?_|(refine yC2 Z (h1) ?_)|(refine yD2 Z (h1) ?_)|(refine yC2 Z (h2) ?_)|(refine yD2 Z (h2) ?_)|(refine yC2 Z (h3) ?_)|(refine yD2 Z (h3) ?_)|refine zW Z ?_|refine yP Z ?_|refine yN Z ?_|refine zC Z (fun hb=>?_) fun hb=>?_|refine zG Z (fun hb=>?_) fun hb=>?_|refine zD Z (fun hb=>?_) fun hb=>?_);all_goals clear Z)
  refine yT hC (oj hb hj) ?_
  exact .tup ⟨.c (.int _ _),.c (.bool _),trivial⟩
 ·rw [if_neg h,decide_eq_false h]
  rw [decide_eq_false h] at hb
  refine fa_of_body Tryz.func161 rfl rfl (by simp [Tryz.ntmps161]) fun C hC=> ?_
  simp only [initS,Nat.reduceAdd]
  repeat' first|refine yA1 hb ?_|(refine yC2 hb (h1) ?_)|(refine yD2 hb (h1) ?_)|(refine yC2 hb (h2) ?_)|(refine yD2 hb (h2) ?_)|(refine yC2 hb (h3) ?_)|(refine yD2 hb (h3) ?_)|refine zW hb ?_|refine yP hb ?_|refine yN hb ?_|refine zC hb (fun hb=>?_) fun hb=>?_|refine zG hb (fun hb=>?_) fun hb=>?_|refine zD hb (fun hb=>?_) fun hb=>?_
  refine yT hC hb ?_
  exact .tup ⟨.c (.int _ _),.c (.bool _),trivial⟩
theorem cmpN_eq0 (a b:Nat):cmpN a b=0↔a=b:=by unfold cmpN;split<;>(try split)<;>omega
theorem intQ_of {r:RD} {L:Nat} (hw:r.wf L):intQ r.q=if r.pd=1∧ -9223372036854775808≤sgn r.ps r.pn∧sgn r.ps r.pn≤9223372036854775807 then some (sgn r.ps r.pn) else none:=by
 obtain⟨h1,h2⟩:=RD.q_nd hw
 unfold intQ
 rw [h1,h2]
theorem rint_fa (r:RD) (hw:r.wf 1073741824):Fa Tryz.prog 143 [.agg (rdc r)] (.tup [.c (.int .i64 ((intQ r.q).getD 0)),.c (.bool (intQ r.q).isSome)]):=by
 obtain⟨l1,l2⟩:=RD.p_len hw om
 rw [intQ_of hw]
 have h1:=rparts_fa r hw
 have h2:=one_fa
 have h3:=cmpW r.pd 1 om (by rw [words_one];simp)
 rw [words_one] at h3
 have h4:=rsize_fa (-9223372036854775808) om om
 have h5:=cmpW r.pn 9223372036854775808 om (Nat.le_trans (words_small om) om)
 have h6:=nint_fa r.pn om
 have hn:∀n:Nat,n<9223372036854775808→wrapZ .i64 (0-(n:Int))= -(n:Int):=fun n hn=>int_neg om om
 unfold partsAV at h1
 generalize r.pd=d at*
 generalize r.pn=n at*
 generalize r.ps=p at*
 refine fa_of_body Tryz.func143 rfl rfl (by simp [Tryz.ntmps143]) fun C hC=> ?_
 simp only [initS,Nat.reduceAdd]
 repeat' first|refine yA1 o0 ?_|refine zW o0 ?_|refine yP o0 ?_|refine yN o0 ?_|refine zC o0 (fun hb=>?_) fun hb=>?_|refine zG o0 (fun hb=>?_) fun hb=>?_|refine zD o0 (fun hb=>?_) fun hb=>?_
 refine xB fun g1 hn_g1=>?_
 repeat' first|refine yA1 hn_g1 ?_|(refine yC2 hn_g1 (h1) ?_)|(refine yD2 hn_g1 (h1) ?_)|(refine yC2 hn_g1 (h2) ?_)|(refine yD2 hn_g1 (h2) ?_)|(refine yC2 hn_g1 (h3) ?_)|(refine yD2 hn_g1 (h3) ?_)|(refine yC2 hn_g1 (h4) ?_)|(refine yD2 hn_g1 (h4) ?_)|(refine yC2 hn_g1 (h5) ?_)|(refine yD2 hn_g1 (h5) ?_)|(refine yC2 hn_g1 (h6) ?_)|(refine yD2 hn_g1 (h6) ?_)|refine zW hn_g1 ?_|refine yP hn_g1 ?_|refine yN hn_g1 ?_|refine zC hn_g1 (fun hb=>?_) fun hb=>?_|refine zG hn_g1 (fun hb=>?_) fun hb=>?_|refine zD hn_g1 (fun hb=>?_) fun hb=>?_
 all_goals
  refine yT hC hn_g1 ?_
  clear h1 h2 h3 h4 h5 h6
  refine .tup ⟨.c (ler_int ?_),.c (ler_bool ?_),trivial⟩
  all_goals
   simp only [ne_eq,cmpN_eq0] at*
   first
    |(exfalso;simp_all;done)
    |(try subst_vars
      try simp only [Bool.not_eq_true',Bool.not_eq_false',decide_eq_false_iff_not,decide_eq_true_eq] at*
      unfold sgn
      try rw [hn _ (by split<;>omega)]
      (repeat' split)<;>simp_all<;>omega)
end Go.Proofs.YteocnikcjjonbaaGreat
namespace Go.PN
open Go.AI
theorem natB_fit {s:BS} (hd:∀i,i<s.length→isDig (bAt s i)=true):fits (natB s:Rat) (s.length+1):=by have:=natB_fits hd (Nat.le_refl s.length);rwa [List.take_length] at this
theorem val_fits {s:BS} (h:valC s=0):fits (valQ s) 500:=by
 unfold valC at h
 split at h
 ·cases h
 ·rename_i h100
  split at h
  ·cases h
  ·rename_i hn
   have hn:isNum s=true:=by simpa using hn
   obtain⟨hf,h0⟩:=num_form hn
   unfold valQ
   by_cases hsl:idxB 47 s<s.length
   ·rw [if_pos hsl]
    have hz:natB (s.drop (idxB 47 s+1))≠0:=fun e=>by rw [if_pos ⟨hsl,e⟩] at h;cases h
    cases hf with
    |all hh=>have:=(ix_all hh).1;omega
    |two e he hm h1 h2=>
     rcases hm with hm|hm
     ·have:=(ix_point he hm h1 h2).1;omega
     ·rw [ix_slash he hm h1] at hz⊢
      have f1:=natB_fit (dig_take h1)
      have f2:=natB_fit (dig_drop h2)
      exact fits_mono (fits_div f1 f2 (by simpa using hz)) (by rw [List.length_take,List.length_drop];omega)
   ·rw [if_neg hsl]
    have key:(∀i,i<(s.take (idxB 46 s)++s.drop (idxB 46 s+1)).length→isDig (bAt (s.take (idxB 46 s)++s.drop (idxB 46 s+1)) i)=true):=by
     have app:∀(a b:BS),(∀i,i<a.length→isDig (bAt a i)=true)→(∀i,i<b.length→isDig (bAt b i)=true)→∀i,i<(a++b).length→isDig (bAt (a++b) i)=true:=fun a b hda hdb i hi=>by
      by_cases h:i<a.length
      ·have:=hda i h
       unfold bAt at this⊢
       rw [List.getD_eq_getElem?_getD] at this⊢
       rwa [List.getElem?_append_left h]
      ·have:=hdb (i-a.length) (by rw [List.length_append] at hi;omega)
       unfold bAt at this⊢
       rw [List.getD_eq_getElem?_getD] at this⊢
       rwa [List.getElem?_append_right om]
     cases hf with
     |all hh=>
      rw [(ix_all hh).2,List.take_length,List.drop_of_length_le om]
      exact app _ _ hh fun i hi=>absurd hi (by simp)
     |two e he hm h1 h2=>
      rcases hm with hm|hm
      ·rw [(ix_point he hm h1 h2).2];exact app _ _ (dig_take h1) (dig_drop h2)
      ·have:=ix_slash he hm h1;omega
    have f1:=natB_fit key
    have f2:fits ((10^(s.drop (idxB 46 s+1)).length:Nat):Rat) ((s.drop (idxB 46 s+1)).length+1):=nat_fits (pow10_lt _) om
    exact fits_mono (fits_div f1 f2 (pow10_ne _)) (by rw [List.length_append,List.length_take,List.length_drop];omega)
theorem valR_wf (s:BS):(valR s).wf 500:=by
 unfold valR
 split
 ·rename_i h;exact rd_wf (val_fits h)
 ·exact⟨fun x hx=>(by cases hx),fun x hx=>(by cases hx),Nat.zero_le _,Nat.zero_le _⟩
theorem numS_wf (s:PS):(numS s).1.wf 500:=by
 unfold numS
 dsimp only
 split
 ·exact valR_wf _
 ·exact⟨fun x hx=>(by cases hx),fun x hx=>(by cases hx),Nat.zero_le _,Nat.zero_le _⟩
end Go.PN
namespace Go.Proofs.YteocnikcjjonbaaGreat
open Go.AI Go.PN
attribute [local irreducible] aw Fa Fh DrK
theorem whole_fg (g:Nat) (L:List TX) (s:PS) (hs:s.l<:+L.map TX.t) (hL:L.length≤1099511627776) (hw:∀t∈L,t.t.text.length≤1099511627776):Fg Tryz.prog 107 g (rdO L s) [.c (.optr g 0)] (.c (.int .i64 (wholeS s).1)) (rdO L (wholeS s).2):=by
 have f1:=number_fg g L s hs hL hw
 have f2:=rint_fa (numS s).1 (wf_mono (numS_wf s) om)
 unfold Fg
 unfold wholeS
 dsimp only
 generalize hr:numS s=r at*
 obtain⟨q,s1⟩:=r
 dsimp only at*
 have f3:=fail_fg g L s1 3 (by decide)
 generalize hi:intQ q.q=o at*
 cases o with
 |none=>
  simp only [Option.isSome_none,Option.getD_none] at f2
  refine fh_of_body Tryz.func107 rfl rfl (by simp [Tryz.ntmps107]) fun C hC=> ?_
  simp only [initS,Nat.reduceAdd]
  repeat' first|refine yA1 o0 ?_|(refine zg o0 (f1) ?_)|refine zW o0 ?_|refine yP o0 ?_|refine yN o0 ?_|refine zC o0 (fun hb=>?_) fun hb=>?_|refine zG o0 (fun hb=>?_) fun hb=>?_|refine zD o0 (fun hb=>?_) fun hb=>?_
  refine xA fun g3 hn_g3=>?_
  repeat' first|refine yA1 hn_g3 ?_|(refine yC2 hn_g3 (f2) ?_)|(refine yD2 hn_g3 (f2) ?_)|(refine zg hn_g3 (f3) ?_)|refine zW hn_g3 ?_|refine yP hn_g3 ?_|refine yN hn_g3 ?_|refine zC hn_g3 (fun hb=>?_) fun hb=>?_|refine zG hn_g3 (fun hb=>?_) fun hb=>?_|refine zD hn_g3 (fun hb=>?_) fun hb=>?_
  ·have h0:s1.e≠0:=by simpa using hb
   refine aw_rethw (h':=[(g,rdO L s1)]) rfl (by first|exact List.Sublist.refl _|exact .cons _ (.refl _)|exact .cons _ (.cons _ (.refl _))|exact .cons _ (.cons _ (.cons _ (.refl _)))) fun R r=>?_;simp only[go_sem,hn_g3];refine r _ rfl ?_;clear r R
   rw [if_neg h0]
   exact⟨rfl,rfl⟩
  ·have h0:s1.e=0:=by simpa using hb
   refine aw_rethw (h':=[(g,rdO L (failS 3 s1))]) rfl (by first|exact List.Sublist.refl _|exact .cons _ (.refl _)|exact .cons _ (.cons _ (.refl _))|exact .cons _ (.cons _ (.cons _ (.refl _)))) fun R r=>?_;simp only[go_sem,hn_g3];refine r _ rfl ?_;clear r R
   rw [if_pos h0]
   unfold failS
   rw [if_pos h0]
   exact⟨rfl,rfl⟩
 |some n=>
  simp only [Option.isSome_some,Option.getD_some] at f2
  refine fh_of_body Tryz.func107 rfl rfl (by simp [Tryz.ntmps107]) fun C hC=> ?_
  simp only [initS,Nat.reduceAdd]
  repeat' first|refine yA1 o0 ?_|(refine zg o0 (f1) ?_)|refine zW o0 ?_|refine yP o0 ?_|refine yN o0 ?_|refine zC o0 (fun hb=>?_) fun hb=>?_|refine zG o0 (fun hb=>?_) fun hb=>?_|refine zD o0 (fun hb=>?_) fun hb=>?_
  refine xA fun g3 hn_g3=>?_
  repeat' first|refine yA1 hn_g3 ?_|(refine yC2 hn_g3 (f2) ?_)|(refine yD2 hn_g3 (f2) ?_)|(refine zg hn_g3 (f3) ?_)|refine zW hn_g3 ?_|refine yP hn_g3 ?_|refine yN hn_g3 ?_|refine zC hn_g3 (fun hb=>?_) fun hb=>?_|refine zG hn_g3 (fun hb=>?_) fun hb=>?_|refine zD hn_g3 (fun hb=>?_) fun hb=>?_
  ·have h0:s1.e≠0:=by simpa using hb
   refine aw_rethw (h':=[(g,rdO L s1)]) rfl (by first|exact List.Sublist.refl _|exact .cons _ (.refl _)|exact .cons _ (.cons _ (.refl _))|exact .cons _ (.cons _ (.cons _ (.refl _)))) fun R r=>?_;simp only[go_sem,hn_g3];refine r _ rfl ?_;clear r R
   rw [if_neg h0]
   exact⟨rfl,rfl⟩
  ·rename_i hb0
   have h0:s1.e=0:=by simpa using hb0
   have hn:n<0:=hb
   refine aw_rethw (h':=[(g,rdO L (failS 3 s1))]) rfl (by first|exact List.Sublist.refl _|exact .cons _ (.refl _)|exact .cons _ (.cons _ (.refl _))|exact .cons _ (.cons _ (.cons _ (.refl _)))) fun R r=>?_;simp only[go_sem,hn_g3];refine r _ rfl ?_;clear r R
   rw [if_pos h0]
   try dsimp only
   unfold failS
   rw [if_pos h0,if_neg om]
   exact⟨rfl,rfl⟩
  ·rename_i hb0 hb1
   have h0:s1.e=0:=by simpa using hb0
   have hn:n>1073741824:=hb
   refine aw_rethw (h':=[(g,rdO L (failS 3 s1))]) rfl (by first|exact List.Sublist.refl _|exact .cons _ (.refl _)|exact .cons _ (.cons _ (.refl _))|exact .cons _ (.cons _ (.cons _ (.refl _)))) fun R r=>?_;simp only[go_sem,hn_g3];refine r _ rfl ?_;clear r R
   rw [if_pos h0]
   try dsimp only
   unfold failS
   rw [if_pos h0,if_neg om]
   exact⟨rfl,rfl⟩
  ·rename_i hb0 hb1
   have h0:s1.e=0:=by simpa using hb0
   have h1:¬n<0:=hb1
   have h2:¬n>1073741824:=hb
   refine aw_rethw (h':=[(g,rdO L s1)]) rfl (by first|exact List.Sublist.refl _|exact .cons _ (.refl _)|exact .cons _ (.cons _ (.refl _))|exact .cons _ (.cons _ (.cons _ (.refl _)))) fun R r=>?_;simp only[go_sem,hn_g3];refine r _ rfl ?_;clear r R
   rw [if_pos h0]
   try dsimp only
   rw [if_pos om]
   exact⟨rfl,rfl⟩
theorem house_fg (g:Nat) (L:List TX) (s:PS) (hs:s.l<:+L.map TX.t) (hL:L.length≤1099511627776):Fg Tryz.prog 64 g (rdO L s) [.c (.optr g 0)] (.agg (hsc (houseS s).1)) (rdO L (houseS s).2):=by
 have f1:=word_fg g L s hs hL
 unfold houseS
 dsimp only
 have hs1:=(rdr_word.suf s).trans hs
 generalize hr:wordS s=r at*
 obtain⟨nm,s1⟩:=r
 dsimp only at*
 have f2:=is_fg g L s1 kOn hs1 hL
 have f3:=is_fg g L s1 kOff hs1 hL
 have f4:=take_fg g L s1 (isS s1 kOn||isS s1 kOff) hs1 hL
 have hs2:=((rdr_take fun s=>isS s kOn||isS s kOff).suf s1).trans hs1
 try dsimp only at hs2
 cases h1:isS s1 kOn with
 |true=>
  rw [h1] at f2 f4 hs2
  rw [Bool.true_or] at f4 hs2
  rw [Bool.true_or]
  generalize takeS true s1=r at*
  obtain⟨t,s2⟩:=r
  dsimp only at*
  have f6:=expect_fg g L s2 kSemi hs2 hL
  unfold Fg
  refine fh_of_body Tryz.func64 rfl rfl (by simp [Tryz.ntmps64]) fun C hC=> ?_
  simp only [initS,Nat.reduceAdd]
  repeat' first|refine yA1 o0 ?_|refine zW o0 ?_|refine yP o0 ?_|refine yN o0 ?_|refine zC o0 (fun hb=>?_) fun hb=>?_|refine zG o0 (fun hb=>?_) fun hb=>?_|refine zD o0 (fun hb=>?_) fun hb=>?_
  refine xA fun g2 hn_g2=>?_
  repeat' first|refine yA1 hn_g2 ?_|(refine zg hn_g2 (f1) ?_)|refine zW hn_g2 ?_|refine yP hn_g2 ?_|refine yN hn_g2 ?_|refine zC hn_g2 (fun hb=>?_) fun hb=>?_|refine zG hn_g2 (fun hb=>?_) fun hb=>?_|refine zD hn_g2 (fun hb=>?_) fun hb=>?_
  refine yA hn_g2 fun g3 hn_g3=>?_
  all_goals try(have Z:=(oj hn_g2 hn_g3);(repeat' first|refine yA1 Z ?_|(refine zg Z (f2) ?_)|(refine zg Z (f3) ?_)|(refine zg Z (f4) ?_)|(refine zg Z (f6) ?_)|refine zW Z ?_|refine yP Z ?_|refine yN Z ?_|refine zC Z (fun hb=>?_) fun hb=>?_|refine zG Z (fun hb=>?_) fun hb=>?_|refine zD Z (fun hb=>?_) fun hb=>?_);all_goals clear Z)
  refine aw_rethw (h':=[(g,rdO L (expS kSemi s2))]) rfl (by first|exact List.Sublist.refl _|exact .cons _ (.refl _)|exact .cons _ (.cons _ (.refl _))|exact .cons _ (.cons _ (.cons _ (.refl _)))) fun R r=>?_;simp only[go_sem,hn_g2,hn_g3];refine r _ rfl ?_;clear r R
  exact⟨rfl,rfl⟩
 |false=>
  rw [h1] at f2 f4 hs2
  rw [Bool.false_or] at f4 hs2
  rw [Bool.false_or]
  generalize takeS (isS s1 kOff) s1=r at*
  obtain⟨t,s2⟩:=r
  dsimp only at*
  have f6:=expect_fg g L s2 kSemi hs2 hL
  unfold Fg
  refine fh_of_body Tryz.func64 rfl rfl (by simp [Tryz.ntmps64]) fun C hC=> ?_
  simp only [initS,Nat.reduceAdd]
  repeat' first|refine yA1 o0 ?_|refine zW o0 ?_|refine yP o0 ?_|refine yN o0 ?_|refine zC o0 (fun hb=>?_) fun hb=>?_|refine zG o0 (fun hb=>?_) fun hb=>?_|refine zD o0 (fun hb=>?_) fun hb=>?_
  refine xA fun g2 hn_g2=>?_
  repeat' first|refine yA1 hn_g2 ?_|(refine zg hn_g2 (f1) ?_)|refine zW hn_g2 ?_|refine yP hn_g2 ?_|refine yN hn_g2 ?_|refine zC hn_g2 (fun hb=>?_) fun hb=>?_|refine zG hn_g2 (fun hb=>?_) fun hb=>?_|refine zD hn_g2 (fun hb=>?_) fun hb=>?_
  refine yA hn_g2 fun g3 hn_g3=>?_
  all_goals try(have Z:=(oj hn_g2 hn_g3);(repeat' first|refine yA1 Z ?_|(refine zg Z (f2) ?_)|(refine zg Z (f3) ?_)|(refine zg Z (f4) ?_)|(refine zg Z (f6) ?_)|refine zW Z ?_|refine yP Z ?_|refine yN Z ?_|refine zC Z (fun hb=>?_) fun hb=>?_|refine zG Z (fun hb=>?_) fun hb=>?_|refine zD Z (fun hb=>?_) fun hb=>?_);all_goals clear Z)
  refine aw_rethw (h':=[(g,rdO L (expS kSemi s2))]) rfl (by first|exact List.Sublist.refl _|exact .cons _ (.refl _)|exact .cons _ (.cons _ (.refl _))|exact .cons _ (.cons _ (.cons _ (.refl _)))) fun R r=>?_;simp only[go_sem,hn_g2,hn_g3];refine r _ rfl ?_;clear r R
  exact⟨rfl,rfl⟩
end Go.Proofs.YteocnikcjjonbaaGreat
namespace Go.AI
section
variable {E : Env} {K : List It} {l : List Oper} {FP FP' : Heap} {σ σ' : Sl} {h : Heap} {o : Oper} {i m : Nat} {cs : List (Nat × Nat)}
theorem cw_buildSlice {t e size bytes len:Nat} {xs:List Operand} {cells:List CV} (ho:l[i]?=some o) (hop:o.op=.buildSlice t len (enumO 0 xs).toArray) (hw:wantA l σ o=some true) (hd:dstOk E.N o.dst=true) (ht:tElem E.P t=some (e,size,bytes))
  (hz:(tZero E.P e).isSome=true) (hl:xs.length=len) (hsm:len*size≤16777216) (hlm:len≤16777216) (hx:∀x∈xs,(ev σ x).flat=true∧(ev σ x).cells.all CV.solid=true∧(ev σ x).cells.length=size) (hc:(xs.map (ev σ)).flatMap AV.cells=cells) (hops:∀x∈xs,x∈o.op.operands) (hFP:Has0 FP' h)
  (k:∀g,g∉h.keys→CW E l K FP' cs (σ.setO o.dst (.c (.osl g size 0 len))) ((g,.cells e (len*size) (ofL cells))::h)) (hm:m=2∨m=1∧FP'=FP:=by first|exact .inl rfl|exact .inr ⟨rfl,rfl⟩):CW E l K FP ((i,m)::cs) σ h:=by
 refine .pin ho hm (R:=fun r h2=>∃g,g∉h.keys∧r=.c (.osl g size 0 len)∧h2=(g,.cells e (len*size) (ofL cells))::h) (fun σ' K hs=> ?_) ?_ ?_
 ·have he:∀x∈xs,ev σ' x=ev σ x:=fun x hxx=>ev_same (hops x hxx) hs
  exact aw_buildSlice hop ((want_same hs).trans hw) hd ht hz hl hsm hlm (fun x hxx=>by rw [he x hxx];exact hx x hxx) (by rw [List.map_congr_left he];exact hc) fun g hg=>aw_ops_nil (aw_stop ⟨_,⟨g,hg,rfl,rfl⟩,rfl⟩)
 ·rintro r h2 ⟨g,_,_,rfl⟩;exact fun p hp=>List.mem_cons_of_mem _ (hFP p hp)
 ·rintro r h2 ⟨g,hg,rfl,rfl⟩;exact k g hg
theorem cw_push {t e size bytes n d1 s gt:Nat} {z:List CV} {og:Option Nat} {f f':Nat→CV} {pre:Heap} {v:AV} (ho:l[i]?=some o) (hop2:o.op=.call {callee:=.builtin .append,args:= #[.tmp s,.tmp d1],argTypes:= #[t,t]})
  (hg2:o.guard=none) (hd2:dstOk E.N o.dst=true)
  (ht:tElem E.P t=some (e,size,bytes)) (hz:tZero E.P e=some z) (hzl:z.length=size) (hs0:0<size) (hsz:size≤16777216)
  (hevs:ev σ (.tmp s)=.c (gs og size n)) (hev1:ev σ (.tmp d1)=.c (.osl gt size 0 1)) (hog:og=none→n=0) (hok:okPart v=true) (hvl:v.cells.length=size) (hh:h=(gt,.cells e (1*size) (ofL v.cells))::(pre++gh og e (n*size) f))
  (h63:n+1≤maxLen) (hby:(n+1)*bytes≤140737488355328) (hf:∀j,j<(n+1)*size→appF f (n*size) (ofL v.cells) j=f' j) (hFP:Has0 FP' ((gt,.cells e (1*size) (ofL v.cells))::pre))
  (k:∀g',g'∉Heap.keys ((gt,.cells e (1*size) (ofL v.cells))::pre)→CW E l K FP' cs (σ.setO o.dst (.c (gs (some g') size (n+1)))) ((gt,.cells e (1*size) (ofL v.cells))::(pre++gh (some g') e ((n+1)*size) f')))
  (hm:m=2∨m=1∧FP'=FP:=by first|exact .inl rfl|exact .inr ⟨rfl,rfl⟩):CW E l K FP ((i,m)::cs) σ h:=by
 subst hh
 obtain⟨ok1,ok2⟩:=okPart_spec hok
 refine .pin ho hm (R:=fun r h2=>∃g',g'∉Heap.keys ((gt,.cells e (1*size) (ofL v.cells))::pre)∧r=.c (gs (some g') size (n+1))∧h2=(gt,.cells e (1*size) (ofL v.cells))::(pre++gh (some g') e ((n+1)*size) f')) (fun σ' K hs=> ?_) ?_ ?_
 ·have hw2:∀σ2,wantA l σ2 o=some true:=fun σ2=>by unfold wantA;rw [hg2]
  have hevs':ev σ' (.tmp s)=.c (gs og size n):=(ev_same (by rw [hop2];simp [Op.operands,Call.operands]) hs).trans hevs
  have hev1':ev σ' (.tmp d1)=.c (.osl gt size 0 1):=(ev_same (by rw [hop2];simp [Op.operands,Call.operands]) hs).trans hev1
  have hsrc:∀h0:Heap,Src ((gt,.cells e (1*size) (ofL v.cells))::h0) size (.osl gt size 0 1) 1 (ofL v.cells):=fun h0=>by
   refine .osl (f':=ofL v.cells) (m:=1*size) (ty:=e) (by simp [Heap.get]) om (fun j _=>by rw [Nat.zero_add])
  cases og with
  |none=>
   have hn0:n=0:=hog rfl
   subst hn0
   refine aw_appendN (cx:=.osl gt size 0 1) (k:=1) (f2:=ofL v.cells) hop2 (hw2 _) hd2 ht hz hzl hs0 hevs' hev1' (hsrc _) om om om fun g' hg'=> ?_
   refine aw_conv1 (f':=f') (fun j hj=> ?_) ?_
   ·have:=hf j om
    rw [←this];simp [appF]
   ·have hnew:g'∉Heap.keys ((gt,.cells e (1*size) (ofL v.cells))::pre):=fun hm=>hg' (by simpa [gh] using hm)
    refine aw_perm (h':=(gt,.cells e (1*size) (ofL v.cells))::(pre++[(g',.cells e (1*size) f')])) ?_ ?_
    ·have:(pre++gh none e (0*size) f)=pre:=by simp [gh]
     rw [this]
     refine(List.Perm.swap _ _ _).trans (List.Perm.cons _ ?_)
     exact(List.perm_append_singleton _ _).symm
    ·exact aw_ops_nil (aw_stop ⟨_,⟨g',hnew,rfl,by simp [gh]⟩,rfl⟩)
  |some g=>
   refine aw_nd fun hnd=> ?_
   have hnp:g∉pre.keys:=fun hm=>by
    simp only [Heap.keys,gh,List.map_cons,List.map_append,List.map_nil,List.nodup_cons] at hnd
    have:=(List.nodup_append.1 hnd.2).2.2 g hm g (by simp)
    exact this rfl
   have hgtg:gt≠g:=fun e=>by
    subst e
    simp [Heap.keys,gh] at hnd
   refine aw_append (cx:=.osl gt size 0 1) (k:=1) (f2:=ofL v.cells) (g:=g) (m:=n*size) (f:=f) (h2:=(gt,.cells e (1*size) (ofL v.cells))::pre) hop2 (hw2 _) hd2 ht hz hzl hs0 hevs' ?_ (Nat.le_refl _) hev1' (hsrc _) ?_ om h63 hby ?_ fun g' hg'=> ?_
   ·show Heap.get ((gt,_)::(pre++[(g,_)])) g=_
    simp only [Heap.get,if_neg hgtg]
    exact Heap.get_app hnp
   ·intro j hj
    have hjl:j<v.cells.length:=by omega
    rw [ofL_get v.cells j v.cells[j] (List.getElem?_eq_getElem hjl)]
    exact List.all_eq_true.1 ok2 _ (List.getElem_mem hjl)
   ·show Heap.del ((gt,_)::(pre++[(g,_)])) g=_
    rw [Heap.del_ne hgtg,Heap.del_app hnp]
   ·refine aw_conv1 (f':=f') hf ?_
    refine aw_perm (h':=(gt,.cells e (1*size) (ofL v.cells))::(pre++[(g',.cells e ((n+1)*size) f')])) ?_ ?_
    ·refine(List.Perm.swap _ _ _).trans (List.Perm.cons _ ?_)
     exact(List.perm_append_singleton _ _).symm
    ·exact aw_ops_nil (aw_stop ⟨_,⟨g',hg',rfl,rfl⟩,rfl⟩)
 ·rintro r h2 ⟨g',_,_,rfl⟩
  intro p hp
  rcases List.mem_cons.1 (hFP p hp) with e|hm
  ·exact e▸List.mem_cons_self ..
  ·exact List.mem_cons_of_mem _ (List.mem_append_left _ hm)
 ·rintro r h2 ⟨g',hg,rfl,rfl⟩;exact k g' hg
end
end Go.AI
namespace Go.AI
section
variable {E : Env} {K : List It} {l : List Oper} {FP : Heap} {σ σ' : Sl} {h : Heap} {o : Oper} {i : Nat} {cs : List (Nat × Nat)}
theorem cw_cg {f:FuncId} {xs:List Operand} {ts:Array TypeId} {g:Nat} {ob ob':AObj} {args:List AV} {r:AV} (ho:l[i]?=some o) (hf:Fg E.P f g ob args r ob') (hop:o.op=.call {callee:=.value (.func f),args:=xs.toArray,argTypes:=ts}) (hw:wantA l σ o=some true) (hd:dstOk E.N o.dst=true)
  (hg:h.get g=some ob) (le:LeA [] (xs.map (ev σ)) args) (hFP:Has0 FP (h.set g ob')) (k:CW E l K FP cs (σ.setO o.dst r) (h.set g ob')):CW E l K FP ((i,1)::cs) σ h:=by
 refine cw_callh (hc:=[(g,ob)]) (hr:=h.del g) ho hf hop hw hd (Heap.get_perm hg) le ?_ ?_ (hm:=.inr ⟨rfl,rfl⟩)
 ·rintro _ _ ⟨rfl,rfl⟩
  exact fun p hp=>(Heap.set_perm (ob':=ob') hg).mem_iff.1 (hFP p hp)
 ·rintro _ _ ⟨rfl,rfl⟩ _
  exact cw_perm (Heap.set_perm hg).symm k
end
end Go.AI
namespace Go.PN
open Go.AI
theorem kd_true {s:PS} {L:List TX} (hs:s.l<:+L.map TX.t) (h:kindS s 0=true):s.e=0∧L.length-s.l.length<L.length∧(L.getD (L.length-s.l.length) tx0).t.text=hdT s:=by
 have hr:=rat hs
 unfold kindS at h
 simp only [Bool.and_eq_true,decide_eq_true_eq] at h
 refine⟨h.1,?_⟩
 by_cases hl:L.length-s.l.length<L.length
 ·obtain⟨l,h1,_⟩:=hr.cons hl
  refine⟨hl,?_⟩
  have h2:hdT s=(L.getD (L.length-s.l.length) tx0).t.text:=hd_cons h1
  rw [h2]
 ·have:=hr.nil hl
  rw [this] at h
  simp at h
def gtV (k:Option Int) (s:PS):Int×PS:=if k=some 2 then wholeS s else(0,s)
def gtD (k:Option Int) (s:PS):RD×PS:=if k=some 7 then numS (gtV k s).2 else(rd0,(gtV k s).2)
theorem gtD_suf (k:Option Int) (s:PS):(gtD k s).2.l<:+s.l:=by
 have h1:(gtV k s).2.l<:+s.l:=by
  unfold gtV;split
  ·exact rdr_whole.suf s
  ·exact List.suffix_refl _
 unfold gtD;split
 ·exact(rdr_num.suf _).trans h1
 ·exact h1
theorem suf_word {L:List TX} {s:PS} (hs:s.l<:+L.map TX.t):(wordS s).2.l<:+L.map TX.t:=(rdr_word.suf s).trans hs
end Go.PN
namespace Go.AI
open Go.PN
theorem strs_push {xs:List BS} {n:Nat} (hn:xs.length=n) (t:BS):∀j,j<(n+1)*1→appF (strsF xs) (n*1) (ofL (stc t)) j=strsF (xs++[t]) j:=lf_push (s:=1) (c:=stc) (d:=([]:BS)) hn t (by decide)
end Go.AI
namespace Go.Proofs.YteocnikcjjonbaaGreat
open Go.AI Go.PN
theorem conv_gate {a b c:CV}:∀j,j<7→∀(S:Bool→Nat→Prop) w u,RepC S w (ofL [a,b,c,.nils,.bool false,.nils,.nils] j) u→RepC S w (ofL ([a,b,c,.nils]++rdc rd0) j) u:=fun j hj S w u hr=>by
 match j,hj with
 |0,_=>exact hr
 |1,_=>exact hr
 |2,_=>exact hr
 |3,_=>exact hr
 |4,_=>exact hr
 |5,_=>exact repC_nil hr
 |6,_=>exact repC_nil hr
attribute [local irreducible] aw Fa Fh DrK
theorem gate_fg (g:Nat) (L:List TX) (s:PS) (hs:s.l<:+L.map TX.t) (hL:L.length≤1048576) (hw:∀t∈L,t.t.text.length≤1099511627776):Fg Tryz.prog 58 g (rdO L s) [.c (.optr g 0)] (.agg (gtc (gateS s).1)) (rdO L (gateS s).2):=by
 have f1:=word_fg g L s hs om
 have hs1:=suf_word hs
 rw [gateS_eq]
 unfold PN.bnd
 generalize wordS s=r at*
 obtain⟨nm,s1⟩:=r
 dsimp only at*
 have f2:=kind_fg g L s1 0 hs1 om
 have f3:=take_fg g L s1 (kdS s1).isSome hs1 om
 have hs2:=(rdr_gk.suf s1).trans hs1
 have hg1:(gkS s1).1=kdS s1:=rfl
 have hg2:(gkS s1).2=(takeS (kdS s1).isSome s1).2:=rfl
 rw [hg1]
 rw [←hg2] at f3
 generalize (gkS s1).2=s2 at*
 generalize (takeS (kdS s1).isSome s1).1=tw at*
 unfold Fg
 refine fh_of_body Tryz.func58 rfl rfl (by simp [Tryz.ntmps58]) fun C hC=> ?_
 simp only [initS,Nat.reduceAdd]
 apply wa1
 apply wa6
 refine xA fun g2 hn_g2=>?_
 refine yH hn_g2 ?_
 apply wa1
 apply wa6
 refine yH hn_g2 ?_
 refine aw_cg f1 rfl rfl rfl (zE hn_g2) (zL2 o0) ?_
 refine yS hn_g2 ?_
 refine yH hn_g2 ?_
 refine yA hn_g2 fun g3 hn_g3=>?_
 have J1:=oj hn_g2 hn_g3
 refine yW J1 ?_
 refine yS J1 ?_
 refine yH J1 ?_
 apply wa1
 apply wa6
 refine yH J1 ?_
 apply wa1
 refine aw_cut (fun _:Unit=>[(0,.c (.optr g 0)),(2,.c (.optr g2 0)),(3,.c (.optr g3 0)),(4,.c (.bool (kdS s1).isSome))]) (fun _=>[(g3,.cells 65 7 (ofL [.str (sB nm),.int .i64 ((kdS s1).getD 0),.int .i64 0,.nils,.bool false,.nils,.nils])),(g2,.cells 65 7 (ofL [.str (sB []),.int .i64 0,.int .i64 0,.nils,.bool false,.nils,.nils])),(g,rdO L s1)]) (fun _=>1=1) ?_ ?_
 ·all_goals try(have Z:=J1;(repeat' first|refine yA1 Z ?_|(refine zg Z (f2) ?_)|refine zW Z ?_|refine yP Z ?_|refine yN Z ?_|refine zC Z (fun hb=>?_) fun hb=>?_|refine zG Z (fun hb=>?_) fun hb=>?_|refine zD Z (fun hb=>?_) fun hb=>?_);all_goals clear Z)
  ·obtain⟨h0,h1,h2⟩:=kd_true hs1 hb
   have hk:kdS s1=gkind (hdT s1):=by unfold kdS;rw [if_pos hb]
   have hgk:=gkind_fa (hdT s1)
   rw [←hk] at hgk
   refine aw_cw ([(g3,.cells 65 7 (ofL [.str (sB nm),.int .i64 0,.int .i64 0,.nils,.bool false,.nils,.nils])),(g,rdO L s1)]) [(0,0),(1,0),(2,0),(3,0),(4,0),(5,0),(6,0),(7,0),(8,0),(9,0),(10,0),(11,0),(12,0),(13,0),(15,0),(14,3),(16,2),(17,0)] ty_mixed (by kernel_rfl) eI ?_
   have J2:=oj hn_g2 (oj hn_g3 h2)
   refine yG J2 ?_
   refine cw_callq rfl hgk rfl rfl rfl (fun _ _=>(zL J2)) ?_
   refine ySG J2 ?_
   iterate 1 (refine wc3 rfl rfl fun R r=> ?_;simp only [go_sem,hn_g2,hn_g3,h2];with_reducible show R (some _);with_reducible refine r _ _ ?_;clear r R)
   have J3:=oj hn_g2 (oj hn_g3 h2)
   refine yS J3 ?_
   refine cw_store (FP':=[]) rfl rfl rfl rfl rfl (zE J3) (zE J3) (zE J3) (zE J3) (fun _ e=>by cases e) rfl rfl (show 2≤7 from by omega) rfl has0_nil ?_
   refine ySG J3 ?_
   refine aw_stop ⟨(),?_⟩
   and_intros<;>first|rfl|exact List.Sublist.refl _|exact True.intro
  ·have hk:kdS s1=none:=by unfold kdS;rw [if_neg (by rw [hb];decide)]
   rw [hk]
   refine aw_stop ⟨(),?_⟩
   and_intros<;>first|rfl|exact List.Sublist.refl _|exact True.intro
 rintro _ _
 apply wa1
 apply wa6
 have J4:=oj hn_g2 hn_g3
 refine yH J4 ?_
 refine aw_cg f3 rfl rfl rfl (zE J4) (zL2 o0) ?_
 refine yS J4 ?_
 refine yH J4 ?_
 apply wa1
 refine aw_cut (fun _:Unit=>[(0,.c (.optr g 0)),(2,.c (.optr g2 0)),(3,.c (.optr g3 0))]) (fun _=>[(g3,.cells 65 7 (ofL ([.str (sB nm),.int .i64 ((kdS s1).getD 0),.int .i64 (gtV (kdS s1) s2).1,.nils]++rdc (gtD (kdS s1) s2).1))),(g2,.cells 65 7 (ofL [.str (sB []),.int .i64 0,.int .i64 0,.nils,.bool false,.nils,.nils])),(g,rdO L (gtD (kdS s1) s2).2)]) (fun _=>1=1) ?_ ?_
 ·have f4:=whole_fg g L s2 hs2 om hw
  have f5:=number_fg g L s2 hs2 om hw
  by_cases k2:kdS s1=some 2
  ·have hv:gtV (kdS s1) s2=wholeS s2:=by unfold gtV;rw [if_pos k2]
   have hd:gtD (kdS s1) s2=(rd0,(wholeS s2).2):=by unfold gtD;rw [if_neg (by rw [k2];decide),hv]
   rw [hv,hd,k2]
   all_goals try(have Z:=J4;(repeat' first|refine yA1 Z ?_|(refine zg Z (f4) ?_)|refine zW Z ?_|refine yP Z ?_|refine yN Z ?_|refine zC Z (fun hb=>?_) fun hb=>?_|refine zG Z (fun hb=>?_) fun hb=>?_|refine zD Z (fun hb=>?_) fun hb=>?_);all_goals clear Z)
   refine aw_convR (f':=ofL ([.str (sB nm),.int .i64 2,.int .i64 (wholeS s2).1,.nils]++rdc rd0)) conv_gate ?_
   refine aw_stop ⟨(),?_⟩
   and_intros<;>first|rfl|exact List.Sublist.refl _|exact True.intro
  by_cases k7:kdS s1=some 7
  ·have hv:gtV (kdS s1) s2=(0,s2):=by unfold gtV;rw [if_neg k2]
   have hd:gtD (kdS s1) s2=numS s2:=by unfold gtD;rw [if_pos k7,hv]
   rw [hv,hd,k7]
   all_goals try(have Z:=J4;(repeat' first|refine yA1 Z ?_|(refine zg Z (f5) ?_)|refine zW Z ?_|refine yP Z ?_|refine yN Z ?_|refine zC Z (fun hb=>?_) fun hb=>?_|refine zG Z (fun hb=>?_) fun hb=>?_|refine zD Z (fun hb=>?_) fun hb=>?_);all_goals clear Z)
   refine aw_stop ⟨(),?_⟩
   and_intros<;>first|rfl|exact List.Sublist.refl _|exact True.intro
  ·have hv:gtV (kdS s1) s2=(0,s2):=by unfold gtV;rw [if_neg k2]
   have hd:gtD (kdS s1) s2=(rd0,s2):=by unfold gtD;rw [if_neg k7,hv]
   have n2:((kdS s1).getD 0==(2:Int))=false:=by
    cases hk:kdS s1 with
    |none=>rfl
    |some v=>simp only [Option.getD_some];rw [beq_eq_false_iff_ne];intro e;exact k2 (by rw [hk,e])
   have n7:((kdS s1).getD 0==(7:Int))=false:=by
    cases hk:kdS s1 with
    |none=>rfl
    |some v=>simp only [Option.getD_some];rw [beq_eq_false_iff_ne];intro e;exact k7 (by rw [hk,e])
   rw [hv,hd]
   all_goals try(have Z:=(oj hn_g2 (oj hn_g3 (oj n2 n7)));(repeat' first|refine yA1 Z ?_|refine zW Z ?_|refine yP Z ?_|refine yN Z ?_|refine zC Z (fun hb=>?_) fun hb=>?_|refine zG Z (fun hb=>?_) fun hb=>?_|refine zD Z (fun hb=>?_) fun hb=>?_);all_goals clear Z)
   refine aw_convR (f':=ofL ([.str (sB nm),.int .i64 ((kdS s1).getD 0),.int .i64 0,.nils]++rdc rd0)) conv_gate ?_
   refine aw_stop ⟨(),?_⟩
   and_intros<;>first|rfl|exact List.Sublist.refl _|exact True.intro
 rintro _ _
 have hs3:(gtD (kdS s1) s2).2.l<:+L.map TX.t:=(gtD_suf _ _).trans hs2
 have hsp:gtK nm (kdS s1) s2=(⟨nm,(kdS s1).getD 0,(gtV (kdS s1) s2).1,(insS (gtD (kdS s1) s2).2).1,(gtD (kdS s1) s2).1⟩,(insS (gtD (kdS s1) s2).2).2):=rfl
 rw [hsp]
 generalize gtV (kdS s1) s2=v at*
 generalize gtD (kdS s1) s2=d at*
 generalize (kdS s1).getD 0=kd at*
 obtain⟨d,s3⟩:=d
 obtain⟨v,s3'⟩:=v
 dsimp only at*
 clear f1 f2 f3 hg1 hg2 hs2 hs1 J4
 unfold insS
 dsimp only
 generalize hF:lpS (fun s=> !isS s kSemi) inB [] s3=F at*
 apply wa1
 refine aw_cut (fun _:Nat×Option Nat=>[(0,.c (.optr g 0)),(2,.c (.optr g2 0)),(3,.c (.optr g3 0))]) (fun x=>[(g3,.cells 65 7 (ofL ([.str (sB nm),.int .i64 kd,.int .i64 v,gs x.2 1 x.1]++rdc d))),(g2,.cells 65 7 (ofL [.str (sB []),.int .i64 0,.int .i64 0,.nils,.bool false,.nils,.nils])),(g,rdO L F.2)]++gh x.2 9 x.1 (strsF F.1)) (fun x=>F.1.length=x.1∧(x.2=none→x.1=0)) ?_ ?_
 ·apply wa2
  refine aw_lp (fun _:PS×List BS×Nat×Option Nat=>[(0,.c (.optr g 0)),(2,.c (.optr g2 0)),(3,.c (.optr g3 0))]) (fun x=>[(g3,.cells 65 7 (ofL ([.str (sB nm),.int .i64 kd,.int .i64 v,gs x.2.2.2 1 x.2.2.1]++rdc d))),(g2,.cells 65 7 (ofL [.str (sB []),.int .i64 0,.int .i64 0,.nils,.bool false,.nils,.nils])),(g,rdO L x.1)]++gh x.2.2.2 9 x.2.2.1 (strsF x.2.1))
   (fun x=>x.1.l<:+L.map TX.t∧x.2.1.length=x.2.2.1∧(x.2.2.2=none→x.2.2.1=0)∧x.2.2.1+mS x.1≤1048577∧lpS (fun s=> !isS s kSemi) inB x.2.1 x.1=F) (fun x=>mS x.1) (s3,[],0,none) (zB (oj hn_g2 hn_g3)) zZ ⟨hs3,rfl,fun _=>rfl,?_,hF⟩ ?_
  ·have:=hs3.length_le
   rw [List.length_map] at this
   dsimp only
   unfold mS
   split<;>omega
  rintro ⟨sx,xs,n,og⟩ ⟨hsx,hn,hog,hm,hlp⟩
  dsimp only at hsx hn hog hm hlp⊢
  have f2:=is_fg g L sx kSemi hsx om
  have f4:=input_fg g L sx hsx om hw
  all_goals try(have Z:=(oj hn_g2 hn_g3);(repeat' first|refine yA1 Z ?_|(refine zg Z (f2) ?_)|refine zW Z ?_|refine yP Z ?_|refine yN Z ?_|refine zC Z (fun hb=>?_) fun hb=>?_|refine zG Z (fun hb=>?_) fun hb=>?_|refine zD Z (fun hb=>?_) fun hb=>?_);all_goals clear Z)
  ·rename_i h0
   have hc:(!isS sx kSemi)=true:=hb
   have hst:=lpS_step (c:=fun s=> !isS s kSemi) (b:=inB) (a:=xs) (fun a s h _=>con_inB a s h) h0 hc
   have hlt:=con_inB xs sx h0
   rw [hst] at hlp
   have hsy:(inB xs sx).2.l<:+L.map TX.t:=((rdr_inB xs).suf sx).trans hsx
   have e1:(inB xs sx).1=xs++[(inputS sx).1]:=rfl
   have e2:(inB xs sx).2=(inputS sx).2:=rfl
   rw [e2] at hlt hsy
   rw [e1,e2] at hlp
   generalize inputS sx=y at*
   obtain⟨t,sy⟩:=y
   dsimp only at*
   refine aw_cw ([(g3,.cells 65 7 (ofL (.str (sB nm)::.int .i64 kd::.int .i64 v::gs og 1 n::rdc d)))]) [(0,0),(1,0),(2,0),(3,1),(4,1),(5,1),(6,0),(7,2)] ty_mixed (by kernel_rfl) eI ?_
   have J5:=oj hn_g2 hn_g3
   refine yG J5 ?_
   refine cw_cg rfl f4 rfl rfl rfl (zE J5) (zL J5) (by refine yS J5 ?_;exact has0_cons (List.mem_cons_self ..) has0_nil) ?_
   refine ySG J5 ?_
   refine cw_buildSlice (xs:=[.tmp 54]) (cells:=[.str (sB t)]) rfl rfl rfl rfl (zE J5) (by refine yS J5 ?_;rfl) rfl om om (by intro x hx;simp only [List.mem_singleton] at hx;subst hx;exact⟨rfl,rfl,rfl⟩) rfl (by simp [Op.operands]) (has0_cons (List.mem_cons_self ..) has0_nil) (fun ga hn_ga=> ?_) (hm:=.inr ⟨rfl,rfl⟩)
   refine yS J5 ?_
   refine cw_push (pre:=[(g3,.cells 65 7 (ofL (.str (sB nm)::.int .i64 kd::.int .i64 v::gs og 1 n::rdc d))),(g2,.cells 65 7 (ofL [.str (sB []),.int .i64 0,.int .i64 0,.nils,.bool false,.nils,.nils])),(g,rdO L sy)]) (og:=og) (n:=n) (s:=52) (d1:=55) (gt:=ga) (v:=.c (.str (sB t))) rfl rfl rfl rfl (zE J5) (zE J5) (by rfl) om om (zE J5) (zE J5) hog (by rfl) (by rfl) (by simp only [Nat.mul_one,List.cons_append,List.nil_append];rfl) (by unfold maxLen;omega) om (strs_push hn t) (has0_skip (has0_cons (List.mem_cons_self ..) has0_nil)) (fun gb hn_gb=> ?_) (hm:=.inr ⟨rfl,rfl⟩)
   replace hn_ga:=Heap.ne_of hn_ga
   simp only [Heap.ne] at hn_ga
   have J6:=oj hn_g2 (oj hn_g3 hn_ga)
   refine ySG J6 ?_
   refine cw_store (FP':=[]) rfl rfl rfl rfl rfl (zE J6) (zE J6) (zE J6) (zE J6) (fun _ e=>by cases e) rfl rfl (show 4≤7 from by omega) rfl has0_nil ?_
   refine ySG J6 ?_
   refine aw_stop ⟨(sy,xs++[t],n+1,some gb),?_⟩
   refine⟨hlt,?_⟩
   and_intros
   all_goals first|rfl|exact List.Sublist.cons _ (List.Sublist.refl _)|exact True.intro|exact hsy|exact some_ne|exact hlp|(dsimp only;rw [List.length_append,hn];rfl)|(dsimp only;omega)
  ·have hc:¬(sx.e=0∧(!isS sx kSemi)=true):=fun z=>by rw [hb] at z;exact absurd z.2 (by decide)
   rw [lpS_end hc] at hlp
   subst hlp
   refine aw_stop ⟨(n,og),?_⟩
   and_intros<;>first|rfl|exact List.Sublist.refl _|exact True.intro|exact hn|exact hog
  ·have hc:¬(sx.e=0∧(!isS sx kSemi)=true):=fun z=>hb z.1
   rw [lpS_end hc] at hlp
   subst hlp
   refine aw_stop ⟨(n,og),?_⟩
   and_intros<;>first|rfl|exact List.Sublist.refl _|exact True.intro|exact hn|exact hog
 rintro ⟨n,og⟩ ⟨hn,hog⟩
 dsimp only at hn hog⊢
 have hs4:F.2.l<:+L.map TX.t:=by
  rw [←hF];exact((rdr_lp rdr_inB []).suf s3).trans hs3
 have f6:=expect_fg g L F.2 kSemi hs4 om
 subst hn
 refine aw_nd fun hnd=> ?_
 have hog2:∀q,og=some q→¬C.own0 q:=fun q hq hown=>by
  subst hq
  have:q=g:=by simpa [Heap.keys] using (hC q).1 hown
  subst this
  simp [Heap.keys,gh] at hnd
 refine aw_perm (h':=(g3,.cells 65 7 (ofL (.str (sB nm)::.int .i64 kd::.int .i64 v::gs og 1 F.1.length::rdc d)))::(gh og 9 (F.1.length*1) (strsF F.1)++[(g2,.cells 65 7 (ofL [.str (sB []),.int .i64 0,.int .i64 0,.nils,.bool false,.nils,.nils])),(g,rdO L F.2)])) (by rw [Nat.mul_one];exact .cons _ (List.perm_append_comm (l₁:=[(g2,.cells 65 7 (ofL [.str (sB []),.int .i64 0,.int .i64 0,.nils,.bool false,.nils,.nils])),(g,rdO L F.2)]))) ?_
 refine aw_frzG (j0:=3) (n:=F.1.length) (s:=1) (f':=ofL (.str (sB nm)::.int .i64 kd::.int .i64 v::strs true F.1::rdc d)) rfl rfl (fun j hj hj3=>by
  match j,hj,hj3 with
  |0,_,_=>rfl
  |1,_,_=>rfl
  |2,_,_=>rfl
  |4,_,_=>rfl
  |5,_,_=>rfl
  |6,_,_=>rfl) hog hog2 ?_
 all_goals try(have Z:=(oj hn_g2 hn_g3);(repeat' first|refine yA1 Z ?_|(refine zg Z (f6) ?_)|refine zW Z ?_|refine yP Z ?_|refine yN Z ?_|refine zC Z (fun hb=>?_) fun hb=>?_|refine zG Z (fun hb=>?_) fun hb=>?_|refine zD Z (fun hb=>?_) fun hb=>?_);all_goals clear Z)
 refine aw_rethw (h':=[(g,rdO L (expS kSemi F.2))]) rfl (by first|exact List.Sublist.refl _|exact .cons _ (.refl _)|exact .cons _ (.cons _ (.refl _))|exact .cons _ (.cons _ (.cons _ (.refl _)))) fun R r=>?_;simp only[go_sem,hn_g2,hn_g3];refine r _ rfl ?_;clear r R
 exact⟨rfl,rfl⟩
end Go.Proofs.YteocnikcjjonbaaGreat
