/- Parts of one proof, laid by a program. -/
import Derived.Test.YteehccacfedolaaGreatP00
import Derived.Test.YteehccacfedolaaGreatP11
import Derived.Laws.IdiomStrings
set_option linter.unusedSimpArgs false
set_option linter.unusedVariables false
set_option maxRecDepth 100000
set_option maxHeartbeats 12800000
namespace Go.Proofs.YteehccacfedolaaGreat
open Go.AI
theorem bqm {α:Type} [BEq α] [LawfulBEq α] {a b:α}:Bq (!(a==b)) (a≠b) (a=b):=⟨fun e=>by simpa using e,fun e=>by simpa using e⟩
section
variable {E : Env} {K : List It} {σ : Sl} {h : Heap} {all l rest : List Oper} {o : Oper} {F X Y : Prop}
theorem zC {t:Nat} {y z:Code} {b:Bool} {p1 p2:Prop} (q:F) (k1:p1→aw E (.code y::K) σ h) (k2:p2→aw E (.code z::K) σ h) (hb:F→σ.get t=.c (.bool b):=by intro f;simp only[go_sem,f]<;>rfl) (hp:Bq b p1 p2:=by first|(with_reducible exact bqd)|(with_reducible exact bqe)|(with_reducible exact bqn)|(with_reducible exact bqm)|((fail_if_success (with_reducible exact bqT));(fail_if_success (with_reducible exact bqF));exact bqt)):aw E (.code (.cond (.tmp t) y z)::K) σ h:=
 aw_cond (hb q) (fun e=>k1 (hp.t e)) fun e=>k2 (hp.f e)
theorem zG {t j:Nat} {want b:Bool} {p1 p2:Prop} (q:F) (x:p1→X) (y:p2→Y) (hg:o.guard=some (j,want):=by exact rfl) (hj:(all[j]?).bind (·.dst)=some t:=by exact rfl) (hb:F→σ.get t=.c (.bool b):=by intro f;simp only[go_sem,f]<;>rfl) (hp:Bq b p1 p2:=by first|(with_reducible exact bqd)|(with_reducible exact bqe)|(with_reducible exact bqn)|(with_reducible exact bqm)|((fail_if_success (with_reducible exact bqT));(fail_if_success (with_reducible exact bqF));exact bqt))
 (k1:F→Hold X→aw E (.ops all (o::rest)::K) (σ.set t (.c (.bool true))) h:=by intro f x;(try simp only[go_sem,f]);exact x.out) (k2:F→Hold Y→aw E (.ops all (o::rest)::K) (σ.set t (.c (.bool false))) h:=by intro f x;(try simp only[go_sem,f]);exact x.out):aw E (.ops all (o::rest)::K) σ h:=aw_split t (hb q) (fun e=>k1 q ⟨x (hp.t e)⟩) fun e=>k2 q ⟨y (hp.f e)⟩
theorem zD {t j n:Nat} {want b:Bool} {p1 p2:Prop} (q:F) (x:p1→X) (y:p2→Y) (hg:o.guard=some (j,want):=by exact rfl) (hj:(l[j]?).bind (·.dst)=some t:=by exact rfl) (hb:F→σ.get t=.c (.bool b):=by intro f;simp only[go_sem,f]<;>rfl) (hp:Bq b p1 p2:=by first|(with_reducible exact bqd)|(with_reducible exact bqe)|(with_reducible exact bqn)|(with_reducible exact bqm)|((fail_if_success (with_reducible exact bqT));(fail_if_success (with_reducible exact bqF));exact bqt))
 (k1:F→Hold X→DrK E h l K n (o::rest) (σ.set t (.c (.bool true))):=by intro f x;(try simp only[go_sem,f]);exact x.out) (k2:F→Hold Y→DrK E h l K n (o::rest) (σ.set t (.c (.bool false))):=by intro f x;(try simp only[go_sem,f]);exact x.out):DrK E h l K n (o::rest) σ:=drk_split t (hb q) (fun e=>k1 q ⟨x (hp.t e)⟩) fun e=>k2 q ⟨y (hp.f e)⟩
end
end Go.Proofs.YteehccacfedolaaGreat
namespace Go.PN
open Go.AI
theorem getD_ext {α:Type} (d:α) {xs ys:List α} (hl:xs.length=ys.length) (h:∀j,j<xs.length→xs.getD j d=ys.getD j d):xs=ys:=by
 refine List.ext_getElem hl fun j h1 h2=> ?_
 have:=h j h1
 rw [List.getD_eq_getElem?_getD,List.getD_eq_getElem?_getD,List.getElem?_eq_getElem h1,List.getElem?_eq_getElem h2] at this
 exact this
theorem pre_succ {α:Type} {d:α} {xs ys:List α} {i:Nat} (hs:∀j,j<i→xs.getD j d=ys.getD j d) (h:xs.getD i d=ys.getD i d):∀j,j<i+1→xs.getD j d=ys.getD j d:=fun j hj=>by
 by_cases e:j=i
 ·subst e;exact h
 ·exact hs j om
instance:DecidableEq GtD:=fun a b=>decidable_of_iff (a.name=b.name∧a.kind=b.kind∧a.k=b.k∧a.inputs=b.inputs∧a.dorm=b.dorm) (by cases a;cases b;simp)
instance:DecidableEq EvD:=fun a b=>decidable_of_iff (a.name=b.name∧a.p=b.p∧a.fail=b.fail∧a.rep=b.rep∧a.cost=b.cost) (by cases a;cases b;simp)
instance:DecidableEq HsD:=fun a b=>decidable_of_iff (a.name=b.name∧a.on=b.on) (by cases a;cases b;simp)
instance:DecidableEq PgD:=fun a b=>decidable_of_iff (a.name=b.name∧a.top=b.top∧a.gates=b.gates) (by cases a;cases b;simp)
instance:DecidableEq GrD:=fun a b=>decidable_of_iff (a.name=b.name∧a.kind=b.kind∧a.members=b.members∧a.factors=b.factors) (by cases a;cases b;simp)
instance:DecidableEq VlD:=fun a b=>decidable_of_iff (a.event=b.event∧a.p=b.p) (by cases a;cases b;simp)
instance:DecidableEq PhD:=fun a b=>decidable_of_iff (a.name=b.name∧a.top=b.top∧a.values=b.values) (by cases a;cases b;simp)
instance:DecidableEq MdD:=fun a b=>decidable_of_iff (a.name=b.name∧a.top=b.top∧a.events=b.events∧a.houses=b.houses∧a.gates=b.gates∧a.pages=b.pages∧a.groups=b.groups∧a.phases=b.phases) (by cases a;cases b;simp)
end Go.PN
namespace Go.Proofs.YteehccacfedolaaGreat
open Go.AI Go.PN
attribute [local irreducible] aw Fa Fh DrK
theorem texts_fa (xs ys:List BS) (hl:xs.length≤1099511627776) (hl2:ys.length≤1099511627776):Fa Tryz.prog 10 [.c (strs false xs),.c (strs false ys)] (.c (.bool (decide (xs=ys)))):=by
 refine fa_of_body Tryz.func10 rfl rfl (by simp [Tryz.ntmps10]) fun C hC=> ?_
 simp only [initS,Nat.reduceAdd]
 repeat' first|refine yA1 o0 ?_|refine zW o0 ?_|refine yP o0 ?_|refine yN o0 ?_|refine zC o0 (fun hb=>?_) fun hb=>?_|refine zG o0 (fun hb=>?_) fun hb=>?_|refine zD o0 (fun hb=>?_) fun hb=>?_
 ·refine xT hC ?_
  exact .one (.c (ler_bool (decide_eq_false fun e=>hb (by rw [e])).symm))
 have hlen:xs.length=ys.length:=by simpa using hb
 refine aw_lp (fun i:Nat=>[(0,.c (strs false xs)),(1,.c (strs false ys)),(12,.c (.int .i64 xs.length)),(13,.c (.int .i64 i))]) (fun _=>[]) (fun i=>i≤xs.length∧∀j,j<i→xs.getD j []=ys.getD j []) (fun i=>xs.length-i) 0 eB zZ ⟨Nat.zero_le _,fun j hj=>absurd hj om⟩ ?_
 rintro i ⟨hi,hs⟩
 repeat' first|refine yA1 o0 ?_|refine zW o0 ?_|refine yP o0 ?_|refine yN o0 ?_|refine zC o0 (fun hb=>?_) fun hb=>?_|refine zG o0 (fun hb=>?_) fun hb=>?_|refine zD o0 (fun hb=>?_) fun hb=>?_
 ·have hi':=hb
  have hi2:i<ys.length:=by omega
  refine aw_dr 9 ty_mixed (by kernel_rfl) ?_
  repeat' first|refine yA1 o0 ?_|refine zW o0 ?_|refine yP o0 ?_|refine yN o0 ?_|refine zC o0 (fun hb=>?_) fun hb=>?_|refine zG o0 (fun hb=>?_) fun hb=>?_|refine zD o0 (fun hb=>?_) fun hb=>?_
  ·refine xT hC ?_
   exact .one (.c (ler_bool (decide_eq_false fun e=>hb (by rw [e])).symm))
  ·refine aw_stop ⟨i+1,?_⟩
   have hs2:=pre_succ hs (by simpa using hb)
   and_intros
   all_goals first|rfl|exact List.Sublist.refl _|exact True.intro|exact hs2|omega
 ·refine xT hC ?_
  exact .one (.c (ler_bool (decide_eq_true (getD_ext [] hlen fun j hj=>hs j om)).symm))
theorem rats_fa (xs ys:List RD) (hw:∀i,(xs.getD i rd0).wf 68719476736) (hl:xs.length≤1099511627776) (hl2:ys.length≤1099511627776):Fa Tryz.prog 28 [.c (rats true xs),.c (rats true ys)] (.c (.bool (decide (xs=ys)))):=by
 refine fa_of_body Tryz.func28 rfl rfl (by simp [Tryz.ntmps28]) fun C hC=> ?_
 simp only [initS,Nat.reduceAdd]
 repeat' first|refine yA1 o0 ?_|refine zW o0 ?_|refine yP o0 ?_|refine yN o0 ?_|refine zC o0 (fun hb=>?_) fun hb=>?_|refine zG o0 (fun hb=>?_) fun hb=>?_|refine zD o0 (fun hb=>?_) fun hb=>?_
 ·refine xT hC ?_
  exact .one (.c (ler_bool (decide_eq_false fun e=>hb (by rw [e])).symm))
 have hlen:xs.length=ys.length:=by simpa using hb
 refine aw_lp (fun i:Nat=>[(0,.c (rats true xs)),(1,.c (rats true ys)),(12,.c (.int .i64 xs.length)),(13,.c (.int .i64 i))]) (fun _=>[]) (fun i=>i≤xs.length∧∀j,j<i→xs.getD j rd0=ys.getD j rd0) (fun i=>xs.length-i) 0 eB zZ ⟨Nat.zero_le _,fun j hj=>absurd hj om⟩ ?_
 rintro i ⟨hi,hs⟩
 have f1:=ratEq_fa (xs.getD i rd0) (ys.getD i rd0) (hw i)
 repeat' first|refine yA1 o0 ?_|refine zW o0 ?_|refine yP o0 ?_|refine yN o0 ?_|refine zC o0 (fun hb=>?_) fun hb=>?_|refine zG o0 (fun hb=>?_) fun hb=>?_|refine zD o0 (fun hb=>?_) fun hb=>?_
 ·have hi':=hb
  have hi2:i<ys.length:=by omega
  refine aw_dr 10 ty_mixed (by kernel_rfl) ?_
  repeat' first|refine yA1 o0 ?_|(refine yC2 o0 (f1) ?_)|(refine yD2 o0 (f1) ?_)|refine zW o0 ?_|refine yP o0 ?_|refine yN o0 ?_|refine zC o0 (fun hb=>?_) fun hb=>?_|refine zG o0 (fun hb=>?_) fun hb=>?_|refine zD o0 (fun hb=>?_) fun hb=>?_
  ·refine xT hC ?_
   exact .one (.c (ler_bool (decide_eq_false fun e=>by rw [e] at hb;simp at hb).symm))
  ·refine aw_stop ⟨i+1,?_⟩
   have hs2:=pre_succ hs (by simpa using hb)
   and_intros
   all_goals first|rfl|exact List.Sublist.refl _|exact True.intro|exact hs2|omega
 ·refine xT hC ?_
  exact .one (.c (ler_bool (decide_eq_true (getD_ext rd0 hlen fun j hj=>hs j om)).symm))
theorem sameGates_fa (xs ys:List GtD) (hw:∀i,(xs.getD i gt0).dorm.wf 68719476736∧(xs.getD i gt0).inputs.length≤1099511627776∧(ys.getD i gt0).inputs.length≤1099511627776) (hl:xs.length≤1099511627776) (hl2:ys.length≤1099511627776):Fa Tryz.prog 27 [.c (gts true xs),.c (gts true ys)] (.c (.bool (decide (xs=ys)))):=by
 refine fa_of_body Tryz.func27 rfl rfl (by simp [Tryz.ntmps27]) fun C hC=> ?_
 simp only [initS,Nat.reduceAdd]
 repeat' first|refine yA1 o0 ?_|refine zW o0 ?_|refine yP o0 ?_|refine yN o0 ?_|refine zC o0 (fun hb=>?_) fun hb=>?_|refine zG o0 (fun hb=>?_) fun hb=>?_|refine zD o0 (fun hb=>?_) fun hb=>?_
 ·refine xT hC ?_
  exact .one (.c (ler_bool (decide_eq_false fun e=>hb (by rw [e])).symm))
 have hlen:xs.length=ys.length:=by simpa using hb
 refine aw_lp (fun i:Nat=>[(13,.c (gts true xs)),(1,.c (gts true ys)),(14,.c (.int .i64 xs.length)),(15,.c (.int .i64 i))]) (fun _=>[]) (fun i=>i≤xs.length∧∀j,j<i→xs.getD j gt0=ys.getD j gt0) (fun i=>xs.length-i) 0 eB zZ ⟨Nat.zero_le _,fun j hj=>absurd hj om⟩ ?_
 rintro i ⟨hi,hs⟩
 obtain⟨w1,w2,w3⟩:=hw i
 repeat' first|refine yA1 o0 ?_|refine zW o0 ?_|refine yP o0 ?_|refine yN o0 ?_|refine zC o0 (fun hb=>?_) fun hb=>?_|refine zG o0 (fun hb=>?_) fun hb=>?_|refine zD o0 (fun hb=>?_) fun hb=>?_
 ·have hi':=hb
  have hi2:i<ys.length:=by omega
  have hne:xs.getD i gt0≠ys.getD i gt0→decide (xs=ys)=false:=fun h=>decide_eq_false fun e=>h (by rw [e])
  have hs2:=fun h=>pre_succ (d:=gt0) hs h
  refine xA fun g6 hn_g6=>?_
  repeat' first|refine yA1 hn_g6 ?_|refine zW hn_g6 ?_|refine yP hn_g6 ?_|refine yN hn_g6 ?_|refine zC hn_g6 (fun hb=>?_) fun hb=>?_|refine zG hn_g6 (fun hb=>?_) fun hb=>?_|refine zD hn_g6 (fun hb=>?_) fun hb=>?_
  refine yA hn_g6 fun g7 hn_g7=>?_
  generalize xs.getD i gt0=x at*
  generalize ys.getD i gt0=y at*
  have f1:=texts_fa x.inputs y.inputs w2 w3
  have f2:=ratEq_fa x.dorm y.dorm w1
  obtain⟨xn,xk,xv,xi,xd⟩:=x
  obtain⟨yn,yk,yv,yi,yd⟩:=y
  dsimp only at*
  all_goals try(have Z:=(oj hn_g6 hn_g7);(repeat' first|refine yA1 Z ?_|(refine yC2 Z (f1) ?_)|(refine yD2 Z (f1) ?_)|(refine yC2 Z (f2) ?_)|(refine yD2 Z (f2) ?_)|refine zW Z ?_|refine yP Z ?_|refine yN Z ?_|refine zC Z (fun hb=>?_) fun hb=>?_|refine zG Z (fun hb=>?_) fun hb=>?_|refine zD Z (fun hb=>?_) fun hb=>?_);all_goals clear Z)
  all_goals clear f1 f2
  all_goals first
   |(refine yT hC (oj hn_g6 hn_g7) ?_
     exact .one (.c (ler_bool (hne (by simp_all)).symm)))
   |(refine aw_stop ⟨i+1,?_⟩
     have hs3:=hs2 (by simp_all)
     and_intros
     all_goals first|rfl|exact List.nil_sublist _|exact True.intro|exact hs3|omega)
 ·refine xT hC ?_
  exact .one (.c (ler_bool (decide_eq_true (getD_ext gt0 hlen fun j hj=>hs j om)).symm))
end Go.Proofs.YteehccacfedolaaGreat
namespace Go.AI
open Go.PN
section
variable {P : Program} {h : Heap} {ρ : Operand → AV}
def isStg (P:Program) (t:TypeId):Bool:=match P.underlying t with
 |some .string=>true
 |_=>false
theorem isStg_spec {t:TypeId} (h:isStg P t=true):P.underlying t=some .string:=by
 unfold isStg at h
 split at h
 ·assumption
 ·cases h
def isBl (P:Program) (t:TypeId):Bool:=match P.underlying t with
 |some .bool=>true
 |_=>false
theorem isBl_spec {t:TypeId} (h:isBl P t=true):P.underlying t=some .bool:=by
 unfold isBl at h
 split at h
 ·assumption
 ·cases h
def tSB (P:Program) (t:TypeId):Bool:= !P.stoodInHeld t&& !P.eqGuardType P.depth t&&isStr P t&&(match (P.fieldsOf t).toList with
 |[f,g]=>f.name != "_" &&g.name != "_" &&f.offset==0&&g.offset==1&&isStg P f.type&&isBl P g.type
 |_=>false)
theorem tSB_run {t:TypeId} (ht:tSB P t=true) (a c:BS) (b d:Bool) (w:World):(Op.equalIn 10000 t (.agg #[.string (sB a),.bool b]) (.agg #[.string (sB c),.bool d])).run P w=.ok (decide (a=c∧b=d)) w∧P.eqGuardType P.depth t=false:=by
 unfold tSB at ht
 simp only [Bool.and_eq_true,Bool.not_eq_true'] at ht
 obtain⟨⟨⟨h1,h2⟩,h4⟩,h3⟩:=ht
 refine⟨?_,h2⟩
 have hu:=isStr_spec h4
 rw [show(10000:Nat)=9999+1 from rfl,run_equalIn_agg w 9999 t _ _ hu h1]
 split at h3
 ·rename_i f g hfg
  rw [hfg]
  simp only [Bool.and_eq_true,bne_iff_ne,ne_eq,beq_iff_eq] at h3
  obtain⟨⟨⟨⟨⟨n1,n2⟩,o1⟩,o2⟩,u1⟩,u2⟩:=h3
  have u1:=isStg_spec u1
  have u2:=isBl_spec u2
  have g1:(isAgg f.type).run P w=.ok false w:=by simp [isAgg,run_underlying u1]
  have g2:(isAgg g.type).run P w=.ok false w:=by simp [isAgg,run_underlying u2]
  have p1:∀s x,(part f.type #[.string s,.bool x] f.offset).run P w=.ok (.string s) w:=fun s x=>by
   unfold part
   simp only [Sem.run_bind,g1,Result.andThen_ok,Bool.false_eq_true,if_false,o1]
   rfl
  have p2:∀s x,(part g.type #[.string s,.bool x] g.offset).run P w=.ok (.bool x) w:=fun s x=>by
   unfold part
   simp only [Sem.run_bind,g2,Result.andThen_ok,Bool.false_eq_true,if_false,o2]
   rfl
  have e1:(Op.equalIn 9999 f.type (.string (sB a)) (.string (sB c))).run P w=.ok ((sB a).toList==(sB c).toList) w:=run_equalIn_string w 9998 f.type _ _ u1
  have e2:(Op.equalIn 9999 g.type (.bool b) (.bool d)).run P w=.ok (b==d) w:=run_equalIn_bool' w 9998 g.type _ _ u2
  have hs:((sB a).toList==(sB c).toList)=decide (a=c):=by
   have:=sb_strEq a c
   unfold strEq at this
   rw [show sB a=⟨a.toArray⟩ from rfl,show sB c=⟨c.toArray⟩ from rfl,this,Bool.eq_iff_iff];simp
  simp only [Op.eqFields,n1,n2,not_false_eq_true,if_true,Sem.run_bind,p1,p2,e1,e2,Result.andThen_ok,hs,ne_eq]
  by_cases hac:a=c
  ·subst hac
   by_cases hbd:b=d
   ·subst hbd;simp [p2,e2]
   ·have:(b==d)=false:=by simpa using hbd
    simp [p2,e2,hbd,this]
  ·simp [hac]
 ·cases h3
theorem POk.neqSB {t t':TypeId} {x y:Operand} {a c:BS} {b d:Bool} (hx:ρ x=.agg [.str (sB a),.bool b]) (hy:ρ y=.agg [.str (sB c),.bool d]) (ht:tSB P t=true):POk P h ρ (.binOp .neq t x y t') (.c (.bool (!decide (a=c∧b=d)))):=fun S w e _ ho _=>by
 have h1:=ho x (by simp [Op.operands])
 have h2:=ho y (by simp [Op.operands])
 rw [hx] at h1
 rw [hy] at h2
 obtain⟨us,hu,hru⟩:=h1
 obtain⟨vs,hv,hrv⟩:=h2
 obtain⟨r1,r2⟩:=tSB_run ht a c b d w
 have k1:us=[.string (sB a),.bool b]:=by
  match us,hru with
  |[p,q],⟨q1,q2,_⟩=>rw [show p=_ from q1,show q=_ from q2]
 have k2:vs=[.string (sB c),.bool d]:=by
  match vs,hrv with
  |[p,q],⟨q1,q2,_⟩=>rw [show p=_ from q1,show q=_ from q2]
 subst k1 k2
 refine⟨.bool (!decide (a=c∧b=d)),fun o hop=>exec_bin hop ?_ ?_,rfl⟩
 ·rw [hu,hv];exact run_eqGuard_agg w _ _ _ _ _ _ r2
 ·rw [hu,hv,run_neq_struct,r1];rfl
end
end Go.AI
namespace Go.PN
open Go.AI
theorem dec_f {p:Prop} [Decidable p] (h:¬p):false=decide p:=(decide_eq_false h).symm
theorem dec_t {p:Prop} [Decidable p] (h:p):true=decide p:=(decide_eq_true h).symm
end Go.PN
namespace Go.Proofs.YteehccacfedolaaGreat
open Go.AI Go.PN
attribute [local irreducible] aw Fa Fh DrK
theorem sameParts_fa (a b:MdD) (ha:MdO a) (hbb:MdO b):Fa Tryz.prog 26 [.agg (mdc true a),.agg (mdc true b)] (.c (.bool (decide (a.events=b.events∧a.houses=b.houses∧a.pages=b.pages)))):=by
 have a1:=ha.ok
 have a2:=hbb.ok
 have b1:=a1.ev
 have b2:=a1.hs
 have b3:=a1.pg
 have b4:=a2.ev
 have b5:=a2.hs
 have b6:=a2.pg
 refine fa_of_body Tryz.func26 rfl rfl (by simp [Tryz.ntmps26]) fun C hC=> ?_
 simp only [initS,Nat.reduceAdd]
 repeat' first|refine yA1 o0 ?_|refine zW o0 ?_|refine yP o0 ?_|refine yN o0 ?_|refine zC o0 (fun hb=>?_) fun hb=>?_|refine zG o0 (fun hb=>?_) fun hb=>?_|refine zD o0 (fun hb=>?_) fun hb=>?_
 refine xB fun g2 hn_g2=>?_
 repeat' first|refine yA1 hn_g2 ?_|refine zW hn_g2 ?_|refine yP hn_g2 ?_|refine yN hn_g2 ?_|refine zC hn_g2 (fun hb=>?_) fun hb=>?_|refine zG hn_g2 (fun hb=>?_) fun hb=>?_|refine zD hn_g2 (fun hb=>?_) fun hb=>?_
 refine yB hn_g2 fun g3 hn_g3=>?_
 all_goals try(have Z:=(oj hn_g2 hn_g3);(repeat' first|refine yA1 Z ?_|refine zW Z ?_|refine yP Z ?_|refine yN Z ?_|refine zC Z (fun hb=>?_) fun hb=>?_|refine zG Z (fun hb=>?_) fun hb=>?_|refine zD Z (fun hb=>?_) fun hb=>?_);all_goals clear Z)
 ·refine yT hC (oj hn_g2 hn_g3) ?_
  exact .one (.c (ler_bool (dec_f fun e=>hb (by rw [e.1]))))
 ·refine yT hC (oj hn_g2 hn_g3) ?_
  exact .one (.c (ler_bool (dec_f fun e=>hb (by rw [e.2.1]))))
 ·refine yT hC (oj hn_g2 hn_g3) ?_
  exact .one (.c (ler_bool (dec_f fun e=>hb (by rw [e.2.2]))))
 rename_i l1 l2
 have l3:a.pages.length=b.pages.length:=by simpa using hb
 clear hb
 have wv:=fun i=>getD_all ha.ev.2 ev0_o i
 have wg:=ha.pgi
 have wh:=hbb.pgi
 refine aw_lp (fun i:Nat=>[(2,.c (.optr g2 0)),(3,.c (.optr g3 0)),(38,.c (evs true a.events)),(39,.c (.int .i64 a.events.length)),(40,.c (.int .i64 i))]) (fun _=>[(g3,.cells 30 8 (ofL (mdc true b))),(g2,.cells 30 8 (ofL (mdc true a)))]) (fun i=>i≤a.events.length∧∀j,j<i→a.events.getD j ev0=b.events.getD j ev0) (fun i=>a.events.length-i) 0 (zB (oj hn_g2 hn_g3)) zZ ⟨Nat.zero_le _,fun j hj=>absurd hj om⟩ ?_
 rintro i ⟨hi,hs⟩
 all_goals try(have Z:=(oj hn_g2 hn_g3);(repeat' first|refine yA1 Z ?_|refine zW Z ?_|refine yP Z ?_|refine yN Z ?_|refine zC Z (fun hb=>?_) fun hb=>?_|refine zG Z (fun hb=>?_) fun hb=>?_|refine zD Z (fun hb=>?_) fun hb=>?_);all_goals clear Z)
 ·have hi':=hb
  have hi2:i<b.events.length:=by omega
  have hne:a.events.getD i ev0≠b.events.getD i ev0→decide (a.events=b.events∧a.houses=b.houses∧a.pages=b.pages)=false:=fun h=>decide_eq_false fun e=>h (by rw [e.1])
  have hs2:=fun h=>pre_succ (d:=ev0) hs h
  obtain⟨_,w1,w2,w3⟩:=wv i
  refine yA (oj hn_g2 hn_g3) fun g6 hn_g6=>?_
  all_goals try(have Z:=(oj hn_g2 (oj hn_g3 hn_g6));(repeat' first|refine yA1 Z ?_|refine zW Z ?_|refine yP Z ?_|refine yN Z ?_|refine zC Z (fun hb=>?_) fun hb=>?_|refine zG Z (fun hb=>?_) fun hb=>?_|refine zD Z (fun hb=>?_) fun hb=>?_);all_goals clear Z)
  refine yA (oj hn_g2 (oj hn_g3 hn_g6)) fun g7 hn_g7=>?_
  generalize a.events.getD i ev0=x at*
  generalize b.events.getD i ev0=y at*
  have f1:=ratEq_fa x.p y.p (wf_mono w1 (by decide))
  have f2:=ratEq_fa x.fail y.fail (wf_mono w2 (by decide))
  have f3:=ratEq_fa x.rep y.rep (wf_mono w3 (by decide))
  obtain⟨xn,xp,xf,xr,xc⟩:=x
  obtain⟨yn,yp,yf,yr,yc⟩:=y
  dsimp only at*
  all_goals try(have Z:=(oj hn_g2 (oj hn_g3 (oj hn_g6 hn_g7)));(repeat' first|refine yA1 Z ?_|(refine yC2 Z (f1) ?_)|(refine yD2 Z (f1) ?_)|(refine yC2 Z (f2) ?_)|(refine yD2 Z (f2) ?_)|(refine yC2 Z (f3) ?_)|(refine yD2 Z (f3) ?_)|refine zW Z ?_|refine yP Z ?_|refine yN Z ?_|refine zC Z (fun hb=>?_) fun hb=>?_|refine zG Z (fun hb=>?_) fun hb=>?_|refine zD Z (fun hb=>?_) fun hb=>?_);all_goals clear Z)
  all_goals clear f1 f2 f3
  all_goals first
   |(refine yT hC (oj hn_g2 (oj hn_g3 (oj hn_g6 hn_g7))) ?_
     exact .one (.c (ler_bool (hne (by simp_all)).symm)))
   |(refine aw_stop ⟨i+1,?_⟩
     have hs3:=hs2 (by simp_all)
     and_intros
     all_goals first|rfl|exact .cons _ (.cons _ (.refl _))|exact True.intro|exact hs3|omega)
 have e1:a.events=b.events:=getD_ext ev0 l1 fun j hj=>hs j om
 clear hs hi hb
 refine aw_lp (fun i:Nat=>[(2,.c (.optr g2 0)),(3,.c (.optr g3 0)),(89,.c (.int .i64 a.houses.length)),(90,.c (.int .i64 i))]) (fun _=>[(g3,.cells 30 8 (ofL (mdc true b))),(g2,.cells 30 8 (ofL (mdc true a)))]) (fun i=>i≤a.houses.length∧∀j,j<i→a.houses.getD j hs0=b.houses.getD j hs0) (fun i=>a.houses.length-i) 0 (zB (oj hn_g2 hn_g3)) zZ ⟨Nat.zero_le _,fun j hj=>absurd hj om⟩ ?_
 rintro i ⟨hi,hs⟩
 all_goals try(have Z:=(oj hn_g2 hn_g3);(repeat' first|refine yA1 Z ?_|refine zW Z ?_|refine yP Z ?_|refine yN Z ?_|refine zC Z (fun hb=>?_) fun hb=>?_|refine zG Z (fun hb=>?_) fun hb=>?_|refine zD Z (fun hb=>?_) fun hb=>?_);all_goals clear Z)
 ·have hi':=hb
  have hi2:i<b.houses.length:=by omega
  have hne:a.houses.getD i hs0≠b.houses.getD i hs0→decide (a.events=b.events∧a.houses=b.houses∧a.pages=b.pages)=false:=fun h=>decide_eq_false fun e=>h (by rw [e.2.1])
  have hs2:=fun h=>pre_succ (d:=hs0) hs h
  refine aw_dr 11 ty_mixed (by kernel_rfl) ?_
  all_goals try(have Z:=(oj hn_g2 hn_g3);(repeat' first|refine yA1 Z ?_|refine zW Z ?_|refine yP Z ?_|refine yN Z ?_|refine zC Z (fun hb=>?_) fun hb=>?_|refine zG Z (fun hb=>?_) fun hb=>?_|refine zD Z (fun hb=>?_) fun hb=>?_);all_goals clear Z)
  generalize a.houses.getD i hs0=x at*
  generalize b.houses.getD i hs0=y at*
  obtain⟨xn,xo⟩:=x
  obtain⟨yn,yo⟩:=y
  dsimp only at*
  refine drk_pok (POk.neqSB (a:=xn) (b:=xo) (c:=yn) (d:=yo) (zE (oj hn_g2 hn_g3)) (zE (oj hn_g2 hn_g3)) (by kernel_rfl)) rfl rfl ?_
  have J1:=oj hn_g2 hn_g3
  refine yS J1 ?_
  all_goals try(have Z:=J1;(repeat' first|refine yA1 Z ?_|refine zW Z ?_|refine yP Z ?_|refine yN Z ?_|refine zC Z (fun hb=>?_) fun hb=>?_|refine zG Z (fun hb=>?_) fun hb=>?_|refine zD Z (fun hb=>?_) fun hb=>?_);all_goals clear Z)
  all_goals first
   |(refine yT hC J1 ?_
     exact .one (.c (ler_bool (hne (fun e=>by have:=HsD.mk.inj e;simp [this] at hb)).symm)))
   |(refine aw_stop ⟨i+1,?_⟩
     have hs3:=hs2 (by simp_all)
     and_intros
     all_goals first|rfl|exact .refl _|exact True.intro|exact hs3|omega)
 have e2:a.houses=b.houses:=getD_ext hs0 l2 fun j hj=>hs j om
 clear hs hi hb
 refine aw_lp (fun i:Nat=>[(2,.c (.optr g2 0)),(3,.c (.optr g3 0)),(106,.c (pgs true a.pages)),(107,.c (.int .i64 a.pages.length)),(108,.c (.int .i64 i))]) (fun _=>[(g3,.cells 30 8 (ofL (mdc true b))),(g2,.cells 30 8 (ofL (mdc true a)))]) (fun i=>i≤a.pages.length∧∀j,j<i→a.pages.getD j pg0=b.pages.getD j pg0) (fun i=>a.pages.length-i) 0 (zB (oj hn_g2 hn_g3)) zZ ⟨Nat.zero_le _,fun j hj=>absurd hj om⟩ ?_
 rintro i ⟨hi,hs⟩
 all_goals try(have Z:=(oj hn_g2 hn_g3);(repeat' first|refine yA1 Z ?_|refine zW Z ?_|refine yP Z ?_|refine yN Z ?_|refine zC Z (fun hb=>?_) fun hb=>?_|refine zG Z (fun hb=>?_) fun hb=>?_|refine zD Z (fun hb=>?_) fun hb=>?_);all_goals clear Z)
 ·have hi':=hb
  have hi2:i<b.pages.length:=by omega
  have hne:a.pages.getD i pg0≠b.pages.getD i pg0→decide (a.events=b.events∧a.houses=b.houses∧a.pages=b.pages)=false:=fun h=>decide_eq_false fun e=>h (by rw [e.2.2])
  have hs2:=fun h=>pre_succ (d:=pg0) hs h
  have w1:=wg i
  have w2:=wh i
  refine yA (oj hn_g2 hn_g3) fun g6 hn_g6=>?_
  all_goals try(have Z:=(oj hn_g2 (oj hn_g3 hn_g6));(repeat' first|refine yA1 Z ?_|refine zW Z ?_|refine yP Z ?_|refine yN Z ?_|refine zC Z (fun hb=>?_) fun hb=>?_|refine zG Z (fun hb=>?_) fun hb=>?_|refine zD Z (fun hb=>?_) fun hb=>?_);all_goals clear Z)
  refine yA (oj hn_g2 (oj hn_g3 hn_g6)) fun g7 hn_g7=>?_
  generalize a.pages.getD i pg0=x at*
  generalize b.pages.getD i pg0=y at*
  have f1:=sameGates_fa x.gates y.gates (fun j=>⟨wf_mono (getD_all w1.2.2.2 gt0_o j).2.1 (by decide),Nat.le_trans (getD_all w1.2.2.2 gt0_o j).2.2.1 (by decide),Nat.le_trans (getD_all w2.2.2.2 gt0_o j).2.2.1 (by decide)⟩) (Nat.le_trans w1.2.2.1 (by decide)) (Nat.le_trans w2.2.2.1 (by decide))
  obtain⟨xn,xt,xg⟩:=x
  obtain⟨yn,yt,yg⟩:=y
  dsimp only at*
  clear w1 w2
  all_goals try(have Z:=(oj hn_g2 (oj hn_g3 (oj hn_g6 hn_g7)));(repeat' first|refine yA1 Z ?_|(refine yC2 Z (f1) ?_)|(refine yD2 Z (f1) ?_)|refine zW Z ?_|refine yP Z ?_|refine yN Z ?_|refine zC Z (fun hb=>?_) fun hb=>?_|refine zG Z (fun hb=>?_) fun hb=>?_|refine zD Z (fun hb=>?_) fun hb=>?_);all_goals clear Z)
  all_goals clear f1
  all_goals first
   |(refine yT hC (oj hn_g2 (oj hn_g3 (oj hn_g6 hn_g7))) ?_
     exact .one (.c (ler_bool (hne (by simp_all)).symm)))
   |(refine aw_stop ⟨i+1,?_⟩
     have hs3:=hs2 (by simp_all)
     and_intros
     all_goals first|rfl|exact .cons _ (.cons _ (.refl _))|exact True.intro|exact hs3|omega)
 ·refine yT hC (oj hn_g2 hn_g3) ?_
  exact .one (.c (ler_bool (dec_t ⟨e1,e2,getD_ext pg0 l3 fun j hj=>hs j om⟩)))
end Go.Proofs.YteehccacfedolaaGreat
namespace Go.Proofs.YteehccacfedolaaGreat
open Go.AI Go.PN
attribute [local irreducible] aw Fa Fh DrK
theorem same_fa (a b:MdD) (ha:MdO a) (hbb:MdO b):Fa Tryz.prog 8 [.agg (mdc true a),.agg (mdc true b)] (.c (.bool (decide (a=b)))):=by
 have f1:=sameParts_fa a b ha hbb
 have f2:=sameGates_fa a.gates b.gates (fun j=>⟨wf_mono (getD_all ha.gt.2 gt0_o j).2.1 (by decide),Nat.le_trans (getD_all ha.gt.2 gt0_o j).2.2.1 (by decide),Nat.le_trans (getD_all hbb.gt.2 gt0_o j).2.2.1 (by decide)⟩) (Nat.le_trans ha.gt.1 (by decide)) (Nat.le_trans hbb.gt.1 (by decide))
 have a1:a.groups.length≤1099511627776:=Nat.le_trans ha.gr.1 (by decide)
 have a2:a.phases.length≤1099511627776:=Nat.le_trans ha.ph.1 (by decide)
 have a3:b.groups.length≤1099511627776:=Nat.le_trans hbb.gr.1 (by decide)
 have a4:b.phases.length≤1099511627776:=Nat.le_trans hbb.ph.1 (by decide)
 have v1:=fun i=>getD_all ha.gr.2 gr0_o i
 have v2:=fun i=>getD_all hbb.gr.2 gr0_o i
 have v3:=fun i=>getD_all ha.ph.2 ph0_o i
 have v4:=fun i=>getD_all hbb.ph.2 ph0_o i
 have hE:a.name=b.name→a.top=b.top→(a.events=b.events∧a.houses=b.houses∧a.pages=b.pages)→a.gates=b.gates→a.groups=b.groups→a.phases=b.phases→a=b:=by
  rintro q1 q2 ⟨q3,q4,q5⟩ q6 q7 q8
  cases a;cases b
  simp_all
 have n1:a.name≠b.name→decide (a=b)=false:=fun h=>decide_eq_false fun e=>h (by rw [e])
 have n2:a.top≠b.top→decide (a=b)=false:=fun h=>decide_eq_false fun e=>h (by rw [e])
 have n3:¬(a.events=b.events∧a.houses=b.houses∧a.pages=b.pages)→decide (a=b)=false:=fun h=>decide_eq_false fun e=>h (by rw [e];exact⟨rfl,rfl,rfl⟩)
 have n4:a.gates≠b.gates→decide (a=b)=false:=fun h=>decide_eq_false fun e=>h (by rw [e])
 have n5:a.groups.length≠b.groups.length→decide (a=b)=false:=fun h=>decide_eq_false fun e=>h (by rw [e])
 have n6:a.phases.length≠b.phases.length→decide (a=b)=false:=fun h=>decide_eq_false fun e=>h (by rw [e])
 have n7:∀i,a.groups.getD i gr0≠b.groups.getD i gr0→decide (a=b)=false:=fun i h=>decide_eq_false fun e=>h (by rw [e])
 have n8:∀i,a.phases.getD i ph0≠b.phases.getD i ph0→decide (a=b)=false:=fun i h=>decide_eq_false fun e=>h (by rw [e])
 generalize hX:decide (a=b)=X at*
 refine fa_of_body Tryz.func8 rfl rfl (by simp [Tryz.ntmps8]) fun C hC=> ?_
 simp only [initS,Nat.reduceAdd]
 repeat' first|refine yA1 o0 ?_|refine zW o0 ?_|refine yP o0 ?_|refine yN o0 ?_|refine zC o0 (fun hb=>?_) fun hb=>?_|refine zG o0 (fun hb=>?_) fun hb=>?_|refine zD o0 (fun hb=>?_) fun hb=>?_
 refine xB fun g2 hn_g2=>?_
 repeat' first|refine yA1 hn_g2 ?_|refine zW hn_g2 ?_|refine yP hn_g2 ?_|refine yN hn_g2 ?_|refine zC hn_g2 (fun hb=>?_) fun hb=>?_|refine zG hn_g2 (fun hb=>?_) fun hb=>?_|refine zD hn_g2 (fun hb=>?_) fun hb=>?_
 refine yB hn_g2 fun g3 hn_g3=>?_
 all_goals try(have Z:=(oj hn_g2 hn_g3);(repeat' first|refine yA1 Z ?_|(refine yC2 Z (f1) ?_)|(refine yD2 Z (f1) ?_)|(refine yC2 Z (f2) ?_)|(refine yD2 Z (f2) ?_)|refine zW Z ?_|refine yP Z ?_|refine yN Z ?_|refine zC Z (fun hb=>?_) fun hb=>?_|refine zG Z (fun hb=>?_) fun hb=>?_|refine zD Z (fun hb=>?_) fun hb=>?_);all_goals clear Z)
 ·refine yT hC (oj hn_g2 hn_g3) ?_
  exact .one (.c (ler_bool (n1 hb).symm))
 ·refine yT hC (oj hn_g2 hn_g3) ?_
  exact .one (.c (ler_bool (n2 hb).symm))
 ·refine yT hC (oj hn_g2 hn_g3) ?_
  exact .one (.c (ler_bool (n3 fun z=>by simp [z.1,z.2.1,z.2.2] at hb).symm))
 ·refine yT hC (oj hn_g2 hn_g3) ?_
  exact .one (.c (ler_bool (n4 (by simpa using hb)).symm))
 ·refine yT hC (oj hn_g2 hn_g3) ?_
  exact .one (.c (ler_bool (n5 hb).symm))
 ·refine yT hC (oj hn_g2 hn_g3) ?_
  exact .one (.c (ler_bool (n6 hb).symm))
 rename_i q1 q2 q3 q4 q5
 have q6:a.phases.length=b.phases.length:=by simpa using hb
 have q3:a.events=b.events∧a.houses=b.houses∧a.pages=b.pages:=by simpa using q3
 have q4:a.gates=b.gates:=by simpa using q4
 clear hb f1 f2 n1 n2 n3 n4 n5 n6
 refine aw_lp (fun i:Nat=>[(2,.c (.optr g2 0)),(3,.c (.optr g3 0)),(59,.c (grs true a.groups)),(60,.c (.int .i64 a.groups.length)),(61,.c (.int .i64 i))]) (fun _=>[(g3,.cells 30 8 (ofL (mdc true b))),(g2,.cells 30 8 (ofL (mdc true a)))]) (fun i=>i≤a.groups.length∧∀j,j<i→a.groups.getD j gr0=b.groups.getD j gr0) (fun i=>a.groups.length-i) 0 (zB (oj hn_g2 hn_g3)) zZ ⟨Nat.zero_le _,fun j hj=>absurd hj om⟩ ?_
 rintro i ⟨hi,hs⟩
 all_goals try(have Z:=(oj hn_g2 hn_g3);(repeat' first|refine yA1 Z ?_|refine zW Z ?_|refine yP Z ?_|refine yN Z ?_|refine zC Z (fun hb=>?_) fun hb=>?_|refine zG Z (fun hb=>?_) fun hb=>?_|refine zD Z (fun hb=>?_) fun hb=>?_);all_goals clear Z)
 ·have hi':=hb
  have hi2:i<b.groups.length:=by omega
  have hs2:=fun h=>pre_succ (d:=gr0) hs h
  have hne:=n7 i
  have w1:=v1 i
  have w2:=v2 i
  refine yA (oj hn_g2 hn_g3) fun g6 hn_g6=>?_
  all_goals try(have Z:=(oj hn_g2 (oj hn_g3 hn_g6));(repeat' first|refine yA1 Z ?_|refine zW Z ?_|refine yP Z ?_|refine yN Z ?_|refine zC Z (fun hb=>?_) fun hb=>?_|refine zG Z (fun hb=>?_) fun hb=>?_|refine zD Z (fun hb=>?_) fun hb=>?_);all_goals clear Z)
  refine yA (oj hn_g2 (oj hn_g3 hn_g6)) fun g7 hn_g7=>?_
  generalize a.groups.getD i gr0=x at*
  generalize b.groups.getD i gr0=y at*
  have f1:=texts_fa x.members y.members (Nat.le_trans w1.2.1 (by decide)) (Nat.le_trans w2.2.1 (by decide))
  have f2:=rats_fa x.factors y.factors (fun j=>wf_mono (getD_all w1.2.2.2.2 rd0_ok j) (by decide)) (Nat.le_trans w1.2.2.2.1 (by decide)) (Nat.le_trans w2.2.2.2.1 (by decide))
  obtain⟨xn,xk,xm,xf⟩:=x
  obtain⟨yn,yk,ym,yf⟩:=y
  dsimp only at*
  clear w1 w2
  all_goals try(have Z:=(oj hn_g2 (oj hn_g3 (oj hn_g6 hn_g7)));(repeat' first|refine yA1 Z ?_|(refine yC2 Z (f1) ?_)|(refine yD2 Z (f1) ?_)|(refine yC2 Z (f2) ?_)|(refine yD2 Z (f2) ?_)|refine zW Z ?_|refine yP Z ?_|refine yN Z ?_|refine zC Z (fun hb=>?_) fun hb=>?_|refine zG Z (fun hb=>?_) fun hb=>?_|refine zD Z (fun hb=>?_) fun hb=>?_);all_goals clear Z)
  all_goals clear f1 f2
  all_goals first
   |(refine yT hC (oj hn_g2 (oj hn_g3 (oj hn_g6 hn_g7))) ?_
     exact .one (.c (ler_bool (hne (by simp_all)).symm)))
   |(refine aw_stop ⟨i+1,?_⟩
     have hs3:=hs2 (by simp_all)
     and_intros
     all_goals first|rfl|exact .cons _ (.cons _ (.refl _))|exact True.intro|exact hs3|omega)
 have q7:a.groups=b.groups:=getD_ext gr0 q5 fun j hj=>hs j om
 clear hs hi hb
 refine aw_lp (fun i:Nat=>[(2,.c (.optr g2 0)),(3,.c (.optr g3 0)),(101,.c (phs true a.phases)),(102,.c (.int .i64 a.phases.length)),(103,.c (.int .i64 i))]) (fun _=>[(g3,.cells 30 8 (ofL (mdc true b))),(g2,.cells 30 8 (ofL (mdc true a)))]) (fun i=>i≤a.phases.length∧∀j,j<i→a.phases.getD j ph0=b.phases.getD j ph0) (fun i=>a.phases.length-i) 0 (zB (oj hn_g2 hn_g3)) zZ ⟨Nat.zero_le _,fun j hj=>absurd hj om⟩ ?_
 rintro i ⟨hi,hs⟩
 all_goals try(have Z:=(oj hn_g2 hn_g3);(repeat' first|refine yA1 Z ?_|refine zW Z ?_|refine yP Z ?_|refine yN Z ?_|refine zC Z (fun hb=>?_) fun hb=>?_|refine zG Z (fun hb=>?_) fun hb=>?_|refine zD Z (fun hb=>?_) fun hb=>?_);all_goals clear Z)
 ·have hi':=hb
  have hi2:i<b.phases.length:=by omega
  have hs2:=fun h=>pre_succ (d:=ph0) hs h
  have hne:=n8 i
  have w1:=v3 i
  have w2:=v4 i
  refine yA (oj hn_g2 hn_g3) fun g6 hn_g6=>?_
  all_goals try(have Z:=(oj hn_g2 (oj hn_g3 hn_g6));(repeat' first|refine yA1 Z ?_|refine zW Z ?_|refine yP Z ?_|refine yN Z ?_|refine zC Z (fun hb=>?_) fun hb=>?_|refine zG Z (fun hb=>?_) fun hb=>?_|refine zD Z (fun hb=>?_) fun hb=>?_);all_goals clear Z)
  refine yA (oj hn_g2 (oj hn_g3 hn_g6)) fun g7 hn_g7=>?_
  generalize a.phases.getD i ph0=x at*
  generalize b.phases.getD i ph0=y at*
  obtain⟨xn,xt,xv⟩:=x
  obtain⟨yn,yt,yv⟩:=y
  dsimp only at*
  have u1:xv.length≤1099511627776:=Nat.le_trans w1.2.2.1 (by decide)
  have u2:yv.length≤1099511627776:=Nat.le_trans w2.2.2.1 (by decide)
  all_goals try(have Z:=(oj hn_g2 (oj hn_g3 (oj hn_g6 hn_g7)));(repeat' first|refine yA1 Z ?_|refine zW Z ?_|refine yP Z ?_|refine yN Z ?_|refine zC Z (fun hb=>?_) fun hb=>?_|refine zG Z (fun hb=>?_) fun hb=>?_|refine zD Z (fun hb=>?_) fun hb=>?_);all_goals clear Z)
  ·refine yT hC (oj hn_g2 (oj hn_g3 (oj hn_g6 hn_g7))) ?_
   exact .one (.c (ler_bool (hne (by simp_all)).symm))
  ·refine yT hC (oj hn_g2 (oj hn_g3 (oj hn_g6 hn_g7))) ?_
   exact .one (.c (ler_bool (hne (by simp_all)).symm))
  ·refine yT hC (oj hn_g2 (oj hn_g3 (oj hn_g6 hn_g7))) ?_
   exact .one (.c (ler_bool (hne (fun e=>hb (by rw [(PhD.mk.inj e).2.2]))).symm))
  rename_i r1 r2
  have r3:xv.length=yv.length:=by simpa using hb
  clear hb
  refine aw_lp (fun k:Nat=>[(2,.c (.optr g2 0)),(3,.c (.optr g3 0)),(10,.c (.optr g7 0)),(101,.c (phs true a.phases)),(102,.c (.int .i64 a.phases.length)),(103,.c (.int .i64 i)),(135,.c (vls true xv)),(136,.c (.int .i64 xv.length)),(137,.c (.int .i64 k))]) (fun _=>[(g7,.cells 82 3 (ofL (phc ⟨yn,yt,yv⟩))),(g3,.cells 30 8 (ofL (mdc true b))),(g2,.cells 30 8 (ofL (mdc true a)))]) (fun k=>k≤xv.length∧∀j,j<k→xv.getD j vl0=yv.getD j vl0) (fun k=>xv.length-k) 0 (zB (oj hn_g2 (oj hn_g3 (oj hn_g6 hn_g7)))) (by first|exact .refl _|exact .cons _ (.refl _)|exact .cons_cons _ (.cons _ (.refl _))) ⟨Nat.zero_le _,fun j hj=>absurd hj om⟩ ?_
  rintro k ⟨hk,ht⟩
  all_goals try(have Z:=(oj hn_g2 (oj hn_g3 (oj hn_g6 hn_g7)));(repeat' first|refine yA1 Z ?_|refine zW Z ?_|refine yP Z ?_|refine yN Z ?_|refine zC Z (fun hb=>?_) fun hb=>?_|refine zG Z (fun hb=>?_) fun hb=>?_|refine zD Z (fun hb=>?_) fun hb=>?_);all_goals clear Z)
  ·have hk':=hb
   have hk2:k<yv.length:=by omega
   have ht2:=fun h=>pre_succ (d:=vl0) ht h
   have hne2:xv.getD k vl0≠yv.getD k vl0→X=false:=fun h=>hne (fun e=>h (by rw [(PhD.mk.inj e).2.2]))
   have w3:=(getD_all w1.2.2.2 vl0_o k).2
   refine yA (oj hn_g2 (oj hn_g3 (oj hn_g6 hn_g7))) fun g8 hn_g8=>?_
   all_goals try(have Z:=(oj hn_g2 (oj hn_g3 (oj hn_g6 (oj hn_g7 hn_g8))));(repeat' first|refine yA1 Z ?_|refine zW Z ?_|refine yP Z ?_|refine yN Z ?_|refine zC Z (fun hb=>?_) fun hb=>?_|refine zG Z (fun hb=>?_) fun hb=>?_|refine zD Z (fun hb=>?_) fun hb=>?_);all_goals clear Z)
   refine yA (oj hn_g2 (oj hn_g3 (oj hn_g6 (oj hn_g7 hn_g8)))) fun g9 hn_g9=>?_
   generalize xv.getD k vl0=p at*
   generalize yv.getD k vl0=q at*
   have f1:=ratEq_fa p.p q.p (wf_mono w3 (by decide))
   obtain⟨pe,pp⟩:=p
   obtain⟨qe,qp⟩:=q
   dsimp only at*
   all_goals try(have Z:=(oj hn_g2 (oj hn_g3 (oj hn_g6 (oj hn_g7 (oj hn_g8 hn_g9)))));(repeat' first|refine yA1 Z ?_|(refine yC2 Z (f1) ?_)|(refine yD2 Z (f1) ?_)|refine zW Z ?_|refine yP Z ?_|refine yN Z ?_|refine zC Z (fun hb=>?_) fun hb=>?_|refine zG Z (fun hb=>?_) fun hb=>?_|refine zD Z (fun hb=>?_) fun hb=>?_);all_goals clear Z)
   all_goals clear f1
   all_goals first
    |(refine yT hC (oj hn_g2 (oj hn_g3 (oj hn_g6 (oj hn_g7 (oj hn_g8 hn_g9))))) ?_
      exact .one (.c (ler_bool (hne2 (by simp_all)).symm)))
    |(refine aw_stop ⟨k+1,?_⟩
      have ht3:=ht2 (by simp_all)
      and_intros
      all_goals first|rfl|exact .cons _ (.cons _ (.refl _))|exact True.intro|exact ht3|omega)
  ·have r4:xv=yv:=getD_ext vl0 r3 fun j hj=>ht j om
   all_goals try(have Z:=(oj hn_g2 (oj hn_g3 (oj hn_g6 hn_g7)));(repeat' first|refine yA1 Z ?_|refine zW Z ?_|refine yP Z ?_|refine yN Z ?_|refine zC Z (fun hb=>?_) fun hb=>?_|refine zG Z (fun hb=>?_) fun hb=>?_|refine zD Z (fun hb=>?_) fun hb=>?_);all_goals clear Z)
   refine aw_stop ⟨i+1,?_⟩
   have hs3:=hs2 (by simp_all)
   and_intros
   all_goals first|rfl|exact .cons _ (.refl _)|exact True.intro|exact hs3|omega
 ·have q8:a.phases=b.phases:=getD_ext ph0 q6 fun j hj=>hs j om
  refine yT hC (oj hn_g2 hn_g3) ?_
  rw [←hX]
  exact .one (.c (ler_bool (dec_t (hE q1 q2 q3 q4 q7 q8))))
end Go.Proofs.YteehccacfedolaaGreat
namespace Go.PN
open Go.AI
def awT:BS:=[109,111,100,101,108,32,109,59,32,101,118,101,110,116,32,97,32,112,32,49,47,49,48,48,59,32,101,118,101,110,116,32,98,59,32,103,97,116,101,32,103,32,97,110,100,32,97,32,98,59,32,116,111,112,32,103,59]
def awG:BS:=[103,97,116,101,32,103,32,118,111,116,101,32,50,32,97,32,98,32,64,32,112,59]
abbrev awM:MdD:=⟨[109],[103],[⟨[97],rd (1/100),rd0,rd0,0⟩,⟨[98],rd0,rd0,rd0,0⟩],[],[⟨[103],0,0,[[97],[98]],rd0⟩],[],[],[]⟩
abbrev awD:GtD:=⟨[103],2,2,[[97],[98],[64,112]],rd0⟩
theorem awT_ok:modelP mcC awT=(awM,0):=by
 have h1:(splitS awT).1=0:=by decide+kernel
 have h2:(readS ⟨(splitS awT).2,0⟩).1=awM:=by decide+kernel
 have h3:(readS ⟨(splitS awT).2,0⟩).2.e=0:=by decide+kernel
 have h4:mcC awM=0:=by decide+kernel
 unfold modelP
 dsimp only
 rw [if_neg (fun h=>h h1),if_neg (fun h=>h h3),h2,if_neg (fun h=>h h4)]
theorem awG_ok:gateP awG=(awD,0):=by
 have h1:(splitS awG).1=0:=by decide+kernel
 have h2:(gateS (expS kGate ⟨(splitS awG).2,0⟩)).1=awD:=by decide+kernel
 have h3:(endS (gateS (expS kGate ⟨(splitS awG).2,0⟩)).2).e=0:=by decide+kernel
 unfold gateP
 dsimp only
 rw [if_neg (fun h=>h h1),if_neg (fun h=>h h3),h2]
end Go.PN
namespace Go.Proofs.YteehccacfedolaaGreat
open Go.AI Go.PN
attribute [local irreducible] aw Fa Fh DrK
theorem awake23_fa:Fa Tryz.prog 4 [] (.c (.bool true)):=by
 have f1:=pm_fa awT (by decide)
 have f2:=pg_fa awG (by decide)
 rw [awT_ok] at f1
 rw [awG_ok] at f2
 dsimp only at f1 f2
 have f3:=texts_fa [[97],[98],[64,112]] [[97],[98],[64,112]] (by decide) (by decide)
 have e0:errA 0=.nilI:=if_pos rfl
 rw [e0] at f1 f2
 unfold awT at f1
 unfold awG at f2
 refine fa_of_body Tryz.func4 rfl rfl (by simp [Tryz.ntmps4]) fun C hC=> ?_
 simp only [initS,Nat.reduceAdd]
 repeat' first|refine yA1 o0 ?_|(refine yC2 o0 (f1) ?_)|(refine yD2 o0 (f1) ?_)|(refine yC2 o0 (f2) ?_)|(refine yD2 o0 (f2) ?_)|refine zW o0 ?_|refine yP o0 ?_|refine yN o0 ?_|refine zC o0 (fun hb=>?_) fun hb=>?_|refine zG o0 (fun hb=>?_) fun hb=>?_|refine zD o0 (fun hb=>?_) fun hb=>?_
 refine xA fun g1 hn_g1=>?_
 repeat' first|refine yA1 hn_g1 ?_|(refine yC2 hn_g1 (f1) ?_)|(refine yD2 hn_g1 (f1) ?_)|(refine yC2 hn_g1 (f2) ?_)|(refine yD2 hn_g1 (f2) ?_)|refine zW hn_g1 ?_|refine yP hn_g1 ?_|refine yN hn_g1 ?_|refine zC hn_g1 (fun hb=>?_) fun hb=>?_|refine zG hn_g1 (fun hb=>?_) fun hb=>?_|refine zD hn_g1 (fun hb=>?_) fun hb=>?_
 refine yA hn_g1 fun g3 hn_g3=>?_
 all_goals try(have Z:=(oj hn_g1 hn_g3);(repeat' first|refine yA1 Z ?_|refine zW Z ?_|refine yP Z ?_|refine yN Z ?_|refine zC Z (fun hb=>?_) fun hb=>?_|refine zG Z (fun hb=>?_) fun hb=>?_|refine zD Z (fun hb=>?_) fun hb=>?_);all_goals clear Z)
 all_goals first
  |(exfalso;exact hb rfl)
  |skip
 have hc1:(Value.string {data:= #[97]})=.string (sB [97]):=rfl
 refine aw_buildSlice (xs:=[.const (.string (sB [97])),.const (.string (sB [98])),.const (.string (sB [64,112]))]) (cells:=[.str (sB [97]),.str (sB [98]),.str (sB [64,112])]) rfl rfl rfl (zE (oj hn_g1 hn_g3)) (by refine yS (oj hn_g1 hn_g3) ?_;rfl) rfl om om (by intro z hz;simp only [List.mem_cons,List.not_mem_nil,or_false] at hz;rcases hz with rfl|rfl|rfl<;>exact⟨rfl,rfl,rfl⟩) rfl fun g hg=> ?_
 replace hg:=Heap.ne_of hg
 dsimp only [Heap.ne] at hg
 have J1:=oj hn_g1 (oj hn_g3 hg)
 refine yS J1 ?_
 refine aw_callq f3 rfl rfl rfl (by refine yS J1 ?_;exact⟨.c wl2,.c (.osl (m:=3) (zE J1) om (fun j hj=>by match j,hj with|0,_=>exact .refl _|1,_=>exact .refl _|2,_=>exact .refl _))⟩) ?_
 refine yS J1 ?_
 all_goals try(have Z:=J1;(repeat' first|refine yA1 Z ?_|refine zW Z ?_|refine yP Z ?_|refine yN Z ?_|refine zC Z (fun hb=>?_) fun hb=>?_|refine zG Z (fun hb=>?_) fun hb=>?_|refine zD Z (fun hb=>?_) fun hb=>?_);all_goals clear Z)
 refine yT hC J1 ?_
 exact .one (.c (ler_bool (by decide)))
end Go.Proofs.YteehccacfedolaaGreat
namespace Go.PN
open Go.AI
theorem dec_step {q:Rat} {x:Nat} (h:q=q) (n:Nat):(n:Rat)/((10^x:Nat):Rat)/((10:Int):Rat)=(n:Rat)/((10^(x+1):Nat):Rat):=by
 have h1:=pow10_ne x
 have h2:=pow10_ne (x+1)
 have h3:((10^(x+1):Nat):Rat)=((10^x:Nat):Rat)*10:=by rw [Nat.pow_succ];push_cast;rfl
 rw [h3]
 grind
theorem dec_sum (a b:BS):(natB a:Rat)+(natB b:Rat)/((10^b.length:Nat):Rat)=(natB (a++b):Rat)/((10^b.length:Nat):Rat):=by
 have h1:=pow10_ne b.length
 rw [natB_app]
 push_cast
 push_cast at h1
 grind
end Go.PN
namespace Go.Proofs.YteehccacfedolaaGreat
open Go.AI Go.PN
attribute [local irreducible] aw Fa Fh DrK
theorem sfromZ (neg:Bool) (n:Nat):Fa Tryz.prog 176 [.c (.bool neg),.c (ws false (words n)),.c (ws false (words 0))] (.tup [.agg (rdc rd0),.c (.int .i64 8)]):=by
 have h:=qbits_fa (words 0) (words_lt _) (by rw [words_zero];simp)
 rw [val_words,show bitlen 0=0 from bitlen_zero.2 rfl] at h
 refine fa_of_body Tryz.func176 rfl rfl (by simp [Tryz.ntmps176]) fun C hC=> ?_
 simp only [initS,Nat.reduceAdd]
 refine xG ?_
 refine xA fun g6 hn_g6=>?_
 repeat' first|refine yA1 hn_g6 ?_|(refine yC2 hn_g6 (h) ?_)|(refine yD2 hn_g6 (h) ?_)|refine zW hn_g6 ?_|refine yP hn_g6 ?_|refine yN hn_g6 ?_|refine zC hn_g6 (fun hb=>?_) fun hb=>?_|refine zG hn_g6 (fun hb=>?_) fun hb=>?_|refine zD hn_g6 (fun hb=>?_) fun hb=>?_
 refine yT hC hn_g6 ?_
 exact .tup ⟨.agg ⟨.bool _,.nils,.nils,trivial⟩,.c (.int _ _),trivial⟩
theorem sdiv_zero (a b:RD) (ha:a.wf 1073741824) (hb:b.wf 1073741824) (hz:b.q=0):Fa Tryz.prog 157 [.agg (rdc a),.agg (rdc b)] (.tup [.agg (rdc rd0),.c (.int .i64 8)]):=by
 obtain⟨l1,l2⟩:=RD.p_len ha om
 obtain⟨l3,l4⟩:=RD.p_len hb om
 have hp:b.pn=0:=Classical.byContradiction fun h=>by
  have hd:=RD.pd_ne hb
  unfold RD.q sq at hz
  rw [Rat.mkRat_eq_zero hd] at hz
  unfold sgn at hz
  split at hz<;>omega
 have m1:=words_mul_len a.pn b.pd
 have m3:=words_mul_len a.pd b.pn
 have h1:=sparts_fa a ha
 have h2:=sparts_fa b hb
 have h3:=qmulW a.pn b.pd om om
 have h4:=qmulW a.pd b.pn om om
 have h5:=sfromZ (a.ps !=b.ps) (a.pn*b.pd)
 rw [show(0:Nat)=a.pd*b.pn from by rw [hp];simp] at h5
 refine fa_of_body Tryz.func157 rfl rfl (by simp [Tryz.ntmps157]) fun C hC=> ?_
 simp only [initS,Nat.reduceAdd]
 refine xG ?_
 refine xB fun g2 hn_g2=>?_
 refine yB hn_g2 fun g3 hn_g3=>?_
 refine yA (oj hn_g2 hn_g3) fun g4 hn_g4=>?_
 all_goals try(have Z:=(oj hn_g2 (oj hn_g3 hn_g4));(repeat' first|refine yA1 Z ?_|(refine yC2 Z (h1) ?_)|(refine yD2 Z (h1) ?_)|(refine yC2 Z (h2) ?_)|(refine yD2 Z (h2) ?_)|(refine yC2 Z (h3) ?_)|(refine yD2 Z (h3) ?_)|(refine yC2 Z (h4) ?_)|(refine yD2 Z (h4) ?_)|(refine yC2 Z (h5) ?_)|(refine yD2 Z (h5) ?_)|refine zW Z ?_|refine yP Z ?_|refine yN Z ?_|refine zC Z (fun hb=>?_) fun hb=>?_|refine zG Z (fun hb=>?_) fun hb=>?_|refine zD Z (fun hb=>?_) fun hb=>?_);all_goals clear Z)
 refine yT hC (oj hn_g2 (oj hn_g3 hn_g4)) ?_
 exact .tup ⟨.agg lerl_rd,.c (.int _ _),trivial⟩
end Go.Proofs.YteehccacfedolaaGreat
namespace Go.PN
theorem span_all {s:BS} (h:∀i,i<s.length→isDig (bAt s i)=true):spanE isDig s 0=s.length:=by
 have:∀k i,i+k=s.length→spanE isDig s i=s.length:=by
  intro k
  induction k with
  |zero=>intro i hi;rw [spanE_out om];omega
  |succ k ih=>intro i hi;rw [spanE_yes om (h i om)];exact ih (i+1) om
 exact this _ _ (Nat.zero_add _)
end Go.PN
namespace Go.Proofs.YteehccacfedolaaGreat
open Go.AI Go.PN
theorem words_2_63:words 9223372036854775808=[0,2147483648]:=by decide+kernel
attribute [local irreducible] aw Fa Fh DrK
theorem sint_fa (r:RD) (hw:r.wf 1073741824):Fa Tryz.prog 136 [.agg (rdc r)] (.tup [.c (.int .i64 ((intQ r.q).getD 0)),.c (.bool (intQ r.q).isSome)]):=by
 obtain⟨l1,l2⟩:=RD.p_len hw om
 rw [intQ_of hw]
 have h1:=sparts_fa r hw
 have h3:=qcmpW r.pd 1 om (by rw [words_one];simp)
 rw [words_one] at h3
 have h5:=qcmpW r.pn 9223372036854775808 om (Nat.le_trans (words_small om) om)
 rw [words_2_63] at h5
 have h6:=qint_fa r.pn om
 have hn:∀n:Nat,n<9223372036854775808→wrapZ .i64 (0-(n:Int))= -(n:Int):=fun n hn=>int_neg om om
 have hn0:wrapZ .i64 (0-0)=0:=int_neg (n:=0) om om
 unfold partsAV at h1
 generalize r.pd=d at*
 generalize r.pn=n at*
 generalize r.ps=p at*
 refine fa_of_body Tryz.func136 rfl rfl (by simp [Tryz.ntmps136]) fun C hC=> ?_
 simp only [initS,Nat.reduceAdd]
 repeat' first|refine yA1 o0 ?_|refine zW o0 ?_|refine yP o0 ?_|refine yN o0 ?_|refine zC o0 (fun hb=>?_) fun hb=>?_|refine zG o0 (fun hb=>?_) fun hb=>?_|refine zD o0 (fun hb=>?_) fun hb=>?_
 refine xB fun g1 hn_g1=>?_
 repeat' first|refine yA1 hn_g1 ?_|(refine yC2 hn_g1 (h1) ?_)|(refine yD2 hn_g1 (h1) ?_)|refine zW hn_g1 ?_|refine yP hn_g1 ?_|refine yN hn_g1 ?_|refine zC hn_g1 (fun hb=>?_) fun hb=>?_|refine zG hn_g1 (fun hb=>?_) fun hb=>?_|refine zD hn_g1 (fun hb=>?_) fun hb=>?_
 refine aw_buildSlice (xs:=[.const (.int .u32 1)]) (cells:=[.int .u32 1]) rfl rfl rfl (zE hn_g1) (by refine yS hn_g1 ?_;rfl) rfl om om (by intro x hx;simp only [List.mem_singleton] at hx;subst hx;exact⟨rfl,rfl,rfl⟩) rfl fun g16 hn_g16=> ?_
 replace hn_g16:=Heap.ne_of hn_g16
 dsimp only [Heap.ne] at hn_g16
 have J1:=oj hn_g1 hn_g16
 refine yS J1 ?_
 refine aw_frzT (t:=16) (fun j=>.int .u32 (([1]:List Nat).getD j 0:Nat)) (zE J1) (zE J1) om (hC g16) (fun j hj=>by match j,hj with|0,_=>rfl) rfl (zE J1) ?_
 refine yS J1 ?_
 all_goals try(have Z:=J1;(repeat' first|refine yA1 Z ?_|(refine yC2 Z (h3) ?_)|(refine yD2 Z (h3) ?_)|(refine yC2 Z (h6) ?_)|(refine yD2 Z (h6) ?_)|refine zW Z ?_|refine yP Z ?_|refine yN Z ?_|refine zC Z (fun hb=>?_) fun hb=>?_|refine zG Z (fun hb=>?_) fun hb=>?_|refine zD Z (fun hb=>?_) fun hb=>?_);all_goals clear Z)
 all_goals try
  refine aw_buildSlice (xs:=[.const (.int .u32 0),.const (.int .u32 2147483648)]) (cells:=[.int .u32 0,.int .u32 2147483648]) rfl rfl rfl (zE J1) (by refine yS J1 ?_;rfl) rfl om om (by intro x hx;simp only [List.mem_cons,List.not_mem_nil,or_false] at hx;rcases hx with rfl|rfl<;>exact⟨rfl,rfl,rfl⟩) rfl fun g22 hn_g22=> ?_
  replace hn_g22:=Heap.ne_of hn_g22
  dsimp only [Heap.ne] at hn_g22
  have J2:=oj hn_g1 (oj hn_g16 hn_g22)
  refine yS J2 ?_
  refine aw_frzT (t:=22) (fun j=>.int .u32 (([0,2147483648]:List Nat).getD j 0:Nat)) (zE J2) (zE J2) om (hC g22) (fun j hj=>by match j,hj with|0,_=>rfl|1,_=>rfl) rfl (zE J2) ?_
  refine yS J2 ?_
  all_goals try(have Z:=J2;(repeat' first|refine yA1 Z ?_|(refine yC2 Z (h5) ?_)|(refine yD2 Z (h5) ?_)|(refine yC2 Z (h6) ?_)|(refine yD2 Z (h6) ?_)|refine zW Z ?_|refine yP Z ?_|refine yN Z ?_|refine zC Z (fun hb=>?_) fun hb=>?_|refine zG Z (fun hb=>?_) fun hb=>?_|refine zD Z (fun hb=>?_) fun hb=>?_);all_goals clear Z)
 all_goals
  refine yT hC J1 ?_
  clear h1 h3 h5 h6 J1
  refine .tup ⟨.c (ler_int ?_),.c (ler_bool ?_),trivial⟩
  all_goals
   simp only [ne_eq,cmpN_eq0] at*
   first
    |(exfalso;simp_all;done)
    |(try subst_vars
      try simp only [Bool.not_eq_true',Bool.not_eq_false',decide_eq_false_iff_not,decide_eq_true_eq] at*
      unfold sgn
      (repeat' split)<;>(try rw [hn _ om])<;>(try rw [hn0])<;>simp_all<;>omega)
end Go.Proofs.YteehccacfedolaaGreat
namespace Go.PN
open Go.AI
theorem span_eq {p:Nat→Bool} {l:BS}:∀(n i:Nat),(∀j,i≤j→j<i+n→p (bAt l j)=true)→i+n≤l.length→(i+n<l.length→p (bAt l (i+n))=false)→spanE p l i=i+n
 |0,i,_,h1,h2=>by
  by_cases h:i<l.length
  ·exact spanE_no h (by simpa using h2 om)
  ·exact spanE_out om
 |n+1,i,h,h1,h2=>by
  rw [spanE_yes om (h i (Nat.le_refl _) om),span_eq n (i+1) (fun j a b=>h j om om) om (fun z=>by rw [show i+1+n=i+(n+1) from by omega];exact h2 om)]
  omega
inductive LexOk (t:TK):Prop where
 |word (k:t.kind=0) (h0:0<t.text.length) (h1:t.text.length≤24) (h2:isLet (bAt t.text 0)=true) (h3:∀j,j<t.text.length→isIns (bAt t.text j)=true)
 |num (k:t.kind=1) (h0:0<t.text.length) (hd:isDig (bAt t.text 0)=true) (h1:NumF t.text)
 |sgn (k:t.kind=2) (h0:t.text.length=1) (h1:isSgn (bAt t.text 0)=true)
end Go.PN
namespace Go.PN
open Go.AI
def endB (l:BS):Prop:=l=[]∨isIns (bAt l 0)=false∧bAt l 0≠47
inductive Lx:BS→List TK→Prop where
 |nil:Lx [] []
 |blank (b:UInt8) (l:BS) (ts:List TK):isBlk b.toNat=true→Lx l ts→Lx (b::l) ts
 |note (c l:BS) (ts:List TK):(∀x∈c,x.toNat≠10)→Lx l ts→Lx (35::(c++10::l)) ts
 |tok (t:TK) (l:BS) (ts:List TK):LexOk t→endB l→Lx l ts→Lx (t.text++l) (t::ts)
 |sgn (b:UInt8) (l:BS) (ts:List TK):isSgn b.toNat=true→Lx l ts→Lx (b::l) (⟨2,[b]⟩::ts)
end Go.PN
namespace Go.PN
open Go.AI
variable {α β : Type}
def Ext (st:Bool) (f:PS→α×PS):Prop:=∀l x,(f ⟨l,0⟩).2.e=20∨(st=false∧(f ⟨l,0⟩).2.e=0∧(f ⟨l,0⟩).2.l=[])∨
 ((f ⟨l++x,0⟩).2=⟨(f ⟨l,0⟩).2.l++x,(f ⟨l,0⟩).2.e⟩∧((f ⟨l,0⟩).2.e=0→(f ⟨l++x,0⟩).1=(f ⟨l,0⟩).1))
def Nl (st:Bool) (f:PS→α×PS):Prop:=(f ⟨[],0⟩).2.e=20∨(st=false∧(f ⟨[],0⟩).2.e=0)
theorem nil_l {f:PS→α×PS} (hf:Rdr f):(f ⟨[],0⟩).2.l=[]:=by
 have:=hf.suf ⟨[],0⟩
 exact List.suffix_nil.1 this
theorem ps_eta (s:PS) (h:s.e=0):s=⟨s.l,0⟩:=by cases s;simp at h;subst h;rfl
theorem Ext.bnd {a b:Bool} {f:PS→α×PS} {k:α→PS→β×PS} (hf:Ext a f) (hk:∀v,Ext b (k v)) (hn:a=true∨∀v,Nl b (k v)) (rk:∀v,Rdr (k v)):Ext b (PN.bnd f k):=by
 intro l x
 show(k (f ⟨l,0⟩).1 (f ⟨l,0⟩).2).2.e=20∨(b=false∧(k (f ⟨l,0⟩).1 (f ⟨l,0⟩).2).2.e=0∧(k (f ⟨l,0⟩).1 (f ⟨l,0⟩).2).2.l=[])∨((k (f ⟨l++x,0⟩).1 (f ⟨l++x,0⟩).2).2=⟨(k (f ⟨l,0⟩).1 (f ⟨l,0⟩).2).2.l++x,(k (f ⟨l,0⟩).1 (f ⟨l,0⟩).2).2.e⟩∧((k (f ⟨l,0⟩).1 (f ⟨l,0⟩).2).2.e=0→(k (f ⟨l++x,0⟩).1 (f ⟨l++x,0⟩).2).1=(k (f ⟨l,0⟩).1 (f ⟨l,0⟩).2).1))
 have h:=hf l x
 generalize f ⟨l,0⟩=r at*
 generalize f ⟨l++x,0⟩=q at*
 obtain⟨rv,rl,re⟩:=r
 dsimp only at h⊢
 rcases h with h|⟨h1,h2,h3⟩|⟨h1,h2⟩
 ·left
  rw [(rk rv).stk _ (show re≠0 by omega)]
  exact h
 ·subst h2 h3
  rcases hn with hn|hn
  ·rw [h1] at hn;cases hn
  rcases hn rv with h|⟨h,h'⟩
  ·exact .inl h
  ·exact .inr (.inl ⟨h,h',nil_l (rk rv)⟩)
 ·by_cases e0:re=0
  ·subst e0
   rw [h1,h2 rfl]
   exact hk rv rl x
  ·right;right
   rw [(rk rv).stk _ e0,h1,(rk _).stk _ e0]
   exact⟨rfl,fun h=>absurd h e0⟩
theorem Nl.bnd {a b:Bool} {f:PS→α×PS} {k:α→PS→β×PS} (hf:Nl a f) (rf:Rdr f) (hk:∀v,Nl b (k v)) (rk:∀v,Rdr (k v)):Nl b (PN.bnd f k):=by
 rcases hf with h|⟨_,h⟩
 ·left
  show(k (f ⟨[],0⟩).1 (f ⟨[],0⟩).2).2.e=20
  rw [(rk _).stk _ om]
  exact h
 ·have e:(f ⟨[],0⟩).2=⟨[],0⟩:=by rw [ps_eta _ h,nil_l rf]
  have:=hk (f ⟨[],0⟩).1
  unfold Nl at this⊢
  show(k (f ⟨[],0⟩).1 (f ⟨[],0⟩).2).2.e=20∨(b=false∧(k (f ⟨[],0⟩).1 (f ⟨[],0⟩).2).2.e=0)
  rw [e]
  exact this
def HO (c:PS→Bool):Prop:=∀t l x,c ⟨t::l,0⟩=c ⟨t::(l++x),0⟩
theorem HO.or {c d:PS→Bool} (h:HO c) (k:HO d):HO fun s=>c s||d s:=fun t l x=>by dsimp only;rw [h t l x,k t l x]
theorem HO.not {c:PS→Bool} (h:HO c):HO fun s=> !c s:=fun t l x=>by dsimp only;rw [h t l x]
end Go.PN
namespace Go.PN
open Go.AI
variable {α β : Type}
theorem Ext.any {b:Bool} {f:PS→α×PS} (h:Ext true f):Ext b f:=fun l x=>by
 rcases h l x with h|h|h
 ·exact .inl h
 ·cases h.1
 ·exact .inr (.inr h)
end Go.PN
namespace Go.AI
section
variable {P : Program} {h : Heap} {ρ : Operand → AV}
theorem POk.indexArr {t el:TypeId} {x ix:Operand} {g n:Nat} {k:IntKind} {i:Nat} (ht:P.underlying t=some (.array n el)) (hz:(P.info? el).map (·.size)=some 1) (hx:ρ x=.c (.optr g 0)) (hix:ρ ix=.c (.int k (i:Int))) (hl:i<n):POk P h ρ (.indexAddr t x ix) (.c (.optr g i)):=fun S w e _ ho _=>by
 have h1:e x=.pointer (some ⟨g,0,none⟩):=by have:=ho x (by simp [Op.operands]);rw [hx] at this;exact this
 have h2:e ix=.int k (i:Int):=by have:=ho ix (by simp [Op.operands]);rw [hix] at this;exact this
 obtain⟨j,hj,hjs⟩:=Option.map_eq_some_iff.1 hz
 have h3:(0:Int)≤(i:Int)∧(i:Int)<(n:Int):=⟨by omega,by omega⟩
 refine⟨_,fun o hop=> ?_,rfl⟩
 simp [execOp,hop,h1,h2,Instr.indexAt,Instr.sureAddr,asIntOf,run_underlying ht,h3,sizeOf,typeInfo,hj,hjs,add_mk]
 omega
end
section
variable {E : Env} {K : List It} {l : List Oper} {FP FP' : Heap} {σ σ' : Sl} {h : Heap} {o : Oper} {i m : Nat} {cs : List (Nat × Nat)}
theorem POk.congr {P:Program} {ρ ρ':Operand→AV} {op:Op} {r:AV} (hp:POk P h ρ op r) (he:∀x∈op.operands,ρ' x=ρ x):POk P h ρ' op r:=fun S w e hm ho hh=>hp S w e hm (fun x hx=>by rw [←he x hx];exact ho x hx) hh
end
end Go.AI
namespace Go.PN
open Go.AI
theorem num_digs {s:BS} (h0:0<s.length) (hd:∀i,i<s.length→isDig (bAt s i)=true) (hl:s.length≤100):valC s=0∧valR s=rd (natB s:Rat):=by
 have hs:spanE isDig s 0=s.length:=by
  have:=span_eq (p:=isDig) (l:=s) s.length 0 (fun j _ b=>hd j om) om (fun z=>by omega)
  omega
 have hn:isNum s=true:=by
  unfold isNum numE
  rw [hs,hd 0 h0,if_neg (fun z=>by omega)]
  simp [h0]
 obtain⟨x1,x2⟩:=ix_all hd
 have hc:valC s=0:=by
  unfold valC
  rw [if_neg om,hn,if_neg (by simp),if_neg om]
 refine⟨hc,?_⟩
 unfold valR valQ
 rw [if_pos hc,if_neg om,x2,List.take_length,List.drop_of_length_le om,List.append_nil]
 congr 1
 simp
 grind
end Go.PN
namespace Go.PN
theorem div_p0 (n:Nat):(n:Rat)/((10^0:Nat):Rat)=n:=by
 have h1:((10^0:Nat):Rat)=1:=by simp
 rw [h1]
 grind
end Go.PN
namespace Go.Proofs.YteehccacfedolaaGreat
open Go.AI Go.PN
attribute [local irreducible] aw Fa Fh DrK
theorem rvalue_fa (s:BS) (hl:s.length≤1099511627776):Fa Tryz.prog 135 [.c (.str (sB s))] (.tup [.agg (rdc (valR s)),.c (.int .i64 (valC s))]):=by
 by_cases h100:s.length>100
 ·have d1:decide (s.length>100)=true:=decide_eq_true h100
  have hc:valC s=4:=by unfold valC;rw [if_pos h100]
  have hr:valR s=rd0:=by unfold valR;rw [hc];rfl
  rw [hc,hr]
  refine fa_of_body Tryz.func135 rfl rfl (by simp [Tryz.ntmps135]) fun C hC=> ?_
  simp only [initS,Nat.reduceAdd]
  repeat' first|refine yA1 o0 ?_|refine zW o0 ?_|refine yP o0 ?_|refine yN o0 ?_|refine zC o0 (fun hb=>?_) fun hb=>?_|refine zG o0 (fun hb=>?_) fun hb=>?_|refine zD o0 (fun hb=>?_) fun hb=>?_
  refine xA fun g2 hn_g2=>?_
  all_goals try(have Z:=(oj hn_g2 d1);(repeat' first|refine yA1 Z ?_|refine zW Z ?_|refine yP Z ?_|refine yN Z ?_|refine zC Z (fun hb=>?_) fun hb=>?_|refine zG Z (fun hb=>?_) fun hb=>?_|refine zD Z (fun hb=>?_) fun hb=>?_);all_goals clear Z)
  refine yT hC (oj hn_g2 d1) ?_
  exact .tup ⟨.agg ⟨.bool _,.nils,.nils,trivial⟩,.c (.int _ _),trivial⟩
 have d1:decide (s.length>100)=false:=decide_eq_false h100
 have hw:=rnum_fa s 0 hl (Nat.zero_le _)
 cases hn:isNum s with
 |false=>
  have hc:valC s=2:=by unfold valC;rw [if_neg h100,if_pos hn]
  have hr:valR s=rd0:=by unfold valR;rw [hc];rfl
  rw [hc,hr]
  refine fa_of_body Tryz.func135 rfl rfl (by simp [Tryz.ntmps135]) fun C hC=> ?_
  simp only [initS,Nat.reduceAdd]
  repeat' first|refine yA1 o0 ?_|refine zW o0 ?_|refine yP o0 ?_|refine yN o0 ?_|refine zC o0 (fun hb=>?_) fun hb=>?_|refine zG o0 (fun hb=>?_) fun hb=>?_|refine zD o0 (fun hb=>?_) fun hb=>?_
  refine xA fun g2 hn_g2=>?_
  all_goals try(have Z:=(oj hn_g2 d1);(repeat' first|refine yA1 Z ?_|(refine yC2 Z (rdig_fa _) ?_)|(refine yD2 Z (rdig_fa _) ?_)|(refine yC2 Z (hw) ?_)|(refine yD2 Z (hw) ?_)|refine zW Z ?_|refine yP Z ?_|refine yN Z ?_|refine zC Z (fun hb=>?_) fun hb=>?_|refine zG Z (fun hb=>?_) fun hb=>?_|refine zD Z (fun hb=>?_) fun hb=>?_);all_goals clear Z)
  all_goals first
   |(exfalso
     unfold isNum at hn
     simp_all
     omega)
   |(exfalso
     unfold isNum at hn
     simp_all
     done)
   |(refine yT hC (oj hn_g2 d1) ?_
     exact .tup ⟨.agg ⟨.bool _,.nils,.nils,trivial⟩,.c (.int _ _),trivial⟩)
 |true=>
  obtain⟨hf,h0⟩:=num_form hn
  have hn':=hn
  unfold isNum at hn'
  simp only [Bool.and_eq_true,decide_eq_true_eq,beq_iff_eq] at hn'
  have f0:decide (s.length<1)=false:=decide_eq_false om
  have f1:isDig (bAt s 0)=true:=hn'.1.2
  have f2:(numE s 0 !=s.length)=false:=by simpa using hn'.2
  have hc0:valC s=if idxB 47 s<s.length∧natB (s.drop (idxB 47 s+1))=0 then 8 else 0:=by unfold valC;rw [if_neg h100,if_neg (by rw [hn];decide)]
  have hdg:=rdigs_fa s 0 hl (Nat.zero_le _)
  cases hf with
  |all h=>
   obtain⟨v1,v2⟩:=num_digs h0 h om
   rw [span_all h] at hdg
   have ha:=rnat_fa s h om
   rw [←v2] at ha
   have hcut:=cutS_take s s.length
   rw [List.take_length] at hcut
   rw [v1]
   refine fa_of_body Tryz.func135 rfl rfl (by simp [Tryz.ntmps135]) fun C hC=> ?_
   simp only [initS,Nat.reduceAdd]
   repeat' first|refine yA1 o0 ?_|refine zW o0 ?_|refine yP o0 ?_|refine yN o0 ?_|refine zC o0 (fun hb=>?_) fun hb=>?_|refine zG o0 (fun hb=>?_) fun hb=>?_|refine zD o0 (fun hb=>?_) fun hb=>?_
   refine xA fun g2 hn_g2=>?_
   all_goals try(have Z:=(oj hn_g2 (oj d1 (oj f0 (oj f1 (oj f2 hcut)))));(repeat' first|refine yA1 Z ?_|(refine yC2 Z (rdig_fa _) ?_)|(refine yD2 Z (rdig_fa _) ?_)|(refine yC2 Z (hw) ?_)|(refine yD2 Z (hw) ?_)|(refine yC2 Z (hdg) ?_)|(refine yD2 Z (hdg) ?_)|(refine yC2 Z (ha) ?_)|(refine yD2 Z (ha) ?_)|refine zW Z ?_|refine yP Z ?_|refine yN Z ?_|refine zC Z (fun hb=>?_) fun hb=>?_|refine zG Z (fun hb=>?_) fun hb=>?_|refine zD Z (fun hb=>?_) fun hb=>?_);all_goals clear Z)
   refine yA (oj hn_g2 (oj d1 (oj f0 (oj f1 (oj f2 hcut))))) fun g5 hn_g5=>?_
   all_goals try(have Z:=(oj hn_g2 (oj d1 (oj f0 (oj f1 (oj f2 (oj hcut hn_g5))))));(repeat' first|refine yA1 Z ?_|refine zW Z ?_|refine yP Z ?_|refine yN Z ?_|refine zC Z (fun hb=>?_) fun hb=>?_|refine zG Z (fun hb=>?_) fun hb=>?_|refine zD Z (fun hb=>?_) fun hb=>?_);all_goals clear Z)
   ·refine yT hC (oj hn_g2 (oj d1 (oj f0 (oj f1 (oj f2 (oj hcut hn_g5)))))) ?_
    exact .tup ⟨.agg lerl_rd,.c (.int _ _),trivial⟩
   ·exact absurd rfl hb
  |two e he hm h1 h2=>
   have hs0:=span_two he hm h1
   rw [hs0] at hdg
   have f3:(e==s.length)=false:=by simp;omega
   have k1:=cutS_take s e
   have k2:=cutS_drop s (e+1)
   have ha:=rnat_fa (s.take e) (dig_take h1) (by rw [List.length_take];omega)
   have hb:=rnat_fa (s.drop (e+1)) (dig_drop h2) (by rw [List.length_drop];omega)
   have wa:(rd (natB (s.take e):Rat)).wf 1073741824:=rd_wf (fits_mono (by have:=natB_fits (s:=s.take e) (dig_take h1) (Nat.le_refl _);rwa [List.take_length] at this) (by rw [List.length_take];omega))
   have fb:PN.fits (natB (s.drop (e+1)):Rat) ((s.drop (e+1)).length+1):=by have:=natB_fits (s:=s.drop (e+1)) (dig_drop h2) (Nat.le_refl _);rwa [List.take_length] at this
   have wb:(rd (natB (s.drop (e+1)):Rat)).wf 1073741824:=rd_wf (fits_mono fb (by rw [List.length_drop];omega))
   rcases hm with hm|hm
   ·obtain⟨i1,i2⟩:=ix_point he hm h1 h2
    rw [if_neg (fun z=>by omega)] at hc0
    have hr:valR s=rd (valQ s):=by unfold valR;rw [if_pos hc0]
    have hq:valQ s=(natB (s.take e++s.drop (e+1)):Rat)/((10^(s.drop (e+1)).length:Nat):Rat):=by unfold valQ;rw [if_neg om,i2]
    have f4:((bAt s e:Nat)==47)=false:=by rw [hm];rfl
    have hlb:(s.drop (e+1)).length≤100:=by rw [List.length_drop];omega
    have hdb:=dig_drop h2
    rw [←dec_sum] at hq
    generalize s.take e=a at*
    generalize s.drop (e+1)=b at*
    have f10:∀k,k≤100→PN.fits ((10^k:Nat):Rat) (k+1):=fun k _=>nat_fits (pow10_lt k) om
    have wk:∀k,k≤100→(rd ((natB b:Rat)/((10^k:Nat):Rat))).wf 1073741824:=fun k hk=>rd_wf (fits_mono (fits_div fb (f10 k hk) (pow10_ne k)) om)
    have w10:(rd ((10:Int):Rat)).wf 1073741824:=rd_wf (fits_mono (fitsZ (by decide)) om)
    have h10:=sof_fa 10 om om
    have hs:=sadd_fa _ _ wa (wk b.length hlb)
    rw [rd_q,rd_q,←hq,←hr] at hs
    rw [hc0]
    refine fa_of_body Tryz.func135 rfl rfl (by simp [Tryz.ntmps135]) fun C hC=> ?_
    simp only [initS,Nat.reduceAdd]
    repeat' first|refine yA1 o0 ?_|refine zW o0 ?_|refine yP o0 ?_|refine yN o0 ?_|refine zC o0 (fun hb=>?_) fun hb=>?_|refine zG o0 (fun hb=>?_) fun hb=>?_|refine zD o0 (fun hb=>?_) fun hb=>?_
    refine xA fun g2 hn_g2=>?_
    all_goals try(have Z:=(oj hn_g2 (oj d1 (oj f0 (oj f1 (oj f2 (oj f3 (oj f4 (oj k1 k2))))))));(repeat' first|refine yA1 Z ?_|(refine yC2 Z (rdig_fa _) ?_)|(refine yD2 Z (rdig_fa _) ?_)|(refine yC2 Z (hw) ?_)|(refine yD2 Z (hw) ?_)|(refine yC2 Z (hdg) ?_)|(refine yD2 Z (hdg) ?_)|(refine yC2 Z (ha) ?_)|(refine yD2 Z (ha) ?_)|refine zW Z ?_|refine yP Z ?_|refine yN Z ?_|refine zC Z (fun hb=>?_) fun hb=>?_|refine zG Z (fun hb=>?_) fun hb=>?_|refine zD Z (fun hb=>?_) fun hb=>?_);all_goals clear Z)
    refine yA (oj hn_g2 (oj d1 (oj f0 (oj f1 (oj f2 (oj f3 (oj f4 (oj k1 k2)))))))) fun g5 hn_g5=>?_
    all_goals try(have Z:=(oj hn_g2 (oj d1 (oj f0 (oj f1 (oj f2 (oj f3 (oj f4 (oj k1 (oj k2 hn_g5)))))))));(repeat' first|refine yA1 Z ?_|(refine yC2 Z (hb) ?_)|(refine yD2 Z (hb) ?_)|refine zW Z ?_|refine yP Z ?_|refine yN Z ?_|refine zC Z (fun hb=>?_) fun hb=>?_|refine zG Z (fun hb=>?_) fun hb=>?_|refine zD Z (fun hb=>?_) fun hb=>?_);all_goals clear Z)
    refine yA (oj hn_g2 (oj d1 (oj f0 (oj f1 (oj f2 (oj f3 (oj f4 (oj k1 (oj k2 hn_g5))))))))) fun g6 hn_g6=>?_
    all_goals try(have Z:=(oj hn_g2 (oj d1 (oj f0 (oj f1 (oj f2 (oj f3 (oj f4 (oj k1 (oj k2 (oj hn_g5 hn_g6))))))))));(repeat' first|refine yA1 Z ?_|(refine yC2 Z (h10) ?_)|(refine yD2 Z (h10) ?_)|refine zW Z ?_|refine yP Z ?_|refine yN Z ?_|refine zC Z (fun hb=>?_) fun hb=>?_|refine zG Z (fun hb=>?_) fun hb=>?_|refine zD Z (fun hb=>?_) fun hb=>?_);all_goals clear Z)
    refine yA (oj hn_g2 (oj d1 (oj f0 (oj f1 (oj f2 (oj f3 (oj f4 (oj k1 (oj k2 (oj hn_g5 hn_g6)))))))))) fun g7 hn_g7=>?_
    all_goals try(have Z:=(oj hn_g2 (oj d1 (oj f0 (oj f1 (oj f2 (oj f3 (oj f4 (oj k1 (oj k2 (oj hn_g5 (oj hn_g6 hn_g7)))))))))));(repeat' first|refine yA1 Z ?_|refine zW Z ?_|refine yP Z ?_|refine yN Z ?_|refine zC Z (fun hb=>?_) fun hb=>?_|refine zG Z (fun hb=>?_) fun hb=>?_|refine zD Z (fun hb=>?_) fun hb=>?_);all_goals clear Z)
    clear hb ha hw hdg h10
    refine aw_rangeS (l:=b) rfl rfl rfl (by kernel_rfl) (zE (oj hn_g2 (oj d1 (oj f0 (oj f1 (oj f2 (oj f3 (oj f4 (oj k1 (oj k2 (oj hn_g5 (oj hn_g6 hn_g7)))))))))))) fun g59 hn_g59=> ?_
    replace hn_g59:=Heap.ne_of hn_g59
    dsimp only [Heap.ne] at hn_g59
    have J1:=oj hn_g2 (oj d1 (oj f0 (oj f1 (oj f2 (oj f3 (oj f4 (oj k1 (oj k2 (oj hn_g5 (oj hn_g6 (oj hn_g7 hn_g59)))))))))))
    refine yS J1 ?_
    all_goals try(have Z:=J1;(repeat' first|refine yA1 Z ?_|refine zW Z ?_|refine yP Z ?_|refine yN Z ?_|refine zC Z (fun hb=>?_) fun hb=>?_|refine zG Z (fun hb=>?_) fun hb=>?_|refine zD Z (fun hb=>?_) fun hb=>?_);all_goals clear Z)
    refine aw_lp (fun x:Nat=>[(2,.c (.optr g2 0)),(3,.c (.int .i64 0)),(5,.c (.optr g5 0)),(6,.c (.optr g6 0)),(7,.c (.optr g7 0)),(59,.c (.optr g59 0))]) (fun x=>[(g59,.gen (ItS b x)),(g7,.cells 43 3 (ofL (rdc (rd ((10:Int):Rat))))),(g6,.cells 43 3 (ofL (rdc (rd ((natB b:Rat)/((10^x:Nat):Rat)))))),(g5,.cells 43 3 (ofL (rdc (rd (natB a:Rat))))),(g2,.cells 43 3 (ofL [.bool false,.nils,.nils]))]) (fun x=>x≤b.length) (fun x=>b.length-x) 0 (zB J1) (by rw [div_p0];exact List.Sublist.refl _) (Nat.zero_le _) ?_
    rintro x hx
    by_cases hxb:x<b.length
    ·have hdv:=sdiv_fa _ _ (wk x om) w10 (by rw [rd_q];decide)
     rw [rd_q,rd_q,dec_step (q:=0) (x:=x) rfl (natB b)] at hdv
     have h128:bAt b x<128:=by have:=dig_le (hdb x hxb);omega
     refine yG J1 ?_
     refine aw_nextS (l:=b) (i:=x) rfl rfl rfl (zE J1) (zE J1) hxb h128 ?_
     refine yS J1 ?_
     all_goals try(have Z:=J1;(repeat' first|refine yA1 Z ?_|(refine yC2 Z (hdv) ?_)|(refine yD2 Z (hdv) ?_)|refine zW Z ?_|refine yP Z ?_|refine yN Z ?_|refine zC Z (fun hb=>?_) fun hb=>?_|refine zG Z (fun hb=>?_) fun hb=>?_|refine zD Z (fun hb=>?_) fun hb=>?_);all_goals clear Z)
     exact aw_stop ⟨x+1,by omega,(zB J1),List.Sublist.refl _,by omega⟩
    ·obtain rfl:x=b.length:=by omega
     refine yG J1 ?_
     refine aw_nextE (l:=b) (i:=b.length) rfl rfl rfl (zE J1) (zE J1) hxb ?_
     refine yS J1 ?_
     all_goals try(have Z:=J1;(repeat' first|refine yA1 Z ?_|(refine yC2 Z (hs) ?_)|(refine yD2 Z (hs) ?_)|refine zW Z ?_|refine yP Z ?_|refine yN Z ?_|refine zC Z (fun hb=>?_) fun hb=>?_|refine zG Z (fun hb=>?_) fun hb=>?_|refine zD Z (fun hb=>?_) fun hb=>?_);all_goals clear Z)
     refine yT hC J1 ?_
     exact .tup ⟨.agg lerl_rd,.c (.int _ _),trivial⟩
   ·have hix:=ix_slash he hm h1
    rw [hix] at hc0
    have f4:((bAt s e:Nat)==47)=true:=by rw [hm];rfl
    by_cases hz:natB (s.drop (e+1))=0
    ·rw [if_pos ⟨by omega,hz⟩] at hc0
     have hr:valR s=rd0:=by unfold valR;rw [hc0];rfl
     have hd:=sdiv_zero _ _ wa wb (by rw [rd_q,hz];rfl)
     rw [hc0,hr]
     refine fa_of_body Tryz.func135 rfl rfl (by simp [Tryz.ntmps135]) fun C hC=> ?_
     simp only [initS,Nat.reduceAdd]
     repeat' first|refine yA1 o0 ?_|refine zW o0 ?_|refine yP o0 ?_|refine yN o0 ?_|refine zC o0 (fun hb=>?_) fun hb=>?_|refine zG o0 (fun hb=>?_) fun hb=>?_|refine zD o0 (fun hb=>?_) fun hb=>?_
     refine xA fun g2 hn_g2=>?_
     all_goals try(have Z:=(oj hn_g2 (oj d1 (oj f0 (oj f1 (oj f2 (oj f3 (oj f4 (oj k1 k2))))))));(repeat' first|refine yA1 Z ?_|(refine yC2 Z (rdig_fa _) ?_)|(refine yD2 Z (rdig_fa _) ?_)|(refine yC2 Z (hw) ?_)|(refine yD2 Z (hw) ?_)|(refine yC2 Z (hdg) ?_)|(refine yD2 Z (hdg) ?_)|(refine yC2 Z (ha) ?_)|(refine yD2 Z (ha) ?_)|refine zW Z ?_|refine yP Z ?_|refine yN Z ?_|refine zC Z (fun hb=>?_) fun hb=>?_|refine zG Z (fun hb=>?_) fun hb=>?_|refine zD Z (fun hb=>?_) fun hb=>?_);all_goals clear Z)
     refine yA (oj hn_g2 (oj d1 (oj f0 (oj f1 (oj f2 (oj f3 (oj f4 (oj k1 k2)))))))) fun g5 hn_g5=>?_
     all_goals try(have Z:=(oj hn_g2 (oj d1 (oj f0 (oj f1 (oj f2 (oj f3 (oj f4 (oj k1 (oj k2 hn_g5)))))))));(repeat' first|refine yA1 Z ?_|(refine yC2 Z (hb) ?_)|(refine yD2 Z (hb) ?_)|refine zW Z ?_|refine yP Z ?_|refine yN Z ?_|refine zC Z (fun hb=>?_) fun hb=>?_|refine zG Z (fun hb=>?_) fun hb=>?_|refine zD Z (fun hb=>?_) fun hb=>?_);all_goals clear Z)
     refine yA (oj hn_g2 (oj d1 (oj f0 (oj f1 (oj f2 (oj f3 (oj f4 (oj k1 (oj k2 hn_g5))))))))) fun g6 hn_g6=>?_
     all_goals try(have Z:=(oj hn_g2 (oj d1 (oj f0 (oj f1 (oj f2 (oj f3 (oj f4 (oj k1 (oj k2 (oj hn_g5 hn_g6))))))))));(repeat' first|refine yA1 Z ?_|(refine yC2 Z (hd) ?_)|(refine yD2 Z (hd) ?_)|refine zW Z ?_|refine yP Z ?_|refine yN Z ?_|refine zC Z (fun hb=>?_) fun hb=>?_|refine zG Z (fun hb=>?_) fun hb=>?_|refine zD Z (fun hb=>?_) fun hb=>?_);all_goals clear Z)
     refine yT hC (oj hn_g2 (oj d1 (oj f0 (oj f1 (oj f2 (oj f3 (oj f4 (oj k1 (oj k2 (oj hn_g5 hn_g6)))))))))) ?_
     exact .tup ⟨.agg lerl_rd,.c (.int _ _),trivial⟩
    ·rw [if_neg (fun h=>hz h.2)] at hc0
     have hr:valR s=rd (valQ s):=by unfold valR;rw [if_pos hc0]
     have hq:valQ s=(natB (s.take e):Rat)/(natB (s.drop (e+1)):Rat):=by unfold valQ;rw [hix,if_pos om]
     have hd:=sdiv_fa _ _ wa wb (by rw [rd_q];simpa using hz)
     rw [rd_q,rd_q,←hq,←hr] at hd
     rw [hc0]
     refine fa_of_body Tryz.func135 rfl rfl (by simp [Tryz.ntmps135]) fun C hC=> ?_
     simp only [initS,Nat.reduceAdd]
     repeat' first|refine yA1 o0 ?_|refine zW o0 ?_|refine yP o0 ?_|refine yN o0 ?_|refine zC o0 (fun hb=>?_) fun hb=>?_|refine zG o0 (fun hb=>?_) fun hb=>?_|refine zD o0 (fun hb=>?_) fun hb=>?_
     refine xA fun g2 hn_g2=>?_
     all_goals try(have Z:=(oj hn_g2 (oj d1 (oj f0 (oj f1 (oj f2 (oj f3 (oj f4 (oj k1 k2))))))));(repeat' first|refine yA1 Z ?_|(refine yC2 Z (rdig_fa _) ?_)|(refine yD2 Z (rdig_fa _) ?_)|(refine yC2 Z (hw) ?_)|(refine yD2 Z (hw) ?_)|(refine yC2 Z (hdg) ?_)|(refine yD2 Z (hdg) ?_)|(refine yC2 Z (ha) ?_)|(refine yD2 Z (ha) ?_)|refine zW Z ?_|refine yP Z ?_|refine yN Z ?_|refine zC Z (fun hb=>?_) fun hb=>?_|refine zG Z (fun hb=>?_) fun hb=>?_|refine zD Z (fun hb=>?_) fun hb=>?_);all_goals clear Z)
     refine yA (oj hn_g2 (oj d1 (oj f0 (oj f1 (oj f2 (oj f3 (oj f4 (oj k1 k2)))))))) fun g5 hn_g5=>?_
     all_goals try(have Z:=(oj hn_g2 (oj d1 (oj f0 (oj f1 (oj f2 (oj f3 (oj f4 (oj k1 (oj k2 hn_g5)))))))));(repeat' first|refine yA1 Z ?_|(refine yC2 Z (hb) ?_)|(refine yD2 Z (hb) ?_)|refine zW Z ?_|refine yP Z ?_|refine yN Z ?_|refine zC Z (fun hb=>?_) fun hb=>?_|refine zG Z (fun hb=>?_) fun hb=>?_|refine zD Z (fun hb=>?_) fun hb=>?_);all_goals clear Z)
     refine yA (oj hn_g2 (oj d1 (oj f0 (oj f1 (oj f2 (oj f3 (oj f4 (oj k1 (oj k2 hn_g5))))))))) fun g6 hn_g6=>?_
     all_goals try(have Z:=(oj hn_g2 (oj d1 (oj f0 (oj f1 (oj f2 (oj f3 (oj f4 (oj k1 (oj k2 (oj hn_g5 hn_g6))))))))));(repeat' first|refine yA1 Z ?_|(refine yC2 Z (hd) ?_)|(refine yD2 Z (hd) ?_)|refine zW Z ?_|refine yP Z ?_|refine yN Z ?_|refine zC Z (fun hb=>?_) fun hb=>?_|refine zG Z (fun hb=>?_) fun hb=>?_|refine zD Z (fun hb=>?_) fun hb=>?_);all_goals clear Z)
     refine yT hC (oj hn_g2 (oj d1 (oj f0 (oj f1 (oj f2 (oj f3 (oj f4 (oj k1 (oj k2 (oj hn_g5 hn_g6)))))))))) ?_
     exact .tup ⟨.agg lerl_rd,.c (.int _ _),trivial⟩
end Go.Proofs.YteehccacfedolaaGreat
namespace Go.PN
open Go.AI
def tlX (L:List TX) (s:PS):List TX:=L.drop (L.length-s.l.length)
theorem tlX_map {L:List TX} {s:PS} (hs:s.l<:+L.map TX.t):(tlX L s).map TX.t=s.l:=by
 have:=List.suffix_iff_eq_drop.1 hs
 rw [List.length_map] at this
 unfold tlX
 rw [List.map_drop]
 exact this.symm
theorem tlX_len {L:List TX} {s:PS} (hs:s.l<:+L.map TX.t):(tlX L s).length=s.l.length:=by
 have:=congrArg List.length (tlX_map hs)
 rwa [List.length_map] at this
theorem tlX_tail {L:List TX} {s:PS} (hs:s.l<:+L.map TX.t) {t:TK} {l:List TK} (hl:s.l=t::l) (e:Int):tlX L ⟨l,e⟩=(tlX L s).drop 1:=by
 have h:=hs.length_le
 rw [List.length_map,hl,List.length_cons] at h
 unfold tlX
 rw [List.drop_drop,hl,List.length_cons]
 congr 1
 show L.length-l.length=_
 omega
abbrev rv (L:List TX) (s:PS):List CV:=[txs true (tlX L s),.int .i64 s.e]
theorem nextR_tl {L:List TX} {s:PS} (hs:s.l<:+L.map TX.t) (k:Nat) (w:BS):nextR s k w=(decide (s.e=0)&&(decide (0<(tlX L s).length)&&(((tlX L s).getD 0 tx0).t.kind==k&&(w==[]||((tlX L s).getD 0 tx0).t.text==w)))):=by
 unfold nextR
 have hm:=tlX_map hs
 cases hT:tlX L s with
 |nil=>rw [hT] at hm;rw [←hm];simp
 |cons x M=>rw [hT] at hm;rw [←hm];simp
theorem txs_0 (T:List TX):txsF T 0=.int .i64 (T.getD 0 tx0).t.kind:=txsF_0 T 0
theorem txs_1 (T:List TX):txsF T 1=.str (sB (T.getD 0 tx0).t.text):=txsF_1 T 0
theorem txs_tail (T:List TX) (j:Nat) (hj:j<(T.length-1)*5):txsF T (5+j)=txsF (T.drop 1) j:=by
 obtain⟨i,k,hk,rfl⟩:∃i k,k<5∧j=i*5+k:=⟨j/5,j%5,Nat.mod_lt _ om,by omega⟩
 unfold txsF
 rw [show 5+(i*5+k)=(i+1)*5+k from by omega,lf_at hk,lf_at hk]
 congr 2
 rw [List.getD_eq_getElem?_getD,List.getD_eq_getElem?_getD,List.getElem?_drop,Nat.add_comm]
theorem failS_e {c:Int} {s:PS} (h:s.e=0):failS c s=⟨s.l,c⟩:=by unfold failS;rw [if_pos h]
theorem tl_cons {L:List TX} {s:PS} (hs:s.l<:+L.map TX.t) (h:¬(tlX L s).length=0):∃l,s.l=((tlX L s).getD 0 tx0).t::l:=by
 have hm:=tlX_map hs
 cases hT:tlX L s with
 |nil=>rw [hT] at h;exact absurd rfl h
 |cons x M=>rw [hT] at hm;rw [←hm];exact⟨M.map TX.t,by simp⟩
end Go.PN
namespace Go.Proofs.YteehccacfedolaaGreat
open Go.AI Go.PN
theorem ler_tx1 {h:Heap} {l:List TX} (j:Nat):LeR h (txsF l j) (txsF l j):=lf_ler (by decide) (fun _ k hk=>match k,hk with|0,_=>.int _ _|1,_=>.str _|2,_=>.int _ _|3,_=>.int _ _|4,_=>.int _ _) j
theorem ler_txs {h:Heap} {l:List TX}:LeR h (txs true l) (txs true l):=.row fun j _=>ler_tx1 j
theorem ler_txs_tail {h:Heap} (T:List TX):LeR h (.row true 5 (T.length-1) fun j=>txsF T (5+j)) (txs true (T.drop 1)):=by
 show LeR h _ (.row true 5 (T.drop 1).length _)
 rw [List.length_drop]
 refine .row fun j hj=> ?_
 rw [txs_tail _ _ hj]
 exact ler_tx1 j
attribute [local irreducible] aw Fa Fh DrK
theorem rfail_fa (L:List TX) (s:PS) (c:Int):Fa Tryz.prog 55 [.agg (rv L s),.c (.int .i64 c)] (.agg (rv L (failS c s))):=by
 refine fa_of_body Tryz.func55 rfl rfl (by simp [Tryz.ntmps55]) fun C hC=> ?_
 simp only [initS,Nat.reduceAdd]
 repeat' first|refine yA1 o0 ?_|refine zW o0 ?_|refine yP o0 ?_|refine yN o0 ?_|refine zC o0 (fun hb=>?_) fun hb=>?_|refine zG o0 (fun hb=>?_) fun hb=>?_|refine zD o0 (fun hb=>?_) fun hb=>?_
 refine xB fun g2 hn_g2=>?_
 repeat' first|refine yA1 hn_g2 ?_|refine zW hn_g2 ?_|refine yP hn_g2 ?_|refine yN hn_g2 ?_|refine zC hn_g2 (fun hb=>?_) fun hb=>?_|refine zG hn_g2 (fun hb=>?_) fun hb=>?_|refine zD hn_g2 (fun hb=>?_) fun hb=>?_
 refine yA hn_g2 fun g4 hn_g4=>?_
 all_goals try(have Z:=(oj hn_g2 hn_g4);(repeat' first|refine yA1 Z ?_|refine zW Z ?_|refine yP Z ?_|refine yN Z ?_|refine zC Z (fun hb=>?_) fun hb=>?_|refine zG Z (fun hb=>?_) fun hb=>?_|refine zD Z (fun hb=>?_) fun hb=>?_);all_goals clear Z)
 ·refine yT hC (oj hn_g2 hn_g4) ?_
  unfold failS
  rw [if_pos hb]
  exact .one (.agg ⟨ler_txs,.int _ _,trivial⟩)
 ·refine yT hC (oj hn_g2 hn_g4) ?_
  unfold failS
  rw [if_neg hb]
  exact .one (.agg ⟨ler_txs,.int _ _,trivial⟩)
theorem rnext_fa (L:List TX) (s:PS) (k:Nat) (w:BS) (hs:s.l<:+L.map TX.t) (hL:L.length≤1099511627776):Fa Tryz.prog 21 [.agg (rv L s),.c (.int .i64 k),.c (.str (sB w))] (.c (.bool (nextR s k w))):=by
 rw [nextR_tl hs]
 have hTL:(tlX L s).length≤1099511627776:=Nat.le_trans (by unfold tlX;rw [List.length_drop];omega) hL
 have q0:=txs_0 (tlX L s)
 have q1:=txs_1 (tlX L s)
 refine fa_of_body Tryz.func21 rfl rfl (by simp [Tryz.ntmps21]) fun C hC=> ?_
 simp only [initS,Nat.reduceAdd]
 all_goals try(have Z:=(oj q0 q1);(repeat' first|refine yA1 Z ?_|refine zW Z ?_|refine yP Z ?_|refine yN Z ?_|refine zC Z (fun hb=>?_) fun hb=>?_|refine zG Z (fun hb=>?_) fun hb=>?_|refine zD Z (fun hb=>?_) fun hb=>?_);all_goals clear Z)
 refine yB (oj q0 q1) fun g3 hn_g3=>?_
 all_goals try(have Z:=(oj q0 (oj q1 hn_g3));(repeat' first|refine yA1 Z ?_|refine zW Z ?_|refine yP Z ?_|refine yN Z ?_|refine zC Z (fun hb=>?_) fun hb=>?_|refine zG Z (fun hb=>?_) fun hb=>?_|refine zD Z (fun hb=>?_) fun hb=>?_);all_goals clear Z)
 all_goals
  refine yT hC (oj q0 (oj q1 hn_g3)) ?_
  refine .one (.c (ler_bool ?_))
  simp_all
theorem rtake_fa (L:List TX) (s:PS) (k:Nat) (w:BS) (hs:s.l<:+L.map TX.t) (hL:L.length≤1099511627776):Fa Tryz.prog 20 [.agg (rv L s),.c (.int .i64 k),.c (.str (sB w))] (.tup [.agg (rv L (takeR s k w).2),.c (.str (sB (takeR s k w).1))]):=by
 have hTL:(tlX L s).length≤1099511627776:=Nat.le_trans (by unfold tlX;rw [List.length_drop];omega) hL
 have q0:=txs_0 (tlX L s)
 have q1:=txs_1 (tlX L s)
 have f1:=rfail_fa L s 20
 have f2:=rfail_fa L s 2
 have f3:=rnext_fa L s k w hs hL
 have hn:=tlX_len hs
 unfold takeR
 generalize hm:nextR s k w=m at*
 refine fa_of_body Tryz.func20 rfl rfl (by simp [Tryz.ntmps20]) fun C hC=> ?_
 simp only [initS,Nat.reduceAdd]
 all_goals try(have Z:=(oj q0 q1);(repeat' first|refine yA1 Z ?_|refine zW Z ?_|refine yP Z ?_|refine yN Z ?_|refine zC Z (fun hb=>?_) fun hb=>?_|refine zG Z (fun hb=>?_) fun hb=>?_|refine zD Z (fun hb=>?_) fun hb=>?_);all_goals clear Z)
 refine yB (oj q0 q1) fun g3 hn_g3=>?_
 all_goals try(have Z:=(oj q0 (oj q1 hn_g3));(repeat' first|refine yA1 Z ?_|refine zW Z ?_|refine yP Z ?_|refine yN Z ?_|refine zC Z (fun hb=>?_) fun hb=>?_|refine zG Z (fun hb=>?_) fun hb=>?_|refine zD Z (fun hb=>?_) fun hb=>?_);all_goals clear Z)
 refine yA (oj q0 (oj q1 hn_g3)) fun g6 hn_g6=>?_
 all_goals try(have Z:=(oj q0 (oj q1 (oj hn_g3 hn_g6)));(repeat' first|refine yA1 Z ?_|(refine yC2 Z (f1) ?_)|(refine yD2 Z (f1) ?_)|(refine yC2 Z (f2) ?_)|(refine yD2 Z (f2) ?_)|(refine yC2 Z (f3) ?_)|(refine yD2 Z (f3) ?_)|refine zW Z ?_|refine yP Z ?_|refine yN Z ?_|refine zC Z (fun hb=>?_) fun hb=>?_|refine zG Z (fun hb=>?_) fun hb=>?_|refine zD Z (fun hb=>?_) fun hb=>?_);all_goals clear Z)
 ·have ht:takeS m s=([],s):=by unfold takeS;rw [if_neg hb]
  rw [ht]
  refine yT hC (oj q0 (oj q1 (oj hn_g3 hn_g6))) ?_
  exact .tup ⟨.agg ⟨ler_txs,.int _ _,trivial⟩,.c (.str _),trivial⟩
 ·rename_i h0
  have hl:s.l=[]:=List.length_eq_zero_iff.1 om
  have ht:takeS m s=([],failS 20 s):=by rw [take_nil h0 hl,failS_e h0,hl]
  rw [ht]
  refine yT hC (oj q0 (oj q1 (oj hn_g3 hn_g6))) ?_
  exact .tup ⟨.agg ⟨ler_txs,.int _ _,trivial⟩,.c (.str _),trivial⟩
 ·rename_i h0 h1
  obtain⟨l,hl⟩:=tl_cons hs h1
  have hm0:m=false:=by simpa using hb
  have ht:takeS m s=([],failS 2 s):=by rw [take_cons h0 hl,hm0,failS_e h0,hl];rfl
  rw [ht]
  refine yT hC (oj q0 (oj q1 (oj hn_g3 hn_g6))) ?_
  exact .tup ⟨.agg ⟨ler_txs,.int _ _,trivial⟩,.c (.str _),trivial⟩
 ·rename_i h0 h1
  obtain⟨l,hl⟩:=tl_cons hs h1
  have hm1:m=true:=by simpa using hb
  have ht:takeS m s=(((tlX L s).getD 0 tx0).t.text,⟨l,0⟩):=by rw [take_cons h0 hl,hm1];rfl
  have eT:=tlX_tail hs hl 0
  rw [ht]
  refine yT hC (oj q0 (oj q1 (oj hn_g3 hn_g6))) ?_
  rw [h0]
  refine .tup ⟨.agg ⟨?_,.int _ _,trivial⟩,.c (.str _),trivial⟩
  rw [eT]
  exact ler_txs_tail _
theorem rend_fa (L:List TX) (s:PS) (hs:s.l<:+L.map TX.t) (hL:L.length≤1099511627776):Fa Tryz.prog 24 [.agg (rv L s)] (.c (.int .i64 (endS s).e)):=by
 have hTL:(tlX L s).length≤1099511627776:=Nat.le_trans (by unfold tlX;rw [List.length_drop];omega) hL
 have hn:=tlX_len hs
 refine fa_of_body Tryz.func24 rfl rfl (by simp [Tryz.ntmps24]) fun C hC=> ?_
 simp only [initS,Nat.reduceAdd]
 repeat' first|refine yA1 o0 ?_|refine zW o0 ?_|refine yP o0 ?_|refine yN o0 ?_|refine zC o0 (fun hb=>?_) fun hb=>?_|refine zG o0 (fun hb=>?_) fun hb=>?_|refine zD o0 (fun hb=>?_) fun hb=>?_
 refine xB fun g1 hn_g1=>?_
 repeat' first|refine yA1 hn_g1 ?_|refine zW hn_g1 ?_|refine yP hn_g1 ?_|refine yN hn_g1 ?_|refine zC hn_g1 (fun hb=>?_) fun hb=>?_|refine zG hn_g1 (fun hb=>?_) fun hb=>?_|refine zD hn_g1 (fun hb=>?_) fun hb=>?_
 all_goals
  refine yT hC hn_g1 ?_
  refine .one (.c (ler_int ?_))
  unfold endS
 ·rw [if_pos ⟨by assumption,fun z=>by have h2:=congrArg List.length z;rw [List.length_nil] at h2;omega⟩]
 ·rw [if_neg fun z=> ?_]
  have:=List.length_pos_iff.2 z.2
  omega
 ·rw [if_neg fun z=>by simp_all]
end Go.Proofs.YteehccacfedolaaGreat
namespace Go.PN
open Go.AI
theorem take_le {L:List TX} {s:PS} {m:Bool} {B:Nat} (hs:s.l<:+L.map TX.t) (hw:∀t∈L,t.t.text.length≤B):(takeS m s).1.length≤B:=by
 unfold takeS
 split
 ·split
  ·exact Nat.zero_le _
  ·rename_i t l hl
   split
   ·have hm:t∈L.map TX.t:=hs.subset (by rw [hl];exact List.mem_cons_self)
    obtain⟨x,hx,rfl⟩:=List.mem_map.1 hm
    exact hw x hx
   ·exact Nat.zero_le _
 ·exact Nat.zero_le _
theorem takeR_suf {L:List TX} {s:PS} (hs:s.l<:+L.map TX.t) (k:Nat) (w:BS):(takeR s k w).2.l<:+L.map TX.t:=((rdr_tk k w).suf s).trans hs
end Go.PN
namespace Go.Proofs.YteehccacfedolaaGreat
open Go.AI Go.PN
attribute [local irreducible] aw Fa Fh DrK
theorem rnumber_fa (L:List TX) (s:PS) (hs:s.l<:+L.map TX.t) (hL:L.length≤1099511627776) (hw:∀t∈L,t.t.text.length≤1099511627776):Fa Tryz.prog 101 [.agg (rv L s)] (.tup [.agg (rv L (numR s).2),.agg (rdc (numR s).1)]):=by
 have f1:=rtake_fa L s 1 [] hs hL
 have f2:=rvalue_fa (takeR s 1 []).1 (take_le hs hw)
 have f3:=rfail_fa L (takeR s 1 []).2 (valC (takeR s 1 []).1)
 unfold numR
 dsimp only
 generalize hr:takeR s 1 []=r at*
 obtain⟨t,s1⟩:=r
 dsimp only at*
 refine fa_of_body Tryz.func101 rfl rfl (by simp [Tryz.ntmps101]) fun C hC=> ?_
 simp only [initS,Nat.reduceAdd]
 repeat' first|refine yA1 o0 ?_|refine zW o0 ?_|refine yP o0 ?_|refine yN o0 ?_|refine zC o0 (fun hb=>?_) fun hb=>?_|refine zG o0 (fun hb=>?_) fun hb=>?_|refine zD o0 (fun hb=>?_) fun hb=>?_
 refine xB fun g1 hn_g1=>?_
 repeat' first|refine yA1 hn_g1 ?_|refine zW hn_g1 ?_|refine yP hn_g1 ?_|refine yN hn_g1 ?_|refine zC hn_g1 (fun hb=>?_) fun hb=>?_|refine zG hn_g1 (fun hb=>?_) fun hb=>?_|refine zD hn_g1 (fun hb=>?_) fun hb=>?_
 refine yA hn_g1 fun g2 hn_g2=>?_
 all_goals try(have Z:=(oj hn_g1 hn_g2);(repeat' first|refine yA1 Z ?_|refine zW Z ?_|refine yP Z ?_|refine yN Z ?_|refine zC Z (fun hb=>?_) fun hb=>?_|refine zG Z (fun hb=>?_) fun hb=>?_|refine zD Z (fun hb=>?_) fun hb=>?_);all_goals clear Z)
 refine yA (oj hn_g1 hn_g2) fun g3 hn_g3=>?_
 all_goals try(have Z:=(oj hn_g1 (oj hn_g2 hn_g3));(repeat' first|refine yA1 Z ?_|(refine yC2 Z (f1) ?_)|(refine yD2 Z (f1) ?_)|(refine yC2 Z (f2) ?_)|(refine yD2 Z (f2) ?_)|refine zW Z ?_|refine yP Z ?_|refine yN Z ?_|refine zC Z (fun hb=>?_) fun hb=>?_|refine zG Z (fun hb=>?_) fun hb=>?_|refine zD Z (fun hb=>?_) fun hb=>?_);all_goals clear Z)
 ·rw [if_neg hb]
  refine yT hC (oj hn_g1 (oj hn_g2 hn_g3)) ?_
  exact .tup ⟨.agg ⟨ler_txs,.int _ _,trivial⟩,.agg ⟨.bool _,.nils,.nils,trivial⟩,trivial⟩
 have h0:s1.e=0:=by simpa using hb
 refine yA (oj hn_g1 (oj hn_g2 hn_g3)) fun g5 hn_g5=>?_
 all_goals try(have Z:=(oj hn_g1 (oj hn_g2 (oj hn_g3 hn_g5)));(repeat' first|refine yA1 Z ?_|(refine yC2 Z (f3) ?_)|(refine yD2 Z (f3) ?_)|refine zW Z ?_|refine yP Z ?_|refine yN Z ?_|refine zC Z (fun hb=>?_) fun hb=>?_|refine zG Z (fun hb=>?_) fun hb=>?_|refine zD Z (fun hb=>?_) fun hb=>?_);all_goals clear Z)
 ·have hv:valC t≠0:=by simpa using hb
  rw [if_pos h0,if_neg hv]
  have hr0:valR t=rd0:=by unfold valR;rw [if_neg hv]
  rw [hr0]
  refine yT hC (oj hn_g1 (oj hn_g2 (oj hn_g3 hn_g5))) ?_
  rw [failS_e h0]
  exact .tup ⟨.agg ⟨ler_txs,.int _ _,trivial⟩,.agg ⟨.bool _,.nils,.nils,trivial⟩,trivial⟩
 ·have hv:valC t=0:=by simpa using hb
  rw [if_pos h0,if_pos hv]
  refine aw_cw ([(g5,.cells 43 3 (ofL (rdc (valR t)))),(g1,.cells 64 2 (ofL (rv L s1)))]) [(0,0),(1,0),(2,1),(3,2)] ty_mixed (by kernel_rfl) eI ?_
  have J1:=oj hn_g1 (oj hn_g2 (oj hn_g3 hn_g5))
  refine yG J1 ?_
  refine cw_store rfl rfl rfl rfl rfl (zE J1) (zE J1) (zE J1) (zE J1) (fun _ e=>by cases e) rfl rfl (Nat.le_refl 2) (zE J1) eI ?_ (hm:=.inr ⟨rfl,rfl⟩)
  refine ySG J1 ?_
  refine cw_store (FP':=[]) rfl rfl rfl rfl rfl (zE J1) (zE J1) (zE J1) (zE J1) (fun _ e=>by cases e) rfl rfl (Nat.le_refl 3) rfl has0_nil ?_
  refine ySGT hC J1 ?_
  exact .tup ⟨.agg ⟨ler_txs,.int _ _,trivial⟩,.agg lerl_rd,trivial⟩
theorem rwhole_fa (L:List TX) (s:PS) (hs:s.l<:+L.map TX.t) (hL:L.length≤1099511627776) (hw:∀t∈L,t.t.text.length≤1099511627776):Fa Tryz.prog 102 [.agg (rv L s)] (.tup [.agg (rv L (wholeR s).2),.c (.int .i64 (wholeR s).1)]):=by
 have f1:=rnumber_fa L s hs hL hw
 have f2:=sint_fa (numR s).1 (wf_mono (by rw [numR_eq];exact numS_wf s) om)
 have f3:=rfail_fa L (numR s).2 3
 unfold wholeR
 dsimp only
 generalize hr:numR s=r at*
 obtain⟨q,s1⟩:=r
 dsimp only at*
 generalize hi:intQ q.q=o at*
 cases o with
 |none=>
  dsimp only [Option.getD_none,Option.isSome_none] at*
  refine fa_of_body Tryz.func102 rfl rfl (by simp [Tryz.ntmps102]) fun C hC=> ?_
  simp only [initS,Nat.reduceAdd]
  repeat' first|refine yA1 o0 ?_|refine zW o0 ?_|refine yP o0 ?_|refine yN o0 ?_|refine zC o0 (fun hb=>?_) fun hb=>?_|refine zG o0 (fun hb=>?_) fun hb=>?_|refine zD o0 (fun hb=>?_) fun hb=>?_
  refine xB fun g1 hn_g1=>?_
  repeat' first|refine yA1 hn_g1 ?_|refine zW hn_g1 ?_|refine yP hn_g1 ?_|refine yN hn_g1 ?_|refine zC hn_g1 (fun hb=>?_) fun hb=>?_|refine zG hn_g1 (fun hb=>?_) fun hb=>?_|refine zD hn_g1 (fun hb=>?_) fun hb=>?_
  refine yA hn_g1 fun g2 hn_g2=>?_
  all_goals try(have Z:=(oj hn_g1 hn_g2);(repeat' first|refine yA1 Z ?_|(refine yC2 Z (f1) ?_)|(refine yD2 Z (f1) ?_)|refine zW Z ?_|refine yP Z ?_|refine yN Z ?_|refine zC Z (fun hb=>?_) fun hb=>?_|refine zG Z (fun hb=>?_) fun hb=>?_|refine zD Z (fun hb=>?_) fun hb=>?_);all_goals clear Z)
  refine yA (oj hn_g1 hn_g2) fun g4 hn_g4=>?_
  all_goals try(have Z:=(oj hn_g1 (oj hn_g2 hn_g4));(repeat' first|refine yA1 Z ?_|(refine yC2 Z (f2) ?_)|(refine yD2 Z (f2) ?_)|(refine yC2 Z (f3) ?_)|(refine yD2 Z (f3) ?_)|refine zW Z ?_|refine yP Z ?_|refine yN Z ?_|refine zC Z (fun hb=>?_) fun hb=>?_|refine zG Z (fun hb=>?_) fun hb=>?_|refine zD Z (fun hb=>?_) fun hb=>?_);all_goals clear Z)
  ·rw [if_pos (by assumption)]
   refine yT hC (oj hn_g1 (oj hn_g2 hn_g4)) ?_
   rw [failS_e (by assumption)]
   exact .tup ⟨.agg ⟨ler_txs,.int _ _,trivial⟩,.c (.int _ _),trivial⟩
  ·rw [if_neg hb]
   refine yT hC (oj hn_g1 (oj hn_g2 hn_g4)) ?_
   exact .tup ⟨.agg ⟨ler_txs,.int _ _,trivial⟩,.c (.int _ _),trivial⟩
 |some n=>
  dsimp only [Option.getD_some,Option.isSome_some] at*
  refine fa_of_body Tryz.func102 rfl rfl (by simp [Tryz.ntmps102]) fun C hC=> ?_
  simp only [initS,Nat.reduceAdd]
  repeat' first|refine yA1 o0 ?_|refine zW o0 ?_|refine yP o0 ?_|refine yN o0 ?_|refine zC o0 (fun hb=>?_) fun hb=>?_|refine zG o0 (fun hb=>?_) fun hb=>?_|refine zD o0 (fun hb=>?_) fun hb=>?_
  refine xB fun g1 hn_g1=>?_
  repeat' first|refine yA1 hn_g1 ?_|refine zW hn_g1 ?_|refine yP hn_g1 ?_|refine yN hn_g1 ?_|refine zC hn_g1 (fun hb=>?_) fun hb=>?_|refine zG hn_g1 (fun hb=>?_) fun hb=>?_|refine zD hn_g1 (fun hb=>?_) fun hb=>?_
  refine yA hn_g1 fun g2 hn_g2=>?_
  all_goals try(have Z:=(oj hn_g1 hn_g2);(repeat' first|refine yA1 Z ?_|(refine yC2 Z (f1) ?_)|(refine yD2 Z (f1) ?_)|refine zW Z ?_|refine yP Z ?_|refine yN Z ?_|refine zC Z (fun hb=>?_) fun hb=>?_|refine zG Z (fun hb=>?_) fun hb=>?_|refine zD Z (fun hb=>?_) fun hb=>?_);all_goals clear Z)
  refine yA (oj hn_g1 hn_g2) fun g4 hn_g4=>?_
  all_goals try(have Z:=(oj hn_g1 (oj hn_g2 hn_g4));(repeat' first|refine yA1 Z ?_|(refine yC2 Z (f2) ?_)|(refine yD2 Z (f2) ?_)|(refine yC2 Z (f3) ?_)|(refine yD2 Z (f3) ?_)|refine zW Z ?_|refine yP Z ?_|refine yN Z ?_|refine zC Z (fun hb=>?_) fun hb=>?_|refine zG Z (fun hb=>?_) fun hb=>?_|refine zD Z (fun hb=>?_) fun hb=>?_);all_goals clear Z)
  all_goals first
   |(rw [if_pos (by constructor<;>first|assumption|omega)]
     refine yT hC (oj hn_g1 (oj hn_g2 hn_g4)) ?_
     rw [failS_e (by assumption)]
     exact .tup ⟨.agg ⟨ler_txs,.int _ _,trivial⟩,.c (.int _ _),trivial⟩)
   |(rw [if_neg om]
     refine yT hC (oj hn_g1 (oj hn_g2 hn_g4)) ?_
     exact .tup ⟨.agg ⟨ler_txs,.int _ _,trivial⟩,.c (.int _ _),trivial⟩)
theorem rinput_fa (L:List TX) (s:PS) (hs:s.l<:+L.map TX.t) (hL:L.length≤1099511627776) (hw:∀t∈L,t.t.text.length≤1099511627776):Fa Tryz.prog 23 [.agg (rv L s)] (.tup [.agg (rv L (inputR s).2),.c (.str (sB (inputR s).1))]):=by
 have f1:=rnext_fa L s 2 kAt hs hL
 have f2:=rtake_fa L s 0 [] hs hL
 have f3:=rtake_fa L s 2 kAt hs hL
 have f4:=rtake_fa L (takeR s 2 kAt).2 0 [] (takeR_suf hs 2 kAt) hL
 have hlen:(takeR (takeR s 2 kAt).2 0 []).1.length≤1099511627776:=take_le (takeR_suf hs 2 kAt) hw
 unfold inputR wordR
 dsimp only
 refine fa_of_body Tryz.func23 rfl rfl (by simp [Tryz.ntmps23]) fun C hC=> ?_
 simp only [initS,Nat.reduceAdd]
 repeat' first|refine yA1 o0 ?_|refine zW o0 ?_|refine yP o0 ?_|refine yN o0 ?_|refine zC o0 (fun hb=>?_) fun hb=>?_|refine zG o0 (fun hb=>?_) fun hb=>?_|refine zD o0 (fun hb=>?_) fun hb=>?_
 refine xB fun g1 hn_g1=>?_
 repeat' first|refine yA1 hn_g1 ?_|refine zW hn_g1 ?_|refine yP hn_g1 ?_|refine yN hn_g1 ?_|refine zC hn_g1 (fun hb=>?_) fun hb=>?_|refine zG hn_g1 (fun hb=>?_) fun hb=>?_|refine zD hn_g1 (fun hb=>?_) fun hb=>?_
 refine yA hn_g1 fun g2 hn_g2=>?_
 all_goals try(have Z:=(oj hn_g1 hn_g2);(repeat' first|refine yA1 Z ?_|(refine yC2 Z (f1) ?_)|(refine yD2 Z (f1) ?_)|(refine yC2 Z (f2) ?_)|(refine yD2 Z (f2) ?_)|(refine yC2 Z (f3) ?_)|(refine yD2 Z (f3) ?_)|(refine yC2 Z (f4) ?_)|(refine yD2 Z (f4) ?_)|refine zW Z ?_|refine yP Z ?_|refine yN Z ?_|refine zC Z (fun hb=>?_) fun hb=>?_|refine zG Z (fun hb=>?_) fun hb=>?_|refine zD Z (fun hb=>?_) fun hb=>?_);all_goals clear Z)
 ·rw [if_neg (by simpa using hb)]
  refine yT hC (oj hn_g1 hn_g2) ?_
  exact .tup ⟨.agg ⟨ler_txs,.int _ _,trivial⟩,.c (.str _),trivial⟩
 ·rw [if_pos (by simpa using hb)]
  refine yT hC (oj hn_g1 hn_g2) ?_
  exact .tup ⟨.agg ⟨ler_txs,.int _ _,trivial⟩,.c (.str _),trivial⟩
end Go.Proofs.YteehccacfedolaaGreat
namespace Go.Proofs.YteehccacfedolaaGreat
open Go.AI Go.PN
attribute [local irreducible] aw Fa Fh DrK
theorem rinputs_fa (L:List TX) (s:PS) (hs:s.l<:+L.map TX.t) (hL:L.length≤1048576) (hw:∀t∈L,t.t.text.length≤1099511627776):Fa Tryz.prog 103 [.agg (rv L s)] (.tup [.agg (rv L (inputsR s).2),.c (strs true (inputsR s).1)]):=by
 unfold inputsR
 dsimp only
 generalize hF:lpS (fun s=> !nextR s 2 kSemi) inBR [] s=F at*
 refine fa_of_body Tryz.func103 rfl rfl (by simp [Tryz.ntmps103]) fun C hC=> ?_
 simp only [initS,Nat.reduceAdd]
 repeat' first|refine yA1 o0 ?_|refine zW o0 ?_|refine yP o0 ?_|refine yN o0 ?_|refine zC o0 (fun hb=>?_) fun hb=>?_|refine zG o0 (fun hb=>?_) fun hb=>?_|refine zD o0 (fun hb=>?_) fun hb=>?_
 refine xB fun g1 hn_g1=>?_
 repeat' first|refine yA1 hn_g1 ?_|refine zW hn_g1 ?_|refine yP hn_g1 ?_|refine yN hn_g1 ?_|refine zC hn_g1 (fun hb=>?_) fun hb=>?_|refine zG hn_g1 (fun hb=>?_) fun hb=>?_|refine zD hn_g1 (fun hb=>?_) fun hb=>?_
 refine yA hn_g1 fun g2 hn_g2=>?_
 all_goals try(have Z:=(oj hn_g1 hn_g2);(repeat' first|refine yA1 Z ?_|refine zW Z ?_|refine yP Z ?_|refine yN Z ?_|refine zC Z (fun hb=>?_) fun hb=>?_|refine zG Z (fun hb=>?_) fun hb=>?_|refine zD Z (fun hb=>?_) fun hb=>?_);all_goals clear Z)
 refine aw_lp (fun x:PS×List BS×Option Nat=>[(1,.c (.optr g1 0)),(2,.c (.optr g2 0)),(4,.c (gs x.2.2 1 x.2.1.length))]) (fun x=>[(g2,.cells 64 2 (ofL [.nils,.int .i64 0])),(g1,.cells 64 2 (ofL (rv L x.1)))]++gh x.2.2 9 x.2.1.length (strsF x.2.1))
  (fun x=>x.1.l<:+L.map TX.t∧(x.2.2=none→x.2.1.length=0)∧x.2.1.length+mS x.1≤1048577∧lpS (fun s=> !nextR s 2 kSemi) inBR x.2.1 x.1=F) (fun x=>mS x.1) (s,[],none) (zB (oj hn_g1 hn_g2)) zZ ⟨hs,fun _=>rfl,?_,hF⟩ ?_
 ·have:=hs.length_le
  rw [List.length_map] at this
  dsimp only
  unfold mS
  split<;>simp<;>omega
 rintro ⟨sx,xs,og⟩ ⟨hsx,hog,hm,hlp⟩
 dsimp only at hsx hog hm hlp⊢
 have f2:=rnext_fa L sx 2 kSemi hsx om
 have f4:=rinput_fa L sx hsx om hw
 all_goals try(have Z:=(oj hn_g1 hn_g2);(repeat' first|refine yA1 Z ?_|(refine yC2 Z (f2) ?_)|(refine yD2 Z (f2) ?_)|refine zW Z ?_|refine yP Z ?_|refine yN Z ?_|refine zC Z (fun hb=>?_) fun hb=>?_|refine zG Z (fun hb=>?_) fun hb=>?_|refine zD Z (fun hb=>?_) fun hb=>?_);all_goals clear Z)
 ·rename_i h0
  have hc:(!nextR sx 2 kSemi)=true:=hb
  have hst:=lpS_step (c:=fun s=> !nextR s 2 kSemi) (b:=inBR) (a:=xs) (fun a s h _=>con_inBR' a s h) h0 hc
  have hlt:=con_inBR' xs sx h0
  rw [hst] at hlp
  have e1:(inBR xs sx).1=xs++[(inputR sx).1]:=rfl
  have e2:(inBR xs sx).2=(inputR sx).2:=rfl
  have hsy:(inputR sx).2.l<:+L.map TX.t:=(rdr_inputR.suf sx).trans hsx
  rw [e2] at hlt
  rw [e1,e2] at hlp
  generalize inputR sx=y at*
  obtain⟨t,sy⟩:=y
  dsimp only at*
  have hln:(xs++[t]).length=xs.length+1:=by rw [List.length_append];rfl
  all_goals try(have Z:=(oj hn_g1 hn_g2);(repeat' first|refine yA1 Z ?_|(refine yC2 Z (f4) ?_)|(refine yD2 Z (f4) ?_)|refine zW Z ?_|refine yP Z ?_|refine yN Z ?_|refine zC Z (fun hb=>?_) fun hb=>?_|refine zG Z (fun hb=>?_) fun hb=>?_|refine zD Z (fun hb=>?_) fun hb=>?_);all_goals clear Z)
  refine aw_push (pre:=[(g2,.cells 64 2 (ofL [.nils,.int .i64 0])),(g1,.cells 64 2 (ofL (rv L sy)))]) rfl rfl rfl rfl rfl rfl rfl (zE (oj hn_g1 hn_g2)) (zE (oj hn_g1 hn_g2)) (by rfl) om om (zE (oj hn_g1 hn_g2)) om (by exact hog) (zE (oj hn_g1 hn_g2)) (by rfl) (by rfl) (by first|rfl|simp only [Nat.mul_one,List.nil_append,List.cons_append]<;>rfl) (by unfold maxLen;omega) om (by exact strs_push rfl t) fun gb hn_gb=> ?_
  replace hn_gb:=Heap.ne_of hn_gb
  first|dsimp only [Heap.ne,gh] at hn_gb|dsimp only [Heap.ne] at hn_gb|skip
  have J1:=oj hn_g1 (oj hn_g2 hn_gb)
  refine yS J1 ?_
  all_goals try(have Z:=J1;(repeat' first|refine yA1 Z ?_|refine zW Z ?_|refine yP Z ?_|refine yN Z ?_|refine zC Z (fun hb=>?_) fun hb=>?_|refine zG Z (fun hb=>?_) fun hb=>?_|refine zD Z (fun hb=>?_) fun hb=>?_);all_goals clear Z)
  refine aw_stop ⟨(sy,xs++[t],some gb),hlt,?_⟩
  dsimp only
  simp only [hln]
  and_intros
  all_goals first|rfl|exact List.Sublist.refl _|exact .cons _ (.refl _)|exact True.intro|exact hsy|exact some_ne|exact hlp|omega
 all_goals
  have hc:¬(sx.e=0∧(!nextR sx 2 kSemi)=true):=by
   first
    |exact fun z=>by rw [hb] at z;exact absurd z.2 (by decide)
    |exact fun z=>hb z.1
  rw [lpS_end hc] at hlp
  subst hlp
  dsimp only at*
  have f6:=rtake_fa L sx 2 kSemi hsx om
  cases og with
  |none=>
   have hx:xs=[]:=List.length_eq_zero_iff.1 (hog rfl)
   subst hx
   dsimp only [gs,gh]
   all_goals try(have Z:=(oj hn_g1 hn_g2);(repeat' first|refine yA1 Z ?_|(refine yC2 Z (f6) ?_)|(refine yD2 Z (f6) ?_)|refine zW Z ?_|refine yP Z ?_|refine yN Z ?_|refine zC Z (fun hb=>?_) fun hb=>?_|refine zG Z (fun hb=>?_) fun hb=>?_|refine zD Z (fun hb=>?_) fun hb=>?_);all_goals clear Z)
   refine yT hC (oj hn_g1 hn_g2) ?_
   exact .tup ⟨.agg ⟨ler_txs,.int _ _,trivial⟩,.c .nils,trivial⟩
  |some q=>
   dsimp only [gs,gh]
   try simp only [List.cons_append,List.nil_append]
   refine aw_nd fun hnd=> ?_
   simp only [Heap.keys,List.map_cons,List.map_nil] at hnd
   replace hnd:=ndP_of hnd
   dsimp only [ndP,neA] at hnd
   refine aw_frzT (t:=4) (strsF xs) (zE (oj hn_g1 (oj hn_g2 hnd))) (zE (oj hn_g1 (oj hn_g2 hnd))) om (hC q) (fun j hj=>by rw [Nat.zero_add]) rfl (zE (oj hn_g1 (oj hn_g2 hnd))) ?_
   have J2:=oj hn_g1 (oj hn_g2 hnd)
   refine yS J2 ?_
   all_goals try(have Z:=J2;(repeat' first|refine yA1 Z ?_|(refine yC2 Z (f6) ?_)|(refine yD2 Z (f6) ?_)|refine zW Z ?_|refine yP Z ?_|refine yN Z ?_|refine zC Z (fun hb=>?_) fun hb=>?_|refine zG Z (fun hb=>?_) fun hb=>?_|refine zD Z (fun hb=>?_) fun hb=>?_);all_goals clear Z)
   refine yT hC J2 ?_
   exact .tup ⟨.agg ⟨ler_txs,.int _ _,trivial⟩,.c ler_strs,trivial⟩
end Go.Proofs.YteehccacfedolaaGreat
namespace Go.PN
open Go.AI
abbrev Wd9:List BS:=[kAnd,kOr,kVote,kNot,kXor,kInhibit,kPand,kSpare,kDepend]
theorem gk_to (w:BS) (k:Int) (h:gkind w=some k):0≤k∧k<9∧Wd9.getD k.toNat []=w:=by
 unfold gkind at h
 repeat' split at h
 all_goals first
  |(cases h;done)
  |(injection h with h
    subst h
    rename_i hw
    exact⟨by decide,by decide,(eq_of_beq hw).symm⟩)
theorem gk_of (w:BS) (i:Nat) (hi:i<9) (h:Wd9.getD i []=w):gkind w=some (i:Int):=by
 subst h
 match i,hi with
 |0,_=>rfl
 |1,_=>rfl
 |2,_=>rfl
 |3,_=>rfl
 |4,_=>rfl
 |5,_=>rfl
 |6,_=>rfl
 |7,_=>rfl
 |8,_=>rfl
def kdI (w:BS) (i:Nat):Int:=match gkind w with
 |some k=>if k<i then k else-1
 |none=> -1
theorem kdI_0 (w:BS):kdI w 0= -1:=by
 unfold kdI
 split
 ·rename_i k h
  have:=(gk_to w k h).1
  rw [if_neg om]
 ·rfl
theorem kdI_yes {w:BS} {i:Nat} (hi:i<9) (h:Wd9.getD i []=w):kdI w (i+1)=i:=by
 unfold kdI
 rw [gk_of w i hi h]
 show(if(i:Int)<((i+1:Nat):Int) then(i:Int) else-1)=i
 rw [if_pos om]
theorem kdI_no {w:BS} {i:Nat} (h:Wd9.getD i []≠w):kdI w (i+1)=kdI w i:=by
 unfold kdI
 split
 ·rename_i k hk
  obtain⟨h0,h9,hw⟩:=gk_to w k hk
  by_cases e:k=i
  ·rw [e,Int.toNat_natCast] at hw;exact absurd hw h
  ·by_cases hl:k<i
   ·rw [if_pos hl,if_pos om]
   ·rw [if_neg hl,if_neg om]
 ·rfl
theorem kdI_9 (w:BS):kdI w 9=(gkind w).getD (-1):=by
 unfold kdI
 split
 ·rename_i k hk
  have:=(gk_to w k hk).2.1
  rw [if_pos om,hk];rfl
 ·rename_i hk;rw [hk];rfl
end Go.PN
namespace Go.Proofs.YteehccacfedolaaGreat
open Go.AI Go.PN
attribute [local irreducible] aw Fa Fh DrK
theorem rgate_fa (L:List TX) (s:PS) (hs:s.l<:+L.map TX.t) (hL:L.length≤1048576) (hw:∀t∈L,t.t.text.length≤1099511627776):Fa Tryz.prog 58 [.agg (rv L s)] (.tup [.agg (rv L (gateR s).2),.agg (gtc (gateR s).1)]):=by
 have f1:=rtake_fa L s 0 [] hs om
 have hs1:=takeR_suf hs 0 []
 have f2:=rtake_fa L (takeR s 0 []).2 0 [] hs1 om
 have hs2:=takeR_suf hs1 0 []
 unfold gateR wordR
 dsimp only
 generalize takeR s 0 []=r1 at*
 obtain⟨nm,s1⟩:=r1
 dsimp only at*
 generalize takeR s1 0 []=r2 at*
 obtain⟨w,s2⟩:=r2
 dsimp only at*
 refine fa_of_body Tryz.func58 rfl rfl (by simp [Tryz.ntmps58]) fun C hC=> ?_
 simp only [initS,Nat.reduceAdd]
 repeat' first|refine yA1 o0 ?_|refine zW o0 ?_|refine yP o0 ?_|refine yN o0 ?_|refine zC o0 (fun hb=>?_) fun hb=>?_|refine zG o0 (fun hb=>?_) fun hb=>?_|refine zD o0 (fun hb=>?_) fun hb=>?_
 refine xB fun g1 hn_g1=>?_
 repeat' first|refine yA1 hn_g1 ?_|refine zW hn_g1 ?_|refine yP hn_g1 ?_|refine yN hn_g1 ?_|refine zC hn_g1 (fun hb=>?_) fun hb=>?_|refine zG hn_g1 (fun hb=>?_) fun hb=>?_|refine zD hn_g1 (fun hb=>?_) fun hb=>?_
 refine yA hn_g1 fun g2 hn_g2=>?_
 all_goals try(have Z:=(oj hn_g1 hn_g2);(repeat' first|refine yA1 Z ?_|refine zW Z ?_|refine yP Z ?_|refine yN Z ?_|refine zC Z (fun hb=>?_) fun hb=>?_|refine zG Z (fun hb=>?_) fun hb=>?_|refine zD Z (fun hb=>?_) fun hb=>?_);all_goals clear Z)
 refine yA (oj hn_g1 hn_g2) fun g3 hn_g3=>?_
 all_goals try(have Z:=(oj hn_g1 (oj hn_g2 hn_g3));(repeat' first|refine yA1 Z ?_|refine zW Z ?_|refine yP Z ?_|refine yN Z ?_|refine zC Z (fun hb=>?_) fun hb=>?_|refine zG Z (fun hb=>?_) fun hb=>?_|refine zD Z (fun hb=>?_) fun hb=>?_);all_goals clear Z)
 refine yA (oj hn_g1 (oj hn_g2 hn_g3)) fun g4 hn_g4=>?_
 all_goals try(have Z:=(oj hn_g1 (oj hn_g2 (oj hn_g3 hn_g4)));(repeat' first|refine yA1 Z ?_|(refine yC2 Z (f1) ?_)|(refine yD2 Z (f1) ?_)|(refine yC2 Z (f2) ?_)|(refine yD2 Z (f2) ?_)|refine zW Z ?_|refine yP Z ?_|refine yN Z ?_|refine zC Z (fun hb=>?_) fun hb=>?_|refine zG Z (fun hb=>?_) fun hb=>?_|refine zD Z (fun hb=>?_) fun hb=>?_);all_goals clear Z)
 refine aw_buildSlice (xs:=Wd9.map fun w=>Operand.const (.string (sB w))) (cells:=Wd9.map fun w=>.str (sB w)) rfl rfl rfl (zE (oj hn_g1 (oj hn_g2 (oj hn_g3 hn_g4)))) (by refine yS (oj hn_g1 (oj hn_g2 (oj hn_g3 hn_g4))) ?_;rfl) rfl (by decide) (by decide) (by intro x hx;simp only [Wd9,List.map_cons,List.map_nil,List.mem_cons,List.not_mem_nil,or_false] at hx;rcases hx with rfl|rfl|rfl|rfl|rfl|rfl|rfl|rfl|rfl<;>exact⟨rfl,rfl,rfl⟩) rfl fun g20 hn_g20=> ?_
 replace hn_g20:=Heap.ne_of hn_g20
 dsimp only [Heap.ne] at hn_g20
 have J1:=oj hn_g1 (oj hn_g2 (oj hn_g3 (oj hn_g4 hn_g20)))
 refine yS J1 ?_
 refine aw_frzT (t:=20) (strsF Wd9) (zE J1) (zE J1) (by decide) (hC g20) (fun j hj=>by
  match j,hj with
  |0,_=>rfl
  |1,_=>rfl
  |2,_=>rfl
  |3,_=>rfl
  |4,_=>rfl
  |5,_=>rfl
  |6,_=>rfl
  |7,_=>rfl
  |8,_=>rfl) rfl (zE J1) ?_
 refine yS J1 ?_
 all_goals try(have Z:=J1;(repeat' first|refine yA1 Z ?_|refine zW Z ?_|refine yP Z ?_|refine yN Z ?_|refine zC Z (fun hb=>?_) fun hb=>?_|refine zG Z (fun hb=>?_) fun hb=>?_|refine zD Z (fun hb=>?_) fun hb=>?_);all_goals clear Z)
 refine aw_lp (fun i:Nat=>[(1,.c (.optr g1 0)),(2,.c (.optr g2 0)),(3,.c (.optr g3 0)),(4,.c (.optr g4 0)),(5,.c (.str (sB w))),(20,.c (.row true 1 9 (strsF Wd9))),(21,.c (.int .i64 ((9:Nat):Int))),(22,.c (.int .i64 i))]) (fun i=>[(g4,.cells 45 7 (ofL [.str (sB nm),.int .i64 (kdI w i),.int .i64 0,.nils,.bool false,.nils,.nils])),(g3,.cells 45 7 (ofL [.str (sB []),.int .i64 0,.int .i64 0,.nils,.bool false,.nils,.nils])),(g2,.cells 64 2 (ofL [.nils,.int .i64 0])),(g1,.cells 64 2 (ofL (rv L s2)))]) (fun i=>i≤9) (fun i=>9-i) 0 (zB J1) (by rw [kdI_0];exact List.Sublist.refl _) (Nat.zero_le _) ?_
 rintro i hi
 by_cases hi9:i<9
 ·have d9:decide (i<9)=true:=decide_eq_true hi9
  all_goals try(have Z:=(oj hn_g1 (oj hn_g2 (oj hn_g3 (oj hn_g4 (oj hn_g20 d9)))));(repeat' first|refine yA1 Z ?_|refine zW Z ?_|refine yP Z ?_|refine yN Z ?_|refine zC Z (fun hb=>?_) fun hb=>?_|refine zG Z (fun hb=>?_) fun hb=>?_|refine zD Z (fun hb=>?_) fun hb=>?_);all_goals clear Z)
  ·have hk:=kdI_yes hi9 hb
   refine aw_stop ⟨i+1,by omega,?_⟩
   rw [hk]
   and_intros
   all_goals first|rfl|exact List.Sublist.refl _|exact True.intro|omega
  ·have hk:=kdI_no hb
   refine aw_stop ⟨i+1,by omega,?_⟩
   rw [hk]
   and_intros
   all_goals first|rfl|exact List.Sublist.refl _|exact True.intro|omega
 obtain rfl:i=9:=by omega
 have d9:decide (9<9)=false:=by decide
 rw [kdI_9]
 cases hk:gkind w with
 |none=>
  have f3:=rfail_fa L s2 2
  dsimp only [Option.getD_none]
  all_goals try(have Z:=(oj hn_g1 (oj hn_g2 (oj hn_g3 (oj hn_g4 (oj hn_g20 d9)))));(repeat' first|refine yA1 Z ?_|(refine yC2 Z (f3) ?_)|(refine yD2 Z (f3) ?_)|refine zW Z ?_|refine yP Z ?_|refine yN Z ?_|refine zC Z (fun hb=>?_) fun hb=>?_|refine zG Z (fun hb=>?_) fun hb=>?_|refine zD Z (fun hb=>?_) fun hb=>?_);all_goals clear Z)
  ·refine yT hC (oj hn_g1 (oj hn_g2 (oj hn_g3 (oj hn_g4 (oj hn_g20 d9))))) ?_
   exact .tup ⟨.agg ⟨ler_txs,.int _ _,trivial⟩,.agg lerl_gt0,trivial⟩
 |some k=>
  obtain⟨k0,k9,_⟩:=gk_to w k hk
  have d0:decide (k<0)=false:=decide_eq_false om
  dsimp only [Option.getD_some]
  by_cases k2:k=2
  ·subst k2
   have f4:=rwhole_fa L s2 hs2 om hw
   have hs3:(wholeR s2).2.l<:+L.map TX.t:=by rw [wholeR_eq];exact(rdr_whole.suf s2).trans hs2
   rw [if_pos rfl,if_neg (show¬(2:Int)=7 by decide)]
   generalize wholeR s2=V at*
   obtain⟨v,S3⟩:=V
   dsimp only at*
   have f6:=rinputs_fa L S3 hs3 hL hw
   generalize inputsR S3=I at*
   obtain⟨xs,S4⟩:=I
   dsimp only at*
   all_goals try(have Z:=(oj hn_g1 (oj hn_g2 (oj hn_g3 (oj hn_g4 (oj hn_g20 (oj d9 d0))))));(repeat' first|refine yA1 Z ?_|(refine yC2 Z (f4) ?_)|(refine yD2 Z (f4) ?_)|(refine yC2 Z (f6) ?_)|(refine yD2 Z (f6) ?_)|refine zW Z ?_|refine yP Z ?_|refine yN Z ?_|refine zC Z (fun hb=>?_) fun hb=>?_|refine zG Z (fun hb=>?_) fun hb=>?_|refine zD Z (fun hb=>?_) fun hb=>?_);all_goals clear Z)
   refine aw_cw ([(g4,.cells 45 7 (ofL [.str (sB nm),.int .i64 2,.int .i64 v,strs true xs,.bool false,.nils,.nils])),(g1,.cells 64 2 (ofL (rv L S4)))]) [(0,0),(1,0),(2,1),(3,2)] ty_mixed (by kernel_rfl) eI ?_
   have J2:=oj hn_g1 (oj hn_g2 (oj hn_g3 (oj hn_g4 (oj hn_g20 (oj d9 d0)))))
   refine yG J2 ?_
   refine cw_store rfl rfl rfl rfl rfl (zE J2) (zE J2) (zE J2) (zE J2) (fun _ e=>by cases e) rfl rfl (Nat.le_refl 2) (zE J2) eI ?_ (hm:=.inr ⟨rfl,rfl⟩)
   refine ySG J2 ?_
   refine cw_store (FP':=[]) rfl rfl rfl rfl rfl (zE J2) (zE J2) (zE J2) (zE J2) (fun _ e=>by cases e) rfl rfl (Nat.le_refl 7) rfl has0_nil ?_
   refine ySGT hC J2 ?_
   exact .tup ⟨.agg ⟨ler_txs,.int _ _,trivial⟩,.agg ⟨.str _,.int _ _,.int _ _,ler_strs,.bool _,.nils,.nils,trivial⟩,trivial⟩
  by_cases k7:k=7
  ·subst k7
   have f4:=rnumber_fa L s2 hs2 om hw
   have hs3:(numR s2).2.l<:+L.map TX.t:=by rw [numR_eq];exact(rdr_num.suf s2).trans hs2
   rw [if_neg (show¬(7:Int)=2 by decide),if_pos rfl]
   generalize numR s2=V at*
   obtain⟨d,S3⟩:=V
   dsimp only at*
   have f6:=rinputs_fa L S3 hs3 hL hw
   generalize inputsR S3=I at*
   obtain⟨xs,S4⟩:=I
   dsimp only at*
   all_goals try(have Z:=(oj hn_g1 (oj hn_g2 (oj hn_g3 (oj hn_g4 (oj hn_g20 (oj d9 d0))))));(repeat' first|refine yA1 Z ?_|(refine yC2 Z (f4) ?_)|(refine yD2 Z (f4) ?_)|(refine yC2 Z (f6) ?_)|(refine yD2 Z (f6) ?_)|refine zW Z ?_|refine yP Z ?_|refine yN Z ?_|refine zC Z (fun hb=>?_) fun hb=>?_|refine zG Z (fun hb=>?_) fun hb=>?_|refine zD Z (fun hb=>?_) fun hb=>?_);all_goals clear Z)
   refine aw_cw ([(g4,.cells 45 7 (ofL [.str (sB nm),.int .i64 7,.int .i64 0,strs true xs,.bool d.neg,ws true d.num,ws true d.den])),(g1,.cells 64 2 (ofL (rv L S4)))]) [(0,0),(1,0),(2,1),(3,2)] ty_mixed (by kernel_rfl) eI ?_
   have J3:=oj hn_g1 (oj hn_g2 (oj hn_g3 (oj hn_g4 (oj hn_g20 (oj d9 d0)))))
   refine yG J3 ?_
   refine cw_store rfl rfl rfl rfl rfl (zE J3) (zE J3) (zE J3) (zE J3) (fun _ e=>by cases e) rfl rfl (Nat.le_refl 2) (zE J3) eI ?_ (hm:=.inr ⟨rfl,rfl⟩)
   refine ySG J3 ?_
   refine cw_store (FP':=[]) rfl rfl rfl rfl rfl (zE J3) (zE J3) (zE J3) (zE J3) (fun _ e=>by cases e) rfl rfl (Nat.le_refl 7) rfl has0_nil ?_
   refine ySGT hC J3 ?_
   exact .tup ⟨.agg ⟨ler_txs,.int _ _,trivial⟩,.agg ⟨.str _,.int _ _,.int _ _,ler_strs,.bool _,ler_ws,ler_ws,trivial⟩,trivial⟩
  ·have n2:(k==(2:Int))=false:=beq_eq_false_iff_ne.2 k2
   have n7:(k==(7:Int))=false:=beq_eq_false_iff_ne.2 k7
   rw [if_neg k2,if_neg k7]
   dsimp only
   have f6:=rinputs_fa L s2 hs2 hL hw
   generalize inputsR s2=I at*
   obtain⟨xs,S4⟩:=I
   dsimp only at*
   all_goals try(have Z:=(oj hn_g1 (oj hn_g2 (oj hn_g3 (oj hn_g4 (oj hn_g20 (oj d9 (oj d0 (oj n2 n7))))))));(repeat' first|refine yA1 Z ?_|(refine yC2 Z (f6) ?_)|(refine yD2 Z (f6) ?_)|refine zW Z ?_|refine yP Z ?_|refine yN Z ?_|refine zC Z (fun hb=>?_) fun hb=>?_|refine zG Z (fun hb=>?_) fun hb=>?_|refine zD Z (fun hb=>?_) fun hb=>?_);all_goals clear Z)
   refine aw_cw ([(g4,.cells 45 7 (ofL [.str (sB nm),.int .i64 k,.int .i64 0,strs true xs,.bool false,.nils,.nils])),(g1,.cells 64 2 (ofL (rv L S4)))]) [(0,0),(1,0),(2,1),(3,2)] ty_mixed (by kernel_rfl) eI ?_
   have J4:=oj hn_g1 (oj hn_g2 (oj hn_g3 (oj hn_g4 (oj hn_g20 (oj d9 (oj d0 (oj n2 n7)))))))
   refine yG J4 ?_
   refine cw_store rfl rfl rfl rfl rfl (zE J4) (zE J4) (zE J4) (zE J4) (fun _ e=>by cases e) rfl rfl (Nat.le_refl 2) (zE J4) eI ?_ (hm:=.inr ⟨rfl,rfl⟩)
   refine ySG J4 ?_
   refine cw_store (FP':=[]) rfl rfl rfl rfl rfl (zE J4) (zE J4) (zE J4) (zE J4) (fun _ e=>by cases e) rfl rfl (Nat.le_refl 7) rfl has0_nil ?_
   refine ySGT hC J4 ?_
   exact .tup ⟨.agg ⟨ler_txs,.int _ _,trivial⟩,.agg ⟨.str _,.int _ _,.int _ _,ler_strs,.bool _,.nils,.nils,trivial⟩,trivial⟩
end Go.Proofs.YteehccacfedolaaGreat
namespace Go.PN
open Go.AI
theorem tlX_all {L:List TX} {s:PS} (h:L.map TX.t=s.l):tlX L s=L:=by
 have:=congrArg List.length h
 rw [List.length_map] at this
 unfold tlX
 rw [this,Nat.sub_self,List.drop_zero]
end Go.PN

