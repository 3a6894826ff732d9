/- Parts of one proof, laid by a program. -/
import Derived.Test.YtjegkdadeghpjaaGreatDoorW00
import Derived.Test.YtjegkdadeghpjaaGreatDoorW10h
set_option linter.unusedSimpArgs false
set_option linter.unusedVariables false
set_option maxRecDepth 100000
set_option maxHeartbeats 12800000
namespace Go.Proofs.YtjegkdadeghpjaaGreatDoor.printNorms
open Go.AI Go.PN Go.ChangeShapes Go.WideShapes Go.ChangeAt Go.RowKit
theorem QqS (H:Type) (enc:TypeId×Value→H) (W:World) (base:Nat) (args:Array Value) (ds gs:List (DataW H)) (before:List MemPlace)
  (eh:∀(j:Nat) t v,Tryz.f4.params[j]?=some t→args[j]?=some v→Value.okWide Tryz.prog W .any base t v)
  (hW:DataW.Whole enc Tryz.prog Tryz.f4.params.toList Rows.printNormsSpec.vars false W args.toList ds gs before) (hk:Rows.uptoSmall H (ds++gs)=true) (hT:WC (mA W) W):
  Calls Tryz.prog 4 args W fun e W'=>∃v,e=.returned v∧Rows.printNormsSpec.post enc Tryz.prog Tryz.f4 false true false false W args v W':=by
 have hW':=hW
 obtain⟨p,q,hA0,hV,rfl,PR,bf⟩:=hW
 have hA:DataW.TrodAll enc Tryz.prog W 0 (fun _=>true) true Tryz.f4.params.toList args.toList ds p:=hA0
 rw [Tryz.params4] at hA eh
 obtain⟨v0,vs0,d0,ds0,p0,q0,mI,rfl,rfl,h0,r0⟩:=trodAll_cons hA
 obtain⟨v1,vs1,d1,ds1,p1,q1,rfl,rfl,rfl,h1,r1⟩:=trodAll_cons r0
 obtain⟨rfl,rfl,rfl⟩:=trodAll_nil r1
 obtain rfl:args= #[v0,v1]:=by cases args;simp_all
 obtain⟨rfl,rfl⟩:=trodVars_none hV
 unfold Rows.uptoSmall at hk
 have hb:=of_decide_eq_true hk
 simp only [Lq,Ln,Rows.uptoBulkAll] at hb
 obtain⟨x0,y0,b0⟩:=Mp Ts Tryz.underlying45 (eh 0 45 v0 rfl rfl) h0
 obtain⟨x1,y1,b1⟩:=Mp GQ Tryz.underlying71 (eh 1 71 v1 rfl rfl) h1
 refine(kC.below (T:=WC) (Sg x0 x1 b0 om b1 om) hT (vs:=[v0,v1]) ⟨y0,y1,trivial⟩).mono ?_
 rintro e W' ⟨rfl,kJ⟩
 refine⟨_,rfl,Sb QmJ (fun t ht=> ?_) kR Tryz.underlying4 rfl hW' (fun DC e=>by subst e;rfl) kJ⟩
 rw [Tryz.params4] at ht
 simp only [Lb,Lj,or_false] at ht
 rcases ht with rfl|rfl<;>exact⟨by kernel_rfl,of_decide_eq_true kR⟩
theorem QqT (os:Os):laidMet Tryz.prog Rows.printNormsUptoRow.laid ((AK os).forCall (fun _ _=>0) ⟨#[], #[.agg #[.string ⟨#[]⟩,.string ⟨#[]⟩,.slice none 0 0,.slice none 0 0,.slice none 0 0,.slice none 0 0,.slice none 0 0,.slice none 0 0],.agg #[.string ⟨#[]⟩,.int .i64 0,.int .i64 0,.slice none 0 0,.bool false,.slice none 0 0,.slice none 0 0]],[]⟩).memory:=
 laidMet_of_run' 8 kR kR
theorem Qwl (os:Os) {H:Type} (enc:TypeId×Value→H):∃places,DataW.whole enc Tryz.prog ((AK os).forCall (fun _ _=>0) ⟨#[], #[.agg #[.string ⟨#[]⟩,.string ⟨#[]⟩,.slice none 0 0,.slice none 0 0,.slice none 0 0,.slice none 0 0,.slice none 0 0,.slice none 0 0],.agg #[.string ⟨#[]⟩,.int .i64 0,.int .i64 0,.slice none 0 0,.bool false,.slice none 0 0,.slice none 0 0]],[]⟩).memory Tryz.f4.params.toList Rows.printNormsSpec.vars false (#[.agg #[.string ⟨#[]⟩,.string ⟨#[]⟩,.slice none 0 0,.slice none 0 0,.slice none 0 0,.slice none 0 0,.slice none 0 0,.slice none 0 0],.agg #[.string ⟨#[]⟩,.int .i64 0,.int .i64 0,.slice none 0 0,.bool false,.slice none 0 0,.slice none 0 0]]:Array Value).toList 8=some ([.agg [.lit (.string []),.lit (.string []),.nil,.nil,.nil,.nil,.nil,.nil],.agg [.lit (.string []),.lit (.int .i64 0),.lit (.int .i64 0),.nil,.agg [.lit (.bool false),.nil,.nil]]],[],places):=
 ⟨[],by kernel_rfl⟩
theorem QuX (os:Os) (started:os.Started) (H:Type) (enc:TypeId×Value→H) (F:Stop.Interp):
  ReturnsInHanded {} Tryz.checked os 4 .any ((Rows.OpenSpec.upto Rows.printNormsSpec).preRow enc Tryz.prog Tryz.f4 Rows.printNormsUptoRow.domain false Rows.printNormsUptoRow.laid) (((Rows.OpenSpec.upto Rows.printNormsSpec).at F).post enc Tryz.prog Tryz.f4 false true false false):=by
 obtain⟨places,hx⟩:=Qwl os enc
 refine returnsInHanded_of_row (C:=Tryz.checked) (s:=Rows.OpenSpec.upto Rows.printNormsSpec) own started kR Tryz.func4
  (witness_row_at (enc:=enc) (C:=Tryz.checked) false (AK os) #[.agg #[.string ⟨#[]⟩,.string ⟨#[]⟩,.slice none 0 0,.slice none 0 0,.slice none 0 0,.slice none 0 0,.slice none 0 0,.slice none 0 0],.agg #[.string ⟨#[]⟩,.int .i64 0,.int .i64 0,.slice none 0 0,.bool false,.slice none 0 0,.slice none 0 0]] rfl kR kR kR
   (OpenSpec.preRow_of_cond 8 hx kR (fun k hk=>by cases hk;kernel_rfl) kR (QqT os))) ?_
 intro W base args ds gs before eh hW _ vh _ vw _ _
 exact QqS H enc W base args ds gs before eh hW (vh _ rfl) (Qnb kR kR vw)
theorem Qth:joinedFacts Tryz.prog 4 Tryz.f4 (Rows.OpenSpec.upto Rows.printNormsSpec).bare Rows.printNormsUptoRow=true:=by
 unfold joinedFacts
 simp only [Ba]
 and_intros<;>as_aux_lemma=>kernel_rfl
theorem QxG:Rows.printNormsUptoRow.holds Tryz.pinned (Rows.OpenSpec.upto Rows.printNormsSpec):=
 OpenClaim.holds_of_cond 4 Tryz.f4 rfl rfl rfl rfl rfl rfl rfl ⟨rfl,rfl,rfl,rfl,rfl⟩ rfl rfl rfl rfl rfl kR Tryz.func4 Qth
  (of_decide_eq_true kR) (by unfold Func.isWrapper;first|(rw [iP (by decide+kernel)];kernel_rfl)|(rw [iN (by decide+kernel)];exact⟨rfl,rfl⟩))
  (fun os started H enc _ F=>by rw [OpenClaim.pre_eq_preRow];exact QuX os started H enc F)
theorem Qwm (f:FuncId) (fn:Func) (hf:Tryz.pinned.checked.prog.funcNamed "faultline/faultlinelaw24.PrintNorms" =some f) (pP:Tryz.pinned.checked.prog.funcs[f]?=some fn):
  true=Tryz.pinned.checked.prog.looks []∧∀(j:Nat) t,fn.params[j]?=some t→Tryz.pinned.checked.prog.wantsStandIn t=false:=by
 obtain rfl:f=4:=Option.some.inj ((show Tryz.prog.funcNamed "faultline/faultlinelaw24.PrintNorms" =some 4 by kernel_rfl).symm.trans hf)|>.symm
 obtain rfl:fn=Tryz.f4:=(Option.some.inj (Tryz.func4.symm.trans pP)).symm
 refine⟨by kernel_rfl,fun j t ht=> ?_⟩
 rw [Tryz.params4] at ht
 have ht:=Array.mem_of_getElem? ht
 simp only [List.mem_toArray,Lb,Lj,or_false] at ht
 rcases ht with rfl|rfl
 ·exact(show Tryz.prog.wantsStandIn 45=false by kernel_rfl)
 ·exact(show Tryz.prog.wantsStandIn 71=false by kernel_rfl)
end Go.Proofs.YtjegkdadeghpjaaGreatDoor.printNorms
