/- Parts of one proof, laid by a program. -/
import Derived.Test.YtngjgahldnnapaaGreatDoorM00
import Derived.Test.YtngjgahldnnapaaGreatDoorM11
set_option linter.unusedSimpArgs false
set_option linter.unusedVariables false
set_option maxRecDepth 100000
set_option maxHeartbeats 12800000
namespace Go.Proofs.YtngjgahldnnapaaGreatDoor.printTexts
open Go.AI Go.PN Go.ChangeShapes Go.WideShapes Go.ChangeAt Go.RowKit
theorem contract (H:Type) (enc:TypeId×Value→H) (W:World) (base:Nat) (args:Array Value) (ds gs:List (DataW H)) (before:List MemPlace)
  (hval:∀(j:Nat) t v,Tryz.f5.params[j]?=some t→args[j]?=some v→Value.okWide Tryz.prog W .any base t v)
  (hW:DataW.Whole enc Tryz.prog Tryz.f5.params.toList Rows.printTextsSpec.vars false W args.toList ds gs before) (hk:Rows.uptoSmall H (ds++gs)=true) (hT:OI (QcG W) W):
  Calls Tryz.prog 5 args W fun e W'=>∃v,e=.returned v∧Rows.printTextsSpec.post enc Tryz.prog Tryz.f5 false true false false W args v W':=by
 have hW':=hW
 obtain⟨p,q,hA0,hV,rfl,hfz,hnd⟩:=hW
 have hA:DataW.TrodAll enc Tryz.prog W 0 (fun _=>true) true Tryz.f5.params.toList args.toList ds p:=hA0
 rw [Tryz.params5] at hA hval
 obtain⟨v0,vs0,d0,ds0,p0,q0,hargs,rfl,rfl,h0,r0⟩:=trodAll_cons hA
 obtain⟨rfl,rfl,rfl⟩:=trodAll_nil r0
 obtain rfl:args= #[v0]:=by cases args;simp_all
 obtain⟨rfl,rfl⟩:=trodVars_none hV
 unfold Rows.uptoSmall at hk
 have hb:=of_decide_eq_true hk
 simp only [Lq,Ln,Rows.uptoBulkAll] at hb
 obtain⟨x0,y0,b0⟩:=QmS QeY Tryz.underlying29 (hval 0 29 v0 rfl rfl) h0
 refine(FaQ.below (T:=OI) (Qf9 x0 b0 om) hT (vs:=[v0]) ⟨y0,trivial⟩).mono ?_
 rintro e W' ⟨rfl,hbl⟩
 refine⟨_,rfl,QaM Qgn (fun t ht=> ?_) kR Tryz.underlying4 rfl hW' (fun gs' e=>by subst e;rfl) hbl⟩
 rw [Tryz.params5] at ht
 simp only [Lb,Lj,or_false] at ht
 rcases ht with rfl<;>exact⟨by kernel_rfl,of_decide_eq_true kR⟩
theorem laid_met (os:Os):laidMet Tryz.prog Rows.printTextsUptoRow.laid ((JJ os).forCall (fun _ _=>0) ⟨#[], #[.agg #[.string ⟨#[]⟩,.string ⟨#[]⟩,.slice none 0 0,.slice none 0 0,.slice none 0 0,.slice none 0 0,.slice none 0 0,.slice none 0 0]],[]⟩).memory:=
 laidMet_of_run' 8 kR kR
theorem reads (os:Os) {H:Type} (enc:TypeId×Value→H):∃places,DataW.whole enc Tryz.prog ((JJ os).forCall (fun _ _=>0) ⟨#[], #[.agg #[.string ⟨#[]⟩,.string ⟨#[]⟩,.slice none 0 0,.slice none 0 0,.slice none 0 0,.slice none 0 0,.slice none 0 0,.slice none 0 0]],[]⟩).memory Tryz.f5.params.toList Rows.printTextsSpec.vars false (#[.agg #[.string ⟨#[]⟩,.string ⟨#[]⟩,.slice none 0 0,.slice none 0 0,.slice none 0 0,.slice none 0 0,.slice none 0 0,.slice none 0 0]]:Array Value).toList 8=some ([.agg [.lit (.string []),.lit (.string []),.nil,.nil,.nil,.nil,.nil,.nil]],[],places):=
 ⟨[],by kernel_rfl⟩
theorem lifted (os:Os) (started:os.Started) (H:Type) (enc:TypeId×Value→H) (F:Stop.Interp):
  ReturnsInHanded {} Tryz.checked os 5 .any ((Rows.OpenSpec.upto Rows.printTextsSpec).preRow enc Tryz.prog Tryz.f5 Rows.printTextsUptoRow.domain false Rows.printTextsUptoRow.laid) (((Rows.OpenSpec.upto Rows.printTextsSpec).at F).post enc Tryz.prog Tryz.f5 false true false false):=by
 obtain⟨places,hx⟩:=reads os enc
 refine returnsInHanded_of_row (C:=Tryz.checked) (s:=Rows.OpenSpec.upto Rows.printTextsSpec) own started kR Tryz.func5
  (witness_row_at (enc:=enc) (C:=Tryz.checked) false (JJ os) #[.agg #[.string ⟨#[]⟩,.string ⟨#[]⟩,.slice none 0 0,.slice none 0 0,.slice none 0 0,.slice none 0 0,.slice none 0 0,.slice none 0 0]] rfl kR kR kR
   (OpenSpec.preRow_of_cond 8 hx kR (fun k hk=>by cases hk;kernel_rfl) kR (laid_met os))) ?_
 intro W base args ds gs before hval hW _ hcond _ hlaid _ _
 exact contract H enc W base args ds gs before hval hW (hcond _ rfl) (Qgx kR kR hlaid)
theorem closedF:joinedFacts Tryz.prog 5 Tryz.f5 (Rows.OpenSpec.upto Rows.printTextsSpec).bare Rows.printTextsUptoRow=true:=by
 unfold joinedFacts
 simp only [Ba]
 and_intros<;>as_aux_lemma=>kernel_rfl
theorem over:Rows.printTextsUptoRow.holds Tryz.pinned (Rows.OpenSpec.upto Rows.printTextsSpec):=
 OpenClaim.holds_of_cond 5 Tryz.f5 rfl rfl rfl rfl rfl rfl rfl ⟨rfl,rfl,rfl,rfl,rfl⟩ rfl rfl rfl rfl rfl kR Tryz.func5 closedF
  (of_decide_eq_true kR) (by unfold Func.isWrapper;first|(rw [iP (by decide+kernel)];kernel_rfl)|(rw [iN (by decide+kernel)];exact⟨rfl,rfl⟩))
  (fun os started H enc _ F=>by rw [OpenClaim.pre_eq_preRow];exact lifted os started H enc F)
theorem plain (f:FuncId) (fn:Func) (hf:Tryz.pinned.checked.prog.funcNamed "faultline/faultlinelaw24.PrintTexts" =some f) (hfn:Tryz.pinned.checked.prog.funcs[f]?=some fn):
  true=Tryz.pinned.checked.prog.looks []∧∀(j:Nat) t,fn.params[j]?=some t→Tryz.pinned.checked.prog.wantsStandIn t=false:=by
 obtain rfl:f=5:=Option.some.inj ((show Tryz.prog.funcNamed "faultline/faultlinelaw24.PrintTexts" =some 5 by kernel_rfl).symm.trans hf)|>.symm
 obtain rfl:fn=Tryz.f5:=(Option.some.inj (Tryz.func5.symm.trans hfn)).symm
 refine⟨by kernel_rfl,fun j t ht=> ?_⟩
 rw [Tryz.params5] at ht
 have ht:=Array.mem_of_getElem? ht
 simp only [List.mem_toArray,Lb,Lj,or_false] at ht
 rcases ht with rfl
 ·exact(show Tryz.prog.wantsStandIn 29=false by kernel_rfl)
end Go.Proofs.YtngjgahldnnapaaGreatDoor.printTexts
