/- Parts of one proof, laid by a program. -/
import Derived.Test.YtpcpaekpnfkhhaaGreatDoorM00
import Derived.Test.YtpcpaekpnfkhhaaGreatDoorQ01
set_option linter.unusedSimpArgs false
set_option linter.unusedVariables false
set_option maxRecDepth 100000
set_option maxHeartbeats 12800000
namespace Go.Proofs.YtpcpaekpnfkhhaaGreatDoor.contentsKeeps
open Go.AI Go.PN Go.ChangeShapes Go.WideShapes Go.ChangeAt Go.RowKit
theorem contract (H:Type) (enc:TypeId×Value→H) (W:World) (base:Nat) (args:Array Value) (ds gs:List (DataW H)) (before:List MemPlace)
  (hval:∀(j:Nat) t v,Tryz.f5.params[j]?=some t→args[j]?=some v→Value.okWide Tryz.prog W .any base t v)
  (hW:DataW.Whole enc Tryz.prog Tryz.f5.params.toList Rows.contentsKeepsSpec.vars false W args.toList ds gs before) (hk:Rows.uptoSmall H (ds++gs)=true):
  Calls Tryz.prog 5 args W fun e W'=>∃v,e=.returned v∧Rows.contentsKeepsSpec.post enc Tryz.prog Tryz.f5 false true false false W args v W':=by
 have hW':=hW
 obtain⟨p,q,hA0,hV,rfl,hfz,hnd⟩:=hW
 have hA:DataW.TrodAll enc Tryz.prog W 0 (fun _=>true) true Tryz.f5.params.toList args.toList ds p:=hA0
 rw [Tryz.params5] at hA hval
 obtain⟨v0,vs0,d0,ds0,p0,q0,hargs,rfl,rfl,h0,r0⟩:=trodAll_cons hA
 obtain⟨v1,vs1,d1,ds1,p1,q1,rfl,rfl,rfl,h1,r1⟩:=trodAll_cons r0
 obtain⟨v2,vs2,d2,ds2,p2,q2,rfl,rfl,rfl,h2,r2⟩:=trodAll_cons r1
 obtain⟨rfl,rfl,rfl⟩:=trodAll_nil r2
 obtain rfl:args= #[v0,v1,v2]:=by cases args;simp_all
 obtain⟨rfl,rfl⟩:=trodVars_none hV
 unfold Rows.uptoSmall at hk
 have hb:=of_decide_eq_true hk
 simp only [List.cons_append,List.nil_append,Rows.uptoBulkAll] at hb
 obtain⟨x0,y0,b0⟩:=arg_agg rdrM_model Tryz.underlying29 (hval 0 29 v0 rfl rfl) h0
 obtain⟨x1,y1,b1⟩:=arg_agg rdrM_model Tryz.underlying29 (hval 1 29 v1 rfl rfl) h1
 obtain⟨x2,y2,b2⟩:=arg_agg rdrC_act Tryz.underlying56 (hval 2 56 v2 rfl rfl) h2
 refine((lawCKeeps_fa x0 x1 x2 b0 b1 b2 om om om).below (vs:=[v0,v1,v2]) ⟨y0,y1,y2,trivial⟩).mono ?_
 rintro e W' ⟨rfl,hbl⟩
 refine⟨_,rfl,post_of_below glue_laid (fun t ht=> ?_) (by kernel_rfl) Tryz.underlying4 rfl hW' (fun gs' e=>by subst e;rfl) hbl⟩
 rw [Tryz.params5] at ht
 simp only [List.mem_cons,List.not_mem_nil,or_false] at ht
 rcases ht with rfl|rfl|rfl<;>exact⟨by kernel_rfl,of_decide_eq_true (by kernel_rfl)⟩
theorem laid_met (os:Os):laidMet Tryz.prog Rows.contentsKeepsUptoRow.laid ((laidWorld os).forCall (fun _ _=>0) ⟨#[], #[.agg #[.string ⟨#[]⟩,.string ⟨#[]⟩,.slice none 0 0,.slice none 0 0,.slice none 0 0,.slice none 0 0,.slice none 0 0,.slice none 0 0],.agg #[.string ⟨#[]⟩,.string ⟨#[]⟩,.slice none 0 0,.slice none 0 0,.slice none 0 0,.slice none 0 0,.slice none 0 0,.slice none 0 0],.agg #[.int .u8 0,.int .u8 0,.string ⟨#[]⟩,.string ⟨#[]⟩]],[]⟩).memory:=
 laidMet_of_run' 8 (by kernel_rfl) (by kernel_rfl)
theorem reads (os:Os) {H:Type} (enc:TypeId×Value→H):∃places,DataW.whole enc Tryz.prog ((laidWorld os).forCall (fun _ _=>0) ⟨#[], #[.agg #[.string ⟨#[]⟩,.string ⟨#[]⟩,.slice none 0 0,.slice none 0 0,.slice none 0 0,.slice none 0 0,.slice none 0 0,.slice none 0 0],.agg #[.string ⟨#[]⟩,.string ⟨#[]⟩,.slice none 0 0,.slice none 0 0,.slice none 0 0,.slice none 0 0,.slice none 0 0,.slice none 0 0],.agg #[.int .u8 0,.int .u8 0,.string ⟨#[]⟩,.string ⟨#[]⟩]],[]⟩).memory Tryz.f5.params.toList Rows.contentsKeepsSpec.vars false (#[.agg #[.string ⟨#[]⟩,.string ⟨#[]⟩,.slice none 0 0,.slice none 0 0,.slice none 0 0,.slice none 0 0,.slice none 0 0,.slice none 0 0],.agg #[.string ⟨#[]⟩,.string ⟨#[]⟩,.slice none 0 0,.slice none 0 0,.slice none 0 0,.slice none 0 0,.slice none 0 0,.slice none 0 0],.agg #[.int .u8 0,.int .u8 0,.string ⟨#[]⟩,.string ⟨#[]⟩]]:Array Value).toList 8=some ([.agg [.lit (.string []),.lit (.string []),.nil,.nil,.nil,.nil,.nil,.nil],.agg [.lit (.string []),.lit (.string []),.nil,.nil,.nil,.nil,.nil,.nil],.agg [.lit (.int .u8 0),.lit (.int .u8 0),.lit (.string []),.lit (.string [])]],[],places):=
 ⟨[],by kernel_rfl⟩
theorem lifted (os:Os) (started:os.Started) (H:Type) (enc:TypeId×Value→H) (F:Stop.Interp):
  ReturnsInHanded {} Tryz.checked os 5 .any ((Rows.OpenSpec.upto Rows.contentsKeepsSpec).preRow enc Tryz.prog Tryz.f5 Rows.contentsKeepsUptoRow.domain false Rows.contentsKeepsUptoRow.laid) (((Rows.OpenSpec.upto Rows.contentsKeepsSpec).at F).post enc Tryz.prog Tryz.f5 false true false false):=by
 obtain⟨places,hx⟩:=reads os enc
 refine returnsInHanded_of_row (C:=Tryz.checked) (s:=Rows.OpenSpec.upto Rows.contentsKeepsSpec) own started (by kernel_rfl) Tryz.func5
  (witness_row_at (enc:=enc) (C:=Tryz.checked) false (laidWorld os) #[.agg #[.string ⟨#[]⟩,.string ⟨#[]⟩,.slice none 0 0,.slice none 0 0,.slice none 0 0,.slice none 0 0,.slice none 0 0,.slice none 0 0],.agg #[.string ⟨#[]⟩,.string ⟨#[]⟩,.slice none 0 0,.slice none 0 0,.slice none 0 0,.slice none 0 0,.slice none 0 0,.slice none 0 0],.agg #[.int .u8 0,.int .u8 0,.string ⟨#[]⟩,.string ⟨#[]⟩]] rfl (by kernel_rfl) (by kernel_rfl) (by kernel_rfl)
   (OpenSpec.preRow_of_cond 8 hx (by kernel_rfl) (fun k hk=>by cases hk;kernel_rfl) (by kernel_rfl) (laid_met os))) ?_
 intro W base args ds gs before hval hW _ hcond _ _ _ _
 exact contract H enc W base args ds gs before hval hW (hcond _ rfl)
theorem closedF:joinedFacts Tryz.prog 5 Tryz.f5 (Rows.OpenSpec.upto Rows.contentsKeepsSpec).bare Rows.contentsKeepsUptoRow=true:=by
 unfold joinedFacts
 simp only [Bool.and_eq_true]
 and_intros<;>as_aux_lemma=>kernel_rfl
theorem over:Rows.contentsKeepsUptoRow.holds Tryz.pinned (Rows.OpenSpec.upto Rows.contentsKeepsSpec):=
 OpenClaim.holds_of_cond 5 Tryz.f5 rfl rfl rfl rfl rfl rfl rfl ⟨rfl,rfl,rfl,rfl,rfl⟩ rfl rfl rfl rfl rfl (by kernel_rfl) Tryz.func5 closedF
  (of_decide_eq_true (by kernel_rfl)) (by unfold Func.isWrapper;first|(rw [if_pos (by decide+kernel)];kernel_rfl)|(rw [if_neg (by decide+kernel)];exact⟨rfl,rfl⟩))
  (fun os started H enc _ F=>by rw [OpenClaim.pre_eq_preRow];exact lifted os started H enc F)
theorem plain (f:FuncId) (fn:Func) (hf:Tryz.pinned.checked.prog.funcNamed "faultline/faultlinelaw58.ContentsKeeps" =some f) (hfn:Tryz.pinned.checked.prog.funcs[f]?=some fn):
  true=Tryz.pinned.checked.prog.looks []∧∀(j:Nat) t,fn.params[j]?=some t→Tryz.pinned.checked.prog.wantsStandIn t=false:=by
 obtain rfl:f=5:=Option.some.inj ((show Tryz.prog.funcNamed "faultline/faultlinelaw58.ContentsKeeps" =some 5 by kernel_rfl).symm.trans hf)|>.symm
 obtain rfl:fn=Tryz.f5:=(Option.some.inj (Tryz.func5.symm.trans hfn)).symm
 refine⟨by kernel_rfl,fun j t ht=> ?_⟩
 rw [Tryz.params5] at ht
 have ht:=Array.mem_of_getElem? ht
 simp only [List.mem_toArray,List.mem_cons,List.not_mem_nil,or_false] at ht
 rcases ht with rfl|rfl|rfl
 ·exact(show Tryz.prog.wantsStandIn 29=false by kernel_rfl)
 ·exact(show Tryz.prog.wantsStandIn 29=false by kernel_rfl)
 ·exact(show Tryz.prog.wantsStandIn 56=false by kernel_rfl)
theorem proved:Rows.ContentsKeepsUptoCardSaid:=
 Claim7.holds_tied_plain_at .later [] _ _ _ _ over (fun _ h=>by cases h) (by kernel_rfl) (fun _ h=>by cases h) contentsKeepsUpto_row_tie rfl ⟨rfl,rfl⟩ (by kernel_rfl) rfl plain (by kernel_rfl)
end Go.Proofs.YtpcpaekpnfkhhaaGreatDoor.contentsKeeps
