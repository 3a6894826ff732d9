/- Parts of one proof, laid by a program. -/
import Derived.Test.YteocnikcjjonbaaGreatO00
import Derived.Test.YteocnikcjjonbaaGreatO10
set_option linter.unusedSimpArgs false
set_option linter.unusedVariables false
set_option maxRecDepth 100000
set_option maxHeartbeats 12800000
namespace Go.Proofs.YteocnikcjjonbaaGreat.parseOrder
open Go.AI Go.PN Go.ChangeShapes Go.WideShapes Go.ChangeAt Go.RowKit
theorem contract (H:Type) (enc:TypeId×Value→H) (W:World) (base:Nat) (args:Array Value) (ds gs:List (DataW H)) (before:List MemPlace)
  (hval:∀(j:Nat) t v,Tryz.f7.params[j]?=some t→args[j]?=some v→Value.okWide Tryz.prog W .any base t v)
  (hW:DataW.Whole enc Tryz.prog Tryz.f7.params.toList Rows.parseOrderSpec.vars false W args.toList ds gs before) (hk:Rows.uptoSmall H (ds++gs)=true):
  Calls Tryz.prog 7 args W fun e W'=>∃v,e=.returned v∧Rows.parseOrderSpec.post enc Tryz.prog Tryz.f7 false true false false W args v W':=by
 have hW':=hW
 obtain⟨p,q,hA0,hV,rfl,hfz,hnd⟩:=hW
 have hA:DataW.TrodAll enc Tryz.prog W 0 (fun _=>true) true Tryz.f7.params.toList args.toList ds p:=hA0
 rw [Tryz.params7] at hA hval
 obtain⟨v0,vs0,d0,ds0,p0,q0,hargs,rfl,rfl,h0,r0⟩:=trodAll_cons hA
 obtain⟨v1,vs1,d1,ds1,p1,q1,rfl,rfl,rfl,h1,r1⟩:=trodAll_cons r0
 obtain⟨rfl,rfl,rfl⟩:=trodAll_nil r1
 obtain rfl:args= #[v0,v1]:=by cases args;simp_all
 obtain⟨rfl,rfl⟩:=trodVars_none hV
 unfold Rows.uptoSmall at hk
 have hb:=of_decide_eq_true hk
 simp only [List.cons_append,List.nil_append,Rows.uptoBulkAll] at hb
 have hc0:v0.cells= #[v0]:=by
  obtain⟨a0,l0,c0,rfl⟩:=okWide_slice Tryz.underlying46 (hval 0 46 v0 rfl rfl)
  rfl
 obtain⟨x0,y0,b0⟩:=arg_cell rdr_ns8 hc0 h0
 have hc1:v1.cells= #[v1]:=by
  obtain⟨a1,l1,c1,rfl⟩:=okWide_slice Tryz.underlying53 (hval 1 53 v1 rfl rfl)
  rfl
 obtain⟨x1,y1,b1⟩:=arg_cell rdr_ns16 hc1 h1
 refine((lawPOrder_fa x0 x1 om om b0.2 b1.2).below (vs:=[v0,v1]) ⟨y0,y1,trivial⟩).mono ?_
 rintro e W' ⟨rfl,hbl⟩
 refine⟨_,rfl,post_of_below glue_laid (fun t ht=> ?_) (by kernel_rfl) Tryz.underlying4 rfl hW' (fun gs' e=>by subst e;rfl) hbl⟩
 rw [Tryz.params7] at ht
 simp only [List.mem_cons,List.not_mem_nil,or_false] at ht
 rcases ht with rfl|rfl<;>exact⟨by kernel_rfl,of_decide_eq_true (by kernel_rfl)⟩
theorem lifted (os:Os) (started:os.Started) (H:Type) (enc:TypeId×Value→H) (F:Stop.Interp):
  ReturnsInHanded {} Tryz.checked os 7 .any ((Rows.OpenSpec.upto Rows.parseOrderSpec).pre6 enc Tryz.prog Tryz.f7 Rows.parseOrderUptoRow.domain false) (((Rows.OpenSpec.upto Rows.parseOrderSpec).at F).post enc Tryz.prog Tryz.f7 false true false false):=by
 refine returnsInHanded_of_cond (C:=Tryz.checked) (s:=Rows.OpenSpec.upto Rows.parseOrderSpec) (k:=Rows.uptoSmall) rfl own started (by kernel_rfl) Tryz.func7
  (OpenSpec.witness (enc:=enc) (C:=Tryz.checked) (s:=Rows.OpenSpec.upto Rows.parseOrderSpec) (k:=Rows.uptoSmall) rfl false ⟨#[], #[.slice none 0 0,.slice none 0 0],[]⟩ 8 (by kernel_rfl) (by kernel_rfl) (by kernel_rfl)
   (x:=([.nil,.nil],[],[])) (by kernel_rfl) rfl (by kernel_rfl)) ?_
 intro W base args ds gs before hval hW _ hk _
 exact contract H enc W base args ds gs before hval hW hk
theorem over:Rows.parseOrderUptoRow.holds Tryz.pinned (Rows.OpenSpec.upto Rows.parseOrderSpec):=
 OpenClaim.holds_of_cond 7 Tryz.f7 rfl rfl rfl rfl rfl rfl rfl ⟨rfl,rfl,rfl,rfl,rfl⟩ rfl rfl rfl rfl rfl (by kernel_rfl) Tryz.func7 (by kernel_rfl)
  (of_decide_eq_true (by kernel_rfl)) (by unfold Func.isWrapper;first|(rw [if_pos (by decide+kernel)];kernel_rfl)|(rw [if_neg (by decide+kernel)];exact⟨rfl,rfl⟩))
  (fun os started H enc _ F=>lifted os started H enc F)
theorem proved:Rows.ParseOrderUptoSaid:=
 over
end Go.Proofs.YteocnikcjjonbaaGreat.parseOrder
