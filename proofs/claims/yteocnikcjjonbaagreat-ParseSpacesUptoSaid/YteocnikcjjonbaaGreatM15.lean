/- Parts of one proof, laid by a program. -/
import Derived.Test.YteocnikcjjonbaaGreatM00
import Derived.Test.YteocnikcjjonbaaGreatM13
import Derived.Lib.Bytealg
set_option linter.unusedSimpArgs false
set_option linter.unusedVariables false
set_option maxRecDepth 100000
set_option maxHeartbeats 12800000
namespace Go.Proofs.YteocnikcjjonbaaGreat
open Go.AI Go.PN
attribute [local irreducible] aw Fa Fh DrK
theorem rlet_fa (n:Nat):Fa Tryz.prog 52 [.c (.int .u8 n)] (.c (.bool (isLet n))):=by
 refine fa_of_body Tryz.func52 rfl rfl (by simp [Tryz.ntmps52]) fun C hC=> ?_
 simp only [initS,Nat.reduceAdd]
 repeat' first|refine yA1 o0 ?_|(refine xW ?_;refine xS ?_)|refine xP ?_|refine xN ?_|refine aw_cd eE (fun hb=>?_) (fun hb=>?_)|refine aw_ce eE (fun hb=>?_) (fun hb=>?_)|refine aw_cn eE (fun hb=>?_) (fun hb=>?_)|(refine xF (fun hb=>?_) (fun hb=>?_)<;>fail_if_success (cases hb;done))|(refine aw_gsd rfl rfl eE (fun hb=>?_) (fun hb=>?_)<;>refine xS ?_)|(refine aw_gse rfl rfl eE (fun hb=>?_) (fun hb=>?_)<;>refine xS ?_)|(refine aw_gsn rfl rfl eE (fun hb=>?_) (fun hb=>?_)<;>refine xS ?_)|(refine aw_gs rfl rfl eE (fun hb=>?_) (fun hb=>?_)<;>fail_if_success (cases hb;done)<;>refine xS ?_)|(refine drk_gsd rfl rfl eE (fun hb=>?_) (fun hb=>?_)<;>refine xS ?_)|(refine drk_gse rfl rfl eE (fun hb=>?_) (fun hb=>?_)<;>refine xS ?_)|(refine drk_gsn rfl rfl eE (fun hb=>?_) (fun hb=>?_)<;>refine xS ?_)|(refine drk_gs rfl rfl eE (fun hb=>?_) (fun hb=>?_)<;>fail_if_success (cases hb;done)<;>refine xS ?_)
 all_goals
  refine xT hC ?_
  exact .one (.c (ler_bool (by rw [Bool.eq_iff_iff];simp [isLet];omega)))
theorem rdig_fa (n:Nat):Fa Tryz.prog 55 [.c (.int .u8 n)] (.c (.bool (isDig n))):=by
 refine fa_of_body Tryz.func55 rfl rfl (by simp [Tryz.ntmps55]) fun C hC=> ?_
 simp only [initS,Nat.reduceAdd]
 repeat' first|refine yA1 o0 ?_|(refine xW ?_;refine xS ?_)|refine xP ?_|refine xN ?_|refine aw_cd eE (fun hb=>?_) (fun hb=>?_)|refine aw_ce eE (fun hb=>?_) (fun hb=>?_)|refine aw_cn eE (fun hb=>?_) (fun hb=>?_)|(refine xF (fun hb=>?_) (fun hb=>?_)<;>fail_if_success (cases hb;done))|(refine aw_gsd rfl rfl eE (fun hb=>?_) (fun hb=>?_)<;>refine xS ?_)|(refine aw_gse rfl rfl eE (fun hb=>?_) (fun hb=>?_)<;>refine xS ?_)|(refine aw_gsn rfl rfl eE (fun hb=>?_) (fun hb=>?_)<;>refine xS ?_)|(refine aw_gs rfl rfl eE (fun hb=>?_) (fun hb=>?_)<;>fail_if_success (cases hb;done)<;>refine xS ?_)|(refine drk_gsd rfl rfl eE (fun hb=>?_) (fun hb=>?_)<;>refine xS ?_)|(refine drk_gse rfl rfl eE (fun hb=>?_) (fun hb=>?_)<;>refine xS ?_)|(refine drk_gsn rfl rfl eE (fun hb=>?_) (fun hb=>?_)<;>refine xS ?_)|(refine drk_gs rfl rfl eE (fun hb=>?_) (fun hb=>?_)<;>fail_if_success (cases hb;done)<;>refine xS ?_)
 all_goals
  refine xT hC ?_
  exact .one (.c (ler_bool (by rw [Bool.eq_iff_iff];simp [isDig];omega)))
theorem rblk_fa (n:Nat):Fa Tryz.prog 51 [.c (.int .u8 n)] (.c (.bool (isBlk n))):=by
 refine fa_of_body Tryz.func51 rfl rfl (by simp [Tryz.ntmps51]) fun C hC=> ?_
 simp only [initS,Nat.reduceAdd]
 repeat' first|refine yA1 o0 ?_|(refine xW ?_;refine xS ?_)|refine xP ?_|refine xN ?_|refine aw_cd eE (fun hb=>?_) (fun hb=>?_)|refine aw_ce eE (fun hb=>?_) (fun hb=>?_)|refine aw_cn eE (fun hb=>?_) (fun hb=>?_)|(refine xF (fun hb=>?_) (fun hb=>?_)<;>fail_if_success (cases hb;done))|(refine aw_gsd rfl rfl eE (fun hb=>?_) (fun hb=>?_)<;>refine xS ?_)|(refine aw_gse rfl rfl eE (fun hb=>?_) (fun hb=>?_)<;>refine xS ?_)|(refine aw_gsn rfl rfl eE (fun hb=>?_) (fun hb=>?_)<;>refine xS ?_)|(refine aw_gs rfl rfl eE (fun hb=>?_) (fun hb=>?_)<;>fail_if_success (cases hb;done)<;>refine xS ?_)|(refine drk_gsd rfl rfl eE (fun hb=>?_) (fun hb=>?_)<;>refine xS ?_)|(refine drk_gse rfl rfl eE (fun hb=>?_) (fun hb=>?_)<;>refine xS ?_)|(refine drk_gsn rfl rfl eE (fun hb=>?_) (fun hb=>?_)<;>refine xS ?_)|(refine drk_gs rfl rfl eE (fun hb=>?_) (fun hb=>?_)<;>fail_if_success (cases hb;done)<;>refine xS ?_)
 all_goals
  refine xT hC ?_
  exact .one (.c (ler_bool (by rw [Bool.eq_iff_iff];simp [isBlk];omega)))
theorem rins_fa (n:Nat):Fa Tryz.prog 53 [.c (.int .u8 n)] (.c (.bool (isIns n))):=by
 refine fa_of_body Tryz.func53 rfl rfl (by simp [Tryz.ntmps53]) fun C hC=> ?_
 simp only [initS,Nat.reduceAdd]
 repeat' first|refine yA1 o0 ?_|(refine yC2 o0 (rlet_fa _) ?_)|(refine yD2 o0 (rlet_fa _) ?_)|(refine yC2 o0 (rdig_fa _) ?_)|(refine yD2 o0 (rdig_fa _) ?_)|(refine xW ?_;refine xS ?_)|refine xP ?_|refine xN ?_|refine aw_cd eE (fun hb=>?_) (fun hb=>?_)|refine aw_ce eE (fun hb=>?_) (fun hb=>?_)|refine aw_cn eE (fun hb=>?_) (fun hb=>?_)|(refine xF (fun hb=>?_) (fun hb=>?_)<;>fail_if_success (cases hb;done))|(refine aw_gsd rfl rfl eE (fun hb=>?_) (fun hb=>?_)<;>refine xS ?_)|(refine aw_gse rfl rfl eE (fun hb=>?_) (fun hb=>?_)<;>refine xS ?_)|(refine aw_gsn rfl rfl eE (fun hb=>?_) (fun hb=>?_)<;>refine xS ?_)|(refine aw_gs rfl rfl eE (fun hb=>?_) (fun hb=>?_)<;>fail_if_success (cases hb;done)<;>refine xS ?_)|(refine drk_gsd rfl rfl eE (fun hb=>?_) (fun hb=>?_)<;>refine xS ?_)|(refine drk_gse rfl rfl eE (fun hb=>?_) (fun hb=>?_)<;>refine xS ?_)|(refine drk_gsn rfl rfl eE (fun hb=>?_) (fun hb=>?_)<;>refine xS ?_)|(refine drk_gs rfl rfl eE (fun hb=>?_) (fun hb=>?_)<;>fail_if_success (cases hb;done)<;>refine xS ?_)
 all_goals
  refine xT hC ?_
  exact .one (.c (ler_bool (by rw [Bool.eq_iff_iff];simp_all [isIns];try omega)))
end Go.Proofs.YteocnikcjjonbaaGreat
namespace Go.Proofs.YteocnikcjjonbaaGreat
open Go.AI Go.PN
attribute [local irreducible] aw Fa Fh DrK
theorem rdigs_fa (l:BS) (i:Nat) (hl:l.length≤1099511627776) (hi:i≤l.length):Fa Tryz.prog 105 [.c (.str (sB l)),.c (.int .i64 i)] (.c (.int .i64 (spanE isDig l i:Nat))):=by
 refine fa_of_body Tryz.func105 rfl rfl (by simp [Tryz.ntmps105]) fun C hC=> ?_
 simp only [initS,Nat.reduceAdd]
 refine xG ?_
 generalize hS:spanE isDig l i=S
 refine aw_lp (fun x:Nat=>[(0,.c (.str (sB l))),(1,.c (.int .i64 x))]) (fun _=>[]) (fun x=>x≤l.length∧spanE isDig l x=S) (fun x=>l.length-x) i eB zZ ⟨hi,hS⟩ ?_
 rintro x ⟨hx,hs⟩
 repeat' first|refine yA1 o0 ?_|(refine yC2 o0 (rdig_fa _) ?_)|(refine yD2 o0 (rdig_fa _) ?_)|(refine xW ?_;refine xS ?_)|refine xP ?_|refine xN ?_|refine aw_cd eE (fun hb=>?_) (fun hb=>?_)|refine aw_ce eE (fun hb=>?_) (fun hb=>?_)|refine aw_cn eE (fun hb=>?_) (fun hb=>?_)|(refine xF (fun hb=>?_) (fun hb=>?_)<;>fail_if_success (cases hb;done))|(refine aw_gsd rfl rfl eE (fun hb=>?_) (fun hb=>?_)<;>refine xS ?_)|(refine aw_gse rfl rfl eE (fun hb=>?_) (fun hb=>?_)<;>refine xS ?_)|(refine aw_gsn rfl rfl eE (fun hb=>?_) (fun hb=>?_)<;>refine xS ?_)|(refine aw_gs rfl rfl eE (fun hb=>?_) (fun hb=>?_)<;>fail_if_success (cases hb;done)<;>refine xS ?_)|(refine drk_gsd rfl rfl eE (fun hb=>?_) (fun hb=>?_)<;>refine xS ?_)|(refine drk_gse rfl rfl eE (fun hb=>?_) (fun hb=>?_)<;>refine xS ?_)|(refine drk_gsn rfl rfl eE (fun hb=>?_) (fun hb=>?_)<;>refine xS ?_)|(refine drk_gs rfl rfl eE (fun hb=>?_) (fun hb=>?_)<;>fail_if_success (cases hb;done)<;>refine xS ?_)
 ·refine aw_stop ⟨x+1,by omega,eB,zZ,by omega,?_⟩
  rw [←spanE_yes om (by assumption)];exact hs
 all_goals
  refine xT hC ?_
  refine .one (.c (ler_int ?_))
 ·rw [←hs,spanE_no om (by assumption)]
 ·rw [←hs,spanE_out om]
theorem rnum_fa (l:BS) (i:Nat) (hl:l.length≤1099511627776) (hi:i≤l.length):Fa Tryz.prog 56 [.c (.str (sB l)),.c (.int .i64 i)] (.c (.int .i64 (numE l i:Nat))):=by
 unfold numE
 have h1:=rdigs_fa l i hl hi
 obtain⟨e,he,hel⟩:=num_w hl hi
 rw [he] at h1⊢
 refine fa_of_body Tryz.func56 rfl rfl (by simp [Tryz.ntmps56]) fun C hC=> ?_
 simp only [initS,Nat.reduceAdd]
 repeat' first|refine yA1 o0 ?_|(refine yC2 o0 (h1) ?_)|(refine yD2 o0 (h1) ?_)|(refine yC2 o0 (rdig_fa _) ?_)|(refine yD2 o0 (rdig_fa _) ?_)|(refine yC2 o0 (rdigs_fa l (e+1) hl ?_) ?_;· omega)|(refine yD2 o0 (rdigs_fa l (e+1) hl ?_) ?_;· omega)|(refine xW ?_;refine xS ?_)|refine xP ?_|refine xN ?_|refine aw_cd eE (fun hb=>?_) (fun hb=>?_)|refine aw_ce eE (fun hb=>?_) (fun hb=>?_)|refine aw_cn eE (fun hb=>?_) (fun hb=>?_)|(refine xF (fun hb=>?_) (fun hb=>?_)<;>fail_if_success (cases hb;done))|(refine aw_gsd rfl rfl eE (fun hb=>?_) (fun hb=>?_)<;>refine xS ?_)|(refine aw_gse rfl rfl eE (fun hb=>?_) (fun hb=>?_)<;>refine xS ?_)|(refine aw_gsn rfl rfl eE (fun hb=>?_) (fun hb=>?_)<;>refine xS ?_)|(refine aw_gs rfl rfl eE (fun hb=>?_) (fun hb=>?_)<;>fail_if_success (cases hb;done)<;>refine xS ?_)|(refine drk_gsd rfl rfl eE (fun hb=>?_) (fun hb=>?_)<;>refine xS ?_)|(refine drk_gse rfl rfl eE (fun hb=>?_) (fun hb=>?_)<;>refine xS ?_)|(refine drk_gsn rfl rfl eE (fun hb=>?_) (fun hb=>?_)<;>refine xS ?_)|(refine drk_gs rfl rfl eE (fun hb=>?_) (fun hb=>?_)<;>fail_if_success (cases hb;done)<;>refine xS ?_)
 all_goals
  refine xT hC ?_
  refine .one (.c (ler_int ?_))
  split<;>simp_all<;>omega
end Go.Proofs.YteocnikcjjonbaaGreat
namespace Go.Proofs.YteocnikcjjonbaaGreat
open Go.AI Go.PN
attribute [local irreducible] aw Fa Fh DrK
theorem place_fh (l:BS) (i:Nat) (hl:l.length≤1099511627776) (hi:i≤l.length):Fh Tryz.prog 104 [] [.c (.str (sB l)),.c (.int .i64 i)] (fun x h=>h=[]∧∃a b:Int,x=.tup [.c (.int .i64 a),.c (.int .i64 b)]):=by
 refine fh_of_body Tryz.func104 rfl rfl (by simp [Tryz.ntmps104]) fun C hC=> ?_
 simp only [initS,Nat.reduceAdd]
 have m1:(if(l.length:Int)<(i:Int) then(l.length:Int) else(i:Int))=i:=if_neg om
 have m2:(if((i:Nat):Int)>0 then(i:Int) else 0)=i:=by split<;>omega
 repeat' first|refine yA1 (oj m1 m2) ?_|(refine yW (oj m1 m2) ?_;refine yS (oj m1 m2) ?_)|refine yP (oj m1 m2) ?_|refine yN (oj m1 m2) ?_|refine aw_cd (zE (oj m1 m2)) (fun hb=>?_) (fun hb=>?_)|refine aw_ce (zE (oj m1 m2)) (fun hb=>?_) (fun hb=>?_)|refine aw_cn (zE (oj m1 m2)) (fun hb=>?_) (fun hb=>?_)|(refine yF (oj m1 m2) (fun hb=>?_) (fun hb=>?_)<;>fail_if_success (cases hb;done))|(refine aw_gsd rfl rfl (zE (oj m1 m2)) (fun hb=>?_) (fun hb=>?_)<;>refine yS (oj m1 m2) ?_)|(refine aw_gse rfl rfl (zE (oj m1 m2)) (fun hb=>?_) (fun hb=>?_)<;>refine yS (oj m1 m2) ?_)|(refine aw_gsn rfl rfl (zE (oj m1 m2)) (fun hb=>?_) (fun hb=>?_)<;>refine yS (oj m1 m2) ?_)|(refine aw_gs rfl rfl (zE (oj m1 m2)) (fun hb=>?_) (fun hb=>?_)<;>fail_if_success (cases hb;done)<;>refine yS (oj m1 m2) ?_)|(refine drk_gsd rfl rfl (zE (oj m1 m2)) (fun hb=>?_) (fun hb=>?_)<;>refine yS (oj m1 m2) ?_)|(refine drk_gse rfl rfl (zE (oj m1 m2)) (fun hb=>?_) (fun hb=>?_)<;>refine yS (oj m1 m2) ?_)|(refine drk_gsn rfl rfl (zE (oj m1 m2)) (fun hb=>?_) (fun hb=>?_)<;>refine yS (oj m1 m2) ?_)|(refine drk_gs rfl rfl (zE (oj m1 m2)) (fun hb=>?_) (fun hb=>?_)<;>fail_if_success (cases hb;done)<;>refine yS (oj m1 m2) ?_)
 refine aw_lp (fun x:Nat×Int×Int=>[(0,.c (.str (sB l))),(12,.c (.int .i64 i)),(13,.c (.int .i64 x.1)),(4,.c (.int .i64 x.2.1)),(5,.c (.int .i64 x.2.2))]) (fun _=>[]) (fun x=>x.1≤i∧0≤x.2.1∧x.2.1≤x.1+1∧0≤x.2.2∧x.2.2≤x.1+1) (fun x=>i-x.1) (0,1,1) (zB (oj m1 m2)) zZ ⟨Nat.zero_le _,by decide,by decide,by decide,by decide⟩ ?_
 rintro ⟨x,a,b⟩ ⟨hx,ha0,ha1,hb0,hb1⟩
 dsimp only at hx ha0 ha1 hb0 hb1⊢
 repeat' first|refine yA1 (oj m1 m2) ?_|(refine yW (oj m1 m2) ?_;refine yS (oj m1 m2) ?_)|refine yP (oj m1 m2) ?_|refine yN (oj m1 m2) ?_|refine aw_cd (zE (oj m1 m2)) (fun hb=>?_) (fun hb=>?_)|refine aw_ce (zE (oj m1 m2)) (fun hb=>?_) (fun hb=>?_)|refine aw_cn (zE (oj m1 m2)) (fun hb=>?_) (fun hb=>?_)|(refine yF (oj m1 m2) (fun hb=>?_) (fun hb=>?_)<;>fail_if_success (cases hb;done))|(refine aw_gsd rfl rfl (zE (oj m1 m2)) (fun hb=>?_) (fun hb=>?_)<;>refine yS (oj m1 m2) ?_)|(refine aw_gse rfl rfl (zE (oj m1 m2)) (fun hb=>?_) (fun hb=>?_)<;>refine yS (oj m1 m2) ?_)|(refine aw_gsn rfl rfl (zE (oj m1 m2)) (fun hb=>?_) (fun hb=>?_)<;>refine yS (oj m1 m2) ?_)|(refine aw_gs rfl rfl (zE (oj m1 m2)) (fun hb=>?_) (fun hb=>?_)<;>fail_if_success (cases hb;done)<;>refine yS (oj m1 m2) ?_)|(refine drk_gsd rfl rfl (zE (oj m1 m2)) (fun hb=>?_) (fun hb=>?_)<;>refine yS (oj m1 m2) ?_)|(refine drk_gse rfl rfl (zE (oj m1 m2)) (fun hb=>?_) (fun hb=>?_)<;>refine yS (oj m1 m2) ?_)|(refine drk_gsn rfl rfl (zE (oj m1 m2)) (fun hb=>?_) (fun hb=>?_)<;>refine yS (oj m1 m2) ?_)|(refine drk_gs rfl rfl (zE (oj m1 m2)) (fun hb=>?_) (fun hb=>?_)<;>fail_if_success (cases hb;done)<;>refine yS (oj m1 m2) ?_)
 ·exact aw_stop ⟨(x+1,a+1,1),by dsimp only;omega,(zB (oj m1 m2)),List.Sublist.refl _,by dsimp only;omega,by dsimp only;omega,by dsimp only;omega,by dsimp only;omega,by dsimp only;omega⟩
 ·exact aw_stop ⟨(x+1,a,b+1),by dsimp only;omega,(zB (oj m1 m2)),List.Sublist.refl _,by dsimp only;omega,by dsimp only;omega,by dsimp only;omega,by dsimp only;omega,by dsimp only;omega⟩
 ·refine yU (oj m1 m2) ?_
  exact⟨rfl,a,b,rfl⟩
theorem rtoken_fh (l:BS) (k i e:Nat) (og:Option Nat) (n:Nat) (out:List TX) (hl:l.length≤1099511627776) (hie:i≤e) (he:e≤l.length) (hog:og=none→n=0) (hn:out.length=n) (hnl:n≤1099511627776):
  Fh Tryz.prog 54 (gh og 45 (n*5) (txsF out)) [.c (gs og 5 n),.c (.str (sB l)),.c (.int .i64 k),.c (.int .i64 i),.c (.int .i64 e)]
   (fun x h=>∃g a b,x=.c (gs (some g) 5 (n+1))∧h=gh (some g) 45 ((n+1)*5) (txsF (out++[⟨⟨k,cutS l i e⟩,i,a,b⟩]))):=by
 refine fh_of_body Tryz.func54 rfl rfl (by simp [Tryz.ntmps54]) fun C hC=> ?_
 simp only [initS,Nat.reduceAdd]
 repeat' first|refine yA1 o0 ?_|(refine xW ?_;refine xS ?_)|refine xP ?_|refine xN ?_|refine aw_cd eE (fun hb=>?_) (fun hb=>?_)|refine aw_ce eE (fun hb=>?_) (fun hb=>?_)|refine aw_cn eE (fun hb=>?_) (fun hb=>?_)|(refine xF (fun hb=>?_) (fun hb=>?_)<;>fail_if_success (cases hb;done))|(refine aw_gsd rfl rfl eE (fun hb=>?_) (fun hb=>?_)<;>refine xS ?_)|(refine aw_gse rfl rfl eE (fun hb=>?_) (fun hb=>?_)<;>refine xS ?_)|(refine aw_gsn rfl rfl eE (fun hb=>?_) (fun hb=>?_)<;>refine xS ?_)|(refine aw_gs rfl rfl eE (fun hb=>?_) (fun hb=>?_)<;>fail_if_success (cases hb;done)<;>refine xS ?_)|(refine drk_gsd rfl rfl eE (fun hb=>?_) (fun hb=>?_)<;>refine xS ?_)|(refine drk_gse rfl rfl eE (fun hb=>?_) (fun hb=>?_)<;>refine xS ?_)|(refine drk_gsn rfl rfl eE (fun hb=>?_) (fun hb=>?_)<;>refine xS ?_)|(refine drk_gs rfl rfl eE (fun hb=>?_) (fun hb=>?_)<;>fail_if_success (cases hb;done)<;>refine xS ?_)
 refine aw_callh (hc:=[]) (place_fh l i hl om) rfl rfl rfl (.refl _) eL ?_
 rintro _ _ ⟨rfl,a,b,rfl⟩ _
 refine xS ?_
 repeat' first|refine yA1 o0 ?_|(refine xW ?_;refine xS ?_)|refine xP ?_|refine xN ?_|refine aw_cd eE (fun hb=>?_) (fun hb=>?_)|refine aw_ce eE (fun hb=>?_) (fun hb=>?_)|refine aw_cn eE (fun hb=>?_) (fun hb=>?_)|(refine xF (fun hb=>?_) (fun hb=>?_)<;>fail_if_success (cases hb;done))|(refine aw_gsd rfl rfl eE (fun hb=>?_) (fun hb=>?_)<;>refine xS ?_)|(refine aw_gse rfl rfl eE (fun hb=>?_) (fun hb=>?_)<;>refine xS ?_)|(refine aw_gsn rfl rfl eE (fun hb=>?_) (fun hb=>?_)<;>refine xS ?_)|(refine aw_gs rfl rfl eE (fun hb=>?_) (fun hb=>?_)<;>fail_if_success (cases hb;done)<;>refine xS ?_)|(refine drk_gsd rfl rfl eE (fun hb=>?_) (fun hb=>?_)<;>refine xS ?_)|(refine drk_gse rfl rfl eE (fun hb=>?_) (fun hb=>?_)<;>refine xS ?_)|(refine drk_gsn rfl rfl eE (fun hb=>?_) (fun hb=>?_)<;>refine xS ?_)|(refine drk_gs rfl rfl eE (fun hb=>?_) (fun hb=>?_)<;>fail_if_success (cases hb;done)<;>refine xS ?_)
 refine aw_push (pre:=[]) rfl rfl rfl rfl rfl rfl rfl eE eE (by rfl) om om eE om (by exact hog) eE (by rfl) (by rfl) (by first|rfl|simp only [Nat.mul_one,List.nil_append,List.cons_append]<;>rfl) (by unfold maxLen;omega) om (by exact lf_push hn (⟨⟨k,cutS l i e⟩,i,a,b⟩:TX) om) fun g hn_g=> ?_
 replace hn_g:=Heap.ne_of hn_g
 first|dsimp only [Heap.ne,gh] at hn_g|dsimp only [Heap.ne] at hn_g|skip
 refine yS hn_g ?_
 repeat' first|refine yA1 hn_g ?_|(refine yW hn_g ?_;refine yS hn_g ?_)|refine yP hn_g ?_|refine yN hn_g ?_|refine aw_cd (zE hn_g) (fun hb=>?_) (fun hb=>?_)|refine aw_ce (zE hn_g) (fun hb=>?_) (fun hb=>?_)|refine aw_cn (zE hn_g) (fun hb=>?_) (fun hb=>?_)|(refine yF hn_g (fun hb=>?_) (fun hb=>?_)<;>fail_if_success (cases hb;done))|(refine aw_gsd rfl rfl (zE hn_g) (fun hb=>?_) (fun hb=>?_)<;>refine yS hn_g ?_)|(refine aw_gse rfl rfl (zE hn_g) (fun hb=>?_) (fun hb=>?_)<;>refine yS hn_g ?_)|(refine aw_gsn rfl rfl (zE hn_g) (fun hb=>?_) (fun hb=>?_)<;>refine yS hn_g ?_)|(refine aw_gs rfl rfl (zE hn_g) (fun hb=>?_) (fun hb=>?_)<;>fail_if_success (cases hb;done)<;>refine yS hn_g ?_)|(refine drk_gsd rfl rfl (zE hn_g) (fun hb=>?_) (fun hb=>?_)<;>refine yS hn_g ?_)|(refine drk_gse rfl rfl (zE hn_g) (fun hb=>?_) (fun hb=>?_)<;>refine yS hn_g ?_)|(refine drk_gsn rfl rfl (zE hn_g) (fun hb=>?_) (fun hb=>?_)<;>refine yS hn_g ?_)|(refine drk_gs rfl rfl (zE hn_g) (fun hb=>?_) (fun hb=>?_)<;>fail_if_success (cases hb;done)<;>refine yS hn_g ?_)
 refine yU hn_g ?_
 exact⟨g,a,b,rfl,rfl⟩
theorem rsplit_fh (l:BS) (hl:l.length≤1099511627776):Fh Tryz.prog 15 [] [.c (.str (sB l))] (fun x h=>h=[]∧∃out:List TX,out.map TX.t=(splitS l).2∧x=.tup [.c (txs true out),.c (.int .i64 (splitS l).1)]):=by
 refine fh_of_body Tryz.func15 rfl rfl (by simp [Tryz.ntmps15]) fun C hC=> ?_
 simp only [initS,Nat.reduceAdd]
 repeat' first|refine yA1 o0 ?_|(refine xW ?_;refine xS ?_)|refine xP ?_|refine xN ?_|refine aw_cd eE (fun hb=>?_) (fun hb=>?_)|refine aw_ce eE (fun hb=>?_) (fun hb=>?_)|refine aw_cn eE (fun hb=>?_) (fun hb=>?_)|(refine xF (fun hb=>?_) (fun hb=>?_)<;>fail_if_success (cases hb;done))|(refine aw_gsd rfl rfl eE (fun hb=>?_) (fun hb=>?_)<;>refine xS ?_)|(refine aw_gse rfl rfl eE (fun hb=>?_) (fun hb=>?_)<;>refine xS ?_)|(refine aw_gsn rfl rfl eE (fun hb=>?_) (fun hb=>?_)<;>refine xS ?_)|(refine aw_gs rfl rfl eE (fun hb=>?_) (fun hb=>?_)<;>fail_if_success (cases hb;done)<;>refine xS ?_)|(refine drk_gsd rfl rfl eE (fun hb=>?_) (fun hb=>?_)<;>refine xS ?_)|(refine drk_gse rfl rfl eE (fun hb=>?_) (fun hb=>?_)<;>refine xS ?_)|(refine drk_gsn rfl rfl eE (fun hb=>?_) (fun hb=>?_)<;>refine xS ?_)|(refine drk_gs rfl rfl eE (fun hb=>?_) (fun hb=>?_)<;>fail_if_success (cases hb;done)<;>refine xS ?_)
 ·refine aw_conv (t:=2) (v:=.c (txs true [])) (fun S w u hr=>repC_nil hr) rfl ?_
  refine xSU ?_
  unfold splitS
  rw [if_pos om]
  exact⟨rfl,[],rfl,rfl⟩
 generalize hS:splitT l l.length 0 []=S
 have hS':splitS l=S:=by unfold splitS;rw [if_neg om];exact hS
 rw [hS']
 refine aw_lp (fun x:Nat×Option Nat×Nat×List TX=>[(0,.c (.str (sB l))),(4,.c (gs x.2.1 5 x.2.2.1)),(5,.c (.int .i64 x.1))]) (fun x=>gh x.2.1 45 (x.2.2.1*5) (txsF x.2.2.2))
  (fun x=>x.1≤l.length∧(x.2.1=none→x.2.2.1=0)∧x.2.2.1≤x.1∧x.2.2.2.length=x.2.2.1∧splitT l (l.length-x.1) x.1 (x.2.2.2.map TX.t)=S) (fun x=>l.length-x.1) (0,none,0,[]) eB (by simp only [gh];exact List.Sublist.refl _) ⟨Nat.zero_le _,fun _=>rfl,Nat.zero_le _,rfl,hS⟩ ?_
 rintro ⟨i,og,n,out⟩ ⟨hi,hog,hol,hn,hsp⟩
 dsimp only at hi hog hol hn hsp⊢
 have e3:=numE_ge l i
 have e4:=numE_le hi
 repeat' first|refine yA1 o0 ?_|(refine yC2 o0 (rblk_fa _) ?_)|(refine yD2 o0 (rblk_fa _) ?_)|(refine yC2 o0 (rlet_fa _) ?_)|(refine yD2 o0 (rlet_fa _) ?_)|(refine yC2 o0 (rdig_fa _) ?_)|(refine yD2 o0 (rdig_fa _) ?_)|(refine yC2 o0 (rins_fa _) ?_)|(refine yD2 o0 (rins_fa _) ?_)|(refine yC2 o0 (rnum_fa l i hl ?_) ?_;· omega)|(refine yD2 o0 (rnum_fa l i hl ?_) ?_;· omega)|(refine xW ?_;refine xS ?_)|refine xP ?_|refine xN ?_|refine aw_cd eE (fun hb=>?_) (fun hb=>?_)|refine aw_ce eE (fun hb=>?_) (fun hb=>?_)|refine aw_cn eE (fun hb=>?_) (fun hb=>?_)|(refine xF (fun hb=>?_) (fun hb=>?_)<;>fail_if_success (cases hb;done))|(refine aw_gsd rfl rfl eE (fun hb=>?_) (fun hb=>?_)<;>refine xS ?_)|(refine aw_gse rfl rfl eE (fun hb=>?_) (fun hb=>?_)<;>refine xS ?_)|(refine aw_gsn rfl rfl eE (fun hb=>?_) (fun hb=>?_)<;>refine xS ?_)|(refine aw_gs rfl rfl eE (fun hb=>?_) (fun hb=>?_)<;>fail_if_success (cases hb;done)<;>refine xS ?_)|(refine drk_gsd rfl rfl eE (fun hb=>?_) (fun hb=>?_)<;>refine xS ?_)|(refine drk_gse rfl rfl eE (fun hb=>?_) (fun hb=>?_)<;>refine xS ?_)|(refine drk_gsn rfl rfl eE (fun hb=>?_) (fun hb=>?_)<;>refine xS ?_)|(refine drk_gs rfl rfl eE (fun hb=>?_) (fun hb=>?_)<;>fail_if_success (cases hb;done)<;>refine xS ?_)
 ·rename_i hi'
  exact aw_stop ⟨(i+1,og,n,out),by dsimp only;omega,eB,List.Sublist.refl _,by dsimp only;omega,hog,by dsimp only;omega,hn,split_skip hsp hi' (stepT_blk hb)⟩
 ·rename_i hi' hk
  have h35:=hb
  have hst:=stepT_cmt hk h35
  have hq:=split_skip hsp hi' hst
  have g1:=stepT_skip hi' hst
  rw [spanE_yes hi' (by rw [h35];rfl)] at hq g1
  generalize hE:spanE (fun b=>b !=10) l (i+1)=e at hq g1
  refine aw_lp (fun x:Nat=>[(0,.c (.str (sB l))),(4,.c (gs og 5 n)),(5,.c (.int .i64 i)),(7,.c (.int .i64 x))]) (fun _=>gh og 45 (n*5) (txsF out)) (fun x=>i+1≤x∧x≤l.length∧spanE (fun b=>b !=10) l x=e) (fun x=>l.length-x) (i+1) eB zZ ⟨Nat.le_refl _,by omega,hE⟩ ?_
  rintro x ⟨hx0,hx,hxe⟩
  repeat' first|refine yA1 o0 ?_|(refine xW ?_;refine xS ?_)|refine xP ?_|refine xN ?_|refine aw_cd eE (fun hb=>?_) (fun hb=>?_)|refine aw_ce eE (fun hb=>?_) (fun hb=>?_)|refine aw_cn eE (fun hb=>?_) (fun hb=>?_)|(refine xF (fun hb=>?_) (fun hb=>?_)<;>fail_if_success (cases hb;done))|(refine aw_gsd rfl rfl eE (fun hb=>?_) (fun hb=>?_)<;>refine xS ?_)|(refine aw_gse rfl rfl eE (fun hb=>?_) (fun hb=>?_)<;>refine xS ?_)|(refine aw_gsn rfl rfl eE (fun hb=>?_) (fun hb=>?_)<;>refine xS ?_)|(refine aw_gs rfl rfl eE (fun hb=>?_) (fun hb=>?_)<;>fail_if_success (cases hb;done)<;>refine xS ?_)|(refine drk_gsd rfl rfl eE (fun hb=>?_) (fun hb=>?_)<;>refine xS ?_)|(refine drk_gse rfl rfl eE (fun hb=>?_) (fun hb=>?_)<;>refine xS ?_)|(refine drk_gsn rfl rfl eE (fun hb=>?_) (fun hb=>?_)<;>refine xS ?_)|(refine drk_gs rfl rfl eE (fun hb=>?_) (fun hb=>?_)<;>fail_if_success (cases hb;done)<;>refine xS ?_)
  ·rename_i hx1
   refine aw_stop ⟨x+1,by omega,eB,List.Sublist.refl _,by omega,by omega,?_⟩
   rw [←spanE_yes hx1 (by simpa using hb)];exact hxe
  ·rename_i hx1
   have:x=e:=by rw [←hxe,spanE_no hx1 (by simpa using hb)]
   subst this
   exact aw_stop ⟨(x,og,n,out),by dsimp only;omega,eB,List.Sublist.refl _,by dsimp only;omega,hog,by dsimp only;omega,hn,hq⟩
  ·have:x=e:=by rw [←hxe,spanE_out om]
   subst this
   exact aw_stop ⟨(x,og,n,out),by dsimp only;omega,eB,List.Sublist.refl _,by dsimp only;omega,hog,by dsimp only;omega,hn,hq⟩
 ·rename_i hi' hk h35
  have hlt:=hb
  have hst0:=stepT_let hk h35 hlt
  have hE0:=spanE_yes (p:=isIns) hi' (isLet_ins hlt)
  rw [hE0] at hst0
  generalize hE:spanE isIns l (i+1)=e at hst0
  have g1:i+1≤e:=by rw [←hE];exact spanE_ge ..
  have g2:e≤l.length:=by rw [←hE];exact spanE_le om
  refine aw_lp (fun x:Nat=>[(0,.c (.str (sB l))),(4,.c (gs og 5 n)),(5,.c (.int .i64 i)),(7,.c (.int .i64 x))]) (fun _=>gh og 45 (n*5) (txsF out)) (fun x=>i+1≤x∧x≤l.length∧spanE (isIns) l x=e) (fun x=>l.length-x) (i+1) eB zZ ⟨Nat.le_refl _,by omega,hE⟩ ?_
  rintro x ⟨hx0,hx,hxe⟩
  repeat' first|refine yA1 o0 ?_|(refine yC2 o0 (rins_fa _) ?_)|(refine yD2 o0 (rins_fa _) ?_)|(refine xW ?_;refine xS ?_)|refine xP ?_|refine xN ?_|refine aw_cd eE (fun hb=>?_) (fun hb=>?_)|refine aw_ce eE (fun hb=>?_) (fun hb=>?_)|refine aw_cn eE (fun hb=>?_) (fun hb=>?_)|(refine xF (fun hb=>?_) (fun hb=>?_)<;>fail_if_success (cases hb;done))|(refine aw_gsd rfl rfl eE (fun hb=>?_) (fun hb=>?_)<;>refine xS ?_)|(refine aw_gse rfl rfl eE (fun hb=>?_) (fun hb=>?_)<;>refine xS ?_)|(refine aw_gsn rfl rfl eE (fun hb=>?_) (fun hb=>?_)<;>refine xS ?_)|(refine aw_gs rfl rfl eE (fun hb=>?_) (fun hb=>?_)<;>fail_if_success (cases hb;done)<;>refine xS ?_)|(refine drk_gsd rfl rfl eE (fun hb=>?_) (fun hb=>?_)<;>refine xS ?_)|(refine drk_gse rfl rfl eE (fun hb=>?_) (fun hb=>?_)<;>refine xS ?_)|(refine drk_gsn rfl rfl eE (fun hb=>?_) (fun hb=>?_)<;>refine xS ?_)|(refine drk_gs rfl rfl eE (fun hb=>?_) (fun hb=>?_)<;>fail_if_success (cases hb;done)<;>refine xS ?_)
  ·rename_i hx1
   refine aw_stop ⟨x+1,by omega,eB,List.Sublist.refl _,by omega,by omega,?_⟩
   rw [←spanE_yes hx1 hb];exact hxe
  ·obtain rfl:x=e:=by rw [←hxe,spanE_no om (by assumption)]
   have hc:=split_err hsp hi' (hst0.trans (if_pos om))
   refine aw_weak (h':=[]) (fun t=>.inr rfl) (List.nil_sublist _) ?_
   refine aw_conv (t:=2) (v:=.c (txs true [])) (fun S w u hr=>repC_nil hr) rfl ?_
   refine xSU ?_
   rw [hc]
   exact⟨rfl,[],rfl,rfl⟩
  ·obtain rfl:x=e:=by rw [←hxe,spanE_no om (by assumption)]
   have hst:=(show PN.stepT l i=.tok 0 x from hst0.trans (if_neg om))
   have hp:=split_tok hsp hi' (k:=0) (e:=x) hst
   have hp2:=stepT_tok hi' hst
   refine aw_callh (hc:=gh og 45 (n*5) (txsF out)) (hr:=[]) (rtoken_fh l 0 i (x) og n out hl om om hog hn om) rfl rfl rfl (by rw [List.append_nil]) eL ?_
   rintro _ _ ⟨g,a,b,rfl,rfl⟩ _
   rw [List.append_nil]
   refine xS ?_
   repeat' first|refine yA1 o0 ?_|(refine xW ?_;refine xS ?_)|refine xP ?_|refine xN ?_|refine aw_cd eE (fun hb=>?_) (fun hb=>?_)|refine aw_ce eE (fun hb=>?_) (fun hb=>?_)|refine aw_cn eE (fun hb=>?_) (fun hb=>?_)|(refine xF (fun hb=>?_) (fun hb=>?_)<;>fail_if_success (cases hb;done))|(refine aw_gsd rfl rfl eE (fun hb=>?_) (fun hb=>?_)<;>refine xS ?_)|(refine aw_gse rfl rfl eE (fun hb=>?_) (fun hb=>?_)<;>refine xS ?_)|(refine aw_gsn rfl rfl eE (fun hb=>?_) (fun hb=>?_)<;>refine xS ?_)|(refine aw_gs rfl rfl eE (fun hb=>?_) (fun hb=>?_)<;>fail_if_success (cases hb;done)<;>refine xS ?_)|(refine drk_gsd rfl rfl eE (fun hb=>?_) (fun hb=>?_)<;>refine xS ?_)|(refine drk_gse rfl rfl eE (fun hb=>?_) (fun hb=>?_)<;>refine xS ?_)|(refine drk_gsn rfl rfl eE (fun hb=>?_) (fun hb=>?_)<;>refine xS ?_)|(refine drk_gs rfl rfl eE (fun hb=>?_) (fun hb=>?_)<;>fail_if_success (cases hb;done)<;>refine xS ?_)
   exact aw_stop ⟨(x,some g,n+1,out++[⟨⟨0,cutS l i (x)⟩,i,a,b⟩]),by dsimp only;omega,eB,List.Sublist.refl _,by dsimp only;omega,some_ne,by dsimp only;omega,by dsimp only;rw [List.length_append,hn];rfl,hp _ _ _⟩
  ·obtain rfl:x=e:=by rw [←hxe,spanE_out om]
   have hc:=split_err hsp hi' (hst0.trans (if_pos om))
   refine aw_weak (h':=[]) (fun t=>.inr rfl) (List.nil_sublist _) ?_
   refine aw_conv (t:=2) (v:=.c (txs true [])) (fun S w u hr=>repC_nil hr) rfl ?_
   refine xSU ?_
   rw [hc]
   exact⟨rfl,[],rfl,rfl⟩
  ·obtain rfl:x=e:=by rw [←hxe,spanE_out om]
   have hst:=(show PN.stepT l i=.tok 0 x from hst0.trans (if_neg om))
   have hp:=split_tok hsp hi' (k:=0) (e:=x) hst
   have hp2:=stepT_tok hi' hst
   refine aw_callh (hc:=gh og 45 (n*5) (txsF out)) (hr:=[]) (rtoken_fh l 0 i (x) og n out hl om om hog hn om) rfl rfl rfl (by rw [List.append_nil]) eL ?_
   rintro _ _ ⟨g,a,b,rfl,rfl⟩ _
   rw [List.append_nil]
   refine xS ?_
   repeat' first|refine yA1 o0 ?_|(refine xW ?_;refine xS ?_)|refine xP ?_|refine xN ?_|refine aw_cd eE (fun hb=>?_) (fun hb=>?_)|refine aw_ce eE (fun hb=>?_) (fun hb=>?_)|refine aw_cn eE (fun hb=>?_) (fun hb=>?_)|(refine xF (fun hb=>?_) (fun hb=>?_)<;>fail_if_success (cases hb;done))|(refine aw_gsd rfl rfl eE (fun hb=>?_) (fun hb=>?_)<;>refine xS ?_)|(refine aw_gse rfl rfl eE (fun hb=>?_) (fun hb=>?_)<;>refine xS ?_)|(refine aw_gsn rfl rfl eE (fun hb=>?_) (fun hb=>?_)<;>refine xS ?_)|(refine aw_gs rfl rfl eE (fun hb=>?_) (fun hb=>?_)<;>fail_if_success (cases hb;done)<;>refine xS ?_)|(refine drk_gsd rfl rfl eE (fun hb=>?_) (fun hb=>?_)<;>refine xS ?_)|(refine drk_gse rfl rfl eE (fun hb=>?_) (fun hb=>?_)<;>refine xS ?_)|(refine drk_gsn rfl rfl eE (fun hb=>?_) (fun hb=>?_)<;>refine xS ?_)|(refine drk_gs rfl rfl eE (fun hb=>?_) (fun hb=>?_)<;>fail_if_success (cases hb;done)<;>refine xS ?_)
   exact aw_stop ⟨(x,some g,n+1,out++[⟨⟨0,cutS l i (x)⟩,i,a,b⟩]),by dsimp only;omega,eB,List.Sublist.refl _,by dsimp only;omega,some_ne,by dsimp only;omega,by dsimp only;rw [List.length_append,hn];rfl,hp _ _ _⟩
 ·rename_i hi' hk h35 hlt hdg hnl
  have hc:=split_err hsp hi' (by rw [stepT_dig hk h35 hlt hdg,if_pos ⟨hnl,.inl hb⟩])
  refine aw_weak (h':=[]) (fun t=>.inr rfl) (List.nil_sublist _) ?_
  refine aw_conv (t:=2) (v:=.c (txs true [])) (fun S w u hr=>repC_nil hr) rfl ?_
  refine xSU ?_
  rw [hc]
  exact⟨rfl,[],rfl,rfl⟩
 ·rename_i hi' hk h35 hlt hdg hnl h1
  have hc:=split_err hsp hi' (by rw [stepT_dig hk h35 hlt hdg,if_pos ⟨hnl,.inr hb⟩])
  refine aw_weak (h':=[]) (fun t=>.inr rfl) (List.nil_sublist _) ?_
  refine aw_conv (t:=2) (v:=.c (txs true [])) (fun S w u hr=>repC_nil hr) rfl ?_
  refine xSU ?_
  rw [hc]
  exact⟨rfl,[],rfl,rfl⟩
 ·rename_i hi' hk h35 hlt hdg hnl h1
  have hst:=(show PN.stepT l i=.tok 1 (numE l i) from by rw [stepT_dig hk h35 hlt hdg,if_neg (fun z=>z.2.elim (fun z=>by rw [h1] at z;cases z) hb)])
  have hp:=split_tok hsp hi' (k:=1) (e:=numE l i) hst
  have hp2:=stepT_tok hi' hst
  refine aw_callh (hc:=gh og 45 (n*5) (txsF out)) (hr:=[]) (rtoken_fh l 1 i (numE l i) og n out hl om om hog hn om) rfl rfl rfl (by rw [List.append_nil]) eL ?_
  rintro _ _ ⟨g,a,b,rfl,rfl⟩ _
  rw [List.append_nil]
  refine xS ?_
  repeat' first|refine yA1 o0 ?_|(refine xW ?_;refine xS ?_)|refine xP ?_|refine xN ?_|refine aw_cd eE (fun hb=>?_) (fun hb=>?_)|refine aw_ce eE (fun hb=>?_) (fun hb=>?_)|refine aw_cn eE (fun hb=>?_) (fun hb=>?_)|(refine xF (fun hb=>?_) (fun hb=>?_)<;>fail_if_success (cases hb;done))|(refine aw_gsd rfl rfl eE (fun hb=>?_) (fun hb=>?_)<;>refine xS ?_)|(refine aw_gse rfl rfl eE (fun hb=>?_) (fun hb=>?_)<;>refine xS ?_)|(refine aw_gsn rfl rfl eE (fun hb=>?_) (fun hb=>?_)<;>refine xS ?_)|(refine aw_gs rfl rfl eE (fun hb=>?_) (fun hb=>?_)<;>fail_if_success (cases hb;done)<;>refine xS ?_)|(refine drk_gsd rfl rfl eE (fun hb=>?_) (fun hb=>?_)<;>refine xS ?_)|(refine drk_gse rfl rfl eE (fun hb=>?_) (fun hb=>?_)<;>refine xS ?_)|(refine drk_gsn rfl rfl eE (fun hb=>?_) (fun hb=>?_)<;>refine xS ?_)|(refine drk_gs rfl rfl eE (fun hb=>?_) (fun hb=>?_)<;>fail_if_success (cases hb;done)<;>refine xS ?_)
  exact aw_stop ⟨(numE l i,some g,n+1,out++[⟨⟨1,cutS l i (numE l i)⟩,i,a,b⟩]),by dsimp only;omega,eB,List.Sublist.refl _,by dsimp only;omega,some_ne,by dsimp only;omega,by dsimp only;rw [List.length_append,hn];rfl,hp _ _ _⟩
 ·rename_i hi' hk h35 hlt hdg
  have hst:=(show PN.stepT l i=.tok 1 (numE l i) from by rw [stepT_dig hk h35 hlt hdg,if_neg (fun z=>hb z.1)])
  have hp:=split_tok hsp hi' (k:=1) (e:=numE l i) hst
  have hp2:=stepT_tok hi' hst
  refine aw_callh (hc:=gh og 45 (n*5) (txsF out)) (hr:=[]) (rtoken_fh l 1 i (numE l i) og n out hl om om hog hn om) rfl rfl rfl (by rw [List.append_nil]) eL ?_
  rintro _ _ ⟨g,a,b,rfl,rfl⟩ _
  rw [List.append_nil]
  refine xS ?_
  repeat' first|refine yA1 o0 ?_|(refine xW ?_;refine xS ?_)|refine xP ?_|refine xN ?_|refine aw_cd eE (fun hb=>?_) (fun hb=>?_)|refine aw_ce eE (fun hb=>?_) (fun hb=>?_)|refine aw_cn eE (fun hb=>?_) (fun hb=>?_)|(refine xF (fun hb=>?_) (fun hb=>?_)<;>fail_if_success (cases hb;done))|(refine aw_gsd rfl rfl eE (fun hb=>?_) (fun hb=>?_)<;>refine xS ?_)|(refine aw_gse rfl rfl eE (fun hb=>?_) (fun hb=>?_)<;>refine xS ?_)|(refine aw_gsn rfl rfl eE (fun hb=>?_) (fun hb=>?_)<;>refine xS ?_)|(refine aw_gs rfl rfl eE (fun hb=>?_) (fun hb=>?_)<;>fail_if_success (cases hb;done)<;>refine xS ?_)|(refine drk_gsd rfl rfl eE (fun hb=>?_) (fun hb=>?_)<;>refine xS ?_)|(refine drk_gse rfl rfl eE (fun hb=>?_) (fun hb=>?_)<;>refine xS ?_)|(refine drk_gsn rfl rfl eE (fun hb=>?_) (fun hb=>?_)<;>refine xS ?_)|(refine drk_gs rfl rfl eE (fun hb=>?_) (fun hb=>?_)<;>fail_if_success (cases hb;done)<;>refine xS ?_)
  exact aw_stop ⟨(numE l i,some g,n+1,out++[⟨⟨1,cutS l i (numE l i)⟩,i,a,b⟩]),by dsimp only;omega,eB,List.Sublist.refl _,by dsimp only;omega,some_ne,by dsimp only;omega,by dsimp only;rw [List.length_append,hn];rfl,hp _ _ _⟩
 ·rename_i hi' hk h35 hlt hdg
  have hst:=(show PN.stepT l i=.tok 2 (i+1) from by rw [stepT_els hk h35 hlt hdg,show isSgn (bAt l i)=true from by rw [hb];rfl];rfl)
  have hp:=split_tok hsp hi' (k:=2) (e:=i+1) hst
  have hp2:=stepT_tok hi' hst
  refine aw_callh (hc:=gh og 45 (n*5) (txsF out)) (hr:=[]) (rtoken_fh l 2 i (i+1) og n out hl om om hog hn om) rfl rfl rfl (by rw [List.append_nil]) eL ?_
  rintro _ _ ⟨g,a,b,rfl,rfl⟩ _
  rw [List.append_nil]
  refine xS ?_
  repeat' first|refine yA1 o0 ?_|(refine xW ?_;refine xS ?_)|refine xP ?_|refine xN ?_|refine aw_cd eE (fun hb=>?_) (fun hb=>?_)|refine aw_ce eE (fun hb=>?_) (fun hb=>?_)|refine aw_cn eE (fun hb=>?_) (fun hb=>?_)|(refine xF (fun hb=>?_) (fun hb=>?_)<;>fail_if_success (cases hb;done))|(refine aw_gsd rfl rfl eE (fun hb=>?_) (fun hb=>?_)<;>refine xS ?_)|(refine aw_gse rfl rfl eE (fun hb=>?_) (fun hb=>?_)<;>refine xS ?_)|(refine aw_gsn rfl rfl eE (fun hb=>?_) (fun hb=>?_)<;>refine xS ?_)|(refine aw_gs rfl rfl eE (fun hb=>?_) (fun hb=>?_)<;>fail_if_success (cases hb;done)<;>refine xS ?_)|(refine drk_gsd rfl rfl eE (fun hb=>?_) (fun hb=>?_)<;>refine xS ?_)|(refine drk_gse rfl rfl eE (fun hb=>?_) (fun hb=>?_)<;>refine xS ?_)|(refine drk_gsn rfl rfl eE (fun hb=>?_) (fun hb=>?_)<;>refine xS ?_)|(refine drk_gs rfl rfl eE (fun hb=>?_) (fun hb=>?_)<;>fail_if_success (cases hb;done)<;>refine xS ?_)
  exact aw_stop ⟨(i+1,some g,n+1,out++[⟨⟨2,cutS l i (i+1)⟩,i,a,b⟩]),by dsimp only;omega,eB,List.Sublist.refl _,by dsimp only;omega,some_ne,by dsimp only;omega,by dsimp only;rw [List.length_append,hn];rfl,hp _ _ _⟩
 ·rename_i hi' hk h35 hlt hdg s0
  have hst:=(show PN.stepT l i=.tok 2 (i+1) from by rw [stepT_els hk h35 hlt hdg,show isSgn (bAt l i)=true from by rw [hb];rfl];rfl)
  have hp:=split_tok hsp hi' (k:=2) (e:=i+1) hst
  have hp2:=stepT_tok hi' hst
  refine aw_callh (hc:=gh og 45 (n*5) (txsF out)) (hr:=[]) (rtoken_fh l 2 i (i+1) og n out hl om om hog hn om) rfl rfl rfl (by rw [List.append_nil]) eL ?_
  rintro _ _ ⟨g,a,b,rfl,rfl⟩ _
  rw [List.append_nil]
  refine xS ?_
  repeat' first|refine yA1 o0 ?_|(refine xW ?_;refine xS ?_)|refine xP ?_|refine xN ?_|refine aw_cd eE (fun hb=>?_) (fun hb=>?_)|refine aw_ce eE (fun hb=>?_) (fun hb=>?_)|refine aw_cn eE (fun hb=>?_) (fun hb=>?_)|(refine xF (fun hb=>?_) (fun hb=>?_)<;>fail_if_success (cases hb;done))|(refine aw_gsd rfl rfl eE (fun hb=>?_) (fun hb=>?_)<;>refine xS ?_)|(refine aw_gse rfl rfl eE (fun hb=>?_) (fun hb=>?_)<;>refine xS ?_)|(refine aw_gsn rfl rfl eE (fun hb=>?_) (fun hb=>?_)<;>refine xS ?_)|(refine aw_gs rfl rfl eE (fun hb=>?_) (fun hb=>?_)<;>fail_if_success (cases hb;done)<;>refine xS ?_)|(refine drk_gsd rfl rfl eE (fun hb=>?_) (fun hb=>?_)<;>refine xS ?_)|(refine drk_gse rfl rfl eE (fun hb=>?_) (fun hb=>?_)<;>refine xS ?_)|(refine drk_gsn rfl rfl eE (fun hb=>?_) (fun hb=>?_)<;>refine xS ?_)|(refine drk_gs rfl rfl eE (fun hb=>?_) (fun hb=>?_)<;>fail_if_success (cases hb;done)<;>refine xS ?_)
  exact aw_stop ⟨(i+1,some g,n+1,out++[⟨⟨2,cutS l i (i+1)⟩,i,a,b⟩]),by dsimp only;omega,eB,List.Sublist.refl _,by dsimp only;omega,some_ne,by dsimp only;omega,by dsimp only;rw [List.length_append,hn];rfl,hp _ _ _⟩
 ·rename_i hi' hk h35 hlt hdg s0 s1
  have hst:=(show PN.stepT l i=.tok 2 (i+1) from by rw [stepT_els hk h35 hlt hdg,show isSgn (bAt l i)=true from by rw [hb];rfl];rfl)
  have hp:=split_tok hsp hi' (k:=2) (e:=i+1) hst
  have hp2:=stepT_tok hi' hst
  refine aw_callh (hc:=gh og 45 (n*5) (txsF out)) (hr:=[]) (rtoken_fh l 2 i (i+1) og n out hl om om hog hn om) rfl rfl rfl (by rw [List.append_nil]) eL ?_
  rintro _ _ ⟨g,a,b,rfl,rfl⟩ _
  rw [List.append_nil]
  refine xS ?_
  repeat' first|refine yA1 o0 ?_|(refine xW ?_;refine xS ?_)|refine xP ?_|refine xN ?_|refine aw_cd eE (fun hb=>?_) (fun hb=>?_)|refine aw_ce eE (fun hb=>?_) (fun hb=>?_)|refine aw_cn eE (fun hb=>?_) (fun hb=>?_)|(refine xF (fun hb=>?_) (fun hb=>?_)<;>fail_if_success (cases hb;done))|(refine aw_gsd rfl rfl eE (fun hb=>?_) (fun hb=>?_)<;>refine xS ?_)|(refine aw_gse rfl rfl eE (fun hb=>?_) (fun hb=>?_)<;>refine xS ?_)|(refine aw_gsn rfl rfl eE (fun hb=>?_) (fun hb=>?_)<;>refine xS ?_)|(refine aw_gs rfl rfl eE (fun hb=>?_) (fun hb=>?_)<;>fail_if_success (cases hb;done)<;>refine xS ?_)|(refine drk_gsd rfl rfl eE (fun hb=>?_) (fun hb=>?_)<;>refine xS ?_)|(refine drk_gse rfl rfl eE (fun hb=>?_) (fun hb=>?_)<;>refine xS ?_)|(refine drk_gsn rfl rfl eE (fun hb=>?_) (fun hb=>?_)<;>refine xS ?_)|(refine drk_gs rfl rfl eE (fun hb=>?_) (fun hb=>?_)<;>fail_if_success (cases hb;done)<;>refine xS ?_)
  exact aw_stop ⟨(i+1,some g,n+1,out++[⟨⟨2,cutS l i (i+1)⟩,i,a,b⟩]),by dsimp only;omega,eB,List.Sublist.refl _,by dsimp only;omega,some_ne,by dsimp only;omega,by dsimp only;rw [List.length_append,hn];rfl,hp _ _ _⟩
 ·rename_i hi' hk h35 hlt hdg s0 s1 s2
  have hst:=(show PN.stepT l i=.tok 2 (i+1) from by rw [stepT_els hk h35 hlt hdg,show isSgn (bAt l i)=true from by rw [hb];rfl];rfl)
  have hp:=split_tok hsp hi' (k:=2) (e:=i+1) hst
  have hp2:=stepT_tok hi' hst
  refine aw_callh (hc:=gh og 45 (n*5) (txsF out)) (hr:=[]) (rtoken_fh l 2 i (i+1) og n out hl om om hog hn om) rfl rfl rfl (by rw [List.append_nil]) eL ?_
  rintro _ _ ⟨g,a,b,rfl,rfl⟩ _
  rw [List.append_nil]
  refine xS ?_
  repeat' first|refine yA1 o0 ?_|(refine xW ?_;refine xS ?_)|refine xP ?_|refine xN ?_|refine aw_cd eE (fun hb=>?_) (fun hb=>?_)|refine aw_ce eE (fun hb=>?_) (fun hb=>?_)|refine aw_cn eE (fun hb=>?_) (fun hb=>?_)|(refine xF (fun hb=>?_) (fun hb=>?_)<;>fail_if_success (cases hb;done))|(refine aw_gsd rfl rfl eE (fun hb=>?_) (fun hb=>?_)<;>refine xS ?_)|(refine aw_gse rfl rfl eE (fun hb=>?_) (fun hb=>?_)<;>refine xS ?_)|(refine aw_gsn rfl rfl eE (fun hb=>?_) (fun hb=>?_)<;>refine xS ?_)|(refine aw_gs rfl rfl eE (fun hb=>?_) (fun hb=>?_)<;>fail_if_success (cases hb;done)<;>refine xS ?_)|(refine drk_gsd rfl rfl eE (fun hb=>?_) (fun hb=>?_)<;>refine xS ?_)|(refine drk_gse rfl rfl eE (fun hb=>?_) (fun hb=>?_)<;>refine xS ?_)|(refine drk_gsn rfl rfl eE (fun hb=>?_) (fun hb=>?_)<;>refine xS ?_)|(refine drk_gs rfl rfl eE (fun hb=>?_) (fun hb=>?_)<;>fail_if_success (cases hb;done)<;>refine xS ?_)
  exact aw_stop ⟨(i+1,some g,n+1,out++[⟨⟨2,cutS l i (i+1)⟩,i,a,b⟩]),by dsimp only;omega,eB,List.Sublist.refl _,by dsimp only;omega,some_ne,by dsimp only;omega,by dsimp only;rw [List.length_append,hn];rfl,hp _ _ _⟩
 ·rename_i hi' hk h35 hlt hdg s0 s1 s2 s3
  have hst:=(show PN.stepT l i=.tok 2 (i+1) from by rw [stepT_els hk h35 hlt hdg,show isSgn (bAt l i)=true from by rw [hb];rfl];rfl)
  have hp:=split_tok hsp hi' (k:=2) (e:=i+1) hst
  have hp2:=stepT_tok hi' hst
  refine aw_callh (hc:=gh og 45 (n*5) (txsF out)) (hr:=[]) (rtoken_fh l 2 i (i+1) og n out hl om om hog hn om) rfl rfl rfl (by rw [List.append_nil]) eL ?_
  rintro _ _ ⟨g,a,b,rfl,rfl⟩ _
  rw [List.append_nil]
  refine xS ?_
  repeat' first|refine yA1 o0 ?_|(refine xW ?_;refine xS ?_)|refine xP ?_|refine xN ?_|refine aw_cd eE (fun hb=>?_) (fun hb=>?_)|refine aw_ce eE (fun hb=>?_) (fun hb=>?_)|refine aw_cn eE (fun hb=>?_) (fun hb=>?_)|(refine xF (fun hb=>?_) (fun hb=>?_)<;>fail_if_success (cases hb;done))|(refine aw_gsd rfl rfl eE (fun hb=>?_) (fun hb=>?_)<;>refine xS ?_)|(refine aw_gse rfl rfl eE (fun hb=>?_) (fun hb=>?_)<;>refine xS ?_)|(refine aw_gsn rfl rfl eE (fun hb=>?_) (fun hb=>?_)<;>refine xS ?_)|(refine aw_gs rfl rfl eE (fun hb=>?_) (fun hb=>?_)<;>fail_if_success (cases hb;done)<;>refine xS ?_)|(refine drk_gsd rfl rfl eE (fun hb=>?_) (fun hb=>?_)<;>refine xS ?_)|(refine drk_gse rfl rfl eE (fun hb=>?_) (fun hb=>?_)<;>refine xS ?_)|(refine drk_gsn rfl rfl eE (fun hb=>?_) (fun hb=>?_)<;>refine xS ?_)|(refine drk_gs rfl rfl eE (fun hb=>?_) (fun hb=>?_)<;>fail_if_success (cases hb;done)<;>refine xS ?_)
  exact aw_stop ⟨(i+1,some g,n+1,out++[⟨⟨2,cutS l i (i+1)⟩,i,a,b⟩]),by dsimp only;omega,eB,List.Sublist.refl _,by dsimp only;omega,some_ne,by dsimp only;omega,by dsimp only;rw [List.length_append,hn];rfl,hp _ _ _⟩
 ·rename_i hi' hk h35 hlt hdg s0 s1 s2 s3
  have hc:=split_err hsp hi' (by rw [stepT_els hk h35 hlt hdg,show isSgn (bAt l i)=false from by unfold isSgn;simp [s0,s1,s2,s3,hb]];rfl)
  refine aw_weak (h':=[]) (fun t=>.inr rfl) (List.nil_sublist _) ?_
  refine aw_conv (t:=2) (v:=.c (txs true [])) (fun S w u hr=>repC_nil hr) rfl ?_
  refine xSU ?_
  rw [hc]
  exact⟨rfl,[],rfl,rfl⟩
 ·have hc:=split_end hsp hb
  rw [show gh og 45 (n*5) (txsF out)=gh og 45 (n*5) (txsF out)++[] from(List.append_nil _).symm]
  refine aw_frzGT (t:=2) (n':=out.length) (f':=txsF out) hog hn.symm eE (fun g _ h=>by simpa [Heap.keys] using (hC g).1 h) (fun _ _=>rfl) rfl ?_
  refine xSU ?_
  rw [hc]
  exact⟨rfl,out,rfl,rfl⟩
end Go.Proofs.YteocnikcjjonbaaGreat
namespace Go.PN
open Go.AI
theorem span_eq {p:Nat→Bool} {l:BS}:∀(n i:Nat),(∀j,i≤j→j<i+n→p (bAt l j)=true)→i+n≤l.length→(i+n<l.length→p (bAt l (i+n))=false)→spanE p l i=i+n
 |0,i,_,h1,h2=>by
  by_cases h:i<l.length
  ·exact spanE_no h (by simpa using h2 om)
  ·exact spanE_out om
 |n+1,i,h,h1,h2=>by
  rw [spanE_yes om (h i (Nat.le_refl _) om),span_eq n (i+1) (fun j a b=>h j om om) om (fun z=>by rw [show i+1+n=i+(n+1) from by omega];exact h2 om)]
  omega
inductive LexOk (t:TK):Prop where
 |word (k:t.kind=0) (h0:0<t.text.length) (h1:t.text.length≤24) (h2:isLet (bAt t.text 0)=true) (h3:∀j,j<t.text.length→isIns (bAt t.text j)=true)
 |num (k:t.kind=1) (h0:0<t.text.length) (hd:isDig (bAt t.text 0)=true) (h1:NumF t.text)
 |sgn (k:t.kind=2) (h0:t.text.length=1) (h1:isSgn (bAt t.text 0)=true)
theorem cut_bAt {l:BS} {i e j:Nat} (h:i+j<e):bAt (cutS l i e) j=bAt l (i+j):=by
 unfold bAt cutS
 rw [List.getD_eq_getElem?_getD,List.getD_eq_getElem?_getD,List.getElem?_take,if_pos om,List.getElem?_drop]
theorem tok_lex {l:BS} {i k e:Nat} (hi:i<l.length) (h:stepT l i=.tok k e):LexOk ⟨k,cutS l i e⟩:=by
 obtain⟨h1,h2⟩:=stepT_tok hi h
 have hl:=cutS_len (l:=l) (i:=i) h2
 have hb:∀j,j<e-i→bAt (cutS l i e) j=bAt l (i+j):=fun j hj=>cut_bAt om
 unfold stepT at h
 split at h
 ·cases h
 split at h
 ·cases h
 split at h
 ·rename_i hc
  split at h
  ·cases h
  ·rename_i h24
   injection h with hk he
   subst hk he
   refine .word rfl (by dsimp only;omega) (by dsimp only;omega) (by dsimp only;rw [hb 0 om];exact hc) fun j hj=> ?_
   dsimp only at hj⊢
   rw [hb j om]
   exact spanE_in (p:=isIns) (spanE isIns l i-i) i (by have:=spanE_ge isIns l i;omega) (i+j) om om
 split at h
 ·rename_i hc
  split at h
  ·cases h
  ·injection h with hk he
   subst hk
   refine .num rfl (by dsimp only;omega) (by dsimp only;rw [hb 0 om];exact hc) ?_
   dsimp only
   unfold numE at he
   split at he
   ·rename_i h3
    have g1:=spanE_ge isDig l i
    have g2:=spanE_ge isDig l (spanE isDig l i+1)
    have g3:=spanE_yes (p:=isDig) h3.1 h3.2.2
    have g4:=spanE_ge isDig l (spanE isDig l i+1+1)
    refine .two (spanE isDig l i-i) om ?_ (fun j hj=> ?_) (fun j h4 h5=> ?_)
    ·rw [hb (spanE isDig l i-i) om,show i+(spanE isDig l i-i)=spanE isDig l i from by omega];exact h3.2.1
    ·rw [hb j om];exact spanE_dig (i:=i) (i+j) om om
    ·rw [hb j om];exact spanE_dig (i:=spanE isDig l i+1) (i+j) om om
   ·refine .all fun j hj=> ?_
    rw [hb j om];exact spanE_dig (i:=i) (i+j) om om
 split at h
 ·rename_i hc
  injection h with hk he
  subst hk he
  exact .sgn rfl (by dsimp only;omega) (by dsimp only;rw [hb 0 om];exact hc)
 ·cases h
def LexAll (l:List TK):Prop:=∀t∈l,LexOk t
theorem splitT_lex {l:BS}:∀(n i:Nat) (out:List TK),LexAll out→LexAll (splitT l n i out).2
 |0,_,_,h=>h
 |n+1,i,out,h=>by
  unfold splitT
  by_cases hi:i<l.length
  ·rw [if_pos hi]
   cases hs:stepT l i with
   |err c=>exact fun _ h=>by cases h
   |skip e=>exact splitT_lex n e out h
   |tok k e=>
    refine splitT_lex n e _ fun t ht=> ?_
    rcases List.mem_append.1 ht with e'|e'
    ·exact h t e'
    ·rw [List.mem_singleton.1 e'];exact tok_lex hi hs
  ·rw [if_neg hi];exact h
theorem splitS_lex (l:BS):LexAll (splitS l).2:=by
 unfold splitS
 split
 ·exact fun _ h=>by cases h
 ·exact splitT_lex _ _ _ fun _ h=>by cases h
theorem let_cls {n:Nat} (h:isLet n=true):isBlk n=false∧n≠35∧isIns n=true:=by
 unfold isLet at h
 simp only [Bool.or_eq_true,Bool.and_eq_true,decide_eq_true_eq] at h
 refine⟨?_,by omega,?_⟩
 ·unfold isBlk
  simp only [Bool.or_eq_false_iff,beq_eq_false_iff_ne]
  omega
 ·unfold isIns isLet
  simp only [Bool.or_eq_true,Bool.and_eq_true,decide_eq_true_eq]
  omega
theorem dig_cls {n:Nat} (h:isDig n=true):isBlk n=false∧n≠35∧isLet n=false∧isIns n=true:=by
 unfold isDig at h
 simp only [Bool.and_eq_true,decide_eq_true_eq] at h
 refine⟨?_,by omega,?_,?_⟩
 ·unfold isBlk
  simp only [Bool.or_eq_false_iff,beq_eq_false_iff_ne]
  omega
 ·unfold isLet
  simp only [Bool.or_eq_false_iff,Bool.and_eq_false_iff,decide_eq_false_iff_not]
  omega
 ·unfold isIns isDig
  simp only [Bool.or_eq_true,Bool.and_eq_true,decide_eq_true_eq]
  omega
theorem sgn_cls {n:Nat} (h:isSgn n=true):isBlk n=false∧n≠35∧isLet n=false∧isDig n=false∧n≠10:=by
 unfold isSgn at h
 simp only [Bool.or_eq_true,beq_iff_eq] at h
 rcases h with h|h|h|h|h<;>subst h<;>decide
def endOk (l:BS) (i:Nat):Prop:=i<l.length→isIns (bAt l i)=false∧bAt l i≠47
theorem relex {t:TK} (ok:LexOk t) {l:BS} {i:Nat} (hl:i+t.text.length≤l.length) (hm:∀j,j<t.text.length→bAt l (i+j)=bAt t.text j) (he:endOk l (i+t.text.length)):stepT l i=.tok t.kind (i+t.text.length):=by
 cases ok with
 |word k h0 h1 h2 h3=>
  have e0:bAt l i=bAt t.text 0:=hm 0 h0
  obtain⟨c1,c2,_⟩:=let_cls h2
  have hs:spanE isIns l i=i+t.text.length:=span_eq _ _ (fun j a b=>by have:=hm (j-i) om;rw [show i+(j-i)=j from by omega] at this;rw [this];exact h3 _ om) hl fun z=>(he z).1
  unfold stepT
  rw [e0,c1,if_neg (by simp),if_neg c2,if_pos h2,hs,if_neg om,k]
 |num k h0 hd0 h1=>
  have e0:bAt l i=bAt t.text 0:=hm 0 h0
  obtain⟨c1,c2,c3,_⟩:=dig_cls hd0
  have hB:∀j,i≤j→j<i+t.text.length→bAt l j=bAt t.text (j-i):=fun j a b=>by have:=hm (j-i) om;rwa [show i+(j-i)=j from by omega] at this
  have hn:numE l i=i+t.text.length:=by
   have hE:i+t.text.length<l.length→isDig (bAt l (i+t.text.length))=false:=fun z=>by
    have:=(he z).1
    cases hd:isDig (bAt l (i+t.text.length)) with
    |false=>rfl
    |true=>rw [(dig_cls hd).2.2.2] at this;cases this
   cases h1 with
   |all h=>
    have hs:spanE isDig l i=i+t.text.length:=span_eq _ _ (fun j a b=>by rw [hB j a b];exact h _ om) hl hE
    unfold numE
    rw [hs,if_neg]
    rintro ⟨q1,q2,_⟩
    obtain⟨z1,z2⟩:=he om
    rcases q2 with q2|q2
    ·rw [q2] at z1;revert z1;decide
    ·exact z2 q2
   |two e he' hm' h2 h3=>
    have hx:isDig (bAt l (i+e))=false:=by rw [hB _ om om,show i+e-i=e from by omega];rcases hm' with q|q<;>rw [q]<;>decide
    have hs:spanE isDig l i=i+e:=span_eq _ _ (fun j a b=>by rw [hB j a om];exact h2 _ om) om fun _=>hx
    have hs2:spanE isDig l (i+e+1)=i+e+1+(t.text.length-(e+1)):=span_eq _ _ (fun j a b=>by rw [hB j om om];exact h3 _ om om) om fun z=>by rw [show i+e+1+(t.text.length-(e+1))=i+t.text.length from by omega] at z⊢;exact hE z
    unfold numE
    rw [hs,if_pos,hs2]
    ·omega
    ·refine⟨by omega,?_,?_⟩
     ·rw [hB _ om om,show i+e-i=e from by omega];exact hm'
     ·rw [hB _ om om];exact h3 _ om om
  unfold stepT
  rw [e0,c1,if_neg (by simp),if_neg c2,c3,if_neg (by simp),if_pos hd0,hn,if_neg (fun z=>by
   have:=he z.1
   rcases z.2 with q|q
   ·rw [this.1] at q;cases q
   ·exact this.2 q),k]
 |sgn k h0 h1=>
  have e0:bAt l i=bAt t.text 0:=hm 0 om
  obtain⟨c1,c2,c3,c4,_⟩:=sgn_cls h1
  unfold stepT
  rw [e0,c1,if_neg (by simp),if_neg c2,c3,if_neg (by simp),c4,if_neg (by simp),if_pos h1,h0,k]
end Go.PN
namespace Go.PN
open Go.AI
def endB (l:BS):Prop:=l=[]∨isIns (bAt l 0)=false∧bAt l 0≠47
inductive Lx:BS→List TK→Prop where
 |nil:Lx [] []
 |blank (b:UInt8) (l:BS) (ts:List TK):isBlk b.toNat=true→Lx l ts→Lx (b::l) ts
 |note (c l:BS) (ts:List TK):(∀x∈c,x.toNat≠10)→Lx l ts→Lx (35::(c++10::l)) ts
 |tok (t:TK) (l:BS) (ts:List TK):LexOk t→endB l→Lx l ts→Lx (t.text++l) (t::ts)
theorem bAt_app {a l:BS} (i:Nat) (h:a.length=i) (j:Nat):bAt (a++l) (i+j)=bAt l j:=by
 subst h
 unfold bAt
 rw [List.getD_eq_getElem?_getD,List.getD_eq_getElem?_getD,List.getElem?_append_right om,Nat.add_sub_cancel_left]
theorem bAt_app0 {a l:BS}:bAt (a++l) a.length=bAt l 0:=by
 have:=bAt_app (a:=a) (l:=l) a.length rfl 0
 simpa using this
theorem bAt_left {a l:BS} {j:Nat} (h:j<a.length):bAt (a++l) j=bAt a j:=by
 unfold bAt
 rw [List.getD_eq_getElem?_getD,List.getD_eq_getElem?_getD,List.getElem?_append_left h]
theorem LexOk.pos {t:TK} (h:LexOk t):0<t.text.length:=by
 cases h with
 |word _ h0=>exact h0
 |num _ h0=>exact h0
 |sgn _ h0=>omega
theorem splitT_lx {m:BS} {ts:List TK} (h:Lx m ts):∀(pre:BS) (n:Nat) (out:List TK),m.length≤n→splitT (pre++m) n pre.length out=(0,out++ts):=by
 induction h with
 |nil=>
  intro pre n out _
  cases n with
  |zero=>unfold splitT;rw [List.append_nil]
  |succ n=>unfold splitT;rw [if_neg (by simp),List.append_nil]
 |blank b l ts hb _ ih=>
  intro pre n out hn
  rw [List.length_cons] at hn
  obtain⟨n,rfl⟩:∃k,n=k+1:=⟨n-1,by omega⟩
  have hs:stepT (pre++b::l) pre.length=.skip (pre.length+1):=by
   unfold stepT
   rw [bAt_app0,show bAt (b::l) 0=b.toNat from rfl,if_pos hb]
  unfold splitT
  rw [if_pos (by simp),hs]
  have:=ih (pre++[b]) n out om
  rw [List.append_assoc,List.length_append] at this
  exact this
 |note c l ts hc _ ih=>
  intro pre n out hn
  rw [List.length_cons,List.length_append,List.length_cons] at hn
  obtain⟨n,rfl⟩:∃k,n=k+2:=⟨n-2,by omega⟩
  have hsp:spanE (fun b=>b !=10) (pre++35::(c++10::l)) pre.length=pre.length+(c.length+1):=by
   refine span_eq _ _ (fun j a b=> ?_) (by simp) fun _=> ?_
   ·have e:=bAt_app (a:=pre) (l:=35::(c++10::l)) pre.length rfl (j-pre.length)
    rw [show pre.length+(j-pre.length)=j from by omega] at e
    rw [e]
    by_cases h0:j=pre.length
    ·rw [show j-pre.length=0 from by omega];rfl
    ·obtain⟨k,hk⟩:∃k,j-pre.length=k+1:=⟨j-pre.length-1,by omega⟩
     rw [hk]
     have e2:bAt (35::(c++10::l)) (k+1)=bAt (c++10::l) k:=rfl
     have hk2:k<c.length:=by omega
     rw [e2,bAt_left hk2,bAt_get hk2]
     simpa using hc _ (List.getElem_mem hk2)
   ·rw [bAt_app (a:=pre) pre.length rfl (c.length+1)]
    have e2:bAt (35::(c++10::l)) (c.length+1)=bAt (c++10::l) c.length:=rfl
    rw [e2,bAt_app0]
    rfl
  have hs:stepT (pre++35::(c++10::l)) pre.length=.skip (pre.length+(c.length+1)):=by
   unfold stepT
   rw [bAt_app0,show bAt (35::(c++10::l)) 0=35 from rfl,if_neg (by decide),if_pos rfl,hsp]
  have e3:pre++35::(c++10::l)=(pre++35::c)++10::l:=by simp
  have e4:(pre++35::c).length=pre.length+(c.length+1):=by simp
  have hs2:stepT (pre++35::(c++10::l)) (pre.length+(c.length+1))=.skip (pre.length+(c.length+1)+1):=by
   unfold stepT
   rw [e3,←e4,bAt_app0,if_pos (show isBlk (bAt (10::l) 0)=true from rfl)]
  have hlen:(pre++35::(c++10::l)).length=pre.length+(c.length+1)+1+l.length:=by simp;omega
  unfold splitT
  rw [if_pos om,hs]
  show splitT _ (n+1) _ out=_
  unfold splitT
  rw [if_pos om,hs2]
  have:=ih (pre++35::c++[10]) n out om
  rw [List.length_append,e4,List.append_assoc,List.singleton_append,←e3] at this
  exact this
 |tok t l ts hok he _ ih=>
  intro pre n out hn
  have hp:=hok.pos
  rw [List.length_append] at hn
  obtain⟨n,rfl⟩:∃k,n=k+1:=⟨n-1,by omega⟩
  have hs:stepT (pre++(t.text++l)) pre.length=.tok t.kind (pre.length+t.text.length):=by
   refine relex hok (by simp) (fun j hj=> ?_) fun hlt=> ?_
   ·rw [bAt_app (a:=pre) pre.length rfl j,bAt_left hj]
   ·rw [bAt_app (a:=pre) pre.length rfl,bAt_app0]
    rcases he with e|e
    ·subst e;simp at hlt
    ·exact e
  have hc:cutS (pre++(t.text++l)) pre.length (pre.length+t.text.length)=t.text:=by
   unfold cutS
   rw [List.drop_left,Nat.add_sub_cancel_left,List.take_left]
  unfold splitT
  rw [if_pos (by simp;omega),hs]
  dsimp only
  rw [hc]
  have:=ih (pre++t.text) n (out++[t]) om
  rw [List.append_assoc,List.length_append,List.append_assoc] at this
  exact this
theorem splitS_lx {m:BS} {ts:List TK} (h:Lx m ts) (hl:m.length≤65536):splitS m=(0,ts):=by
 unfold splitS
 rw [if_neg om]
 have:=splitT_lx h [] m.length [] (Nat.le_refl _)
 simpa using this
def txLen (l:List TK):Nat:=(l.map fun t=>t.text.length).sum
theorem txLen_snoc (l:List TK) (t:TK):txLen (l++[t])=txLen l+t.text.length:=by unfold txLen;simp
theorem splitT_tx {l:BS} (B:Nat):∀(n i:Nat) (out:List TK),txLen out+(l.length-i)≤B→txLen (splitT l n i out).2≤B
 |0,_,_,h=>by unfold splitT;dsimp only;omega
 |n+1,i,out,h=>by
  unfold splitT
  by_cases hi:i<l.length
  ·rw [if_pos hi]
   cases hs:stepT l i with
   |err c=>exact Nat.zero_le _
   |skip e=>
    have:=stepT_skip hi hs
    exact splitT_tx B n e out om
   |tok k e=>
    have hh:=stepT_tok hi hs
    refine splitT_tx B n e _ ?_
    rw [txLen_snoc,show(TK.mk k (cutS l i e)).text.length=e-i from cutS_len hh.2]
    omega
  ·rw [if_neg hi];dsimp only;omega
theorem splitS_tx (l:BS):txLen (splitS l).2≤l.length:=by
 unfold splitS
 split
 ·exact Nat.zero_le _
 ·exact splitT_tx l.length _ _ _ (by simp [txLen])
theorem splitS_n (l:BS):(splitS l).2.length≤l.length:=by
 unfold splitS
 split
 ·exact Nat.zero_le _
 ·exact splitT_len l.length _ _ _ (by simp)
end Go.PN
namespace Go.PN
open Go.AI
variable {α β : Type}
def Ext (st:Bool) (f:PS→α×PS):Prop:=∀l x,(f ⟨l,0⟩).2.e=20∨(st=false∧(f ⟨l,0⟩).2.e=0∧(f ⟨l,0⟩).2.l=[])∨
 ((f ⟨l++x,0⟩).2=⟨(f ⟨l,0⟩).2.l++x,(f ⟨l,0⟩).2.e⟩∧((f ⟨l,0⟩).2.e=0→(f ⟨l++x,0⟩).1=(f ⟨l,0⟩).1))
def Nl (st:Bool) (f:PS→α×PS):Prop:=(f ⟨[],0⟩).2.e=20∨(st=false∧(f ⟨[],0⟩).2.e=0)
theorem nil_l {f:PS→α×PS} (hf:Rdr f):(f ⟨[],0⟩).2.l=[]:=by
 have:=hf.suf ⟨[],0⟩
 exact List.suffix_nil.1 this
theorem ps_eta (s:PS) (h:s.e=0):s=⟨s.l,0⟩:=by cases s;simp at h;subst h;rfl
theorem Ext.bnd {a b:Bool} {f:PS→α×PS} {k:α→PS→β×PS} (hf:Ext a f) (hk:∀v,Ext b (k v)) (hn:a=true∨∀v,Nl b (k v)) (rk:∀v,Rdr (k v)):Ext b (PN.bnd f k):=by
 intro l x
 show(k (f ⟨l,0⟩).1 (f ⟨l,0⟩).2).2.e=20∨(b=false∧(k (f ⟨l,0⟩).1 (f ⟨l,0⟩).2).2.e=0∧(k (f ⟨l,0⟩).1 (f ⟨l,0⟩).2).2.l=[])∨((k (f ⟨l++x,0⟩).1 (f ⟨l++x,0⟩).2).2=⟨(k (f ⟨l,0⟩).1 (f ⟨l,0⟩).2).2.l++x,(k (f ⟨l,0⟩).1 (f ⟨l,0⟩).2).2.e⟩∧((k (f ⟨l,0⟩).1 (f ⟨l,0⟩).2).2.e=0→(k (f ⟨l++x,0⟩).1 (f ⟨l++x,0⟩).2).1=(k (f ⟨l,0⟩).1 (f ⟨l,0⟩).2).1))
 have h:=hf l x
 generalize f ⟨l,0⟩=r at*
 generalize f ⟨l++x,0⟩=q at*
 obtain⟨rv,rl,re⟩:=r
 dsimp only at h⊢
 rcases h with h|⟨h1,h2,h3⟩|⟨h1,h2⟩
 ·left
  rw [(rk rv).stk _ (show re≠0 by omega)]
  exact h
 ·subst h2 h3
  rcases hn with hn|hn
  ·rw [h1] at hn;cases hn
  rcases hn rv with h|⟨h,h'⟩
  ·exact .inl h
  ·exact .inr (.inl ⟨h,h',nil_l (rk rv)⟩)
 ·by_cases e0:re=0
  ·subst e0
   rw [h1,h2 rfl]
   exact hk rv rl x
  ·right;right
   rw [(rk rv).stk _ e0,h1,(rk _).stk _ e0]
   exact⟨rfl,fun h=>absurd h e0⟩
theorem Nl.bnd {a b:Bool} {f:PS→α×PS} {k:α→PS→β×PS} (hf:Nl a f) (rf:Rdr f) (hk:∀v,Nl b (k v)) (rk:∀v,Rdr (k v)):Nl b (PN.bnd f k):=by
 rcases hf with h|⟨_,h⟩
 ·left
  show(k (f ⟨[],0⟩).1 (f ⟨[],0⟩).2).2.e=20
  rw [(rk _).stk _ om]
  exact h
 ·have e:(f ⟨[],0⟩).2=⟨[],0⟩:=by rw [ps_eta _ h,nil_l rf]
  have:=hk (f ⟨[],0⟩).1
  unfold Nl at this⊢
  show(k (f ⟨[],0⟩).1 (f ⟨[],0⟩).2).2.e=20∨(b=false∧(k (f ⟨[],0⟩).1 (f ⟨[],0⟩).2).2.e=0)
  rw [e]
  exact this
def HO (c:PS→Bool):Prop:=∀t l x,c ⟨t::l,0⟩=c ⟨t::(l++x),0⟩
theorem HO.or {c d:PS→Bool} (h:HO c) (k:HO d):HO fun s=>c s||d s:=fun t l x=>by dsimp only;rw [h t l x,k t l x]
theorem HO.not {c:PS→Bool} (h:HO c):HO fun s=> !c s:=fun t l x=>by dsimp only;rw [h t l x]
end Go.PN
namespace Go.PN
open Go.AI
variable {α β : Type}
theorem Ext.any {b:Bool} {f:PS→α×PS} (h:Ext true f):Ext b f:=fun l x=>by
 rcases h l x with h|h|h
 ·exact .inl h
 ·cases h.1
 ·exact .inr (.inr h)
end Go.PN
namespace Go.PN
open Go.AI
theorem take_snoc {α:Type} (d:α) {l:List α} {i:Nat} (h:i<l.length):l.take (i+1)=l.take i++[l.getD i d]:=by
 rw [List.take_succ_eq_append_getElem h,List.getD_eq_getElem?_getD,List.getElem?_eq_getElem h];rfl
theorem txLen_take (l:List TK) (n:Nat):txLen (l.take n)≤txLen l:=by
 unfold txLen
 rw [List.map_take]
 generalize l.map (fun t=>t.text.length)=m
 induction m generalizing n with
 |nil=>simp
 |cons x m ih=>
  cases n with
  |zero=>simp
  |succ n=>have:=ih n;simp only [List.take_succ_cons,List.sum_cons];omega
theorem tx_mem {l:List TK} {t:TK} (h:t∈l):t.text.length≤txLen l:=by
 unfold txLen
 induction l with
 |nil=>cases h
 |cons x l ih=>
  rw [List.map_cons,List.sum_cons]
  rcases List.mem_cons.1 h with e|e
  ·subst e;omega
  ·have:=ih e;omega
end Go.PN

