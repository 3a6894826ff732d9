/- Parts of one proof, laid by a program. -/
import Derived.Test.YteehccacfedolaaGreatP00
import Derived.Test.YteehccacfedolaaGreatP11
set_option linter.unusedSimpArgs false
set_option linter.unusedVariables false
set_option maxRecDepth 100000
set_option maxHeartbeats 12800000
namespace Go.Proofs.YteehccacfedolaaGreat
open Go.AI Go.PN
attribute [local irreducible] aw Fa Fh DrK
theorem event22_fa (m:MdD) (n:BS) (hl:m.events.length≤1099511627776):Fa Tryz.prog 105 [.agg (mdc true m),.c (.str (sB n))] (.c (.int .i64 (evI m n))):=by
 refine fa_of_body Tryz.func105 rfl rfl (by simp [Tryz.ntmps105]) fun C hC=> ?_
 simp only [initS,Nat.reduceAdd]
 repeat' first|refine yA1 o0 ?_|refine zW o0 ?_|refine yP o0 ?_|refine yN o0 ?_|refine zC o0 (fun hb=>?_) fun hb=>?_|refine zG o0 (fun hb=>?_) fun hb=>?_|refine zD o0 (fun hb=>?_) fun hb=>?_
 refine xB fun g2 hn_g2=>?_
 repeat' first|refine yA1 hn_g2 ?_|refine zW hn_g2 ?_|refine yP hn_g2 ?_|refine yN hn_g2 ?_|refine zC hn_g2 (fun hb=>?_) fun hb=>?_|refine zG hn_g2 (fun hb=>?_) fun hb=>?_|refine zD hn_g2 (fun hb=>?_) fun hb=>?_
 refine aw_lp (fun i:Nat=>[(1,.c (.str (sB n))),(2,.c (.optr g2 0)),(8,.c (evs true m.events)),(9,.c (.int .i64 m.events.length)),(10,.c (.int .i64 i))]) (fun _=>[(g2,.cells 30 8 (ofL (mdc true m)))]) (fun i=>i≤m.events.length∧∀j,j<i→((fun x:EvD=>x.name==n) (m.events.getD j ev0))=false) (fun i=>m.events.length-i) 0 (zB hn_g2) zZ ⟨Nat.zero_le _,fun j hj=>absurd hj om⟩ ?_
 rintro i ⟨hi,hn⟩
 repeat' first|refine yA1 hn_g2 ?_|refine zW hn_g2 ?_|refine yP hn_g2 ?_|refine yN hn_g2 ?_|refine zC hn_g2 (fun hb=>?_) fun hb=>?_|refine zG hn_g2 (fun hb=>?_) fun hb=>?_|refine zD hn_g2 (fun hb=>?_) fun hb=>?_
 ·have hi':=hb
  refine yA hn_g2 fun g6 hn_g6=>?_
  all_goals try(have Z:=(oj hn_g2 hn_g6);(repeat' first|refine yA1 Z ?_|refine zW Z ?_|refine yP Z ?_|refine yN Z ?_|refine zC Z (fun hb=>?_) fun hb=>?_|refine zG Z (fun hb=>?_) fun hb=>?_|refine zD Z (fun hb=>?_) fun hb=>?_);all_goals clear Z)
  ·rw [show evI m n=(i:Int) from fidx_at ev0 hi' (by simpa using hb) hn]
   refine yT hC (oj hn_g2 hn_g6) ?_
   exact .one (.c (.int _ _))
  ·refine aw_stop ⟨i+1,?_⟩
   have hn':∀j,j<i+1→((fun x:EvD=>x.name==n) (m.events.getD j ev0))=false:=fun j hj=>by
    by_cases e:j=i
    ·subst e;simpa using hb
    ·exact hn j om
   and_intros
   all_goals first|rfl|exact List.Sublist.refl _|exact List.sublist_cons_self _ _|exact True.intro|exact hn'|omega
 ·rw [show evI m n= -1 from fidx_no ev0 fun j hj=>hn j om]
  refine yT hC hn_g2 ?_
  exact .one (.c (.int _ _))
theorem house22_fa (m:MdD) (n:BS) (hl:m.houses.length≤1099511627776):Fa Tryz.prog 108 [.agg (mdc true m),.c (.str (sB n))] (.c (.int .i64 (hsI m n))):=by
 refine fa_of_body Tryz.func108 rfl rfl (by simp [Tryz.ntmps108]) fun C hC=> ?_
 simp only [initS,Nat.reduceAdd]
 repeat' first|refine yA1 o0 ?_|refine zW o0 ?_|refine yP o0 ?_|refine yN o0 ?_|refine zC o0 (fun hb=>?_) fun hb=>?_|refine zG o0 (fun hb=>?_) fun hb=>?_|refine zD o0 (fun hb=>?_) fun hb=>?_
 refine xB fun g2 hn_g2=>?_
 repeat' first|refine yA1 hn_g2 ?_|refine zW hn_g2 ?_|refine yP hn_g2 ?_|refine yN hn_g2 ?_|refine zC hn_g2 (fun hb=>?_) fun hb=>?_|refine zG hn_g2 (fun hb=>?_) fun hb=>?_|refine zD hn_g2 (fun hb=>?_) fun hb=>?_
 refine aw_lp (fun i:Nat=>[(1,.c (.str (sB n))),(2,.c (.optr g2 0)),(8,.c (hss true m.houses)),(9,.c (.int .i64 m.houses.length)),(10,.c (.int .i64 i))]) (fun _=>[(g2,.cells 30 8 (ofL (mdc true m)))]) (fun i=>i≤m.houses.length∧∀j,j<i→((fun x:HsD=>x.name==n) (m.houses.getD j hs0))=false) (fun i=>m.houses.length-i) 0 (zB hn_g2) zZ ⟨Nat.zero_le _,fun j hj=>absurd hj om⟩ ?_
 rintro i ⟨hi,hn⟩
 repeat' first|refine yA1 hn_g2 ?_|refine zW hn_g2 ?_|refine yP hn_g2 ?_|refine yN hn_g2 ?_|refine zC hn_g2 (fun hb=>?_) fun hb=>?_|refine zG hn_g2 (fun hb=>?_) fun hb=>?_|refine zD hn_g2 (fun hb=>?_) fun hb=>?_
 ·have hi':=hb
  refine yA hn_g2 fun g6 hn_g6=>?_
  all_goals try(have Z:=(oj hn_g2 hn_g6);(repeat' first|refine yA1 Z ?_|refine zW Z ?_|refine yP Z ?_|refine yN Z ?_|refine zC Z (fun hb=>?_) fun hb=>?_|refine zG Z (fun hb=>?_) fun hb=>?_|refine zD Z (fun hb=>?_) fun hb=>?_);all_goals clear Z)
  ·rw [show hsI m n=(i:Int) from fidx_at hs0 hi' (by simpa using hb) hn]
   refine yT hC (oj hn_g2 hn_g6) ?_
   exact .one (.c (.int _ _))
  ·refine aw_stop ⟨i+1,?_⟩
   have hn':∀j,j<i+1→((fun x:HsD=>x.name==n) (m.houses.getD j hs0))=false:=fun j hj=>by
    by_cases e:j=i
    ·subst e;simpa using hb
    ·exact hn j om
   and_intros
   all_goals first|rfl|exact List.Sublist.refl _|exact List.sublist_cons_self _ _|exact True.intro|exact hn'|omega
 ·rw [show hsI m n= -1 from fidx_no hs0 fun j hj=>hn j om]
  refine yT hC hn_g2 ?_
  exact .one (.c (.int _ _))
theorem page22_fa (m:MdD) (n:BS) (hl:m.pages.length≤1099511627776):Fa Tryz.prog 109 [.agg (mdc true m),.c (.str (sB n))] (.c (.int .i64 (pgI m n))):=by
 refine fa_of_body Tryz.func109 rfl rfl (by simp [Tryz.ntmps109]) fun C hC=> ?_
 simp only [initS,Nat.reduceAdd]
 repeat' first|refine yA1 o0 ?_|refine zW o0 ?_|refine yP o0 ?_|refine yN o0 ?_|refine zC o0 (fun hb=>?_) fun hb=>?_|refine zG o0 (fun hb=>?_) fun hb=>?_|refine zD o0 (fun hb=>?_) fun hb=>?_
 refine xB fun g2 hn_g2=>?_
 repeat' first|refine yA1 hn_g2 ?_|refine zW hn_g2 ?_|refine yP hn_g2 ?_|refine yN hn_g2 ?_|refine zC hn_g2 (fun hb=>?_) fun hb=>?_|refine zG hn_g2 (fun hb=>?_) fun hb=>?_|refine zD hn_g2 (fun hb=>?_) fun hb=>?_
 refine aw_lp (fun i:Nat=>[(1,.c (.str (sB n))),(2,.c (.optr g2 0)),(8,.c (pgs true m.pages)),(9,.c (.int .i64 m.pages.length)),(10,.c (.int .i64 i))]) (fun _=>[(g2,.cells 30 8 (ofL (mdc true m)))]) (fun i=>i≤m.pages.length∧∀j,j<i→((fun x:PgD=>x.name==n) (m.pages.getD j pg0))=false) (fun i=>m.pages.length-i) 0 (zB hn_g2) zZ ⟨Nat.zero_le _,fun j hj=>absurd hj om⟩ ?_
 rintro i ⟨hi,hn⟩
 repeat' first|refine yA1 hn_g2 ?_|refine zW hn_g2 ?_|refine yP hn_g2 ?_|refine yN hn_g2 ?_|refine zC hn_g2 (fun hb=>?_) fun hb=>?_|refine zG hn_g2 (fun hb=>?_) fun hb=>?_|refine zD hn_g2 (fun hb=>?_) fun hb=>?_
 ·have hi':=hb
  refine yA hn_g2 fun g6 hn_g6=>?_
  all_goals try(have Z:=(oj hn_g2 hn_g6);(repeat' first|refine yA1 Z ?_|refine zW Z ?_|refine yP Z ?_|refine yN Z ?_|refine zC Z (fun hb=>?_) fun hb=>?_|refine zG Z (fun hb=>?_) fun hb=>?_|refine zD Z (fun hb=>?_) fun hb=>?_);all_goals clear Z)
  ·rw [show pgI m n=(i:Int) from fidx_at pg0 hi' (by simpa using hb) hn]
   refine yT hC (oj hn_g2 hn_g6) ?_
   exact .one (.c (.int _ _))
  ·refine aw_stop ⟨i+1,?_⟩
   have hn':∀j,j<i+1→((fun x:PgD=>x.name==n) (m.pages.getD j pg0))=false:=fun j hj=>by
    by_cases e:j=i
    ·subst e;simpa using hb
    ·exact hn j om
   and_intros
   all_goals first|rfl|exact List.Sublist.refl _|exact List.sublist_cons_self _ _|exact True.intro|exact hn'|omega
 ·rw [show pgI m n= -1 from fidx_no pg0 fun j hj=>hn j om]
  refine yT hC hn_g2 ?_
  exact .one (.c (.int _ _))
theorem gate22_fa (l:List GtD) (n:BS) (hl:l.length≤1099511627776):Fa Tryz.prog 111 [.c (gts true l),.c (.str (sB n))] (.c (.int .i64 (gtI l n))):=by
 refine fa_of_body Tryz.func111 rfl rfl (by simp [Tryz.ntmps111]) fun C hC=> ?_
 simp only [initS,Nat.reduceAdd]
 repeat' first|refine yA1 o0 ?_|refine zW o0 ?_|refine yP o0 ?_|refine yN o0 ?_|refine zC o0 (fun hb=>?_) fun hb=>?_|refine zG o0 (fun hb=>?_) fun hb=>?_|refine zD o0 (fun hb=>?_) fun hb=>?_
 refine aw_lp (fun i:Nat=>[(1,.c (.str (sB n))),(7,.c (gts true l)),(8,.c (.int .i64 l.length)),(9,.c (.int .i64 i))]) (fun _=>[]) (fun i=>i≤l.length∧∀j,j<i→((fun x:GtD=>x.name==n) (l.getD j gt0))=false) (fun i=>l.length-i) 0 eB zZ ⟨Nat.zero_le _,fun j hj=>absurd hj om⟩ ?_
 rintro i ⟨hi,hn⟩
 repeat' first|refine yA1 o0 ?_|refine zW o0 ?_|refine yP o0 ?_|refine yN o0 ?_|refine zC o0 (fun hb=>?_) fun hb=>?_|refine zG o0 (fun hb=>?_) fun hb=>?_|refine zD o0 (fun hb=>?_) fun hb=>?_
 ·have hi':=hb
  refine xA fun g6 hn_g6=>?_
  repeat' first|refine yA1 hn_g6 ?_|refine zW hn_g6 ?_|refine yP hn_g6 ?_|refine yN hn_g6 ?_|refine zC hn_g6 (fun hb=>?_) fun hb=>?_|refine zG hn_g6 (fun hb=>?_) fun hb=>?_|refine zD hn_g6 (fun hb=>?_) fun hb=>?_
  ·rw [show gtI l n=(i:Int) from fidx_at gt0 hi' (by simpa using hb) hn]
   refine yT hC hn_g6 ?_
   exact .one (.c (.int _ _))
  ·refine aw_stop ⟨i+1,?_⟩
   have hn':∀j,j<i+1→((fun x:GtD=>x.name==n) (l.getD j gt0))=false:=fun j hj=>by
    by_cases e:j=i
    ·subst e;simpa using hb
    ·exact hn j om
   and_intros
   all_goals first|rfl|exact List.Sublist.refl _|exact List.sublist_cons_self _ _|exact True.intro|exact hn'|omega
 ·rw [show gtI l n= -1 from fidx_no gt0 fun j hj=>hn j om]
  refine xT hC ?_
  exact .one (.c (.int _ _))
theorem gates22_fa (m:MdD) (k:Nat) (hk:k≤m.pages.length) (hl:m.pages.length≤1099511627776):Fa Tryz.prog 63 [.agg (mdc true m),.c (.int .i64 ((k:Int)-1))] (.c (gts true (gtsK m k))):=by
 refine fa_of_body Tryz.func63 rfl rfl (by simp [Tryz.ntmps63]) fun C hC=> ?_
 simp only [initS,Nat.reduceAdd]
 repeat' first|refine yA1 o0 ?_|refine zW o0 ?_|refine yP o0 ?_|refine yN o0 ?_|refine zC o0 (fun hb=>?_) fun hb=>?_|refine zG o0 (fun hb=>?_) fun hb=>?_|refine zD o0 (fun hb=>?_) fun hb=>?_
 refine xB fun g1 hn_g1=>?_
 repeat' first|refine yA1 hn_g1 ?_|refine zW hn_g1 ?_|refine yP hn_g1 ?_|refine yN hn_g1 ?_|refine zC hn_g1 (fun hb=>?_) fun hb=>?_|refine zG hn_g1 (fun hb=>?_) fun hb=>?_|refine zD hn_g1 (fun hb=>?_) fun hb=>?_
 ·have h0:k=0:=by omega
  subst h0
  refine yT hC hn_g1 ?_
  exact .one (.c ler_gts)
 ·obtain⟨j,rfl⟩:∃j,k=j+1:=⟨k-1,by omega⟩
  refine yT hC hn_g1 ?_
  exact .one (.c ler_gts)
end Go.Proofs.YteehccacfedolaaGreat
namespace Go.PN
open Go.AI
def fndA (m:MdD) (k:Nat) (n:BS):Int×Int×Int:=if evI m n≥0 then(0,0,evI m n) else if hsI m n≥0 then(1,0,hsI m n) else if gtI (gtsK m k) n≥0 then(2,(k:Int)-1,gtI (gtsK m k) n) else(-1,0,0)
def fndP (m:MdD) (k:Nat) (n:BS):Int×Int×Int:=if 0<n.length∧bAt n 0=64 then(if pgI m (n.drop 1)<0 then(-1,0,0) else fndA m (pgI m (n.drop 1)+1).toNat (m.pages.getD (pgI m (n.drop 1)).toNat pg0).top) else fndA m k n
def numK (m:MdD):Nat→Int
 |0=>0
 |k+1=>numK m k+(gtsK m k).length
def bndK (k:Int):Int×Int:=if k=0∨k=1∨k=4∨k=2 then(1,16) else if k=3 then(1,1) else if k=5 then(2,2) else if k=6∨k=7∨k=8 then(2,16) else(0,0)
theorem gts_le {m:MdD} (hl:∀k,(gtsK m k).length≤1048576):∀k,0≤numK m k∧numK m k≤1048576*k
 |0=>⟨Int.le_refl _,Int.le_refl _⟩
 |k+1=>by
  have h1:=gts_le hl k
  have h2:=hl k
  unfold numK
  omega
end Go.PN
namespace Go.Proofs.YteehccacfedolaaGreat
open Go.AI Go.PN
attribute [local irreducible] aw Fa Fh DrK
theorem findA_fa (m:MdD) (k:Nat) (n:BS) (hk:k≤m.pages.length) (hev:m.events.length≤1099511627776) (hhs:m.houses.length≤1099511627776) (hpl:m.pages.length≤1099511627776) (hgl:(gtsK m k).length≤1099511627776) (hn:n.length≤1099511627776) (h64:¬(0<n.length∧bAt n 0=64)):Fa Tryz.prog 141 [.agg (mdc true m),.c (.int .i64 ((k:Int)-1)),.c (.str (sB n))] (.tup [.c (.int .i64 (fndA m k n).1),.c (.int .i64 (fndA m k n).2.1),.c (.int .i64 (fndA m k n).2.2)]):=by
 have f1:=event22_fa m n hev
 have f2:=house22_fa m n hhs
 have f3:=gates22_fa m k hk hpl
 have f4:=gate22_fa (gtsK m k) n hgl
 refine fa_of_body Tryz.func141 rfl rfl (by simp [Tryz.ntmps141]) fun C hC=> ?_
 simp only [initS,Nat.reduceAdd]
 repeat' first|refine yA1 o0 ?_|refine zW o0 ?_|refine yP o0 ?_|refine yN o0 ?_|refine zC o0 (fun hb=>?_) fun hb=>?_|refine zG o0 (fun hb=>?_) fun hb=>?_|refine zD o0 (fun hb=>?_) fun hb=>?_
 refine xB fun g1 hn_g1=>?_
 repeat' first|refine yA1 hn_g1 ?_|(refine yC2 hn_g1 (f1) ?_)|(refine yD2 hn_g1 (f1) ?_)|(refine yC2 hn_g1 (f2) ?_)|(refine yD2 hn_g1 (f2) ?_)|(refine yC2 hn_g1 (f3) ?_)|(refine yD2 hn_g1 (f3) ?_)|(refine yC2 hn_g1 (f4) ?_)|(refine yD2 hn_g1 (f4) ?_)|refine zW hn_g1 ?_|refine yP hn_g1 ?_|refine yN hn_g1 ?_|refine zC hn_g1 (fun hb=>?_) fun hb=>?_|refine zG hn_g1 (fun hb=>?_) fun hb=>?_|refine zD hn_g1 (fun hb=>?_) fun hb=>?_
 all_goals clear f1 f2 f3 f4
 ·exfalso;exact h64 (by simp_all)
 all_goals
  refine yT hC hn_g1 ?_
  refine .tup ⟨.c (ler_int ?_),.c (ler_int ?_),.c (ler_int ?_),trivial⟩
  all_goals
   unfold fndA
   repeat' split
   all_goals first|rfl|(exfalso;simp_all;done)|(exfalso;simp_all;omega)
theorem findP_fa (m:MdD) (k:Nat) (n:BS) (hk:k≤m.pages.length) (hev:m.events.length≤1099511627776) (hhs:m.houses.length≤1099511627776) (hpl:m.pages.length≤1099511627776) (hgl:∀k,(gtsK m k).length≤1099511627776) (hn:n.length≤1099511627776)
  (htp:∀q:Nat,q<m.pages.length→(m.pages.getD q pg0).top.length≤1099511627776∧¬(0<(m.pages.getD q pg0).top.length∧bAt (m.pages.getD q pg0).top 0=64)):Fa Tryz.prog 141 [.agg (mdc true m),.c (.int .i64 ((k:Int)-1)),.c (.str (sB n))] (.tup [.c (.int .i64 (fndP m k n).1),.c (.int .i64 (fndP m k n).2.1),.c (.int .i64 (fndP m k n).2.2)]):=by
 by_cases h64:0<n.length∧bAt n 0=64
 ·have f1:=page22_fa m (cutS n 1 n.length) hpl
  rw [cutS_drop] at f1
  have e1:fndP m k n=if pgI m (n.drop 1)<0 then(-1,0,0) else fndA m (pgI m (n.drop 1)+1).toNat (m.pages.getD (pgI m (n.drop 1)).toNat pg0).top:=if_pos h64
  rw [e1]
  have hg:=fidx_ge (fun x:PgD=>x.name==n.drop 1) m.pages
  have hlt:=fidx_lt (fun x:PgD=>x.name==n.drop 1) m.pages
  have hd:∀(c:Prop) [Decidable c],c∨¬c:=fun c _=>Decidable.em c
  obtain⟨h0,h1⟩:=h64
  refine fa_of_body Tryz.func141 rfl rfl (by simp [Tryz.ntmps141]) fun C hC=> ?_
  simp only [initS,Nat.reduceAdd]
  repeat' first|refine yA1 o0 ?_|refine zW o0 ?_|refine yP o0 ?_|refine yN o0 ?_|refine zC o0 (fun hb=>?_) fun hb=>?_|refine zG o0 (fun hb=>?_) fun hb=>?_|refine zD o0 (fun hb=>?_) fun hb=>?_
  refine xB fun g1 hn_g1=>?_
  repeat' first|refine yA1 hn_g1 ?_|refine zW hn_g1 ?_|refine yP hn_g1 ?_|refine yN hn_g1 ?_|refine zC hn_g1 (fun hb=>?_) fun hb=>?_|refine zG hn_g1 (fun hb=>?_) fun hb=>?_|refine zD hn_g1 (fun hb=>?_) fun hb=>?_
  ·refine aw_dr 4 ty_mixed (by kernel_rfl) ?_
   repeat' first|refine yA1 hn_g1 ?_|refine zW hn_g1 ?_|refine yP hn_g1 ?_|refine yN hn_g1 ?_|refine zC hn_g1 (fun hb=>?_) fun hb=>?_|refine zG hn_g1 (fun hb=>?_) fun hb=>?_|refine zD hn_g1 (fun hb=>?_) fun hb=>?_
   rw [cutS_drop]
   repeat' first|refine yA1 hn_g1 ?_|(refine yC2 hn_g1 (f1) ?_)|(refine yD2 hn_g1 (f1) ?_)|refine zW hn_g1 ?_|refine yP hn_g1 ?_|refine yN hn_g1 ?_|refine zC hn_g1 (fun hb=>?_) fun hb=>?_|refine zG hn_g1 (fun hb=>?_) fun hb=>?_|refine zD hn_g1 (fun hb=>?_) fun hb=>?_
   ·refine yT hC hn_g1 ?_
    rw [if_pos hb]
    exact .tup ⟨.c (.int _ _),.c (.int _ _),.c (.int _ _),trivial⟩
   have hq0:¬pgI m (n.drop 1)<0:=hb
   obtain⟨q,hq⟩:∃q:Nat,pgI m (n.drop 1)=q:=⟨(pgI m (n.drop 1)).toNat,by omega⟩
   have hql:q<m.pages.length:=by
    have:(pgI m (n.drop 1))<m.pages.length:=hlt
    omega
   obtain⟨t1,t2⟩:=htp q hql
   have f2:=findA_fa m (q+1) (m.pages.getD q pg0).top om hev hhs hpl (hgl _) t1 t2
   rw [show((q+1:Nat):Int)-1=q from by omega] at f2
   rw [if_neg hq0,hq,show((q:Int)+1).toNat=q+1 from by omega,Int.toNat_natCast]
   refine aw_dr 14 ty_mixed (by kernel_rfl) ?_
   repeat' first|refine yA1 hn_g1 ?_|(refine yC2 hn_g1 (f2) ?_)|(refine yD2 hn_g1 (f2) ?_)|refine zW hn_g1 ?_|refine yP hn_g1 ?_|refine yN hn_g1 ?_|refine zC hn_g1 (fun hb=>?_) fun hb=>?_|refine zG hn_g1 (fun hb=>?_) fun hb=>?_|refine zD hn_g1 (fun hb=>?_) fun hb=>?_
   refine yT hC hn_g1 ?_
   exact .tup ⟨.c (.int _ _),.c (.int _ _),.c (.int _ _),trivial⟩
  all_goals (exfalso;first|omega|exact hb h1)
 ·rw [show fndP m k n=fndA m k n from if_neg h64]
  exact findA_fa m k n hk hev hhs hpl (hgl k) hn h64
theorem names22_fa (m:MdD) (k:Nat) (n:BS) (hk:k≤m.pages.length) (hev:m.events.length≤1099511627776) (hhs:m.houses.length≤1099511627776) (hpl:m.pages.length≤1099511627776) (hgl:(gtsK m k).length≤1099511627776) (hn:n.length≤1099511627776):Fa Tryz.prog 113 [.agg (mdc true m),.c (.int .i64 ((k:Int)-1)),.c (.str (sB n))] (.c (.bool (isInp m k n))):=by
 by_cases h64:0<n.length∧bAt n 0=64
 ·have f1:=page22_fa m (cutS n 1 n.length) hpl
  rw [cutS_drop] at f1
  rw [show isInp m k n=decide (pgI m (n.drop 1)≥0) from if_pos h64]
  obtain⟨h0,h1⟩:=h64
  refine fa_of_body Tryz.func113 rfl rfl (by simp [Tryz.ntmps113]) fun C hC=> ?_
  simp only [initS,Nat.reduceAdd]
  repeat' first|refine yA1 o0 ?_|refine zW o0 ?_|refine yP o0 ?_|refine yN o0 ?_|refine zC o0 (fun hb=>?_) fun hb=>?_|refine zG o0 (fun hb=>?_) fun hb=>?_|refine zD o0 (fun hb=>?_) fun hb=>?_
  refine xB fun g1 hn_g1=>?_
  repeat' first|refine yA1 hn_g1 ?_|refine zW hn_g1 ?_|refine yP hn_g1 ?_|refine yN hn_g1 ?_|refine zC hn_g1 (fun hb=>?_) fun hb=>?_|refine zG hn_g1 (fun hb=>?_) fun hb=>?_|refine zD hn_g1 (fun hb=>?_) fun hb=>?_
  ·refine aw_dr 6 ty_mixed (by kernel_rfl) ?_
   repeat' first|refine yA1 hn_g1 ?_|refine zW hn_g1 ?_|refine yP hn_g1 ?_|refine yN hn_g1 ?_|refine zC hn_g1 (fun hb=>?_) fun hb=>?_|refine zG hn_g1 (fun hb=>?_) fun hb=>?_|refine zD hn_g1 (fun hb=>?_) fun hb=>?_
   rw [cutS_drop]
   repeat' first|refine yA1 hn_g1 ?_|(refine yC2 hn_g1 (f1) ?_)|(refine yD2 hn_g1 (f1) ?_)|refine zW hn_g1 ?_|refine yP hn_g1 ?_|refine yN hn_g1 ?_|refine zC hn_g1 (fun hb=>?_) fun hb=>?_|refine zG hn_g1 (fun hb=>?_) fun hb=>?_|refine zD hn_g1 (fun hb=>?_) fun hb=>?_
   refine yT hC hn_g1 ?_
   exact .one (.c (.bool _))
  all_goals (exfalso;first|omega|exact hb h1)
 ·have f1:=findA_fa m k n hk hev hhs hpl hgl hn h64
  have e1:isInp m k n=decide ((fndA m k n).1≥0):=by
   have h1:=fidx_ge (fun x:EvD=>x.name==n) m.events
   unfold isInp fndA
   rw [if_neg h64]
   by_cases a:evI m n≥0
   ·rw [if_pos a];simp [a]
   by_cases b:hsI m n≥0
   ·rw [if_neg a,if_pos b];simp [b]
   by_cases c:gtI (gtsK m k) n≥0
   ·rw [if_neg a,if_neg b,if_pos c];simp [c]
   ·rw [if_neg a,if_neg b,if_neg c];simp [a,b,c]
  rw [e1]
  refine fa_of_body Tryz.func113 rfl rfl (by simp [Tryz.ntmps113]) fun C hC=> ?_
  simp only [initS,Nat.reduceAdd]
  repeat' first|refine yA1 o0 ?_|refine zW o0 ?_|refine yP o0 ?_|refine yN o0 ?_|refine zC o0 (fun hb=>?_) fun hb=>?_|refine zG o0 (fun hb=>?_) fun hb=>?_|refine zD o0 (fun hb=>?_) fun hb=>?_
  refine xB fun g1 hn_g1=>?_
  repeat' first|refine yA1 hn_g1 ?_|(refine yC2 hn_g1 (f1) ?_)|(refine yD2 hn_g1 (f1) ?_)|refine zW hn_g1 ?_|refine yP hn_g1 ?_|refine yN hn_g1 ?_|refine zC hn_g1 (fun hb=>?_) fun hb=>?_|refine zG hn_g1 (fun hb=>?_) fun hb=>?_|refine zD hn_g1 (fun hb=>?_) fun hb=>?_
  ·exfalso;exact h64 (by simp_all)
  all_goals
   refine yT hC hn_g1 ?_
   exact .one (.c (.bool _))
theorem rate22_fa (r:RD) (hw:r.wf 1073741824):Fa Tryz.prog 107 [.agg (rdc r)] (.c (.bool (rateB r))):=by
 have f1:=svalid_fa r (wf_mono hw (by decide))
 have f2:=ssign_fa r hw
 unfold rateB
 refine fa_of_body Tryz.func107 rfl rfl (by simp [Tryz.ntmps107]) fun C hC=> ?_
 simp only [initS,Nat.reduceAdd]
 repeat' first|refine yA1 o0 ?_|refine zW o0 ?_|refine yP o0 ?_|refine yN o0 ?_|refine zC o0 (fun hb=>?_) fun hb=>?_|refine zG o0 (fun hb=>?_) fun hb=>?_|refine zD o0 (fun hb=>?_) fun hb=>?_
 refine xB fun g1 hn_g1=>?_
 repeat' first|refine yA1 hn_g1 ?_|(refine yC2 hn_g1 (f1) ?_)|(refine yD2 hn_g1 (f1) ?_)|(refine yC2 hn_g1 (f2) ?_)|(refine yD2 hn_g1 (f2) ?_)|refine zW hn_g1 ?_|refine yP hn_g1 ?_|refine yN hn_g1 ?_|refine zC hn_g1 (fun hb=>?_) fun hb=>?_|refine zG hn_g1 (fun hb=>?_) fun hb=>?_|refine zD hn_g1 (fun hb=>?_) fun hb=>?_
 all_goals
  refine yT hC hn_g1 ?_
  refine .one (.c (ler_bool ?_))
  simp [hb]
theorem zero22_fa (r:RD) (hw:r.wf 1073741824):Fa Tryz.prog 112 [.agg (rdc r)] (.c (.bool (zeroB r))):=by
 unfold zeroB
 obtain⟨w1,w2⟩:r.num.length≤1073741824∧r.den.length≤1073741824:=⟨hw.2.2.1,hw.2.2.2⟩
 refine fa_of_body Tryz.func112 rfl rfl (by simp [Tryz.ntmps112]) fun C hC=> ?_
 simp only [initS,Nat.reduceAdd]
 repeat' first|refine yA1 o0 ?_|refine zW o0 ?_|refine yP o0 ?_|refine yN o0 ?_|refine zC o0 (fun hb=>?_) fun hb=>?_|refine zG o0 (fun hb=>?_) fun hb=>?_|refine zD o0 (fun hb=>?_) fun hb=>?_
 refine xB fun g1 hn_g1=>?_
 repeat' first|refine yA1 hn_g1 ?_|refine zW hn_g1 ?_|refine yP hn_g1 ?_|refine yN hn_g1 ?_|refine zC hn_g1 (fun hb=>?_) fun hb=>?_|refine zG hn_g1 (fun hb=>?_) fun hb=>?_|refine zD hn_g1 (fun hb=>?_) fun hb=>?_
 all_goals
  refine yT hC hn_g1 ?_
  refine .one (.c (ler_bool ?_))
  simp_all
theorem bounds22_fa (k:Int):Fa Tryz.prog 110 [.c (.int .i64 k)] (.tup [.c (.int .i64 (bndK k).1),.c (.int .i64 (bndK k).2)]):=by
 refine fa_of_body Tryz.func110 rfl rfl (by simp [Tryz.ntmps110]) fun C hC=> ?_
 simp only [initS,Nat.reduceAdd]
 repeat' first|refine yA1 o0 ?_|refine zW o0 ?_|refine yP o0 ?_|refine yN o0 ?_|refine zC o0 (fun hb=>?_) fun hb=>?_|refine zG o0 (fun hb=>?_) fun hb=>?_|refine zD o0 (fun hb=>?_) fun hb=>?_
 all_goals first
  |(exfalso;omega)
  |(refine xT hC ?_
    refine .tup ⟨.c (ler_int ?_),.c (ler_int ?_),trivial⟩
    all_goals
     unfold bndK
     repeat' split
     all_goals first|rfl|(exfalso;omega))
theorem number22_fa (m:MdD) (k i:Nat) (hk:k≤m.pages.length) (hpl:m.pages.length≤1048576) (hgl:∀k,(gtsK m k).length≤1048576) (hi:i≤1048576):Fa Tryz.prog 142 [.agg (mdc true m),.c (.int .i64 ((k:Int)-1)),.c (.int .i64 i)] (.c (.int .i64 (numK m k+i))):=by
 have hN:=gts_le hgl
 refine fa_of_body Tryz.func142 rfl rfl (by simp [Tryz.ntmps142]) fun C hC=> ?_
 simp only [initS,Nat.reduceAdd]
 repeat' first|refine yA1 o0 ?_|refine zW o0 ?_|refine yP o0 ?_|refine yN o0 ?_|refine zC o0 (fun hb=>?_) fun hb=>?_|refine zG o0 (fun hb=>?_) fun hb=>?_|refine zD o0 (fun hb=>?_) fun hb=>?_
 refine xB fun g1 hn_g1=>?_
 repeat' first|refine yA1 hn_g1 ?_|refine zW hn_g1 ?_|refine yP hn_g1 ?_|refine yN hn_g1 ?_|refine zC hn_g1 (fun hb=>?_) fun hb=>?_|refine zG hn_g1 (fun hb=>?_) fun hb=>?_|refine zD hn_g1 (fun hb=>?_) fun hb=>?_
 refine aw_lp (fun j:Nat=>[(1,.c (.int .i64 ((k:Int)-1))),(3,.c (.optr g1 0)),(7,.c (.int .i64 (numK m j+i))),(8,.c (.int .i64 ((j:Int)-1)))]) (fun _=>[(g1,.cells 30 8 (ofL (mdc true m)))]) (fun j=>j≤k) (fun j=>k-j) 0 (by refine yS hn_g1 ?_;and_intros<;>first|rfl|exact True.intro|exact c_int (by unfold numK;omega)) zZ (Nat.zero_le _) ?_
 intro j hj
 have f1:=gates22_fa m j om om
 have h1:=hN j
 have h2:=hgl j
 repeat' first|refine yA1 hn_g1 ?_|(refine yC2 hn_g1 (f1) ?_)|(refine yD2 hn_g1 (f1) ?_)|refine zW hn_g1 ?_|refine yP hn_g1 ?_|refine yN hn_g1 ?_|refine zC hn_g1 (fun hb=>?_) fun hb=>?_|refine zG hn_g1 (fun hb=>?_) fun hb=>?_|refine zD hn_g1 (fun hb=>?_) fun hb=>?_
 ·have hjk:j<k:=by omega
  refine aw_stop ⟨j+1,?_⟩
  have e1:numK m (j+1)=numK m j+(gtsK m j).length:=rfl
  and_intros
  all_goals first|rfl|exact List.Sublist.refl _|exact List.sublist_cons_self _ _|exact True.intro|omega|exact c_int (by rw [e1];omega)|exact c_int om
 ·have:j=k:=by omega
  subst this
  refine yT hC hn_g1 ?_
  exact .one (.c (.int _ _))
end Go.Proofs.YteehccacfedolaaGreat
namespace Go.PN
open Go.AI
theorem numK_0 {m:MdD}:∀k,0≤numK m k
 |0=>Int.le_refl _
 |k+1=>by
  have:=numK_0 (m:=m) k
  unfold numK
  omega
theorem nodesK_get {m:MdD} {k i:Nat} (hi:i<(gtsK m k).length):(nodesK m k)[i]?=some (2,(k:Int)-1,(i:Int)):=by
 unfold nodesK
 rw [List.getElem?_map,List.getElem?_range hi];rfl
theorem nodesK_ln {m:MdD} {k:Nat}:(nodesK m k).length=(gtsK m k).length:=by unfold nodesK;rw [List.length_map,List.length_range]
theorem nodesF_len {m:MdD}:∀n k,((nodesF m k n).length:Int)=numK m (k+n)-numK m k
 |0,k=>by
  show(0:Int)=numK m k-numK m k
  omega
 |n+1,k=>by
  show((nodesK m k++nodesF m (k+1) n).length:Int)=_
  have h:=nodesF_len (m:=m) n (k+1)
  have e:numK m (k+1)=numK m k+(gtsK m k).length:=rfl
  rw [List.length_append,nodesK_ln,show k+(n+1)=k+1+n from by omega]
  omega
theorem nodesF_get {m:MdD}:∀(n k0 k i x:Nat),k0≤k→k<k0+n→i<(gtsK m k).length→(x:Int)=numK m k-numK m k0+i→(nodesF m k0 n)[x]?=some (2,(k:Int)-1,(i:Int))
 |0,k0,k,i,x,h1,h2,_,_=>by omega
 |n+1,k0,k,i,x,h1,h2,h3,h4=>by
  show(nodesK m k0++nodesF m (k0+1) n)[x]?=_
  have e:numK m (k0+1)=numK m k0+(gtsK m k0).length:=rfl
  by_cases hk:k=k0
  ·subst hk
   have hx:x=i:=by omega
   subst hx
   have hl:x<(nodesK m k).length:=by rw [nodesK_ln];exact h3
   rw [List.getElem?_append_left hl,nodesK_get h3]
  ·have hm:∀d:Nat,numK m (k0+1)≤numK m (k0+1+d):=fun d=>by
    induction d with
    |zero=>exact Int.le_refl _
    |succ d ih=>
     have:numK m (k0+1+(d+1))=numK m (k0+1+d)+(gtsK m (k0+1+d)).length:=rfl
     omega
   have hm2:=hm (k-(k0+1))
   rw [show k0+1+(k-(k0+1))=k from by omega] at hm2
   have hl:(nodesK m k0).length≤x:=by rw [nodesK_ln];omega
   rw [List.getElem?_append_right hl]
   exact nodesF_get n (k0+1) k i _ om om h3 (by rw [nodesK_ln];omega)
theorem nodesT_get {m:MdD} {k i x:Nat} (hk:k≤m.pages.length) (hi:i<(gtsK m k).length) (hx:(x:Int)=numK m k+i):(nodesT m)[x]?=some (2,(k:Int)-1,(i:Int)):=
 nodesF_get _ 0 k i x (Nat.zero_le _) om hi (by show(x:Int)=numK m k-0+i;omega)
theorem nodesT_len {m:MdD}:((nodesT m).length:Int)=numK m (m.pages.length+1):=by
 have h:=nodesF_len (m:=m) (m.pages.length+1) 0
 have e:numK m 0=0:=rfl
 rw [Nat.zero_add,e] at h
 unfold nodesT
 omega
def idxT (m:MdD) (t:Th):Nat:= @List.idxOf Th instBEqOfDecidableEq t (nodesT m)
theorem idx_nodes {m:MdD} {k i:Nat} (hk:k≤m.pages.length) (hi:i<(gtsK m k).length):((idxT m ((2:Int),(k:Int)-1,(i:Int)):Nat):Int)=numK m k+i:=by
 have h0:=numK_0 (m:=m) k
 obtain⟨x,hx⟩:∃x:Nat,(x:Int)=numK m k+i:=⟨(numK m k+i).toNat,by omega⟩
 have hg:=nodesT_get hk hi hx
 obtain⟨hl,he⟩:=List.getElem?_eq_some_iff.1 hg
 have hn:(nodesT m).Nodup:=nodesF_nodup m _ _
 unfold idxT
 rw [←he, @List.Nodup.idxOf_getElem Th instBEqOfDecidableEq inferInstance _ hn x hl,hx]
def useL (m:MdD) (k:Nat) (l:List BS):List Nat:=((l.map (resP m k)).filter fun y=> !leafT y).map (idxT m)
def usesT (m:MdD):List (List Nat):=(nodesT m).map fun t=>((sucT m t).filter fun y=> !leafT y).map (idxT m)
theorem useL_snoc (m:MdD) (k:Nat) (l:List BS) (n:BS):useL m k (l++[n])=if leafT (resP m k n)=true then useL m k l else useL m k l++[idxT m (resP m k n)]:=by
 unfold useL
 rw [List.map_append,List.filter_append,List.map_append]
 show _++List.map _ (List.filter _ [resP m k n])=_
 cases h:leafT (resP m k n) with
 |true=>rw [List.filter_cons,h];simp
 |false=>rw [List.filter_cons,h];simp
theorem usesT_len (m:MdD):(usesT m).length=(nodesT m).length:=by unfold usesT;rw [List.length_map]
theorem usesT_get {m:MdD} {k i x:Nat} (hk:k≤m.pages.length) (hi:i<(gtsK m k).length) (hx:(x:Int)=numK m k+i):(usesT m).take (x+1)=(usesT m).take x++[useL m k ((gtsK m k).getD i gt0).inputs]:=by
 have hg:=nodesT_get hk hi hx
 have hu:(usesT m)[x]?=some (useL m k ((gtsK m k).getD i gt0).inputs):=by
  unfold usesT
  rw [List.getElem?_map,hg]
  show some (List.map _ (List.filter _ (sucT m _)))=_
  unfold sucT gtOf useL
  dsimp only
  rw [show((k:Int)-1+1).toNat=k from by omega,Int.toNat_natCast]
 rw [List.take_add_one,hu];rfl
theorem fndA_res {m:MdD} {k:Nat} {n:BS} (h:leafT (resA m k n)=true∨resA m k n∈nodesT m):fndA m k n=resA m k n:=by
 unfold fndA resA
 unfold resA at h
 by_cases h1:evI m n≥0
 ·rw [if_pos h1,if_pos h1]
 ·rw [if_neg h1] at h⊢
  rw [if_neg h1]
  by_cases h2:hsI m n≥0
  ·rw [if_pos h2,if_pos h2]
  ·rw [if_neg h2] at h⊢
   rw [if_neg h2]
   by_cases h3:gtI (gtsK m k) n≥0
   ·rw [if_pos h3]
   ·exfalso
    rcases h with h|h
    ·cases h
    ·obtain⟨j,i,_,_,e⟩:=mem_nodesT.1 h
     simp only [Prod.mk.injEq] at e
     omega
theorem fndP_res {m:MdD} {k:Nat} {n:BS} (h:InOk m k n):fndP m k n=resP m k n:=by
 obtain⟨h0,h1,h2⟩:=h
 unfold fndP
 unfold resP resK resN at h2⊢
 by_cases h64:bAt n 0=64
 ·have hp:=h1 h64
  rw [if_pos h64,if_pos h64] at h2⊢
  rw [if_pos ⟨h0,h64⟩,if_neg om]
  exact fndA_res h2
 ·rw [if_neg h64,if_neg h64] at h2⊢
  rw [if_neg fun z=>h64 z.2]
  exact fndA_res h2
theorem name_64 {s:BS} (h:nameOk s=true):¬(0<s.length∧bAt s 0=64):=fun z=>by
 unfold nameOk at h
 simp only [Bool.and_eq_true,decide_eq_true_eq] at h
 have:=h.1.2
 rw [z.2] at this
 exact absurd this (by decide)
theorem top_64 {m:MdD} (h:MdC m) (q:Nat) (hq:q<m.pages.length):¬(0<(m.pages.getD q pg0).top.length∧bAt (m.pages.getD q pg0).top 0=64):=by
 generalize ht:(m.pages.getD q pg0).top=t
 have h1:=h.tp q hq
 rw [ht] at h1
 rcases h1 with h1|h1
 ·obtain⟨i,_,h5,h6⟩:=fidx_get gt0 h1
  have h7:=h.gt (q+1) om i h5
  have e:((m.pages.getD q pg0).gates.getD i gt0).name=t:=by simpa using h6
  unfold gtC at h7
  split at h7
  ·cases h7
  ·rename_i h8
   have:=name_64 (s:=((gtsK m (q+1)).getD i gt0).name) (by simpa using h8)
   rw [show((gtsK m (q+1)).getD i gt0).name=t from e] at this
   exact this
 ·obtain⟨i,_,h5,h6⟩:=fidx_get ev0 h1
  have:=name_64 (h.ev i h5)
  rw [show(m.events.getD i ev0).name=t from by simpa using h6] at this
  exact this
theorem cyc_uses {m:MdD} (h:MdC m):cycB m= !((offR (usesT m) (nodesT m).length (nodesT m).length (List.replicate (nodesT m).length false)).all id):=
 cyc_eq (nodesF_nodup m _ _) leaf_nodes (suc_nodes (ins_ok h)) rfl
end Go.PN
namespace Go.AI
open Go.PN
abbrev nac (u:Nat):List CV:=[CV.int .i64 (u:Int)]
def nasF (l:List Nat):Nat→CV:=lf 1 nac (0:Nat) l
@[go_sem] theorem nasF_0 (l:List Nat) (i:Nat):nasF l i=.int .i64 ((l.getD i 0:Nat):Int):=by have:=lf_at (s:=1) (c:=nac) (d:=(0:Nat)) (xs:=l) (i:=i) (k:=0) om;rw [Nat.mul_one,Nat.add_zero] at this;exact this
abbrev nas (t:Bool) (l:List Nat):CV:=.row t 1 l.length (nasF l)
abbrev nlc (l:List Nat):List CV:=[nas true l]
def nlsF (l:List (List Nat)):Nat→CV:=lf 1 nlc ([]:List Nat) l
@[go_sem] theorem nlsF_0 (l:List (List Nat)) (i:Nat):nlsF l i=nas true (l.getD i []):=by have:=lf_at (s:=1) (c:=nlc) (d:=([]:List Nat)) (xs:=l) (i:=i) (k:=0) om;rw [Nat.mul_one,Nat.add_zero] at this;exact this
abbrev nls (t:Bool) (l:List (List Nat)):CV:=.row t 1 l.length (nlsF l)
theorem nas_push {xs:List Nat} {n:Nat} (hn:xs.length=n) (t:Nat):∀j,j<(n+1)*1→appF (nasF xs) (n*1) (ofL (nac t)) j=nasF (xs++[t]) j:=lf_push (s:=1) (c:=nac) (d:=(0:Nat)) hn t (by decide)
theorem nls_push {xs:List (List Nat)} {n:Nat} (hn:xs.length=n) (t:List Nat):∀j,j<(n+1)*1→appF (nlsF xs) (n*1) (ofL (nlc t)) j=nlsF (xs++[t]) j:=lf_push (s:=1) (c:=nlc) (d:=([]:List Nat)) hn t (by decide)
end Go.AI
namespace Go.Proofs.YteehccacfedolaaGreat
open Go.AI Go.PN
theorem ler_nas {h:Heap} {l:List Nat}:LeR h (nas true l) (nas true l):=.row fun j _=>lf_ler (by decide) (fun x k hk=>match k,hk with|0,_=>.int _ _) j
theorem ler_nls {h:Heap} {l:List (List Nat)}:LeR h (nls true l) (nls true l):=.row fun j _=>lf_ler (by decide) (fun x k hk=>match k,hk with|0,_=>ler_nas) j
end Go.Proofs.YteehccacfedolaaGreat
namespace Go.PN
open Go.AI
theorem numK_le {m:MdD} (ho:MdO m) (k:Nat):0≤numK m k∧numK m k≤1048576*k:=gts_le (fun k=>(ho.gts k).1) k
theorem numK_mono {m:MdD} (k:Nat):∀d:Nat,numK m k≤numK m (k+d)
 |0=>Int.le_refl _
 |d+1=>by
  have h:=numK_mono (m:=m) k d
  have e:numK m (k+(d+1))=numK m (k+d)+(gtsK m (k+d)).length:=rfl
  omega
theorem take_all_getD {α:Type} {l:List α} {j:Nat} {d:α} (hj:j<l.length):l.take (j+1)=l.take j++[l.getD j d]:=by
 rw [List.take_add_one,List.getD_eq_getElem?_getD,List.getElem?_eq_getElem hj];rfl
theorem usesT_bnd {m:MdD} (h:InsOk m):∀l∈usesT m,∀u∈l,u<(nodesT m).length:=fun l hl u hu=>by
 unfold usesT at hl
 obtain⟨t,ht,rfl⟩:=List.mem_map.1 hl
 obtain⟨y,hy,rfl⟩:=List.mem_map.1 hu
 obtain⟨hy1,hy2⟩:=List.mem_filter.1 hy
 have hyl:leafT y=false:=by simpa using hy2
 have hyn:=(suc_nodes h t ht y hy1).resolve_left (by rw [hyl];decide)
 exact(@List.idxOf_lt_length_iff Th instBEqOfDecidableEq inferInstance _ _).2 hyn
theorem all_take {l:List Nat} {j:Nat} {p:Nat→Bool} (hj:j<l.length):(l.take (j+1)).all p=((l.take j).all p&&p (l.getD j 0)):=by
 rw [take_all_getD (d:=(0:Nat)) hj,List.all_append]
 simp
theorem all_get {l:List Bool} (h:∀t,t<l.length→l.getD t false=true):l.all id=true:=List.all_eq_true.2 fun x hx=>by
 obtain⟨i,hi,rfl⟩:=List.getElem_of_mem hx
 have:=h i hi
 rw [List.getD_eq_getElem?_getD,List.getElem?_eq_getElem hi] at this
 exact this
theorem all_no {l:List Bool} {t:Nat} (ht:t<l.length) (h:l.getD t false=false):l.all id=false:=by
 rw [Bool.eq_false_iff]
 intro ha
 have:=List.all_eq_true.1 ha (l[t]) (List.getElem_mem ht)
 rw [List.getD_eq_getElem?_getD,List.getElem?_eq_getElem ht] at h
 simp at h this
 rw [h] at this
 cases this
end Go.PN
namespace Go.Proofs.YteehccacfedolaaGreat
open Go.AI Go.PN
attribute [local irreducible] aw Fa Fh DrK
theorem uses22_fa (m:MdD) (ho:MdO m) (hc:MdC m):Fa Tryz.prog 114 [.agg (mdc true m)] (.c (nls true (usesT m))):=by
 have hm:=ho.ok
 have hin:=ins_ok hc
 have hpl:m.pages.length≤1048576:=ho.pg.1
 have hNL:=nodesT_len (m:=m)
 have hUL:=usesT_len m
 have hgl:∀k,(gtsK m k).length≤1048576:=fun k=>(ho.gts k).1
 have hNB:=numK_le ho (m.pages.length+1)
 refine fa_of_body Tryz.func114 rfl rfl (by simp [Tryz.ntmps114]) fun C hC=> ?_
 simp only [initS,Nat.reduceAdd]
 repeat' first|refine yA1 o0 ?_|refine zW o0 ?_|refine yP o0 ?_|refine yN o0 ?_|refine zC o0 (fun hb=>?_) fun hb=>?_|refine zG o0 (fun hb=>?_) fun hb=>?_|refine zD o0 (fun hb=>?_) fun hb=>?_
 refine xB fun g1 hn_g1=>?_
 repeat' first|refine yA1 hn_g1 ?_|refine zW hn_g1 ?_|refine yP hn_g1 ?_|refine yN hn_g1 ?_|refine zC hn_g1 (fun hb=>?_) fun hb=>?_|refine zG hn_g1 (fun hb=>?_) fun hb=>?_|refine zD hn_g1 (fun hb=>?_) fun hb=>?_
 refine aw_lp (fun y:Nat×Nat×Option Nat=>[(1,.c (.optr g1 0)),(3,.c (gs y.2.2 1 y.2.1)),(4,.c (.int .i64 ((y.1:Int)-1)))]) (fun y=>[(g1,.cells 30 8 (ofL (mdc true m)))]++gh y.2.2 128 y.2.1 (nlsF ((usesT m).take y.2.1))) (fun y=>y.1≤m.pages.length+1∧(y.2.2=none→y.2.1=0)∧(y.2.1:Int)=numK m y.1) (fun y=>m.pages.length+1-y.1) (0,0,none) (zB hn_g1) zZ ⟨Nat.zero_le _,fun _=>rfl,rfl⟩ ?_
 rintro ⟨k,x,og⟩ ⟨hk,hog,hx⟩
 dsimp only at hk hog hx⊢
 simp only [List.cons_append,List.nil_append]
 by_cases hkP:k≤m.pages.length
 ·have f0:=gates22_fa m k hkP hm.pg
  repeat' first|refine yA1 hn_g1 ?_|(refine yC2 hn_g1 (f0) ?_)|(refine yD2 hn_g1 (f0) ?_)|refine zW hn_g1 ?_|refine yP hn_g1 ?_|refine yN hn_g1 ?_|refine zC hn_g1 (fun hb=>?_) fun hb=>?_|refine zG hn_g1 (fun hb=>?_) fun hb=>?_|refine zD hn_g1 (fun hb=>?_) fun hb=>?_
  all_goals try (exfalso;omega)
  have e1:numK m (k+1)=numK m k+(gtsK m k).length:=rfl
  have hNk:=numK_le ho k
  have hmn:=numK_mono (m:=m) (k+1) (m.pages.length-k)
  rw [show k+1+(m.pages.length-k)=m.pages.length+1 from by omega] at hmn
  have hgk:=hgl k
  refine aw_lp (fun y:Nat×Nat×Option Nat=>[(1,.c (.optr g1 0)),(3,.c (gs y.2.2 1 y.2.1)),(4,.c (.int .i64 ((k:Int)-1))),(22,.c (gts true (gtsK m k))),(23,.c (.int .i64 (gtsK m k).length)),(24,.c (.int .i64 y.1))]) (fun y=>[(g1,.cells 30 8 (ofL (mdc true m)))]++gh y.2.2 128 y.2.1 (nlsF ((usesT m).take y.2.1))) (fun y=>y.1≤(gtsK m k).length∧(y.2.2=none→y.2.1=0)∧(y.2.1:Int)=numK m k+y.1) (fun y=>(gtsK m k).length-y.1) (0,x,og) (zB hn_g1) zZ ⟨Nat.zero_le _,hog,by dsimp only;omega⟩ ?_
  clear hx hog
  rintro ⟨i,x,og⟩ ⟨hi,hog,hx⟩
  dsimp only at hi hog hx⊢
  simp only [List.cons_append,List.nil_append]
  repeat' first|refine yA1 hn_g1 ?_|refine zW hn_g1 ?_|refine yP hn_g1 ?_|refine yN hn_g1 ?_|refine zC hn_g1 (fun hb=>?_) fun hb=>?_|refine zG hn_g1 (fun hb=>?_) fun hb=>?_|refine zD hn_g1 (fun hb=>?_) fun hb=>?_
  ·have hi':=hb
   have hino:=hin k hkP i hi'
   have hul:=usesT_get hkP hi' hx
   have hgo:=ho.gti k i
   have hil:=ho.inl k i
   generalize hg:(gtsK m k).getD i gt0=g at*
   have hgi:g.inputs.length≤1048576:=hgo.2.2.1
   refine yA hn_g1 fun g6 hn_g6=>?_
   all_goals try(have Z:=(oj hn_g1 hn_g6);(repeat' first|refine yA1 Z ?_|refine zW Z ?_|refine yP Z ?_|refine yN Z ?_|refine zC Z (fun hb=>?_) fun hb=>?_|refine zG Z (fun hb=>?_) fun hb=>?_|refine zD Z (fun hb=>?_) fun hb=>?_);all_goals clear Z)
   refine aw_lp (fun y:Nat×List Nat×Option Nat=>[(1,.c (.optr g1 0)),(3,.c (gs og 1 x)),(4,.c (.int .i64 ((k:Int)-1))),(7,.c (gs y.2.2 1 y.2.1.length)),(22,.c (gts true (gtsK m k))),(23,.c (.int .i64 (gtsK m k).length)),(24,.c (.int .i64 i)),(29,.c (strs true g.inputs)),(30,.c (.int .i64 g.inputs.length)),(31,.c (.int .i64 y.1))]) (fun y=>(g6,.cells 45 7 (ofL (gtc g)))::(g1,.cells 30 8 (ofL (mdc true m)))::(gh og 128 x (nlsF ((usesT m).take x))++gh y.2.2 3 y.2.1.length (nasF y.2.1))) (fun y=>y.1≤g.inputs.length∧(y.2.2=none→y.2.1.length=0)∧y.2.1.length≤y.1∧y.2.1=useL m k (g.inputs.take y.1)) (fun y=>g.inputs.length-y.1) (0,[],none) (zB (oj hn_g1 hn_g6)) (by dsimp only [gh];rw [List.append_nil];exact List.Sublist.refl _) ⟨Nat.zero_le _,fun _=>rfl,Nat.le_refl _,rfl⟩ ?_
   rintro ⟨j,l,oq⟩ ⟨hj,hoq,hjl,hl⟩
   dsimp only at hj hoq hjl hl⊢
   all_goals try(have Z:=(oj hn_g1 hn_g6);(repeat' first|refine yA1 Z ?_|refine zW Z ?_|refine yP Z ?_|refine yN Z ?_|refine zC Z (fun hb=>?_) fun hb=>?_|refine zG Z (fun hb=>?_) fun hb=>?_|refine zD Z (fun hb=>?_) fun hb=>?_);all_goals clear Z)
   ·have hj':=hb
    have htk:=take_all_getD (d:=([]:BS)) hj'
    have hio:=hino (g.inputs.getD j []) (by rw [List.getD_eq_getElem?_getD,List.getElem?_eq_getElem hj'];exact List.getElem_mem hj')
    have hsn:=useL_snoc m k (g.inputs.take j) (g.inputs.getD j [])
    rw [←htk,←hl] at hsn
    have f1:=findP_fa m k (g.inputs.getD j []) hkP hm.ev hm.hs hm.pg (fun k=>Nat.le_trans (hgl k) (by decide)) (hil j) (fun q hq=>⟨Nat.le_trans (ho.pgi q).2.1 (by decide),top_64 hc q hq⟩)
    rw [fndP_res hio] at f1
    have hleaf:=hio.2.2
    generalize resP m k (g.inputs.getD j [])=r at*
    by_cases hr2:r.1=2
    ·have hlf:leafT r=false:=by unfold leafT;simpa using hr2
     rw [hlf] at hsn hleaf
     obtain⟨k',i',hk',hi2,rfl⟩:=mem_nodesT.1 (hleaf.resolve_left (by decide))
     have f2:=number22_fa m k' i' hk' hpl hgl (Nat.le_trans (Nat.le_of_lt hi2) (hgl k'))
     rw [←idx_nodes hk' hi2] at f2
     generalize idxT m (2,(k':Int)-1,(i':Int))=u at*
     rw [if_neg (by decide)] at hsn
     dsimp only at f1
     all_goals try(have Z:=(oj hn_g1 hn_g6);(repeat' first|refine yA1 Z ?_|(refine yC2 Z (f1) ?_)|(refine yD2 Z (f1) ?_)|(refine yC2 Z (f2) ?_)|(refine yD2 Z (f2) ?_)|refine zW Z ?_|refine yP Z ?_|refine yN Z ?_|refine zC Z (fun hb=>?_) fun hb=>?_|refine zG Z (fun hb=>?_) fun hb=>?_|refine zD Z (fun hb=>?_) fun hb=>?_);all_goals clear Z)
     have hln:(l++[u]).length=l.length+1:=by rw [List.length_append];rfl
     refine aw_push (pre:=(g6,.cells 45 7 (ofL (gtc g)))::(g1,.cells 30 8 (ofL (mdc true m)))::gh og 128 x (nlsF ((usesT m).take x))) rfl rfl rfl rfl rfl rfl rfl (zE (oj hn_g1 hn_g6)) (zE (oj hn_g1 hn_g6)) (by rfl) om om (zE (oj hn_g1 hn_g6)) om (by exact hoq) (zE (oj hn_g1 hn_g6)) (by rfl) (by rfl) (by first|rfl|simp only [Nat.mul_one,List.nil_append,List.cons_append]<;>rfl) (by unfold maxLen;omega) om (by exact nas_push rfl u) fun gb hn_gb=> ?_
     replace hn_gb:=Heap.ne_of hn_gb
     first|dsimp only [Heap.ne,gh] at hn_gb|dsimp only [Heap.ne] at hn_gb|skip
     refine yS (oj hn_g1 (oj hn_g6 hn_gb)) ?_
     all_goals try(have Z:=(oj hn_g1 (oj hn_g6 hn_gb));(repeat' first|refine yA1 Z ?_|refine zW Z ?_|refine yP Z ?_|refine yN Z ?_|refine zC Z (fun hb=>?_) fun hb=>?_|refine zG Z (fun hb=>?_) fun hb=>?_|refine zD Z (fun hb=>?_) fun hb=>?_);all_goals clear Z)
     refine aw_stop ⟨(j+1,l++[u],some gb),?_⟩
     dsimp only
     simp only [hln]
     and_intros
     all_goals first|rfl|exact List.Sublist.refl _|exact True.intro|exact some_ne|exact hsn.symm|omega
    ·have hlf:leafT r=true:=by unfold leafT;simpa using hr2
     rw [if_pos hlf] at hsn
     all_goals try(have Z:=(oj hn_g1 hn_g6);(repeat' first|refine yA1 Z ?_|(refine yC2 Z (f1) ?_)|(refine yD2 Z (f1) ?_)|refine zW Z ?_|refine yP Z ?_|refine yN Z ?_|refine zC Z (fun hb=>?_) fun hb=>?_|refine zG Z (fun hb=>?_) fun hb=>?_|refine zD Z (fun hb=>?_) fun hb=>?_);all_goals clear Z)
     ·exact absurd hb hr2
     refine aw_stop ⟨(j+1,l,oq),?_⟩
     and_intros
     all_goals first|rfl|exact List.Sublist.refl _|exact True.intro|exact hoq|exact hsn.symm|(dsimp only;omega)
   ·have hjE:j=g.inputs.length:=by omega
    rw [hjE,List.take_length] at hl
    rw [←hl] at hul
    refine aw_perm (h':=gh oq 3 (l.length*1) (nasF l)++((g6,.cells 45 7 (ofL (gtc g)))::(g1,.cells 30 8 (ofL (mdc true m)))::gh og 128 x (nlsF ((usesT m).take x)))) (by
     rw [Nat.mul_one]
     exact List.perm_append_comm (l₁:=(g6,.cells 45 7 (ofL (gtc g)))::(g1,.cells 30 8 (ofL (mdc true m)))::gh og 128 x (nlsF ((usesT m).take x)))) ?_
    refine aw_frzGT (t:=54) (f':=nasF l) hoq rfl (zE (oj hn_g1 hn_g6)) (fun g _=>hC g) (fun _ _=>rfl) rfl ?_
    have J1:=oj hn_g1 hn_g6
    refine yS J1 ?_
    have hxl:((usesT m).take x).length=x:=by rw [List.length_take,hUL];omega
    all_goals try(have Z:=J1;(repeat' first|refine yA1 Z ?_|refine zW Z ?_|refine yP Z ?_|refine yN Z ?_|refine zC Z (fun hb=>?_) fun hb=>?_|refine zG Z (fun hb=>?_) fun hb=>?_|refine zD Z (fun hb=>?_) fun hb=>?_);all_goals clear Z)
    refine aw_push (pre:=[(g6,.cells 45 7 (ofL (gtc g))),(g1,.cells 30 8 (ofL (mdc true m)))]) rfl rfl rfl rfl rfl rfl rfl (zE J1) (zE J1) (by rfl) om om (zE J1) om (by exact hog) (zE J1) (by rfl) (by rfl) (by first|rfl|simp only [Nat.mul_one,List.nil_append,List.cons_append]<;>rfl) (by unfold maxLen;omega) om (by exact nls_push hxl l) fun gb hn_gb=> ?_
    replace hn_gb:=Heap.ne_of hn_gb
    first|dsimp only [Heap.ne,gh] at hn_gb|dsimp only [Heap.ne] at hn_gb|skip
    have J2:=oj hn_g1 (oj hn_g6 hn_gb)
    refine yS J2 ?_
    rw [←hul]
    all_goals try(have Z:=J2;(repeat' first|refine yA1 Z ?_|refine zW Z ?_|refine yP Z ?_|refine yN Z ?_|refine zC Z (fun hb=>?_) fun hb=>?_|refine zG Z (fun hb=>?_) fun hb=>?_|refine zD Z (fun hb=>?_) fun hb=>?_);all_goals clear Z)
    refine aw_stop ⟨(i+1,x+1,some gb),?_⟩
    dsimp only
    and_intros
    all_goals first|rfl|exact List.Sublist.refl _|exact .cons _ (.refl _)|exact True.intro|exact some_ne|omega
  ·refine aw_stop ⟨(k+1,x,og),?_⟩
   dsimp only
   have hi0:=hb
   and_intros
   all_goals first|rfl|exact List.Sublist.refl _|exact True.intro|exact hog|exact c_int om|omega
 ·have hkE:k=m.pages.length+1:=by omega
  subst hkE
  repeat' first|refine yA1 hn_g1 ?_|refine zW hn_g1 ?_|refine yP hn_g1 ?_|refine yN hn_g1 ?_|refine zC hn_g1 (fun hb=>?_) fun hb=>?_|refine zG hn_g1 (fun hb=>?_) fun hb=>?_|refine zD hn_g1 (fun hb=>?_) fun hb=>?_
  all_goals try (exfalso;omega)
  have hxL:x=(usesT m).length:=by omega
  subst hxL
  rw [List.take_length]
  refine aw_perm (h':=gh og 128 ((usesT m).length*1) (nlsF (usesT m))++[(g1,.cells 30 8 (ofL (mdc true m)))]) (by
   rw [Nat.mul_one]
   exact List.perm_append_comm (l₁:=([(g1,.cells 30 8 (ofL (mdc true m)))]:Heap))) ?_
  refine aw_frzGT (t:=2) (f':=nlsF (usesT m)) hog rfl (zE hn_g1) (fun g _=>hC g) (fun _ _=>rfl) rfl ?_
  refine yS hn_g1 ?_
  repeat' first|refine yA1 hn_g1 ?_|refine zW hn_g1 ?_|refine yP hn_g1 ?_|refine yN hn_g1 ?_|refine zC hn_g1 (fun hb=>?_) fun hb=>?_|refine zG hn_g1 (fun hb=>?_) fun hb=>?_|refine zD hn_g1 (fun hb=>?_) fun hb=>?_
  refine yT hC hn_g1 ?_
  exact .one (.c ler_nls)
end Go.Proofs.YteehccacfedolaaGreat
namespace Go.PN
open Go.AI
theorem usesT_lens {m:MdD} (ho:MdO m):∀l∈usesT m,l.length≤1048576:=fun l hl=>by
 unfold usesT at hl
 obtain⟨t,ht,rfl⟩:=List.mem_map.1 hl
 rw [List.length_map]
 refine Nat.le_trans (List.length_filter_le _ _) ?_
 unfold sucT
 rw [List.length_map]
 exact(ho.gti (t.2.1+1).toNat t.2.2.toNat).2.2.1
end Go.PN
namespace Go.Proofs.YteehccacfedolaaGreat
open Go.AI Go.PN
attribute [local irreducible] aw Fa Fh DrK
theorem cycle22_fa (m:MdD) (ho:MdO m) (hc:MdC m):Fa Tryz.prog 68 [.agg (mdc true m)] (.c (.bool (cycB m))):=by
 have f1:=uses22_fa m ho hc
 have hb:=usesT_bnd (ins_ok hc)
 have hlen:=usesT_lens ho
 have hNL:=nodesT_len (m:=m)
 have hUL:=usesT_len m
 have hNB:=numK_le ho (m.pages.length+1)
 have hpl:m.pages.length≤1048576:=ho.pg.1
 have hN:(usesT m).length≤1099513724928:=by omega
 rw [cyc_uses hc,←hUL]
 rw [←hUL] at hb
 generalize usesT m=U at*
 clear hNL hNB
 generalize hR:offR U U.length U.length (List.replicate U.length false)=R
 refine fa_of_body Tryz.func68 rfl rfl (by simp [Tryz.ntmps68]) fun C hC=> ?_
 simp only [initS,Nat.reduceAdd]
 repeat' first|refine yA1 o0 ?_|refine zW o0 ?_|refine yP o0 ?_|refine yN o0 ?_|refine zC o0 (fun hb=>?_) fun hb=>?_|refine zG o0 (fun hb=>?_) fun hb=>?_|refine zD o0 (fun hb=>?_) fun hb=>?_
 refine xB fun g1 hn_g1=>?_
 repeat' first|refine yA1 hn_g1 ?_|(refine yC2 hn_g1 (f1) ?_)|(refine yD2 hn_g1 (f1) ?_)|refine zW hn_g1 ?_|refine yP hn_g1 ?_|refine yN hn_g1 ?_|refine zC hn_g1 (fun hb=>?_) fun hb=>?_|refine zG hn_g1 (fun hb=>?_) fun hb=>?_|refine zD hn_g1 (fun hb=>?_) fun hb=>?_
 refine aw_make (n:=U.length) (c:=U.length) (size:=1) (z:=[.bool false]) rfl rfl rfl (zE hn_g1) (zE hn_g1) rfl om (zE hn_g1) (zE hn_g1) om om om om om fun g4 hn_g4=> ?_
 simp only [Nat.mul_one]
 rw [make_bs U.length]
 replace hn_g4:=Heap.ne_of hn_g4
 dsimp only [Heap.ne] at hn_g4
 have J1:=oj hn_g1 hn_g4
 refine yS J1 ?_
 all_goals try(have Z:=J1;(repeat' first|refine yA1 Z ?_|refine zW Z ?_|refine yP Z ?_|refine yN Z ?_|refine zC Z (fun hb=>?_) fun hb=>?_|refine zG Z (fun hb=>?_) fun hb=>?_|refine zD Z (fun hb=>?_) fun hb=>?_);all_goals clear Z)
 refine aw_lp (fun y:Nat×List Bool=>[(3,.c (nls true U)),(4,.c (.osl g4 1 0 U.length)),(18,.c (.int .i64 U.length)),(19,.c (.int .i64 y.1))]) (fun y=>[(g4,.cells 4 U.length (bsF y.2)),(g1,.cells 30 8 (ofL (mdc true m)))]) (fun y=>y.1≤U.length∧y.2.length=U.length∧offR U U.length (U.length-y.1) y.2=R) (fun y=>U.length-y.1) (0,List.replicate U.length false) (zB J1) zZ ⟨Nat.zero_le _,List.length_replicate,hR⟩ ?_
 rintro ⟨r,off⟩ ⟨hr,hol,hof⟩
 dsimp only at hr hol hof⊢
 by_cases hrl:r<U.length
 ·have dr:decide (r<U.length)=true:=decide_eq_true hrl
  all_goals try(have Z:=(oj hn_g1 (oj hn_g4 dr));(repeat' first|refine yA1 Z ?_|refine zW Z ?_|refine yP Z ?_|refine yN Z ?_|refine zC Z (fun hb=>?_) fun hb=>?_|refine zG Z (fun hb=>?_) fun hb=>?_|refine zD Z (fun hb=>?_) fun hb=>?_);all_goals clear Z)
  rw [show U.length-r=(U.length-(r+1))+1 from by omega] at hof
  replace hof:offR U U.length (U.length-(r+1)) (offP U off U.length)=R:=hof
  refine aw_lp (fun i:Nat=>[(3,.c (nls true U)),(4,.c (.osl g4 1 0 U.length)),(18,.c (.int .i64 U.length)),(19,.c (.int .i64 r)),(21,.c (nls true U)),(22,.c (.int .i64 U.length)),(23,.c (.int .i64 i))]) (fun i=>[(g4,.cells 4 U.length (bsF ((List.range i).foldl (offS U) off))),(g1,.cells 30 8 (ofL (mdc true m)))]) (fun i=>i≤U.length) (fun i=>U.length-i) 0 (zB (oj hn_g1 (oj hn_g4 dr))) zZ (Nat.zero_le _) ?_
  intro i hi
  have hfl:=fold_len U (List.range i) off
  rw [hol] at hfl
  have hstep:(List.range (i+1)).foldl (offS U) off=((List.range i).foldl (offS U) off).set i (((List.range i).foldl (offS U) off).getD i false||(U.getD i []).all fun u=>((List.range i).foldl (offS U) off).getD u false):=by rw [List.range_succ,List.foldl_append];rfl
  have hlast:(List.range U.length).foldl (offS U) off=offP U off U.length:=rfl
  by_cases hil:i<U.length
  ·have di:decide (i<U.length)=true:=decide_eq_true hil
   have hl6:=hlen (U.getD i []) (by rw [List.getD_eq_getElem?_getD,List.getElem?_eq_getElem hil];exact List.getElem_mem hil)
   have hbl:=hb (U.getD i []) (by rw [List.getD_eq_getElem?_getD,List.getElem?_eq_getElem hil];exact List.getElem_mem hil)
   generalize (List.range i).foldl (offS U) off=o2 at*
   generalize hl:U.getD i []=l at*
   all_goals try(have Z:=(oj hn_g1 (oj hn_g4 (oj dr (oj di hl))));(repeat' first|refine yA1 Z ?_|refine zW Z ?_|refine yP Z ?_|refine yN Z ?_|refine zC Z (fun hb=>?_) fun hb=>?_|refine zG Z (fun hb=>?_) fun hb=>?_|refine zD Z (fun hb=>?_) fun hb=>?_);all_goals clear Z)
   refine aw_lp (fun j:Nat=>[(3,.c (nls true U)),(4,.c (.osl g4 1 0 U.length)),(5,.c (.int .i64 i)),(7,.c (.bool ((l.take j).all fun u=>o2.getD u false))),(18,.c (.int .i64 U.length)),(19,.c (.int .i64 r)),(21,.c (nls true U)),(22,.c (.int .i64 U.length)),(23,.c (.int .i64 i)),(28,.c (nas true l)),(29,.c (.int .i64 l.length)),(30,.c (.int .i64 j))]) (fun _=>[(g4,.cells 4 U.length (bsF o2)),(g1,.cells 30 8 (ofL (mdc true m)))]) (fun j=>j≤l.length) (fun j=>l.length-j) 0 (zB (oj hn_g1 (oj hn_g4 (oj dr (oj di hl))))) zZ (Nat.zero_le _) ?_
   intro j hj
   by_cases hjl:j<l.length
   ·have dj:decide (j<l.length)=true:=decide_eq_true hjl
    have hu:=hbl (l.getD j 0) (by rw [List.getD_eq_getElem?_getD,List.getElem?_eq_getElem hjl];exact List.getElem_mem hjl)
    have hta:=all_take (p:=fun u=>o2.getD u false) hjl
    generalize (l.take j).all (fun u=>o2.getD u false)=b at*
    all_goals try(have Z:=(oj hn_g1 (oj hn_g4 (oj dr (oj di (oj hl dj)))));(repeat' first|refine yA1 Z ?_|refine zW Z ?_|refine yP Z ?_|refine yN Z ?_|refine zC Z (fun hb=>?_) fun hb=>?_|refine zG Z (fun hb=>?_) fun hb=>?_|refine zD Z (fun hb=>?_) fun hb=>?_);all_goals clear Z)
    all_goals
     refine aw_stop ⟨j+1,?_⟩
     rw [hta,hb]
     first
      |rw [Bool.true_and]
      |rw [Bool.false_and]
     and_intros
     all_goals first|rfl|exact List.Sublist.refl _|exact True.intro|omega
   ·have dj:decide (j<l.length)=false:=decide_eq_false hjl
    have hjE:l.take j=l:=List.take_of_length_le om
    rw [hjE]
    generalize l.all (fun u=>o2.getD u false)=b at*
    all_goals try(have Z:=(oj hn_g1 (oj hn_g4 (oj dr (oj di (oj hl dj)))));(repeat' first|refine yA1 Z ?_|refine zW Z ?_|refine yP Z ?_|refine yN Z ?_|refine zC Z (fun hb=>?_) fun hb=>?_|refine zG Z (fun hb=>?_) fun hb=>?_|refine zD Z (fun hb=>?_) fun hb=>?_);all_goals clear Z)
    all_goals
     rw [updF_bs om]
     refine aw_stop ⟨i+1,by omega,(zB (oj hn_g1 (oj hn_g4 (oj dr (oj di (oj hl dj)))))),?_,by omega⟩
     show List.Sublist [(g4,AObj.cells 4 U.length (bsF ((List.range (i+1)).foldl (offS U) off))),_] _
     rw [hstep,hb]
     first
      |rw [Bool.true_or]
      |rw [Bool.false_or]
     exact List.Sublist.refl _
  ·have di:decide (i<U.length)=false:=decide_eq_false hil
   obtain rfl:i=U.length:=by omega
   all_goals try(have Z:=(oj hn_g1 (oj hn_g4 (oj dr di)));(repeat' first|refine yA1 Z ?_|refine zW Z ?_|refine yP Z ?_|refine yN Z ?_|refine zC Z (fun hb=>?_) fun hb=>?_|refine zG Z (fun hb=>?_) fun hb=>?_|refine zD Z (fun hb=>?_) fun hb=>?_);all_goals clear Z)
   refine aw_stop ⟨(r+1,offP U off U.length),?_⟩
   dsimp only
   and_intros
   all_goals first|rfl|exact List.Sublist.refl _|exact True.intro|exact hof|exact hfl|omega
 ·have dr:decide (r<U.length)=false:=decide_eq_false hrl
  obtain rfl:r=U.length:=by omega
  rw [Nat.sub_self] at hof
  replace hof:off=R:=hof
  subst hof
  all_goals try(have Z:=(oj hn_g1 (oj hn_g4 dr));(repeat' first|refine yA1 Z ?_|refine zW Z ?_|refine yP Z ?_|refine yN Z ?_|refine zC Z (fun hb=>?_) fun hb=>?_|refine zG Z (fun hb=>?_) fun hb=>?_|refine zD Z (fun hb=>?_) fun hb=>?_);all_goals clear Z)
  refine aw_lp (fun j:Nat=>[(54,.c (.osl g4 1 0 U.length)),(55,.c (.int .i64 U.length)),(56,.c (.int .i64 j))]) (fun _=>[(g4,.cells 4 U.length (bsF off)),(g1,.cells 30 8 (ofL (mdc true m)))]) (fun j=>j≤U.length∧∀t,t<j→off.getD t false=true) (fun j=>U.length-j) 0 (zB (oj hn_g1 (oj hn_g4 dr))) zZ ⟨Nat.zero_le _,fun t ht=>absurd ht (Nat.not_lt_zero t)⟩ ?_
  rintro j ⟨hj,hall⟩
  all_goals try(have Z:=(oj hn_g1 (oj hn_g4 dr));(repeat' first|refine yA1 Z ?_|refine zW Z ?_|refine yP Z ?_|refine yN Z ?_|refine zC Z (fun hb=>?_) fun hb=>?_|refine zG Z (fun hb=>?_) fun hb=>?_|refine zD Z (fun hb=>?_) fun hb=>?_);all_goals clear Z)
  ·have hx:off.all id=false:=all_no (t:=j) om (by simpa using hb)
   rw [hx]
   refine yT hC (oj hn_g1 (oj hn_g4 dr)) ?_
   exact .one (.c (.bool _))
  ·refine aw_stop ⟨j+1,?_⟩
   have hx:off.getD j false=true:=by simpa using hb
   and_intros
   all_goals first|rfl|exact List.Sublist.refl _|exact True.intro|omega|skip
   intro t ht
   rcases Nat.lt_succ_iff_lt_or_eq.1 ht with e|rfl
   ·exact hall t e
   ·exact hx
  ·have hx:off.all id=true:=all_get (fun t ht=>hall t om)
   rw [hx]
   refine yT hC (oj hn_g1 (oj hn_g4 dr)) ?_
   exact .one (.c (.bool _))
end Go.Proofs.YteehccacfedolaaGreat
namespace Go.PN
open Go.AI
def fstC (m:MdD):Int:=orC (if nameOk m.name then 0 else 5) (orC (evhC m) (pgsC m))
end Go.PN
namespace Go.Proofs.YteehccacfedolaaGreat
open Go.AI Go.PN
attribute [local irreducible] aw Fa Fh DrK
theorem first22_fa (m:MdD) (ho:MdO m):Fa Tryz.prog 62 [.agg (mdc true m)] (.c (.int .i64 (fstC m))):=by
 have hm:=ho.ok
 have hw:=ho.wf
 have hw2:=ho.wf2
 have hl1:=hm.ev
 have hl2:=hm.hs
 have hgl:=hw2.gl
 have hpl:=hw2.pl
 have hP:∀i,i≤m.pages.length→pgS (m.pages.take i)≤1099511627776:=fun i hi=>by
  have h1:∀j,((m.pages.take i).getD j pg0).gates.length≤1048576:=fun j=>by
   by_cases hj:j<i
   ·have:=(hw2.pg j).2
    rw [List.getD_eq_getElem?_getD,List.getElem?_take_of_lt hj,←List.getD_eq_getElem?_getD];exact this
   ·rw [List.getD_eq_getElem?_getD,List.getElem?_take_eq_none om];exact Nat.zero_le _
  have h2:=pgS_le h1
  rw [List.length_take] at h2
  have:min i m.pages.length≤1048576:=by omega
  calc _≤_:=h2
   _≤1048576*1048576:=Nat.mul_le_mul_right _ this
 have fn:Fa Tryz.prog 104 [.c (.str (sB m.name))] (.c (.bool (nameOk m.name))):=rname_fa m.name hw.nm
 refine fa_of_body Tryz.func62 rfl rfl (by simp [Tryz.ntmps62]) fun C hC=> ?_
 simp only [initS,Nat.reduceAdd]
 repeat' first|refine yA1 o0 ?_|refine zW o0 ?_|refine yP o0 ?_|refine yN o0 ?_|refine zC o0 (fun hb=>?_) fun hb=>?_|refine zG o0 (fun hb=>?_) fun hb=>?_|refine zD o0 (fun hb=>?_) fun hb=>?_
 refine xB fun g1 hn_g1=>?_
 repeat' first|refine yA1 hn_g1 ?_|(refine yC2 hn_g1 (fn) ?_)|(refine yD2 hn_g1 (fn) ?_)|refine zW hn_g1 ?_|refine yP hn_g1 ?_|refine yN hn_g1 ?_|refine zC hn_g1 (fun hb=>?_) fun hb=>?_|refine zG hn_g1 (fun hb=>?_) fun hb=>?_|refine zD hn_g1 (fun hb=>?_) fun hb=>?_
 ·refine yT hC hn_g1 ?_
  refine .one (.c (ler_int ?_))
  unfold fstC orC
  rw [show nameOk m.name=false from by simpa using hb]
  rfl
 ·rename_i hnm
  have e1:fstC m=orC (evhC m) (pgsC m):=by
   unfold fstC
   rw [if_pos (by simpa using hnm)]
   exact if_pos rfl
  refine yT hC hn_g1 ?_
  refine .one (.c (ler_int ?_))
  rw [e1]
  unfold evhC orC
  rw [if_pos (show m.events.length>24 by omega)]
  rfl
 rename_i hnm
 have e1:fstC m=orC (evhC m) (pgsC m):=by
  unfold fstC
  rw [if_pos (by simpa using hnm)]
  exact if_pos rfl
 have he:¬m.events.length>24:=by omega
 have e2:evhC m=orC (frst (evC m) m.events 0) (if m.houses.length>16 then 4 else frst (hsC m) m.houses 0):=if_neg he
 generalize hF:frst (evC m) m.events 0=F at e2
 refine aw_lp (fun i:Nat=>[(1,.c (.optr g1 0)),(21,.c (evs true m.events)),(22,.c (.int .i64 m.events.length)),(23,.c (.int .i64 i))]) (fun _=>[(g1,.cells 30 8 (ofL (mdc true m)))]) (fun i=>i≤m.events.length∧frst (evC m) (m.events.drop i) i=F) (fun i=>m.events.length-i) 0 (zB hn_g1) zZ ⟨Nat.zero_le _,hF⟩ ?_
 rintro i ⟨hi,hlp⟩
 repeat' first|refine yA1 hn_g1 ?_|refine zW hn_g1 ?_|refine yP hn_g1 ?_|refine yN hn_g1 ?_|refine zC hn_g1 (fun hb=>?_) fun hb=>?_|refine zG hn_g1 (fun hb=>?_) fun hb=>?_|refine zD hn_g1 (fun hb=>?_) fun hb=>?_
 ·obtain⟨w0,w1,w2,w3⟩:=hw.ev i
  have wp:(m.events.getD i ev0).p.wf 500000000:=(getD_all ho.ev.2 ev0_o i).2.1
  have hi':=hb
  have hR:∀c,evC m i (m.events.getD i ev0)=c→c≠0→fstC m=c:=fun c hc h0=>by
   have:=frst_ret hlp hi' hc h0
   rw [e1,e2,this]
   unfold orC
   rw [if_neg h0,if_neg h0]
  have hG:=frst_go (d:=ev0) hlp hi'
  generalize hx:m.events.getD i ev0=x at*
  have f1:Fa Tryz.prog 104 [.c (.str (sB x.name))] (.c (.bool (nameOk x.name))):=rname_fa x.name w0
  have f2:=event22_fa m x.name hl1
  have f3:=sprob_fa x.p wp
  have f4:=rate22_fa x.fail w2
  have f5:=rate22_fa x.rep w3
  refine yA hn_g1 fun g4 hn_g4=>?_
  all_goals try(have Z:=(oj hn_g1 hn_g4);(repeat' first|refine yA1 Z ?_|(refine yC2 Z (f1) ?_)|(refine yD2 Z (f1) ?_)|(refine yC2 Z (f2) ?_)|(refine yD2 Z (f2) ?_)|(refine yC2 Z (f3) ?_)|(refine yD2 Z (f3) ?_)|(refine yC2 Z (f4) ?_)|(refine yD2 Z (f4) ?_)|(refine yC2 Z (f5) ?_)|(refine yD2 Z (f5) ?_)|refine zW Z ?_|refine yP Z ?_|refine yN Z ?_|refine zC Z (fun hb=>?_) fun hb=>?_|refine zG Z (fun hb=>?_) fun hb=>?_|refine zD Z (fun hb=>?_) fun hb=>?_);all_goals clear Z)
  all_goals clear f1 f2 f3 f4 f5 fn
  all_goals first
   |(refine yT hC (oj hn_g1 hn_g4) ?_
     refine .one (.c (ler_int ?_))
     refine(hR _ ?_ (by decide)).symm
     clear hR hG hlp hF hx
     unfold evC
     repeat' split
     all_goals first|rfl|(exfalso;simp_all;done)|(exfalso;simp_all;omega))
   |(refine aw_stop ⟨i+1,?_⟩
     have hz:evC m i x=0:=by
      clear hR hG hlp hF hx
      unfold evC
      repeat' split
      all_goals first|rfl|(exfalso;simp_all;done)|(exfalso;simp_all;omega)
     and_intros
     all_goals first|rfl|exact List.Sublist.refl _|exact List.sublist_cons_self _ _|exact True.intro|exact hG hz|omega)
 ·have hF0:=frst_fin hlp (by assumption)
  subst hF0
  refine yT hC hn_g1 ?_
  refine .one (.c (ler_int ?_))
  rw [e1,e2]
  unfold orC
  rw [if_pos rfl,if_pos (show m.houses.length>16 by omega)]
  rfl
 have hF0:=frst_fin hlp (by assumption)
 subst hF0
 have hh:¬m.houses.length>16:=by omega
 have e3:evhC m=frst (hsC m) m.houses 0:=by
  rw [e2]
  unfold orC
  rw [if_pos rfl,if_neg hh]
 clear hlp hi hF e2
 generalize hF:frst (hsC m) m.houses 0=F at e3
 refine aw_lp (fun i:Nat=>[(1,.c (.optr g1 0)),(65,.c (hss true m.houses)),(66,.c (.int .i64 m.houses.length)),(67,.c (.int .i64 i))]) (fun _=>[(g1,.cells 30 8 (ofL (mdc true m)))]) (fun i=>i≤m.houses.length∧frst (hsC m) (m.houses.drop i) i=F) (fun i=>m.houses.length-i) 0 (zB hn_g1) zZ ⟨Nat.zero_le _,hF⟩ ?_
 rintro i ⟨hi,hlp⟩
 repeat' first|refine yA1 hn_g1 ?_|refine zW hn_g1 ?_|refine yP hn_g1 ?_|refine yN hn_g1 ?_|refine zC hn_g1 (fun hb=>?_) fun hb=>?_|refine zG hn_g1 (fun hb=>?_) fun hb=>?_|refine zD hn_g1 (fun hb=>?_) fun hb=>?_
 ·have w0:=hw.hs i
  have hi':=hb
  have hR:∀c,hsC m i (m.houses.getD i hs0)=c→c≠0→fstC m=c:=fun c hc h0=>by
   have:=frst_ret hlp hi' hc h0
   rw [e1,e3,this]
   unfold orC
   rw [if_neg h0]
  have hG:=frst_go (d:=hs0) hlp hi'
  generalize hx:m.houses.getD i hs0=x at*
  have f1:Fa Tryz.prog 104 [.c (.str (sB x.name))] (.c (.bool (nameOk x.name))):=rname_fa x.name w0
  have f2:=event22_fa m x.name hl1
  have f3:=house22_fa m x.name hl2
  refine yA hn_g1 fun g4 hn_g4=>?_
  all_goals try(have Z:=(oj hn_g1 hn_g4);(repeat' first|refine yA1 Z ?_|(refine yC2 Z (f1) ?_)|(refine yD2 Z (f1) ?_)|(refine yC2 Z (f2) ?_)|(refine yD2 Z (f2) ?_)|(refine yC2 Z (f3) ?_)|(refine yD2 Z (f3) ?_)|refine zW Z ?_|refine yP Z ?_|refine yN Z ?_|refine zC Z (fun hb=>?_) fun hb=>?_|refine zG Z (fun hb=>?_) fun hb=>?_|refine zD Z (fun hb=>?_) fun hb=>?_);all_goals clear Z)
  all_goals clear f1 f2 f3 fn
  all_goals first
   |(refine yT hC (oj hn_g1 hn_g4) ?_
     refine .one (.c (ler_int ?_))
     refine(hR _ ?_ (by decide)).symm
     clear hR hG hlp hF hx
     unfold hsC
     repeat' split
     all_goals first|rfl|(exfalso;simp_all;done)|(exfalso;simp_all;omega))
   |(refine aw_stop ⟨i+1,?_⟩
     have hz:hsC m i x=0:=by
      clear hR hG hlp hF hx
      unfold hsC
      repeat' split
      all_goals first|rfl|(exfalso;simp_all;done)|(exfalso;simp_all;omega)
     and_intros
     all_goals first|rfl|exact List.Sublist.refl _|exact List.sublist_cons_self _ _|exact True.intro|exact hG hz|omega)
 have hF0:=frst_fin hlp hb
 have e4:fstC m=pgsC m:=by
  rw [e1,e3,hF0]
  exact if_pos rfl
 clear hlp hi hF e3 e1 hF0
 refine aw_lp (fun i:Nat=>[(1,.c (.optr g1 0)),(7,.c (.int .i64 ((m.gates.length+pgS (m.pages.take i):Nat):Int))),(94,.c (pgs true m.pages)),(95,.c (.int .i64 m.pages.length)),(96,.c (.int .i64 i))]) (fun _=>[(g1,.cells 30 8 (ofL (mdc true m)))]) (fun i=>i≤m.pages.length) (fun i=>m.pages.length-i) 0 (zB hn_g1) zZ (Nat.zero_le _) ?_
 rintro i hi
 have hPi:=hP i hi
 repeat' first|refine yA1 hn_g1 ?_|refine zW hn_g1 ?_|refine yP hn_g1 ?_|refine yN hn_g1 ?_|refine zC hn_g1 (fun hb=>?_) fun hb=>?_|refine zG hn_g1 (fun hb=>?_) fun hb=>?_|refine zD hn_g1 (fun hb=>?_) fun hb=>?_
 ·have hi':=hb
  have hP2:=hP (i+1) hi'
  have ht:=pgS_take hi'
  have hpg:=(hw2.pg i).2
  refine yA hn_g1 fun g4 hn_g4=>?_
  all_goals try(have Z:=(oj hn_g1 hn_g4);(repeat' first|refine yA1 Z ?_|refine zW Z ?_|refine yP Z ?_|refine yN Z ?_|refine zC Z (fun hb=>?_) fun hb=>?_|refine zG Z (fun hb=>?_) fun hb=>?_|refine zD Z (fun hb=>?_) fun hb=>?_);all_goals clear Z)
  refine aw_stop ⟨i+1,?_⟩
  and_intros
  all_goals first|rfl|exact List.Sublist.refl _|exact List.sublist_cons_self _ _|exact True.intro|exact c_int om|omega
 ·refine yT hC hn_g1 ?_
  refine .one (.c (ler_int ?_))
  rw [e4]
  unfold pgsC
  rw [if_pos (.inl om)]
 ·rename_i h8 hi0
  have htk:m.pages.take i=m.pages:=List.take_of_length_le om
  rw [htk] at hb
  have hg:gtN m>64:=by
   show m.gates.length+pgS m.pages>64
   omega
  refine yT hC hn_g1 ?_
  refine .one (.c (ler_int ?_))
  rw [e4]
  unfold pgsC
  rw [if_pos (.inr hg)]
 rename_i h8 hi0
 have htk:m.pages.take i=m.pages:=List.take_of_length_le om
 rw [htk] at hb
 have hg:¬gtN m>64:=by
  show¬m.gates.length+pgS m.pages>64
  omega
 have he2:fstC m=frst (pgC m) m.pages 0:=by
  rw [e4]
  unfold pgsC
  rw [if_neg (fun z=>z.elim om hg)]
 generalize hF:frst (pgC m) m.pages 0=F at he2
 refine aw_lp (fun i:Nat=>[(1,.c (.optr g1 0)),(115,.c (pgs true m.pages)),(116,.c (.int .i64 m.pages.length)),(117,.c (.int .i64 i))]) (fun _=>[(g1,.cells 30 8 (ofL (mdc true m)))]) (fun i=>i≤m.pages.length∧frst (pgC m) (m.pages.drop i) i=F) (fun i=>m.pages.length-i) 0 (zB hn_g1) zZ ⟨Nat.zero_le _,hF⟩ ?_
 rintro i ⟨hi,hlp⟩
 repeat' first|refine yA1 hn_g1 ?_|refine zW hn_g1 ?_|refine yP hn_g1 ?_|refine yN hn_g1 ?_|refine zC hn_g1 (fun hb=>?_) fun hb=>?_|refine zG hn_g1 (fun hb=>?_) fun hb=>?_|refine zD hn_g1 (fun hb=>?_) fun hb=>?_
 ·obtain⟨w0,_⟩:=hw2.pg i
  have hi':=hb
  have hR:∀c,pgC m i (m.pages.getD i pg0)=c→c≠0→fstC m=c:=fun c hc h0=>by
   rw [he2];exact frst_ret hlp hi' hc h0
  have hG:=frst_go (d:=pg0) hlp hi'
  generalize hx:m.pages.getD i pg0=x at*
  have f1:Fa Tryz.prog 104 [.c (.str (sB x.name))] (.c (.bool (nameOk x.name))):=rname_fa x.name w0
  have f2:=page22_fa m x.name hm.pg
  refine yA hn_g1 fun g4 hn_g4=>?_
  all_goals try(have Z:=(oj hn_g1 hn_g4);(repeat' first|refine yA1 Z ?_|(refine yC2 Z (f1) ?_)|(refine yD2 Z (f1) ?_)|(refine yC2 Z (f2) ?_)|(refine yD2 Z (f2) ?_)|refine zW Z ?_|refine yP Z ?_|refine yN Z ?_|refine zC Z (fun hb=>?_) fun hb=>?_|refine zG Z (fun hb=>?_) fun hb=>?_|refine zD Z (fun hb=>?_) fun hb=>?_);all_goals clear Z)
  all_goals clear f1 f2 fn
  all_goals first
   |(refine yT hC (oj hn_g1 hn_g4) ?_
     refine .one (.c (ler_int ?_))
     refine(hR _ ?_ (by decide)).symm
     clear hR hG hlp hF hx
     unfold pgC
     repeat' split
     all_goals first|rfl|(exfalso;simp_all;done)|(exfalso;simp_all;omega))
   |(refine aw_stop ⟨i+1,?_⟩
     have hz:pgC m i x=0:=by
      clear hR hG hlp hF hx
      unfold pgC
      repeat' split
      all_goals first|rfl|(exfalso;simp_all;done)|(exfalso;simp_all;omega)
     and_intros
     all_goals first|rfl|exact List.Sublist.refl _|exact List.sublist_cons_self _ _|exact True.intro|exact hG hz|omega)
 ·have hF0:=frst_fin hlp hb
  subst hF0
  refine yT hC hn_g1 ?_
  exact .one (.c (ler_int he2.symm))
end Go.Proofs.YteehccacfedolaaGreat
namespace Go.PN
open Go.AI
theorem bnd_kind (k:Int):((bndK k).2=0↔k<0∨k>8):=by
 unfold bndK
 constructor
 ·intro h
  split at h
  ·cases h
  split at h
  ·cases h
  split at h
  ·cases h
  split at h
  ·cases h
  omega
 ·intro h
  rw [if_neg om,if_neg om,if_neg om,if_neg om]
theorem bnd_inp {k:Int} (h0:0≤k) (h8:k≤8) (n:Nat):(inpB k n=false)↔((n:Int)<(bndK k).1∨(n:Int)>(bndK k).2):=by
 unfold inpB bndK
 by_cases e3:k=3
 ·subst e3;simp;omega
 by_cases e5:k=5
 ·subst e5;simp;omega
 by_cases e6:k=6∨k=7∨k=8
 ·rw [if_neg e3,if_neg e5,if_pos e6,if_neg om,if_neg e3,if_neg e5,if_pos e6]
  simp
  omega
 ·rw [if_neg e3,if_neg e5,if_neg e6,if_pos om]
  simp
  omega
theorem shp_bnd (x:GtD):shpC x=if(bndK x.kind).2=0 then 7 else if(x.inputs.length:Int)<(bndK x.kind).1∨(x.inputs.length:Int)>(bndK x.kind).2 then 11
 else if x.kind=2∧(x.k<1∨x.k>x.inputs.length) then 3 else if x.kind≠2∧x.k≠0 then 2
 else if x.kind=7∧x.dorm.prob=false then 3 else if x.kind≠7∧zeroB x.dorm=false then 2 else 0:=by
 unfold shpC
 by_cases h:x.kind<0∨x.kind>8
 ·rw [if_pos h,if_pos ((bnd_kind _).2 h)]
 ·rw [if_neg h,if_neg (fun z=>h ((bnd_kind _).1 z))]
  have:=bnd_inp (k:=x.kind) om om x.inputs.length
  by_cases h2:inpB x.kind x.inputs.length=false
  ·rw [if_pos h2,if_pos (this.1 h2)]
  ·rw [if_neg h2,if_neg (fun z=>h2 (this.2 z))]
end Go.PN
namespace Go.Proofs.YteehccacfedolaaGreat
open Go.AI Go.PN
attribute [local irreducible] aw Fa Fh DrK
theorem shape22_fa (m:MdD) (k i:Nat) (hk:k≤m.pages.length) (hi:i<(gtsK m k).length) (ho:MdO m):Fa Tryz.prog 64 [.agg (mdc true m),.c (.int .i64 ((k:Int)-1)),.c (.int .i64 i)] (.c (.int .i64 (gtC m k i ((gtsK m k).getD i gt0)))):=by
 have hm:=ho.ok
 have hgl:(gtsK m k).length≤1099511627776:=Nat.le_trans (ho.gts k).1 (by decide)
 obtain⟨w0,w1,w2,_⟩:=ho.gti k i
 have w2':((gtsK m k).getD i gt0).inputs.length≤1099511627776:=Nat.le_trans w2 (by decide)
 have f0:=gates22_fa m k hk hm.pg
 have f9:=f0
 generalize hx:(gtsK m k).getD i gt0=x at*
 have f1:Fa Tryz.prog 104 [.c (.str (sB x.name))] (.c (.bool (nameOk x.name))):=rname_fa x.name (Nat.le_trans w0 (by decide))
 have f2:=bounds22_fa x.kind
 have f3:=event22_fa m x.name hm.ev
 have f4:=house22_fa m x.name hm.hs
 have f5:=gate22_fa (gtsK m k) x.name hgl
 have f6:=sprob_fa x.dorm w1
 have f7:=zero22_fa x.dorm w1.w
 have hS:=shp_bnd x
 generalize hA:(bndK x.kind).1=lo at*
 generalize hB:(bndK x.kind).2=hi' at*
 have hc:gtC m k i x=(if nameOk x.name=false then 5 else if evI m x.name≥0∨hsI m x.name≥0∨gtI (gtsK m k) x.name<i then 6 else shpC x):=rfl
 rw [hc,hS]
 clear hc hS hA hB
 obtain⟨xn,kd,kv,xi,xd⟩:=x
 dsimp only at*
 refine fa_of_body Tryz.func64 rfl rfl (by simp [Tryz.ntmps64]) fun C hC=> ?_
 simp only [initS,Nat.reduceAdd]
 repeat' first|refine yA1 o0 ?_|refine zW o0 ?_|refine yP o0 ?_|refine yN o0 ?_|refine zC o0 (fun hb=>?_) fun hb=>?_|refine zG o0 (fun hb=>?_) fun hb=>?_|refine zD o0 (fun hb=>?_) fun hb=>?_
 refine xB fun g1 hn_g1=>?_
 repeat' first|refine yA1 hn_g1 ?_|(refine yC2 hn_g1 (f0) ?_)|(refine yD2 hn_g1 (f0) ?_)|refine zW hn_g1 ?_|refine yP hn_g1 ?_|refine yN hn_g1 ?_|refine zC hn_g1 (fun hb=>?_) fun hb=>?_|refine zG hn_g1 (fun hb=>?_) fun hb=>?_|refine zD hn_g1 (fun hb=>?_) fun hb=>?_
 refine yA hn_g1 fun g2 hn_g2=>?_
 rw [hx]
 all_goals try(have Z:=(oj hn_g1 hn_g2);(repeat' first|refine yA1 Z ?_|(refine yC2 Z (f1) ?_)|(refine yD2 Z (f1) ?_)|(refine yC2 Z (f2) ?_)|(refine yD2 Z (f2) ?_)|refine zW Z ?_|refine yP Z ?_|refine yN Z ?_|refine zC Z (fun hb=>?_) fun hb=>?_|refine zG Z (fun hb=>?_) fun hb=>?_|refine zD Z (fun hb=>?_) fun hb=>?_);all_goals clear Z)
 ·rw [if_pos (by simpa using hb)]
  refine yT hC (oj hn_g1 hn_g2) ?_
  exact .one (.c (.int _ _))
 rw [if_neg (by simpa using hb)]
 clear hb hx f0 f1 f2
 by_cases e1:evI m xn≥0
 ·have d1:decide (evI m xn≥0)=true:=decide_eq_true e1
  all_goals try(have Z:=(oj hn_g1 (oj hn_g2 d1));(repeat' first|refine yA1 Z ?_|(refine yC2 Z (f3) ?_)|(refine yD2 Z (f3) ?_)|refine zW Z ?_|refine yP Z ?_|refine yN Z ?_|refine zC Z (fun hb=>?_) fun hb=>?_|refine zG Z (fun hb=>?_) fun hb=>?_|refine zD Z (fun hb=>?_) fun hb=>?_);all_goals clear Z)
  rw [if_pos (.inl e1)]
  refine yT hC (oj hn_g1 (oj hn_g2 d1)) ?_
  exact .one (.c (.int _ _))
 have d1:decide (evI m xn≥0)=false:=decide_eq_false e1
 by_cases e2:hsI m xn≥0
 ·have d2:decide (hsI m xn≥0)=true:=decide_eq_true e2
  all_goals try(have Z:=(oj hn_g1 (oj hn_g2 (oj d1 d2)));(repeat' first|refine yA1 Z ?_|(refine yC2 Z (f3) ?_)|(refine yD2 Z (f3) ?_)|(refine yC2 Z (f4) ?_)|(refine yD2 Z (f4) ?_)|refine zW Z ?_|refine yP Z ?_|refine yN Z ?_|refine zC Z (fun hb=>?_) fun hb=>?_|refine zG Z (fun hb=>?_) fun hb=>?_|refine zD Z (fun hb=>?_) fun hb=>?_);all_goals clear Z)
  rw [if_pos (.inr (.inl e2))]
  refine yT hC (oj hn_g1 (oj hn_g2 (oj d1 d2))) ?_
  exact .one (.c (.int _ _))
 have d2:decide (hsI m xn≥0)=false:=decide_eq_false e2
 all_goals try(have Z:=(oj hn_g1 (oj hn_g2 (oj d1 d2)));(repeat' first|refine yA1 Z ?_|(refine yC2 Z (f3) ?_)|(refine yD2 Z (f3) ?_)|(refine yC2 Z (f4) ?_)|(refine yD2 Z (f4) ?_)|refine zW Z ?_|refine yP Z ?_|refine yN Z ?_|refine zC Z (fun hb=>?_) fun hb=>?_|refine zG Z (fun hb=>?_) fun hb=>?_|refine zD Z (fun hb=>?_) fun hb=>?_);all_goals clear Z)
 refine aw_dr 9 ty_mixed (by kernel_rfl) ?_
 by_cases e3:gtI (gtsK m k) xn<i
 ·have d3:decide (gtI (gtsK m k) xn<(i:Int))=true:=decide_eq_true e3
  all_goals try(have Z:=(oj hn_g1 (oj hn_g2 (oj d1 (oj d2 d3))));(repeat' first|refine yA1 Z ?_|(refine yC2 Z (f9) ?_)|(refine yD2 Z (f9) ?_)|(refine yC2 Z (f5) ?_)|(refine yD2 Z (f5) ?_)|refine zW Z ?_|refine yP Z ?_|refine yN Z ?_|refine zC Z (fun hb=>?_) fun hb=>?_|refine zG Z (fun hb=>?_) fun hb=>?_|refine zD Z (fun hb=>?_) fun hb=>?_);all_goals clear Z)
  rw [if_pos (.inr (.inr e3))]
  refine yT hC (oj hn_g1 (oj hn_g2 (oj d1 (oj d2 d3)))) ?_
  exact .one (.c (.int _ _))
 have d3:decide (gtI (gtsK m k) xn<(i:Int))=false:=decide_eq_false e3
 rw [if_neg om]
 clear e1 e2 e3 f3 f4
 by_cases e4:hi'=0
 ·have d4:(hi'==0)=true:=by rw [e4];rfl
  all_goals try(have Z:=(oj hn_g1 (oj hn_g2 (oj d1 (oj d2 (oj d3 d4)))));(repeat' first|refine yA1 Z ?_|(refine yC2 Z (f9) ?_)|(refine yD2 Z (f9) ?_)|(refine yC2 Z (f5) ?_)|(refine yD2 Z (f5) ?_)|refine zW Z ?_|refine yP Z ?_|refine yN Z ?_|refine zC Z (fun hb=>?_) fun hb=>?_|refine zG Z (fun hb=>?_) fun hb=>?_|refine zD Z (fun hb=>?_) fun hb=>?_);all_goals clear Z)
  rw [if_pos e4]
  refine yT hC (oj hn_g1 (oj hn_g2 (oj d1 (oj d2 (oj d3 d4))))) ?_
  exact .one (.c (.int _ _))
 have d4:(hi'==0)=false:=beq_eq_false_iff_ne.2 e4
 rw [if_neg e4]
 by_cases e5:(xi.length:Int)<lo
 ·have d5:decide ((xi.length:Int)<lo)=true:=decide_eq_true e5
  all_goals try(have Z:=(oj hn_g1 (oj hn_g2 (oj d1 (oj d2 (oj d3 (oj d4 d5))))));(repeat' first|refine yA1 Z ?_|(refine yC2 Z (f9) ?_)|(refine yD2 Z (f9) ?_)|(refine yC2 Z (f5) ?_)|(refine yD2 Z (f5) ?_)|refine zW Z ?_|refine yP Z ?_|refine yN Z ?_|refine zC Z (fun hb=>?_) fun hb=>?_|refine zG Z (fun hb=>?_) fun hb=>?_|refine zD Z (fun hb=>?_) fun hb=>?_);all_goals clear Z)
  rw [if_pos (.inl e5)]
  refine yT hC (oj hn_g1 (oj hn_g2 (oj d1 (oj d2 (oj d3 (oj d4 d5)))))) ?_
  exact .one (.c (.int _ _))
 have d5:decide ((xi.length:Int)<lo)=false:=decide_eq_false e5
 by_cases e6:(xi.length:Int)>hi'
 ·have d6:decide ((xi.length:Int)>hi')=true:=decide_eq_true e6
  all_goals try(have Z:=(oj hn_g1 (oj hn_g2 (oj d1 (oj d2 (oj d3 (oj d4 (oj d5 d6)))))));(repeat' first|refine yA1 Z ?_|(refine yC2 Z (f9) ?_)|(refine yD2 Z (f9) ?_)|(refine yC2 Z (f5) ?_)|(refine yD2 Z (f5) ?_)|refine zW Z ?_|refine yP Z ?_|refine yN Z ?_|refine zC Z (fun hb=>?_) fun hb=>?_|refine zG Z (fun hb=>?_) fun hb=>?_|refine zD Z (fun hb=>?_) fun hb=>?_);all_goals clear Z)
  rw [if_pos (.inr e6)]
  refine yT hC (oj hn_g1 (oj hn_g2 (oj d1 (oj d2 (oj d3 (oj d4 (oj d5 d6))))))) ?_
  exact .one (.c (.int _ _))
 have d6:decide ((xi.length:Int)>hi')=false:=decide_eq_false e6
 rw [if_neg (fun z=>z.elim e5 e6)]
 by_cases k2:kd=2
 ·subst k2
  all_goals try(have Z:=(oj hn_g1 (oj hn_g2 (oj d1 (oj d2 (oj d3 (oj d4 (oj d5 d6)))))));(repeat' first|refine yA1 Z ?_|(refine yC2 Z (f9) ?_)|(refine yD2 Z (f9) ?_)|(refine yC2 Z (f5) ?_)|(refine yD2 Z (f5) ?_)|(refine yC2 Z (f7) ?_)|(refine yD2 Z (f7) ?_)|refine zW Z ?_|refine yP Z ?_|refine yN Z ?_|refine zC Z (fun hb=>?_) fun hb=>?_|refine zG Z (fun hb=>?_) fun hb=>?_|refine zD Z (fun hb=>?_) fun hb=>?_);all_goals clear Z)
  all_goals clear f9 f5 f7
  all_goals
   refine yT hC (oj hn_g1 (oj hn_g2 (oj d1 (oj d2 (oj d3 (oj d4 (oj d5 d6))))))) ?_
   refine .one (.c (ler_int ?_))
   repeat' split
   all_goals first|rfl|(exfalso;simp_all;done)|(exfalso;simp_all;omega)
 have q2:(kd==2)=false:=beq_eq_false_iff_ne.2 k2
 have r2:(kd !=2)=true:=bne_iff_ne.2 k2
 by_cases k7:kd=7
 ·subst k7
  all_goals try(have Z:=(oj hn_g1 (oj hn_g2 (oj d1 (oj d2 (oj d3 (oj d4 (oj d5 (oj d6 (oj q2 r2)))))))));(repeat' first|refine yA1 Z ?_|(refine yC2 Z (f9) ?_)|(refine yD2 Z (f9) ?_)|(refine yC2 Z (f5) ?_)|(refine yD2 Z (f5) ?_)|(refine yC2 Z (f6) ?_)|(refine yD2 Z (f6) ?_)|refine zW Z ?_|refine yP Z ?_|refine yN Z ?_|refine zC Z (fun hb=>?_) fun hb=>?_|refine zG Z (fun hb=>?_) fun hb=>?_|refine zD Z (fun hb=>?_) fun hb=>?_);all_goals clear Z)
  all_goals clear f9 f5 f6
  all_goals
   refine yT hC (oj hn_g1 (oj hn_g2 (oj d1 (oj d2 (oj d3 (oj d4 (oj d5 (oj d6 (oj q2 r2))))))))) ?_
   refine .one (.c (ler_int ?_))
   repeat' split
   all_goals first|rfl|(exfalso;simp_all;done)|(exfalso;simp_all;omega)
 have q7:(kd==7)=false:=beq_eq_false_iff_ne.2 k7
 have r7:(kd !=7)=true:=bne_iff_ne.2 k7
 all_goals try(have Z:=(oj hn_g1 (oj hn_g2 (oj d1 (oj d2 (oj d3 (oj d4 (oj d5 (oj d6 (oj q2 (oj r2 (oj q7 r7)))))))))));(repeat' first|refine yA1 Z ?_|(refine yC2 Z (f9) ?_)|(refine yD2 Z (f9) ?_)|(refine yC2 Z (f5) ?_)|(refine yD2 Z (f5) ?_)|(refine yC2 Z (f7) ?_)|(refine yD2 Z (f7) ?_)|refine zW Z ?_|refine yP Z ?_|refine yN Z ?_|refine zC Z (fun hb=>?_) fun hb=>?_|refine zG Z (fun hb=>?_) fun hb=>?_|refine zD Z (fun hb=>?_) fun hb=>?_);all_goals clear Z)
 all_goals clear f9 f5 f7
 all_goals
  refine yT hC (oj hn_g1 (oj hn_g2 (oj d1 (oj d2 (oj d3 (oj d4 (oj d5 (oj d6 (oj q2 (oj r2 (oj q7 r7))))))))))) ?_
  refine .one (.c (ler_int ?_))
  repeat' split
  all_goals first|rfl|(exfalso;simp_all;done)|(exfalso;simp_all;omega)
end Go.Proofs.YteehccacfedolaaGreat
namespace Go.PN
open Go.AI
theorem fidx_le {α:Type} {p:α→Bool} {d:α} {l:List α} {i j:Nat} (hi:i≤l.length) (hj:j<i) (hp:p (l.getD j d)=true) (hn:∀t,t<j→p (l.getD t d)=false):fidx p l<i:=by
 rw [fidx_at d om hp hn];omega
theorem fidx_ge_of {α:Type} {p:α→Bool} {d:α} {l:List α} {i:Nat} (hi:i<l.length) (hp:p (l.getD i d)=true) (hn:∀t,t<i→p (l.getD t d)=false):¬fidx p l<i:=by
 rw [fidx_at d hi hp hn];omega
theorem no_step {p:Nat→Bool} {j:Nat} (h:∀t,t<j→p t=false) (hj:p j=false):∀t,t<j+1→p t=false:=fun t ht=>by
 rcases Nat.lt_succ_iff_lt_or_eq.1 ht with e|rfl
 ·exact h t e
 ·exact hj
end Go.PN
namespace Go.Proofs.YteehccacfedolaaGreat
open Go.AI Go.PN
attribute [local irreducible] aw Fa Fh DrK
theorem phases22_fa (m:MdD) (ho:MdO m):Fa Tryz.prog 67 [.agg (mdc true m)] (.c (.int .i64 (phsC m))):=by
 have hm:=ho.ok
 have hw:=ho.wf3
 have hw2:=ho.wf2
 have hl:=hw.l
 refine fa_of_body Tryz.func67 rfl rfl (by simp [Tryz.ntmps67]) fun C hC=> ?_
 simp only [initS,Nat.reduceAdd]
 repeat' first|refine yA1 o0 ?_|refine zW o0 ?_|refine yP o0 ?_|refine yN o0 ?_|refine zC o0 (fun hb=>?_) fun hb=>?_|refine zG o0 (fun hb=>?_) fun hb=>?_|refine zD o0 (fun hb=>?_) fun hb=>?_
 refine xB fun g1 hn_g1=>?_
 repeat' first|refine yA1 hn_g1 ?_|refine zW hn_g1 ?_|refine yP hn_g1 ?_|refine yN hn_g1 ?_|refine zC hn_g1 (fun hb=>?_) fun hb=>?_|refine zG hn_g1 (fun hb=>?_) fun hb=>?_|refine zD hn_g1 (fun hb=>?_) fun hb=>?_
 ·refine yT hC hn_g1 ?_
  exact .one (.c (ler_int (by unfold phsC;rw [if_pos om])))
 have he2:phsC m=frst (phC m) m.phases 0:=by
  unfold phsC
  rw [if_neg om]
 generalize hF:frst (phC m) m.phases 0=F at he2
 refine aw_lp (fun i:Nat=>[(1,.c (.optr g1 0)),(16,.c (phs true m.phases)),(17,.c (.int .i64 m.phases.length)),(18,.c (.int .i64 i))]) (fun _=>[(g1,.cells 30 8 (ofL (mdc true m)))]) (fun i=>i≤m.phases.length∧frst (phC m) (m.phases.drop i) i=F) (fun i=>m.phases.length-i) 0 (zB hn_g1) zZ ⟨Nat.zero_le _,hF⟩ ?_
 rintro i ⟨hi,hlp⟩
 repeat' first|refine yA1 hn_g1 ?_|refine zW hn_g1 ?_|refine yP hn_g1 ?_|refine yN hn_g1 ?_|refine zC hn_g1 (fun hb=>?_) fun hb=>?_|refine zG hn_g1 (fun hb=>?_) fun hb=>?_|refine zD hn_g1 (fun hb=>?_) fun hb=>?_
 ·obtain⟨w0,w1,w2⟩:=hw.ph i
  have w3:∀k,((m.phases.getD i ph0).values.getD k vl0).p.wf 500000000:=fun k=>(getD_all (getD_all ho.ph.2 ph0_o i).2.2.2 vl0_o k).2
  have hi':=hb
  have hR:∀c,phC m i (m.phases.getD i ph0)=c→c≠0→phsC m=c:=fun c hc h0=>by
   rw [he2];exact frst_ret hlp hi' hc h0
  have hG:=frst_go (d:=ph0) hlp hi'
  clear hlp
  generalize hx:m.phases.getD i ph0=x at*
  have f1:Fa Tryz.prog 104 [.c (.str (sB x.name))] (.c (.bool (nameOk x.name))):=rname_fa x.name w0
  have f3:Fa Tryz.prog 113 [.agg (mdc true m),.c (.int .i64 (-1)),.c (.str (sB x.top))] (.c (.bool (isInp m 0 x.top))):=names22_fa m 0 x.top (Nat.zero_le _) hm.ev hm.hs hm.pg (Nat.le_trans (ho.gts 0).1 (by decide)) w1
  refine yA hn_g1 fun g4 hn_g4=>?_
  all_goals try(have Z:=(oj hn_g1 hn_g4);(repeat' first|refine yA1 Z ?_|(refine yC2 Z (f1) ?_)|(refine yD2 Z (f1) ?_)|refine zW Z ?_|refine yP Z ?_|refine yN Z ?_|refine zC Z (fun hb=>?_) fun hb=>?_|refine zG Z (fun hb=>?_) fun hb=>?_|refine zD Z (fun hb=>?_) fun hb=>?_);all_goals clear Z)
  ·refine yT hC (oj hn_g1 hn_g4) ?_
   refine .one (.c (ler_int (hR _ ?_ (by decide)).symm))
   unfold phC
   rw [if_pos (by simpa using hb)]
  have hn1:=hb
  have hxn:((m.phases.getD i ph0).name==x.name)=true:=by rw [hx];exact beq_self_eq_true _
  refine aw_lp (fun j:Nat=>[(1,.c (.optr g1 0)),(3,.c (.int .i64 i)),(4,.c (.optr g4 0)),(16,.c (phs true m.phases)),(17,.c (.int .i64 m.phases.length)),(18,.c (.int .i64 i)),(30,.c (.row true 3 i (phsF m.phases))),(31,.c (.int .i64 i)),(32,.c (.int .i64 j))]) (fun _=>[(g4,.cells 82 3 (ofL (phc x))),(g1,.cells 30 8 (ofL (mdc true m)))]) (fun j=>j≤i∧∀t,t<j→((m.phases.getD t ph0).name==x.name)=false) (fun j=>i-j) 0 (zB (oj hn_g1 hn_g4)) zZ ⟨Nat.zero_le _,fun t ht=>absurd ht (Nat.not_lt_zero t)⟩ ?_
  rintro j ⟨hj,hno⟩
  all_goals try(have Z:=(oj hn_g1 hn_g4);(repeat' first|refine yA1 Z ?_|refine zW Z ?_|refine yP Z ?_|refine yN Z ?_|refine zC Z (fun hb=>?_) fun hb=>?_|refine zG Z (fun hb=>?_) fun hb=>?_|refine zD Z (fun hb=>?_) fun hb=>?_);all_goals clear Z)
  ·have hj':=hb
   refine yA (oj hn_g1 hn_g4) fun g6 hn_g6=>?_
   all_goals try(have Z:=(oj hn_g1 (oj hn_g4 hn_g6));(repeat' first|refine yA1 Z ?_|refine zW Z ?_|refine yP Z ?_|refine yN Z ?_|refine zC Z (fun hb=>?_) fun hb=>?_|refine zG Z (fun hb=>?_) fun hb=>?_|refine zD Z (fun hb=>?_) fun hb=>?_);all_goals clear Z)
   ·refine yT hC (oj hn_g1 (oj hn_g4 hn_g6)) ?_
    refine .one (.c (ler_int (hR _ ?_ (by decide)).symm))
    unfold phC
    rw [if_neg (by simpa using hn1),if_pos (fidx_le (d:=ph0) om hj' (by simpa using hb) hno)]
   ·refine aw_stop ⟨j+1,?_⟩
    and_intros
    all_goals first|rfl|exact List.Sublist.refl _|exact List.sublist_cons_self _ _|exact True.intro|exact no_step (p:=fun t=>(m.phases.getD t ph0).name==x.name) hno (by simpa using hb)|omega
  have hjE:j=i:=by omega
  subst hjE
  have hn2:¬fidx (fun y:PhD=>y.name==x.name) m.phases<(j:Nat):=fidx_ge_of (d:=ph0) hi' hxn hno
  all_goals try(have Z:=(oj hn_g1 hn_g4);(repeat' first|refine yA1 Z ?_|(refine yC2 Z (f3) ?_)|(refine yD2 Z (f3) ?_)|refine zW Z ?_|refine yP Z ?_|refine yN Z ?_|refine zC Z (fun hb=>?_) fun hb=>?_|refine zG Z (fun hb=>?_) fun hb=>?_|refine zD Z (fun hb=>?_) fun hb=>?_);all_goals clear Z)
  ·refine yT hC (oj hn_g1 hn_g4) ?_
   refine .one (.c (ler_int (hR _ ?_ (by decide)).symm))
   unfold phC
   rw [if_neg (by simpa using hn1),if_neg hn2,if_pos (by simpa using hb)]
  have hn3:=hb
  have hp:phC m j x=frst (vlC m x) x.values 0:=by
   unfold phC
   rw [if_neg (by simpa using hn1),if_neg hn2,if_neg (by simpa using hn3)]
  clear f1 f3 hno
  generalize hF2:frst (vlC m x) x.values 0=F2 at hp
  refine aw_lp (fun k:Nat=>[(1,.c (.optr g1 0)),(4,.c (.optr g4 0)),(16,.c (phs true m.phases)),(17,.c (.int .i64 m.phases.length)),(18,.c (.int .i64 j)),(48,.c (vls true x.values)),(49,.c (.int .i64 x.values.length)),(50,.c (.int .i64 k))]) (fun _=>[(g4,.cells 82 3 (ofL (phc x))),(g1,.cells 30 8 (ofL (mdc true m)))]) (fun k=>k≤x.values.length∧frst (vlC m x) (x.values.drop k) k=F2) (fun k=>x.values.length-k) 0 (zB (oj hn_g1 hn_g4)) zZ ⟨Nat.zero_le _,hF2⟩ ?_
  rintro k ⟨hk,hlq⟩
  all_goals try(have Z:=(oj hn_g1 hn_g4);(repeat' first|refine yA1 Z ?_|refine zW Z ?_|refine yP Z ?_|refine yN Z ?_|refine zC Z (fun hb=>?_) fun hb=>?_|refine zG Z (fun hb=>?_) fun hb=>?_|refine zD Z (fun hb=>?_) fun hb=>?_);all_goals clear Z)
  ·have hk':=hb
   have hR2:∀c,vlC m x k (x.values.getD k vl0)=c→c≠0→phsC m=c:=fun c hc h0=>hR c (hp.trans (frst_ret hlq hk' hc h0)) h0
   have hG2:=frst_go (d:=vl0) hlq hk'
   clear hlq
   have w4:=w3 k
   generalize hv:x.values.getD k vl0=v at*
   have f1:=event22_fa m v.event hm.ev
   have f3:=sprob_fa v.p w4
   have hvn:((x.values.getD k vl0).event==v.event)=true:=by rw [hv];exact beq_self_eq_true _
   refine yA (oj hn_g1 hn_g4) fun g8 hn_g8=>?_
   all_goals try(have Z:=(oj hn_g1 (oj hn_g4 hn_g8));(repeat' first|refine yA1 Z ?_|(refine yC2 Z (f1) ?_)|(refine yD2 Z (f1) ?_)|refine zW Z ?_|refine yP Z ?_|refine yN Z ?_|refine zC Z (fun hb=>?_) fun hb=>?_|refine zG Z (fun hb=>?_) fun hb=>?_|refine zD Z (fun hb=>?_) fun hb=>?_);all_goals clear Z)
   ·refine yT hC (oj hn_g1 (oj hn_g4 hn_g8)) ?_
    refine .one (.c (ler_int (hR2 _ ?_ (by decide)).symm))
    unfold vlC
    rw [if_pos hb]
   have m1:=hb
   refine aw_lp (fun q:Nat=>[(1,.c (.optr g1 0)),(4,.c (.optr g4 0)),(7,.c (.int .i64 k)),(8,.c (.optr g8 0)),(16,.c (phs true m.phases)),(17,.c (.int .i64 m.phases.length)),(18,.c (.int .i64 j)),(48,.c (vls true x.values)),(49,.c (.int .i64 x.values.length)),(50,.c (.int .i64 k)),(63,.c (.row true 4 k (vlsF x.values))),(64,.c (.int .i64 k)),(65,.c (.int .i64 q))]) (fun _=>(g8,.cells 84 4 (ofL (vlc v)))::[(g4,.cells 82 3 (ofL (phc x))),(g1,.cells 30 8 (ofL (mdc true m)))]) (fun q=>q≤k∧∀t,t<q→((x.values.getD t vl0).event==v.event)=false) (fun q=>k-q) 0 (zB (oj hn_g1 (oj hn_g4 hn_g8))) zZ ⟨Nat.zero_le _,fun t ht=>absurd ht (Nat.not_lt_zero t)⟩ ?_
   rintro q ⟨hq,hno⟩
   all_goals try(have Z:=(oj hn_g1 (oj hn_g4 hn_g8));(repeat' first|refine yA1 Z ?_|refine zW Z ?_|refine yP Z ?_|refine yN Z ?_|refine zC Z (fun hb=>?_) fun hb=>?_|refine zG Z (fun hb=>?_) fun hb=>?_|refine zD Z (fun hb=>?_) fun hb=>?_);all_goals clear Z)
   ·have hq':=hb
    refine yA (oj hn_g1 (oj hn_g4 hn_g8)) fun g10 hn_g10=>?_
    all_goals try(have Z:=(oj hn_g1 (oj hn_g4 (oj hn_g8 hn_g10)));(repeat' first|refine yA1 Z ?_|refine zW Z ?_|refine yP Z ?_|refine yN Z ?_|refine zC Z (fun hb=>?_) fun hb=>?_|refine zG Z (fun hb=>?_) fun hb=>?_|refine zD Z (fun hb=>?_) fun hb=>?_);all_goals clear Z)
    ·refine yT hC (oj hn_g1 (oj hn_g4 (oj hn_g8 hn_g10))) ?_
     refine .one (.c (ler_int (hR2 _ ?_ (by decide)).symm))
     unfold vlC
     rw [if_neg m1,if_pos (fidx_le (d:=vl0) om hq' (by simpa using hb) hno)]
    ·refine aw_stop ⟨q+1,?_⟩
     and_intros
     all_goals first|rfl|exact List.Sublist.refl _|exact List.sublist_cons_self _ _|exact True.intro|exact no_step (p:=fun t=>(x.values.getD t vl0).event==v.event) hno (by simpa using hb)|omega
   have hqE:q=k:=by omega
   subst hqE
   have m2:¬fidx (fun y:VlD=>y.event==v.event) x.values<(q:Nat):=fidx_ge_of (d:=vl0) hk' hvn hno
   all_goals try(have Z:=(oj hn_g1 (oj hn_g4 hn_g8));(repeat' first|refine yA1 Z ?_|(refine yC2 Z (f3) ?_)|(refine yD2 Z (f3) ?_)|refine zW Z ?_|refine yP Z ?_|refine yN Z ?_|refine zC Z (fun hb=>?_) fun hb=>?_|refine zG Z (fun hb=>?_) fun hb=>?_|refine zD Z (fun hb=>?_) fun hb=>?_);all_goals clear Z)
   ·refine yT hC (oj hn_g1 (oj hn_g4 hn_g8)) ?_
    refine .one (.c (ler_int (hR2 _ ?_ (by decide)).symm))
    unfold vlC
    rw [if_neg m1,if_neg m2,if_pos (by simpa using hb)]
   ·refine aw_stop ⟨q+1,?_⟩
    have hz:vlC m x q v=0:=by
     unfold vlC
     rw [if_neg m1,if_neg m2,if_neg (by simpa using hb)]
    and_intros
    all_goals first|rfl|exact List.Sublist.refl _|exact List.sublist_cons_self _ _|exact True.intro|exact hG2 hz|omega
  ·have hF0:=frst_fin hlq hb
   refine aw_stop ⟨j+1,?_⟩
   and_intros
   all_goals first|rfl|exact List.Sublist.refl _|exact List.sublist_cons_self _ _|exact True.intro|exact hG (hp.trans hF0)|omega
 ·have hF0:=frst_fin hlp hb
  subst hF0
  refine yT hC hn_g1 ?_
  exact .one (.c (ler_int he2.symm))
end Go.Proofs.YteehccacfedolaaGreat
namespace Go.PN
open Go.AI
theorem no_cont {l:List BS} {y:BS} (h:∀t,t<l.length→(l.getD t []==y)=false):l.contains y=false:=by
 rw [Bool.eq_false_iff]
 intro hc
 obtain⟨i,hi,rfl⟩:=List.getElem_of_mem (List.contains_iff_mem.1 hc)
 have:=h i hi
 rw [List.getD_eq_getElem?_getD,List.getElem?_eq_getElem hi] at this
 simp at this
theorem is_cont {l:List BS} {y:BS} {t:Nat} (ht:t<l.length) (h:l.getD t []=y):l.contains y=true:=by
 rw [List.contains_iff_mem,←h,List.getD_eq_getElem?_getD,List.getElem?_eq_getElem ht]
 exact List.getElem_mem ht
theorem all_take' {α:Type} {l:List α} {p:α→Bool} {d:α}:∀{j:Nat},(∀t,t<j→p (l.getD t d)=true)→l.length≤j→l.all p=true:=fun h hj=>List.all_eq_true.2 fun x hx=>by
 obtain⟨i,hi,rfl⟩:=List.getElem_of_mem hx
 have:=h i om
 rwa [List.getD_eq_getElem?_getD,List.getElem?_eq_getElem hi] at this
theorem all_not {α:Type} {l:List α} {p:α→Bool} {d:α} {t:Nat} (ht:t<l.length) (h:p (l.getD t d)=false):l.all p=false:=by
 rw [Bool.eq_false_iff]
 intro ha
 have:=List.all_eq_true.1 ha (l[t]) (List.getElem_mem ht)
 rw [List.getD_eq_getElem?_getD,List.getElem?_eq_getElem ht] at h
 exact absurd (this.symm.trans h) (by decide)
theorem yes_step {p:Nat→Bool} {j:Nat} (h:∀t,t<j→p t=true) (hj:p j=true):∀t,t<j+1→p t=true:=fun t ht=>by
 rcases Nat.lt_succ_iff_lt_or_eq.1 ht with e|rfl
 ·exact h t e
 ·exact hj
end Go.PN
namespace Go.Proofs.YteehccacfedolaaGreat
open Go.AI Go.PN
attribute [local irreducible] aw Fa Fh DrK
theorem groups22_fa (m:MdD) (ho:MdO m):Fa Tryz.prog 66 [.agg (mdc true m)] (.c (.int .i64 (grsC m))):=by
 have hm:=ho.ok
 have hw:=ho.wf4
 have hl:=hw.l
 refine fa_of_body Tryz.func66 rfl rfl (by simp [Tryz.ntmps66]) fun C hC=> ?_
 simp only [initS,Nat.reduceAdd]
 repeat' first|refine yA1 o0 ?_|refine zW o0 ?_|refine yP o0 ?_|refine yN o0 ?_|refine zC o0 (fun hb=>?_) fun hb=>?_|refine zG o0 (fun hb=>?_) fun hb=>?_|refine zD o0 (fun hb=>?_) fun hb=>?_
 refine xB fun g1 hn_g1=>?_
 repeat' first|refine yA1 hn_g1 ?_|refine zW hn_g1 ?_|refine yP hn_g1 ?_|refine yN hn_g1 ?_|refine zC hn_g1 (fun hb=>?_) fun hb=>?_|refine zG hn_g1 (fun hb=>?_) fun hb=>?_|refine zD hn_g1 (fun hb=>?_) fun hb=>?_
 ·refine yT hC hn_g1 ?_
  exact .one (.c (ler_int (by unfold grsC;rw [if_pos om])))
 have h8:m.groups.length≤8:=by omega
 have he2:grsC m=(frsS (grC m) m.groups 0 []).1:=by
  unfold grsC
  rw [if_neg om]
 generalize hF:frsS (grC m) m.groups 0 []=F at he2
 refine aw_lp (fun x:Nat×List BS×Option Nat=>[(1,.c (.optr g1 0)),(3,.c (gs x.2.2 1 x.2.1.length)),(21,.c (grs true m.groups)),(22,.c (.int .i64 m.groups.length)),(23,.c (.int .i64 x.1))]) (fun x=>[(g1,.cells 30 8 (ofL (mdc true m)))]++gh x.2.2 9 x.2.1.length (strsF x.2.1)) (fun x=>x.1≤m.groups.length∧(x.2.2=none→x.2.1.length=0)∧x.2.1.length≤1048576*x.1∧frsS (grC m) (m.groups.drop x.1) x.1 x.2.1=F) (fun x=>m.groups.length-x.1) (0,[],none) (zB hn_g1) zZ ⟨Nat.zero_le _,fun _=>rfl,Nat.zero_le _,hF⟩ ?_
 rintro ⟨i,ms,og⟩ ⟨hi,hog,hsz,hlp⟩
 dsimp only at hi hog hsz hlp⊢
 simp only [List.cons_append,List.nil_append]
 repeat' first|refine yA1 hn_g1 ?_|refine zW hn_g1 ?_|refine yP hn_g1 ?_|refine yN hn_g1 ?_|refine zC hn_g1 (fun hb=>?_) fun hb=>?_|refine zG hn_g1 (fun hb=>?_) fun hb=>?_|refine zD hn_g1 (fun hb=>?_) fun hb=>?_
 ·obtain⟨w0,w1,w2⟩:=hw.gr i
  have w3:∀k,((m.groups.getD i gr0).factors.getD k rd0).wf 500000000:=fun k=>getD_all (getD_all ho.gr.2 gr0_o i).2.2.2.2 rd0_ok k
  have hi':=hb
  have hR:∀c s,grC m i (m.groups.getD i gr0) ms=(c,s)→c≠0→grsC m=c:=fun c s hc h0=>by
   rw [he2,frsS_ret hlp hi' hc h0]
  have hgo:=fun r=>frsS_go (d:=gr0) (r:=r) hlp hi'
  clear hlp
  have hxn:((m.groups.getD i gr0).name==(m.groups.getD i gr0).name)=true:=beq_self_eq_true _
  generalize hx:m.groups.getD i gr0=x at*
  rw [←hx] at hxn
  have f1:Fa Tryz.prog 104 [.c (.str (sB x.name))] (.c (.bool (nameOk x.name))):=rname_fa x.name w0
  refine yA hn_g1 fun g5 hn_g5=>?_
  all_goals try(have Z:=(oj hn_g1 hn_g5);(repeat' first|refine yA1 Z ?_|(refine yC2 Z (f1) ?_)|(refine yD2 Z (f1) ?_)|refine zW Z ?_|refine yP Z ?_|refine yN Z ?_|refine zC Z (fun hb=>?_) fun hb=>?_|refine zG Z (fun hb=>?_) fun hb=>?_|refine zD Z (fun hb=>?_) fun hb=>?_);all_goals clear Z)
  ·refine yT hC (oj hn_g1 hn_g5) ?_
   refine .one (.c (ler_int (hR _ ms ?_ (by decide)).symm))
   unfold grC
   rw [if_pos (by simpa using hb)]
  have hn1:=hb
  rw [hx] at hxn
  refine aw_lp (fun j:Nat=>[(1,.c (.optr g1 0)),(3,.c (gs og 1 ms.length)),(4,.c (.int .i64 i)),(5,.c (.optr g5 0)),(21,.c (grs true m.groups)),(22,.c (.int .i64 m.groups.length)),(23,.c (.int .i64 i)),(35,.c (.row true 4 i (grsF m.groups))),(36,.c (.int .i64 i)),(37,.c (.int .i64 j))]) (fun _=>(g5,.cells 78 4 (ofL (grc x)))::(g1,.cells 30 8 (ofL (mdc true m)))::gh og 9 ms.length (strsF ms)) (fun j=>j≤i∧∀t,t<j→((m.groups.getD t gr0).name==x.name)=false) (fun j=>i-j) 0 (zB (oj hn_g1 hn_g5)) zZ ⟨Nat.zero_le _,fun t ht=>absurd ht (Nat.not_lt_zero t)⟩ ?_
  rintro j ⟨hj,hno⟩
  by_cases hji:j<i
  ·have dj:decide (j<i)=true:=decide_eq_true hji
   all_goals try(have Z:=(oj hn_g1 (oj hn_g5 dj));(repeat' first|refine yA1 Z ?_|refine zW Z ?_|refine yP Z ?_|refine yN Z ?_|refine zC Z (fun hb=>?_) fun hb=>?_|refine zG Z (fun hb=>?_) fun hb=>?_|refine zD Z (fun hb=>?_) fun hb=>?_);all_goals clear Z)
   refine yA (oj hn_g1 (oj hn_g5 dj)) fun g7 hn_g7=>?_
   all_goals try(have Z:=(oj hn_g1 (oj hn_g5 (oj dj hn_g7)));(repeat' first|refine yA1 Z ?_|refine zW Z ?_|refine yP Z ?_|refine yN Z ?_|refine zC Z (fun hb=>?_) fun hb=>?_|refine zG Z (fun hb=>?_) fun hb=>?_|refine zD Z (fun hb=>?_) fun hb=>?_);all_goals clear Z)
   ·refine yT hC (oj hn_g1 (oj hn_g5 (oj dj hn_g7))) ?_
    refine .one (.c (ler_int (hR _ ms ?_ (by decide)).symm))
    unfold grC
    rw [if_neg (by simpa using hn1),if_pos (fidx_le (d:=gr0) om hji (by simpa using hb) hno)]
   ·refine aw_stop ⟨j+1,?_⟩
    and_intros
    all_goals first|rfl|exact List.Sublist.refl _|exact List.sublist_cons_self _ _|exact True.intro|exact no_step (p:=fun t=>(m.groups.getD t gr0).name==x.name) hno (by simpa using hb)|omega
  have hjE:j=i:=by omega
  subst hjE
  have dj:decide (j<j)=false:=decide_eq_false hji
  have hn2:¬fidx (fun y:GrD=>y.name==x.name) m.groups<(j:Nat):=fidx_ge_of (d:=gr0) hi' (by rw [hx];exact beq_self_eq_true _) hno
  clear hno hj hji f1 hxn
  have hK:∀(mo:Int) (fc:Int),mo=(if x.kind=1 then 4 else 24)→fc=(if x.kind=1 then(x.members.length:Int)-1 else 1)→grC m j x ms=if x.kind≠0∧x.kind≠1 then(7,ms) else if(x.members.length:Int)<2∨(x.members.length:Int)>mo∨(x.factors.length:Int)≠fc then(11,ms)
   else if(frsS (meC m) x.members 0 ms).1≠0 then frsS (meC m) x.members 0 ms
   else if x.factors.all RD.prob=false then(3,ms) else(0,(frsS (meC m) x.members 0 ms).2):=fun mo fc h1 h2=>by
   unfold grC
   rw [if_neg (by simpa using hn1),if_neg hn2,h1,h2]
  obtain⟨nm,kd,mb,fc⟩:=x
  dsimp only at*
  all_goals try(have Z:=(oj hn_g1 (oj hn_g5 dj));(repeat' first|refine yA1 Z ?_|refine zW Z ?_|refine yP Z ?_|refine yN Z ?_|refine zC Z (fun hb=>?_) fun hb=>?_|refine zG Z (fun hb=>?_) fun hb=>?_|refine zD Z (fun hb=>?_) fun hb=>?_);all_goals clear Z)
  all_goals
   try
    refine aw_dr 6 ty_mixed (by kernel_rfl) ?_
  all_goals try(have Z:=(oj hn_g1 (oj hn_g5 dj));(repeat' first|refine yA1 Z ?_|refine zW Z ?_|refine yP Z ?_|refine yN Z ?_|refine zC Z (fun hb=>?_) fun hb=>?_|refine zG Z (fun hb=>?_) fun hb=>?_|refine zD Z (fun hb=>?_) fun hb=>?_);all_goals clear Z)
  all_goals first
   |(refine yT hC (oj hn_g1 (oj hn_g5 dj)) ?_
     refine .one (.c (ler_int (hR _ ms ?_ (by decide)).symm))
     rw [hK _ _ rfl rfl]
     clear hK hR hgo
     repeat' split
     all_goals first|rfl|(exfalso;simp_all;done)|(exfalso;simp_all;omega))
   |skip
  all_goals
   have hQ:grC m j ⟨nm,kd,mb,fc⟩ ms=(if(frsS (meC m) mb 0 ms).1≠0 then frsS (meC m) mb 0 ms else if fc.all RD.prob=false then(3,ms) else(0,(frsS (meC m) mb 0 ms).2)):=by
    rw [hK _ _ rfl rfl]
    clear hK hR hgo
    rw [if_neg,if_neg]
    all_goals (simp_all<;>omega)
   clear hK
   generalize hF2:frsS (meC m) mb 0 ms=F2 at hQ
   refine aw_lp (fun y:Nat×List BS×Option Nat=>[(1,.c (.optr g1 0)),(3,.c (gs y.2.2 1 y.2.1.length)),(5,.c (.optr g5 0)),(21,.c (grs true m.groups)),(22,.c (.int .i64 m.groups.length)),(23,.c (.int .i64 j)),(81,.c (strs true mb)),(82,.c (.int .i64 mb.length)),(83,.c (.int .i64 y.1))]) (fun y=>[(g5,.cells 78 4 (ofL (grc ⟨nm,kd,mb,fc⟩))),(g1,.cells 30 8 (ofL (mdc true m)))]++gh y.2.2 9 y.2.1.length (strsF y.2.1)) (fun y=>y.1≤mb.length∧(y.2.2=none→y.2.1.length=0)∧y.2.1.length≤ms.length+y.1∧frsS (meC m) (mb.drop y.1) y.1 y.2.1=F2) (fun y=>mb.length-y.1) (0,ms,og) (zB (oj hn_g1 (oj hn_g5 dj))) zZ ⟨Nat.zero_le _,hog,by dsimp only;omega,hF2⟩ ?_
   rintro ⟨q,sq,oq⟩ ⟨hq,hoq,hsq,hlq⟩
   dsimp only at hq hoq hsq hlq⊢
   simp only [List.cons_append,List.nil_append]
   by_cases hqm:q<mb.length
   ·have dq:decide (q<mb.length)=true:=decide_eq_true hqm
    have hq2:=fun r=>frsS_ret (d:=([]:BS)) (r:=r) hlq hqm
    have hqg:=fun r=>frsS_go (d:=([]:BS)) (r:=r) hlq hqm
    clear hlq
    generalize hy:mb.getD q []=y at*
    have hR2:∀c s,meC m q y sq=(c,s)→c≠0→grsC m=c:=fun c s h1 h2=>by
     have a1:=hq2 _ h1 h2
     refine hR c s ?_ h2
     rw [hQ,a1]
     exact if_pos h2
    have f5:=event22_fa m y hm.ev
    all_goals try(have Z:=(oj hn_g1 (oj hn_g5 (oj dj (oj dq hy))));(repeat' first|refine yA1 Z ?_|(refine yC2 Z (f5) ?_)|(refine yD2 Z (f5) ?_)|refine zW Z ?_|refine yP Z ?_|refine yN Z ?_|refine zC Z (fun hb=>?_) fun hb=>?_|refine zG Z (fun hb=>?_) fun hb=>?_|refine zD Z (fun hb=>?_) fun hb=>?_);all_goals clear Z)
    ·refine yT hC (oj hn_g1 (oj hn_g5 (oj dj (oj dq hy)))) ?_
     refine .one (.c (ler_int (hR2 _ sq ?_ (by decide)).symm))
     unfold meC
     rw [if_pos hb]
    have h5:=hb
    refine aw_pok (POk.lenS (zE (oj hn_g1 (oj hn_g5 (oj dj (oj dq hy))))) (zE (oj hn_g1 (oj hn_g5 (oj dj (oj dq hy))))) (lenCV_gs (s:=1) hoq)) rfl rfl ?_
    have J1:=oj hn_g1 (oj hn_g5 (oj dj (oj dq hy)))
    refine yS J1 ?_
    all_goals try(have Z:=J1;(repeat' first|refine yA1 Z ?_|refine zW Z ?_|refine yP Z ?_|refine yN Z ?_|refine zC Z (fun hb=>?_) fun hb=>?_|refine zG Z (fun hb=>?_) fun hb=>?_|refine zD Z (fun hb=>?_) fun hb=>?_);all_goals clear Z)
    refine aw_lp (fun t:Nat=>[(1,.c (.optr g1 0)),(3,.c (gs oq 1 sq.length)),(5,.c (.optr g5 0)),(11,.c (.str (sB y))),(21,.c (grs true m.groups)),(22,.c (.int .i64 m.groups.length)),(23,.c (.int .i64 j)),(81,.c (strs true mb)),(82,.c (.int .i64 mb.length)),(83,.c (.int .i64 q)),(91,.c (gs oq 1 sq.length)),(92,.c (.int .i64 sq.length)),(93,.c (.int .i64 t))]) (fun _=>(g5,.cells 78 4 (ofL (grc ⟨nm,kd,mb,fc⟩)))::(g1,.cells 30 8 (ofL (mdc true m)))::gh oq 9 sq.length (strsF sq)) (fun t=>t≤sq.length∧∀u,u<t→(sq.getD u []==y)=false) (fun t=>sq.length-t) 0 (zB J1) zZ ⟨Nat.zero_le _,fun u hu=>absurd hu (Nat.not_lt_zero u)⟩ ?_
    rintro t ⟨ht,hnt⟩
    by_cases htl:t<sq.length
    ·have dt:decide (t<sq.length)=true:=decide_eq_true htl
     obtain⟨g,rfl⟩:∃g,oq=some g:=by
      cases oq with
      |none=>exact absurd (hoq rfl) om
      |some g=>exact⟨g,rfl⟩
     dsimp only [gs,gh]
     refine aw_nd fun hnd=> ?_
     simp only [Heap.keys,List.map_cons,List.map_nil] at hnd
     replace hnd:=ndP_of hnd
     dsimp only [ndP,neA] at hnd
     all_goals try(have Z:=(oj hn_g1 (oj hn_g5 (oj dj (oj dq (oj hy (oj dt hnd))))));(repeat' first|refine yA1 Z ?_|refine zW Z ?_|refine yP Z ?_|refine yN Z ?_|refine zC Z (fun hb=>?_) fun hb=>?_|refine zG Z (fun hb=>?_) fun hb=>?_|refine zD Z (fun hb=>?_) fun hb=>?_);all_goals clear Z)
     ·refine yT hC (oj hn_g1 (oj hn_g5 (oj dj (oj dq (oj hy (oj dt hnd)))))) ?_
      refine .one (.c (ler_int (hR2 _ sq ?_ (by decide)).symm))
      unfold meC
      rw [if_neg h5,if_pos (is_cont htl hb)]
     ·refine aw_stop ⟨t+1,?_⟩
      and_intros
      all_goals first|rfl|exact List.Sublist.refl _|exact True.intro|exact no_step (p:=fun u=>sq.getD u []==y) hnt (by simpa using hb)|omega
    ·have dt:decide (t<sq.length)=false:=decide_eq_false htl
     have hz:meC m q y sq=(0,sq++[y]):=by
      unfold meC
      rw [if_neg h5,if_neg (by rw [no_cont fun u hu=>hnt u om];decide)]
     have hq':=hqg _ hz rfl
     have hln:(sq++[y]).length=sq.length+1:=by rw [List.length_append];rfl
     all_goals try(have Z:=(oj hn_g1 (oj hn_g5 (oj dj (oj dq (oj hy dt)))));(repeat' first|refine yA1 Z ?_|refine zW Z ?_|refine yP Z ?_|refine yN Z ?_|refine zC Z (fun hb=>?_) fun hb=>?_|refine zG Z (fun hb=>?_) fun hb=>?_|refine zD Z (fun hb=>?_) fun hb=>?_);all_goals clear Z)
     refine aw_push (pre:=[(g5,.cells 78 4 (ofL (grc ⟨nm,kd,mb,fc⟩))),(g1,.cells 30 8 (ofL (mdc true m)))]) rfl rfl rfl rfl rfl rfl rfl (zE (oj hn_g1 (oj hn_g5 (oj dj (oj dq (oj hy dt)))))) (zE (oj hn_g1 (oj hn_g5 (oj dj (oj dq (oj hy dt)))))) (by rfl) om om (zE (oj hn_g1 (oj hn_g5 (oj dj (oj dq (oj hy dt)))))) om (by exact hoq) (zE (oj hn_g1 (oj hn_g5 (oj dj (oj dq (oj hy dt)))))) (by rfl) (by rfl) (by first|rfl|simp only [Nat.mul_one,List.nil_append,List.cons_append]<;>rfl) (by unfold maxLen;omega) om (by exact strs_push rfl y) fun gb hn_gb=> ?_
     replace hn_gb:=Heap.ne_of hn_gb
     first|dsimp only [Heap.ne,gh] at hn_gb|dsimp only [Heap.ne] at hn_gb|skip
     have J2:=oj hn_g1 (oj hn_g5 (oj dj (oj dq (oj hy (oj dt hn_gb)))))
     refine yS J2 ?_
     all_goals try(have Z:=J2;(repeat' first|refine yA1 Z ?_|refine zW Z ?_|refine yP Z ?_|refine yN Z ?_|refine zC Z (fun hb=>?_) fun hb=>?_|refine zG Z (fun hb=>?_) fun hb=>?_|refine zD Z (fun hb=>?_) fun hb=>?_);all_goals clear Z)
     refine aw_stop ⟨(q+1,sq++[y],some gb),?_⟩
     dsimp only
     simp only [hln]
     and_intros
     all_goals first|rfl|exact List.Sublist.refl _|exact List.sublist_cons_self _ _|exact True.intro|exact some_ne|exact hq'|omega
   ·have dq:decide (q<mb.length)=false:=decide_eq_false hqm
    have hF0:=frsS_fin hlq hqm
    subst hF0
    all_goals try(have Z:=(oj hn_g1 (oj hn_g5 (oj dj dq)));(repeat' first|refine yA1 Z ?_|refine zW Z ?_|refine yP Z ?_|refine yN Z ?_|refine zC Z (fun hb=>?_) fun hb=>?_|refine zG Z (fun hb=>?_) fun hb=>?_|refine zD Z (fun hb=>?_) fun hb=>?_);all_goals clear Z)
    refine aw_lp (fun t:Nat=>[(1,.c (.optr g1 0)),(3,.c (gs oq 1 sq.length)),(21,.c (grs true m.groups)),(22,.c (.int .i64 m.groups.length)),(23,.c (.int .i64 j)),(107,.c (rats true fc)),(108,.c (.int .i64 fc.length)),(109,.c (.int .i64 t))]) (fun _=>(g5,.cells 78 4 (ofL (grc ⟨nm,kd,mb,fc⟩)))::(g1,.cells 30 8 (ofL (mdc true m)))::gh oq 9 sq.length (strsF sq)) (fun t=>t≤fc.length∧∀u,u<t→(fc.getD u rd0).prob=true) (fun t=>fc.length-t) 0 (zB (oj hn_g1 (oj hn_g5 (oj dj dq)))) zZ ⟨Nat.zero_le _,fun u hu=>absurd hu (Nat.not_lt_zero u)⟩ ?_
    rintro t ⟨ht,hyt⟩
    by_cases htl:t<fc.length
    ·have dt:decide (t<fc.length)=true:=decide_eq_true htl
     have f6:=sprob_fa (fc.getD t rd0) (w3 t)
     all_goals try(have Z:=(oj hn_g1 (oj hn_g5 (oj dj (oj dq dt))));(repeat' first|refine yA1 Z ?_|refine zW Z ?_|refine yP Z ?_|refine yN Z ?_|refine zC Z (fun hb=>?_) fun hb=>?_|refine zG Z (fun hb=>?_) fun hb=>?_|refine zD Z (fun hb=>?_) fun hb=>?_);all_goals clear Z)
     refine yA (oj hn_g1 (oj hn_g5 (oj dj (oj dq dt)))) fun g15 hn_g15=>?_
     all_goals try(have Z:=(oj hn_g1 (oj hn_g5 (oj dj (oj dq (oj dt hn_g15)))));(repeat' first|refine yA1 Z ?_|(refine yC2 Z (f6) ?_)|(refine yD2 Z (f6) ?_)|refine zW Z ?_|refine yP Z ?_|refine yN Z ?_|refine zC Z (fun hb=>?_) fun hb=>?_|refine zG Z (fun hb=>?_) fun hb=>?_|refine zD Z (fun hb=>?_) fun hb=>?_);all_goals clear Z)
     ·refine yT hC (oj hn_g1 (oj hn_g5 (oj dj (oj dq (oj dt hn_g15))))) ?_
      refine .one (.c (ler_int (hR _ ms ?_ (by decide)).symm))
      rw [hQ,if_neg (by simp),if_pos (all_not htl (by simpa using hb))]
     ·refine aw_stop ⟨t+1,?_⟩
      and_intros
      all_goals first|rfl|exact List.Sublist.refl _|exact List.sublist_cons_self _ _|exact True.intro|exact yes_step (p:=fun u=>(fc.getD u rd0).prob) hyt (by simpa using hb)|omega
    ·have dt:decide (t<fc.length)=false:=decide_eq_false htl
     have hz:grC m j ⟨nm,kd,mb,fc⟩ ms=(0,sq):=by
      rw [hQ,if_neg (by simp),if_neg (by rw [all_take' hyt om];decide)]
     have hg:=hgo _ hz rfl
     all_goals try(have Z:=(oj hn_g1 (oj hn_g5 (oj dj (oj dq dt))));(repeat' first|refine yA1 Z ?_|refine zW Z ?_|refine yP Z ?_|refine yN Z ?_|refine zC Z (fun hb=>?_) fun hb=>?_|refine zG Z (fun hb=>?_) fun hb=>?_|refine zD Z (fun hb=>?_) fun hb=>?_);all_goals clear Z)
     refine aw_stop ⟨(j+1,sq,oq),?_⟩
     and_intros
     all_goals first|rfl|exact List.Sublist.refl _|exact List.sublist_cons_self _ _|exact True.intro|exact hoq|exact hg|(dsimp only;omega)
 ·have hF0:=frsS_fin hlp hb
  subst hF0
  refine yT hC hn_g1 ?_
  exact .one (.c (ler_int he2.symm))
end Go.Proofs.YteehccacfedolaaGreat
