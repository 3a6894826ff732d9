/- Parts of one proof, laid by a program. -/
import Derived.Test.YtpcpaekpnfkhhaaGreatDoorM00
import Derived.Test.YtpcpaekpnfkhhaaGreatDoorM05
import Derived.Test.YtpcpaekpnfkhhaaGreatDoorCards
import Derived.Test.YtpcpaekpnfkhhaaGreatDoorTie
import Derived.Deep.DeepHandedRow
import Derived.Lib.LaidTab
import Derived.Sort.Statements
import Derived.Sort.Row
import Derived.Sort.Grow
import Derived.Deep.Draws
set_option linter.unusedSimpArgs false
set_option linter.unusedVariables false
set_option maxRecDepth 100000
set_option maxHeartbeats 12800000
namespace Go.AI
section
variable {E : Env} {K : List It} {σ σ' : Sl} {h : Heap} {all l rest : List Oper} {o : Oper}
theorem aw_cgv {f:FuncId} {x:Operand} {xs:List Operand} {ts:Array TypeId} {g:Nat} {ob ob':AObj} {args:List AV} {r:AV} (hf:Fg E.P f g ob (args++[.c (.optr g 0)]) r ob') (hop:o.op=.call {callee:=.value x,args:=xs.toArray,argTypes:=ts}) (hw:wantA all σ o=some true) (hd:dstOk E.N o.dst=true)
  (hx:ev σ x=.c (fnC f [g])) (hg:h.get g=some ob) (le:LeA [] (xs.map (ev σ)) args) (k:aw E (.ops all rest::K) (σ.setO o.dst r) (h.set g ob')):aw E (.ops all (o::rest)::K) σ h:=by
 refine aw_callhv (gs:=[g]) hf hop hw hd hx (hr:=h.del g) (Heap.get_perm hg) le ?_
 rintro _ _ ⟨rfl,rfl⟩ _
 exact aw_perm (Heap.set_perm hg).symm k
end
end Go.AI
namespace Go.Proofs.YtpcpaekpnfkhhaaGreatDoor
open Go.AI Go.PN
abbrev stO (n:BS):AObj:=.cells 9 1 (ofL [.str (sB n)])
attribute [local irreducible] aw Fa Fh DrK
theorem event1_fg (g:Nat) (n:BS) (x:EvD):Fg Tryz.prog 242 g (stO n) [.agg (evc x),.c (.optr g 0)] (.c (.bool (x.name==n))) (stO n):=by
 unfold Fg
 refine fh_of_body Tryz.func242 rfl rfl (by simp [Tryz.ntmps242]) fun C hC=> ?_
 simp only [initS,Nat.reduceAdd]
 refine zA o0 ?_
 refine xB fun g1 hn_g1=>?_
 refine zA hn_g1 ?_
 refine aw_rethw (h':=[(g,stO n)]) rfl sL fun R r=>?_;simp only[go_sem,hn_g1];refine r _ rfl ?_;clear r R
 exact⟨rfl,rfl⟩
theorem eventI_fg (g:Nat) (n:BS) (l:List EvD) (hl:l.length≤1099511627776):Fg Tryz.prog 241 g (stO n) [.c (evs true l),.c (fnC 242 [g])] (.c (.int .i64 (fidx (fun x=>x.name==n) l))) (stO n):=by
 unfold Fg
 refine fh_of_body Tryz.func241 rfl rfl (by simp [Tryz.ntmps241]) fun C hC=> ?_
 simp only [initS,Nat.reduceAdd]
 refine zA o0 ?_
 refine aw_lp (fun i:Nat=>[(0,.c (evs true l)),(1,.c (fnC 242 [g])),(4,.c (.int .i64 0)),(7,.c (.int .i64 l.length)),(8,.c (.int .i64 i))]) (fun _=>[(g,stO n)]) (fun i=>i≤l.length∧∀j,j<i→((fun x:EvD=>x.name==n) (l.getD j ev0))=false) (fun i=>l.length-i) 0 eB zZ ⟨Nat.zero_le _,fun j hj=>absurd hj om⟩ ?_
 rintro i ⟨hi,hn⟩
 repeat' first|refine zV o0 ?_|refine zH o0 (fun hb=>?_) fun hb=>?_|fail
 ·have hi':=hb
  have hf:=event1_fg g n (l.getD i ev0)
  refine aw_cgv (args:=[.agg (evc (l.getD i ev0))]) hf rfl rfl rfl eE eE eL ?_
  refine xS ?_
  repeat' first|refine zV o0 ?_|refine zH o0 (fun hb=>?_) fun hb=>?_|fail
  ·rw [fidx_at (p:=fun x:EvD=>x.name==n) ev0 hi' (by simpa using hb) hn]
   refine xU ?_
   exact⟨rfl,rfl⟩
  ·refine aw_stop ⟨i+1,?_⟩
   have hn':∀j,j<i+1→((fun x:EvD=>x.name==n) (l.getD j ev0))=false:=fun j hj=>by
    by_cases e:j=i
    ·subst e;simpa using hb
    ·exact hn j om
   and_intros
   all_goals first|rfl|exact List.Sublist.refl _|exact True.intro|exact hn'|omega
 ·have hf:fidx (fun x=>x.name==n) l= -1:=fidx_no ev0 (fun j hj=>hn j om)
  rw [hf]
  refine xU ?_
  exact⟨rfl,rfl⟩
theorem event_fa (m:MdD) (n:BS) (hl:m.events.length≤1099511627776):Fa Tryz.prog 135 [.agg (mdc true m),.c (.str (sB n))] (.c (.int .i64 (fidx (fun x=>x.name==n) m.events))):=by
 refine fa_of_body Tryz.func135 rfl rfl (by simp [Tryz.ntmps135]) fun C hC=> ?_
 simp only [initS,Nat.reduceAdd]
 refine zA o0 ?_
 refine xB fun g1 hn_g1=>?_
 refine zA hn_g1 ?_
 refine yB hn_g1 fun g2 hn_g2=>?_
 refine zA (oj hn_g1 hn_g2) ?_
 refine aw_makeFunc (gs:=[g2]) rfl rfl rfl (zE (oj hn_g1 hn_g2)) ?_
 have J1:=oj hn_g1 hn_g2
 refine yS J1 ?_
 have hf:=eventI_fg g2 n m.events hl
 refine zA1 J1 hf ?_
 refine yT hC J1 ?_
 exact .one (.c (.int _ _))
theorem house1_fg (g:Nat) (n:BS) (x:HsD):Fg Tryz.prog 245 g (stO n) [.agg (hsc x),.c (.optr g 0)] (.c (.bool (x.name==n))) (stO n):=by
 unfold Fg
 refine fh_of_body Tryz.func245 rfl rfl (by simp [Tryz.ntmps245]) fun C hC=> ?_
 simp only [initS,Nat.reduceAdd]
 refine zA o0 ?_
 refine xB fun g1 hn_g1=>?_
 refine zA hn_g1 ?_
 refine aw_rethw (h':=[(g,stO n)]) rfl sL fun R r=>?_;simp only[go_sem,hn_g1];refine r _ rfl ?_;clear r R
 exact⟨rfl,rfl⟩
theorem houseI_fg (g:Nat) (n:BS) (l:List HsD) (hl:l.length≤1099511627776):Fg Tryz.prog 244 g (stO n) [.c (hss true l),.c (fnC 245 [g])] (.c (.int .i64 (fidx (fun x=>x.name==n) l))) (stO n):=by
 unfold Fg
 refine fh_of_body Tryz.func244 rfl rfl (by simp [Tryz.ntmps244]) fun C hC=> ?_
 simp only [initS,Nat.reduceAdd]
 refine zA o0 ?_
 refine aw_lp (fun i:Nat=>[(0,.c (hss true l)),(1,.c (fnC 245 [g])),(4,.c (.int .i64 0)),(7,.c (.int .i64 l.length)),(8,.c (.int .i64 i))]) (fun _=>[(g,stO n)]) (fun i=>i≤l.length∧∀j,j<i→((fun x:HsD=>x.name==n) (l.getD j hs0))=false) (fun i=>l.length-i) 0 eB zZ ⟨Nat.zero_le _,fun j hj=>absurd hj om⟩ ?_
 rintro i ⟨hi,hn⟩
 repeat' first|refine zV o0 ?_|refine zH o0 (fun hb=>?_) fun hb=>?_|fail
 ·have hi':=hb
  have hf:=house1_fg g n (l.getD i hs0)
  refine aw_cgv (args:=[.agg (hsc (l.getD i hs0))]) hf rfl rfl rfl eE eE eL ?_
  refine xS ?_
  repeat' first|refine zV o0 ?_|refine zH o0 (fun hb=>?_) fun hb=>?_|fail
  ·rw [fidx_at (p:=fun x:HsD=>x.name==n) hs0 hi' (by simpa using hb) hn]
   refine xU ?_
   exact⟨rfl,rfl⟩
  ·refine aw_stop ⟨i+1,?_⟩
   have hn':∀j,j<i+1→((fun x:HsD=>x.name==n) (l.getD j hs0))=false:=fun j hj=>by
    by_cases e:j=i
    ·subst e;simpa using hb
    ·exact hn j om
   and_intros
   all_goals first|rfl|exact List.Sublist.refl _|exact True.intro|exact hn'|omega
 ·have hf:fidx (fun x=>x.name==n) l= -1:=fidx_no hs0 (fun j hj=>hn j om)
  rw [hf]
  refine xU ?_
  exact⟨rfl,rfl⟩
theorem house_fa (m:MdD) (n:BS) (hl:m.houses.length≤1099511627776):Fa Tryz.prog 138 [.agg (mdc true m),.c (.str (sB n))] (.c (.int .i64 (fidx (fun x=>x.name==n) m.houses))):=by
 refine fa_of_body Tryz.func138 rfl rfl (by simp [Tryz.ntmps138]) fun C hC=> ?_
 simp only [initS,Nat.reduceAdd]
 refine zA o0 ?_
 refine xB fun g1 hn_g1=>?_
 refine zA hn_g1 ?_
 refine yB hn_g1 fun g2 hn_g2=>?_
 refine zA (oj hn_g1 hn_g2) ?_
 refine aw_makeFunc (gs:=[g2]) rfl rfl rfl (zE (oj hn_g1 hn_g2)) ?_
 have J1:=oj hn_g1 hn_g2
 refine yS J1 ?_
 have hf:=houseI_fg g2 n m.houses hl
 refine zA1 J1 hf ?_
 refine yT hC J1 ?_
 exact .one (.c (.int _ _))
theorem page1_fg (g:Nat) (n:BS) (x:PgD):Fg Tryz.prog 247 g (stO n) [.agg (pgc x),.c (.optr g 0)] (.c (.bool (x.name==n))) (stO n):=by
 unfold Fg
 refine fh_of_body Tryz.func247 rfl rfl (by simp [Tryz.ntmps247]) fun C hC=> ?_
 simp only [initS,Nat.reduceAdd]
 refine zA o0 ?_
 refine xB fun g1 hn_g1=>?_
 refine zA hn_g1 ?_
 refine aw_rethw (h':=[(g,stO n)]) rfl sL fun R r=>?_;simp only[go_sem,hn_g1];refine r _ rfl ?_;clear r R
 exact⟨rfl,rfl⟩
theorem pageI_fg (g:Nat) (n:BS) (l:List PgD) (hl:l.length≤1099511627776):Fg Tryz.prog 246 g (stO n) [.c (pgs true l),.c (fnC 247 [g])] (.c (.int .i64 (fidx (fun x=>x.name==n) l))) (stO n):=by
 unfold Fg
 refine fh_of_body Tryz.func246 rfl rfl (by simp [Tryz.ntmps246]) fun C hC=> ?_
 simp only [initS,Nat.reduceAdd]
 refine zA o0 ?_
 refine aw_lp (fun i:Nat=>[(0,.c (pgs true l)),(1,.c (fnC 247 [g])),(4,.c (.int .i64 0)),(7,.c (.int .i64 l.length)),(8,.c (.int .i64 i))]) (fun _=>[(g,stO n)]) (fun i=>i≤l.length∧∀j,j<i→((fun x:PgD=>x.name==n) (l.getD j pg0))=false) (fun i=>l.length-i) 0 eB zZ ⟨Nat.zero_le _,fun j hj=>absurd hj om⟩ ?_
 rintro i ⟨hi,hn⟩
 repeat' first|refine zV o0 ?_|refine zH o0 (fun hb=>?_) fun hb=>?_|fail
 ·have hi':=hb
  have hf:=page1_fg g n (l.getD i pg0)
  refine aw_cgv (args:=[.agg (pgc (l.getD i pg0))]) hf rfl rfl rfl eE eE eL ?_
  refine xS ?_
  repeat' first|refine zV o0 ?_|refine zH o0 (fun hb=>?_) fun hb=>?_|fail
  ·rw [fidx_at (p:=fun x:PgD=>x.name==n) pg0 hi' (by simpa using hb) hn]
   refine xU ?_
   exact⟨rfl,rfl⟩
  ·refine aw_stop ⟨i+1,?_⟩
   have hn':∀j,j<i+1→((fun x:PgD=>x.name==n) (l.getD j pg0))=false:=fun j hj=>by
    by_cases e:j=i
    ·subst e;simpa using hb
    ·exact hn j om
   and_intros
   all_goals first|rfl|exact List.Sublist.refl _|exact True.intro|exact hn'|omega
 ·have hf:fidx (fun x=>x.name==n) l= -1:=fidx_no pg0 (fun j hj=>hn j om)
  rw [hf]
  refine xU ?_
  exact⟨rfl,rfl⟩
theorem page_fa (m:MdD) (n:BS) (hl:m.pages.length≤1099511627776):Fa Tryz.prog 139 [.agg (mdc true m),.c (.str (sB n))] (.c (.int .i64 (fidx (fun x=>x.name==n) m.pages))):=by
 refine fa_of_body Tryz.func139 rfl rfl (by simp [Tryz.ntmps139]) fun C hC=> ?_
 simp only [initS,Nat.reduceAdd]
 refine zA o0 ?_
 refine xB fun g1 hn_g1=>?_
 refine zA hn_g1 ?_
 refine yB hn_g1 fun g2 hn_g2=>?_
 refine zA (oj hn_g1 hn_g2) ?_
 refine aw_makeFunc (gs:=[g2]) rfl rfl rfl (zE (oj hn_g1 hn_g2)) ?_
 have J1:=oj hn_g1 hn_g2
 refine yS J1 ?_
 have hf:=pageI_fg g2 n m.pages hl
 refine zA1 J1 hf ?_
 refine yT hC J1 ?_
 exact .one (.c (.int _ _))
theorem gate1_fg (g:Nat) (n:BS) (x:GtD):Fg Tryz.prog 249 g (stO n) [.agg (gtc x),.c (.optr g 0)] (.c (.bool (x.name==n))) (stO n):=by
 unfold Fg
 refine fh_of_body Tryz.func249 rfl rfl (by simp [Tryz.ntmps249]) fun C hC=> ?_
 simp only [initS,Nat.reduceAdd]
 refine zA o0 ?_
 refine xB fun g1 hn_g1=>?_
 refine zA hn_g1 ?_
 refine aw_rethw (h':=[(g,stO n)]) rfl sL fun R r=>?_;simp only[go_sem,hn_g1];refine r _ rfl ?_;clear r R
 exact⟨rfl,rfl⟩
theorem gateI_fg (g:Nat) (n:BS) (l:List GtD) (hl:l.length≤1099511627776):Fg Tryz.prog 248 g (stO n) [.c (gts true l),.c (fnC 249 [g])] (.c (.int .i64 (fidx (fun x=>x.name==n) l))) (stO n):=by
 unfold Fg
 refine fh_of_body Tryz.func248 rfl rfl (by simp [Tryz.ntmps248]) fun C hC=> ?_
 simp only [initS,Nat.reduceAdd]
 refine zA o0 ?_
 refine aw_lp (fun i:Nat=>[(0,.c (gts true l)),(1,.c (fnC 249 [g])),(4,.c (.int .i64 0)),(7,.c (.int .i64 l.length)),(8,.c (.int .i64 i))]) (fun _=>[(g,stO n)]) (fun i=>i≤l.length∧∀j,j<i→((fun x:GtD=>x.name==n) (l.getD j gt0))=false) (fun i=>l.length-i) 0 eB zZ ⟨Nat.zero_le _,fun j hj=>absurd hj om⟩ ?_
 rintro i ⟨hi,hn⟩
 repeat' first|refine zV o0 ?_|refine zH o0 (fun hb=>?_) fun hb=>?_|fail
 ·have hi':=hb
  have hf:=gate1_fg g n (l.getD i gt0)
  refine aw_cgv (args:=[.agg (gtc (l.getD i gt0))]) hf rfl rfl rfl eE eE eL ?_
  refine xS ?_
  repeat' first|refine zV o0 ?_|refine zH o0 (fun hb=>?_) fun hb=>?_|fail
  ·rw [fidx_at (p:=fun x:GtD=>x.name==n) gt0 hi' (by simpa using hb) hn]
   refine xU ?_
   exact⟨rfl,rfl⟩
  ·refine aw_stop ⟨i+1,?_⟩
   have hn':∀j,j<i+1→((fun x:GtD=>x.name==n) (l.getD j gt0))=false:=fun j hj=>by
    by_cases e:j=i
    ·subst e;simpa using hb
    ·exact hn j om
   and_intros
   all_goals first|rfl|exact List.Sublist.refl _|exact True.intro|exact hn'|omega
 ·have hf:fidx (fun x=>x.name==n) l= -1:=fidx_no gt0 (fun j hj=>hn j om)
  rw [hf]
  refine xU ?_
  exact⟨rfl,rfl⟩
theorem gate_fa (l:List GtD) (n:BS) (hl:l.length≤1099511627776):Fa Tryz.prog 141 [.c (gts true l),.c (.str (sB n))] (.c (.int .i64 (gtI l n))):=by
 refine fa_of_body Tryz.func141 rfl rfl (by simp [Tryz.ntmps141]) fun C hC=> ?_
 simp only [initS,Nat.reduceAdd]
 refine zA o0 ?_
 refine xB fun g2 hn_g2=>?_
 refine zA hn_g2 ?_
 refine aw_makeFunc (gs:=[g2]) rfl rfl rfl (zE hn_g2) ?_
 refine yS hn_g2 ?_
 have hf:=gateI_fg g2 n l hl
 refine zA1 hn_g2 hf ?_
 refine yT hC hn_g2 ?_
 exact .one (.c (.int _ _))
end Go.Proofs.YtpcpaekpnfkhhaaGreatDoor
namespace Go.PN
open Go.AI
theorem RD.wf.mono {r:RD} {a b:Nat} (h:r.wf a) (hab:a≤b):r.wf b:=by
 exact⟨h.1,h.2.1,Nat.le_trans h.2.2.1 hab,Nat.le_trans h.2.2.2 hab⟩
end Go.PN
namespace Go.Proofs.YtpcpaekpnfkhhaaGreatDoor
open Go.AI Go.PN
attribute [local irreducible] aw Fa Fh DrK
theorem rate_fa (r:RD) (hw:r.wf 1073741824):Fa Tryz.prog 137 [.agg (rdc r)] (.c (.bool (rateB r))):=by
 have f1:=rvalid_fa r (hw.mono (by decide))
 have f2:=rsign_fa r hw
 unfold rateB
 refine fa_of_body Tryz.func137 rfl rfl (by simp [Tryz.ntmps137]) fun C hC=> ?_
 simp only [initS,Nat.reduceAdd]
 refine zA o0 ?_
 refine xB fun g1 hn_g1=>?_
 repeat' first|refine zV hn_g1 ?_|(refine yC2 hn_g1 (f1) ?_)|(refine yD2 hn_g1 (f1) ?_)|(refine yC2 hn_g1 (f2) ?_)|(refine yD2 hn_g1 (f2) ?_)|refine zH hn_g1 (fun hb=>?_) fun hb=>?_|fail
 all_goals
  refine yT hC hn_g1 ?_
  refine .one (.c (ler_bool ?_))
  simp [hb]
theorem must_fa (x:GtD) (j:Nat) (hj:j≤1099511627776):Fa Tryz.prog 143 [.agg (gtc x),.c (.int .i64 j)] (.c (.bool (mustE x j))):=by
 unfold mustE
 refine fa_of_body Tryz.func143 rfl rfl (by simp [Tryz.ntmps143]) fun C hC=> ?_
 simp only [initS,Nat.reduceAdd]
 refine zA o0 ?_
 refine xB fun g1 hn_g1=>?_
 repeat' first|refine zV hn_g1 ?_|refine zH hn_g1 (fun hb=>?_) fun hb=>?_|fail
 all_goals
  refine yT hC hn_g1 ?_
  refine .one (.c (ler_bool ?_))
  simp_all
theorem minp_fa (k:Int) (n:Nat) (hn:n≤1099511627776):Fa Tryz.prog 250 [.c (.int .i64 k),.c (.int .i64 n)] (.c (.bool (inpB k n))):=by
 unfold inpB
 refine fa_of_body Tryz.func250 rfl rfl (by simp [Tryz.ntmps250]) fun C hC=> ?_
 simp only [initS,Nat.reduceAdd]
 repeat' first|refine zV o0 ?_|refine zH o0 (fun hb=>?_) fun hb=>?_|fail
 all_goals first
  |(exfalso;omega)
  |(refine xT hC ?_
    refine .one (.c (ler_bool ?_))
    simp_all<;>omega)
theorem mzero_fa (r:RD) (hw:r.wf 1073741824):Fa Tryz.prog 251 [.agg (rdc r)] (.c (.bool (zeroB r))):=by
 unfold zeroB
 obtain⟨w1,w2⟩:r.num.length≤1073741824∧r.den.length≤1073741824:=⟨hw.2.2.1,hw.2.2.2⟩
 refine fa_of_body Tryz.func251 rfl rfl (by simp [Tryz.ntmps251]) fun C hC=> ?_
 simp only [initS,Nat.reduceAdd]
 refine zA o0 ?_
 refine xB fun g1 hn_g1=>?_
 repeat' first|refine zV hn_g1 ?_|refine zH hn_g1 (fun hb=>?_) fun hb=>?_|fail
 all_goals
  refine yT hC hn_g1 ?_
  refine .one (.c (ler_bool ?_))
  simp_all
theorem gatesOf_fa (m:MdD) (k:Nat) (hk:k≤m.pages.length) (hl:m.pages.length≤1099511627776):Fa Tryz.prog 140 [.agg (mdc true m),.c (.int .i64 ((k:Int)-1))] (.c (gts true (gtsK m k))):=by
 refine fa_of_body Tryz.func140 rfl rfl (by simp [Tryz.ntmps140]) fun C hC=> ?_
 simp only [initS,Nat.reduceAdd]
 refine zA o0 ?_
 refine xB fun g1 hn_g1=>?_
 repeat' first|refine zV hn_g1 ?_|refine zH hn_g1 (fun hb=>?_) fun hb=>?_|fail
 ·have h0:k=0:=by omega
  subst h0
  refine yT hC hn_g1 ?_
  exact .one (.c ler_gts)
 ·obtain⟨j,rfl⟩:∃j,k=j+1:=⟨k-1,by omega⟩
  refine yT hC hn_g1 ?_
  exact .one (.c ler_gts)
theorem ler_errE {h:Heap} {T:TypeId} {n c:Int} (e:c=n) (h0:n≠0):LeR h (.ifc T (.int .i64 n)) (errC T c):=ler_errN e.symm (by rw [e];exact h0)
theorem fidx_mem (n:BS):∀l:List BS,decide (fidx (fun x=>n==x) l≥0)=l.contains n
 |[]=>rfl
 |x::l=>by
  have ih:=fidx_mem n l
  rw [List.contains_cons,←ih]
  have hg:=fidx_ge (fun x=>n==x) l
  show decide ((if(n==x)=true then(0:Int) else if fidx (fun x=>n==x) l<0 then-1 else fidx (fun x=>n==x) l+1)≥0)=(n==x||decide (fidx (fun x=>n==x) l≥0))
  cases h:(n==x) with
  |true=>rfl
  |false=>
   rw [if_neg (by simp),Bool.false_or]
   by_cases h2:fidx (fun x=>n==x) l<0
   ·have a:¬fidx (fun x=>n==x) l≥0:=by omega
    rw [if_pos h2,decide_eq_false a];rfl
   ·have a:fidx (fun x=>n==x) l≥0:=by omega
    have b:fidx (fun x=>n==x) l+1≥0:=by omega
    rw [if_neg h2,decide_eq_true a,decide_eq_true b]
theorem checkGate_fa (x:GtD) (hw:x.dorm.wf 1073741824) (hl:x.inputs.length≤1099511627776):Fa Tryz.prog 142 [.agg (gtc x)] (.c (errA (shpC x))):=by
 have f1:=minp_fa x.kind x.inputs.length hl
 have f2:=rprob_fa x.dorm hw
 have f3:=mzero_fa x.dorm hw
 refine fa_of_body Tryz.func142 rfl rfl (by simp [Tryz.ntmps142]) fun C hC=> ?_
 simp only [initS,Nat.reduceAdd]
 refine zA o0 ?_
 refine xB fun g1 hn_g1=>?_
 repeat' first|refine zV hn_g1 ?_|(refine yC2 hn_g1 (f1) ?_)|(refine yD2 hn_g1 (f1) ?_)|(refine yC2 hn_g1 (f2) ?_)|(refine yD2 hn_g1 (f2) ?_)|(refine yC2 hn_g1 (f3) ?_)|(refine yD2 hn_g1 (f3) ?_)|refine zH hn_g1 (fun hb=>?_) fun hb=>?_|fail
 all_goals first
  |(exfalso;omega)
  |(refine yT hC hn_g1 ?_
    first
     |(refine .one (.c (ler_errE (c:=shpC x) ?_ (by decide)))
       unfold shpC
       repeat' split
       all_goals first|rfl|(exfalso;simp_all;done)|(exfalso;simp_all;omega))
     |(refine .one (.c (ler_err0 (c:=shpC x) ?_))
       unfold shpC
       repeat' split
       all_goals first|rfl|(exfalso;simp_all;done)|(exfalso;simp_all;omega)))
structure MdOk (m:MdD):Prop where
 ev:m.events.length≤1099511627776
 hs:m.houses.length≤1099511627776
 gt:m.gates.length≤1099511627776
 pg:m.pages.length≤1099511627776
 pgt:∀p∈m.pages,p.gates.length≤1099511627776
theorem isInput_fa (m:MdD) (k:Nat) (n:BS) (hk:k≤m.pages.length) (hm:MdOk m) (hg:(gtsK m k).length≤1099511627776) (hn:n.length≤1099511627776):Fa Tryz.prog 92 [.agg (mdc true m),.c (.int .i64 ((k:Int)-1)),.c (.str (sB n))] (.c (.bool (isInp m k n))):=by
 have f1:=event_fa m n hm.ev
 have f2:=house_fa m n hm.hs
 have f3:=page_fa m (cutS n 1 n.length) hm.pg
 have f4:=gatesOf_fa m k hk hm.pg
 have f5:=gate_fa (gtsK m k) n hg
 refine fa_of_body Tryz.func92 rfl rfl (by simp [Tryz.ntmps92]) fun C hC=> ?_
 simp only [initS,Nat.reduceAdd]
 refine zA o0 ?_
 refine xB fun g1 hn_g1=>?_
 repeat' first|refine zV hn_g1 ?_|(refine yC2 hn_g1 (f1) ?_)|(refine yD2 hn_g1 (f1) ?_)|(refine yC2 hn_g1 (f2) ?_)|(refine yD2 hn_g1 (f2) ?_)|(refine yC2 hn_g1 (f3) ?_)|(refine yD2 hn_g1 (f3) ?_)|(refine yC2 hn_g1 (f4) ?_)|(refine yD2 hn_g1 (f4) ?_)|(refine yC2 hn_g1 (f5) ?_)|(refine yD2 hn_g1 (f5) ?_)|refine zH hn_g1 (fun hb=>?_) fun hb=>?_|fail
 ·rename_i h0
  refine aw_dr 6 ty_mixed (by kernel_rfl) ?_
  refine zA1 hn_g1 f3 ?_
  rw [cutS_drop]
  rw [show isInp m k n=decide (pgI m (n.drop 1)≥0) from if_pos ⟨h0,hb⟩]
  refine yT hC hn_g1 ?_
  exact .one (.c (.bool _))
 all_goals
  clear f1 f2 f3 f4 f5
  refine yT hC hn_g1 ?_
  refine .one (.c (ler_bool ?_))
  unfold isInp evI hsI
  simp_all<;>omega
end Go.Proofs.YtpcpaekpnfkhhaaGreatDoor
namespace Go.PN
open Go.AI
theorem frst_ret {α:Type} {f:Nat→α→Int} {l:List α} {d:α} {i:Nat} {F:Int} (h:frst f (l.drop i) i=F) (hi:i<l.length) {c:Int} (hc:f i (l.getD i d)=c) (h0:c≠0):F=c:=by
 rw [frst_step d hi,hc,if_neg h0] at h
 exact h.symm
theorem frst_go {α:Type} {f:Nat→α→Int} {l:List α} {d:α} {i:Nat} {F:Int} (h:frst f (l.drop i) i=F) (hi:i<l.length) (hc:f i (l.getD i d)=0):frst f (l.drop (i+1)) (i+1)=F:=by
 rw [frst_step d hi,hc,if_pos rfl] at h
 exact h
theorem frst_fin {α:Type} {f:Nat→α→Int} {l:List α} {i:Nat} {F:Int} (h:frst f (l.drop i) i=F) (hi:¬i<l.length):F=0:=by
 rw [frst_end hi] at h
 exact h.symm
structure MdWf (m:MdD):Prop where
 nm:m.name.length≤1099511627776
 ev:∀i,(m.events.getD i ev0).name.length≤1099511627776∧(m.events.getD i ev0).p.wf 1073741824∧(m.events.getD i ev0).fail.wf 1073741824∧(m.events.getD i ev0).rep.wf 1073741824
 hs:∀i,(m.houses.getD i hs0).name.length≤1099511627776
end Go.PN
namespace Go.Proofs.YtpcpaekpnfkhhaaGreatDoor
open Go.AI Go.PN
attribute [local irreducible] aw Fa Fh DrK
theorem checkEvents_fa (m:MdD) (hm:MdOk m) (hw:MdWf m):Fa Tryz.prog 88 [.agg (mdc true m)] (.c (errA (evhC m))):=by
 refine fa_of_body Tryz.func88 rfl rfl (by simp [Tryz.ntmps88]) fun C hC=> ?_
 simp only [initS,Nat.reduceAdd]
 refine zA o0 ?_
 refine xB fun g1 hn_g1=>?_
 repeat' first|refine zV hn_g1 ?_|refine zH hn_g1 (fun hb=>?_) fun hb=>?_|fail
 ·refine yT hC hn_g1 ?_
  exact .one (.c (ler_errE (by unfold evhC;rw [if_pos om]) (by decide)))
 have he:¬m.events.length>24:=by omega
 generalize hF:frst (evC m) m.events 0=F
 have hl1:=hm.ev
 have hl2:=hm.hs
 refine aw_lp (fun i:Nat=>[(1,.c (.optr g1 0)),(2,.c .nilI),(13,.c (evs true m.events)),(14,.c (.int .i64 m.events.length)),(15,.c (.int .i64 i))]) (fun _=>[(g1,.cells 29 8 (ofL (mdc true m)))]) (fun i=>i≤m.events.length∧frst (evC m) (m.events.drop i) i=F) (fun i=>m.events.length-i) 0 (zB hn_g1) zZ ⟨Nat.zero_le _,hF⟩ ?_
 rintro i ⟨hi,hlp⟩
 repeat' first|refine zV hn_g1 ?_|refine zH hn_g1 (fun hb=>?_) fun hb=>?_|fail
 ·obtain⟨w0,w1,w2,w3⟩:=hw.ev i
  have hi':=hb
  have hR:∀c,evC m i (m.events.getD i ev0)=c→c≠0→evhC m=c:=fun c hc h0=>by
   have:=frst_ret hlp hi' hc h0
   unfold evhC orC
   rw [if_neg he,hF,this,if_neg h0]
  have hG:=frst_go (d:=ev0) hlp hi'
  generalize hx:m.events.getD i ev0=x at*
  have f1:Fa Tryz.prog 87 [.c (.str (sB x.name))] (.c (.bool (nameOk x.name))):=tname_fa x.name w0
  have f2:=event_fa m x.name hl1
  have f3:=rprob_fa x.p w1
  have f4:=rate_fa x.fail w2
  have f5:=rate_fa x.rep w3
  refine yA hn_g1 fun g4 hn_g4=>?_
  all_goals try(have Z:=(oj hn_g1 hn_g4);(repeat' first|refine zV Z ?_|(refine yC2 Z (f1) ?_)|(refine yD2 Z (f1) ?_)|(refine yC2 Z (f2) ?_)|(refine yD2 Z (f2) ?_)|(refine yC2 Z (f3) ?_)|(refine yD2 Z (f3) ?_)|(refine yC2 Z (f4) ?_)|(refine yD2 Z (f4) ?_)|(refine yC2 Z (f5) ?_)|(refine yD2 Z (f5) ?_)|refine zH Z (fun hb=>?_) fun hb=>?_|fail);all_goals clear Z)
  all_goals clear f1 f2 f3 f4 f5
  all_goals first
   |(refine yT hC (oj hn_g1 hn_g4) ?_
     refine .one (.c (ler_errE (c:=evhC m) (hR _ ?_ (by decide)) (by decide)))
     clear hR hG hlp hF hx
     unfold evC evI
     repeat' split
     all_goals first|rfl|(exfalso;simp_all;done)|(exfalso;simp_all;omega))
   |(refine aw_stop ⟨i+1,?_⟩
     have hz:evC m i x=0:=by
      clear hR hG hlp hF hx
      unfold evC evI
      repeat' split
      all_goals first|rfl|(exfalso;simp_all;done)|(exfalso;simp_all;omega)
     and_intros
     all_goals first|rfl|exact List.Sublist.refl _|exact List.sublist_cons_self _ _|exact True.intro|exact hG hz|omega)
 ·rename_i hi0
  have hF0:=frst_fin hlp hi0
  subst hF0
  refine yT hC hn_g1 ?_
  refine .one (.c (ler_errE (c:=evhC m) ?_ (by decide)))
  unfold evhC orC
  rw [if_neg he,hF,if_pos rfl,if_pos om]
 rename_i hi0
 have hF0:=frst_fin hlp hi0
 subst hF0
 have hh:¬m.houses.length>16:=by omega
 have he2:evhC m=frst (hsC m) m.houses 0:=by
  unfold evhC orC
  rw [if_neg he,hF,if_pos rfl,if_neg hh]
 clear hlp hi0 hi hF
 generalize hF:frst (hsC m) m.houses 0=F at he2
 refine aw_lp (fun i:Nat=>[(1,.c (.optr g1 0)),(2,.c .nilI),(69,.c (hss true m.houses)),(70,.c (.int .i64 m.houses.length)),(71,.c (.int .i64 i))]) (fun _=>[(g1,.cells 29 8 (ofL (mdc true m)))]) (fun i=>i≤m.houses.length∧frst (hsC m) (m.houses.drop i) i=F) (fun i=>m.houses.length-i) 0 (zB hn_g1) zZ ⟨Nat.zero_le _,hF⟩ ?_
 rintro i ⟨hi,hlp⟩
 repeat' first|refine zV hn_g1 ?_|refine zH hn_g1 (fun hb=>?_) fun hb=>?_|fail
 ·have w0:=hw.hs i
  have hi':=hb
  have hR:∀c,hsC m i (m.houses.getD i hs0)=c→c≠0→evhC m=c:=fun c hc h0=>by
   rw [he2];exact frst_ret hlp hi' hc h0
  have hG:=frst_go (d:=hs0) hlp hi'
  generalize hx:m.houses.getD i hs0=x at*
  have f1:Fa Tryz.prog 87 [.c (.str (sB x.name))] (.c (.bool (nameOk x.name))):=tname_fa x.name w0
  have f2:=event_fa m x.name hl1
  have f3:=house_fa m x.name hl2
  refine yA hn_g1 fun g4 hn_g4=>?_
  all_goals try(have Z:=(oj hn_g1 hn_g4);(repeat' first|refine zV Z ?_|(refine yC2 Z (f1) ?_)|(refine yD2 Z (f1) ?_)|(refine yC2 Z (f2) ?_)|(refine yD2 Z (f2) ?_)|(refine yC2 Z (f3) ?_)|(refine yD2 Z (f3) ?_)|refine zH Z (fun hb=>?_) fun hb=>?_|fail);all_goals clear Z)
  all_goals clear f1 f2 f3
  all_goals first
   |(refine yT hC (oj hn_g1 hn_g4) ?_
     refine .one (.c (ler_errE (c:=evhC m) (hR _ ?_ (by decide)) (by decide)))
     clear hR hG hlp hF hx
     unfold hsC evI hsI
     repeat' split
     all_goals first|rfl|(exfalso;simp_all;done)|(exfalso;simp_all;omega))
   |(refine aw_stop ⟨i+1,?_⟩
     have hz:hsC m i x=0:=by
      clear hR hG hlp hF hx
      unfold hsC evI hsI
      repeat' split
      all_goals first|rfl|(exfalso;simp_all;done)|(exfalso;simp_all;omega)
     and_intros
     all_goals first|rfl|exact List.Sublist.refl _|exact List.sublist_cons_self _ _|exact True.intro|exact hG hz|omega)
 ·have hF0:=frst_fin hlp hb
  subst hF0
  refine yT hC hn_g1 ?_
  exact .one (.c (ler_err0 he2))
end Go.Proofs.YtpcpaekpnfkhhaaGreatDoor
namespace Go.PN
open Go.AI
structure MdWf2 (m:MdD):Prop where
 pg:∀i,(m.pages.getD i pg0).name.length≤1099511627776∧(m.pages.getD i pg0).gates.length≤1048576
 gl:m.gates.length≤1048576
 pl:m.pages.length≤1048576
 gt:∀k i,((gtsK m k).getD i gt0).name.length≤1099511627776∧((gtsK m k).getD i gt0).dorm.wf 1073741824∧((gtsK m k).getD i gt0).inputs.length≤1099511627776
theorem gtsK_len {m:MdD} (h:MdWf2 m) (k:Nat):(gtsK m k).length≤1048576:=match k with
 |0=>h.gl
 |k+1=>(h.pg k).2
def pgS (l:List PgD):Nat:=(l.map fun p=>p.gates.length).sum
theorem pgS_le {l:List PgD} (h:∀i,(l.getD i pg0).gates.length≤1048576):pgS l≤l.length*1048576:=by
 induction l with
 |nil=>exact Nat.zero_le _
 |cons p l ih=>
  have h0:=h 0
  have:=ih fun i=>h (i+1)
  show p.gates.length+pgS l≤_
  rw [List.length_cons]
  have h1:p.gates.length≤1048576:=h0
  omega
theorem pgS_take {l:List PgD} {i:Nat} (h:i<l.length):pgS (l.take (i+1))=pgS (l.take i)+(l.getD i pg0).gates.length:=by
 have e:l.getD i pg0=l[i]:=by rw [List.getD_eq_getElem?_getD,List.getElem?_eq_getElem h];rfl
 rw [List.take_succ_eq_append_getElem h,e]
 unfold pgS
 rw [List.map_append,List.sum_append]
 simp
end Go.PN
namespace Go.Proofs.YtpcpaekpnfkhhaaGreatDoor
open Go.AI Go.PN
attribute [local irreducible] aw Fa Fh DrK
theorem checkPages_fa (m:MdD) (hm:MdOk m) (hw:MdWf2 m):Fa Tryz.prog 89 [.agg (mdc true m)] (.c (errA (pgsC m))):=by
 have hgl:=hw.gl
 have hpl:=hw.pl
 have hP:∀i,i≤m.pages.length→pgS (m.pages.take i)≤1099511627776:=fun i hi=>by
  have h1:∀j,((m.pages.take i).getD j pg0).gates.length≤1048576:=fun j=>by
   by_cases hj:j<i
   ·have:=(hw.pg j).2
    rw [List.getD_eq_getElem?_getD,List.getElem?_take_of_lt hj,←List.getD_eq_getElem?_getD];exact this
   ·rw [List.getD_eq_getElem?_getD,List.getElem?_take_eq_none om];exact Nat.zero_le _
  have h2:=pgS_le h1
  rw [List.length_take] at h2
  have:min i m.pages.length≤1048576:=by omega
  calc _≤_:=h2
   _≤1048576*1048576:=Nat.mul_le_mul_right _ this
 refine fa_of_body Tryz.func89 rfl rfl (by simp [Tryz.ntmps89]) fun C hC=> ?_
 simp only [initS,Nat.reduceAdd]
 refine zA o0 ?_
 refine xB fun g1 hn_g1=>?_
 refine zA hn_g1 ?_
 refine aw_lp (fun i:Nat=>[(1,.c (.optr g1 0)),(2,.c .nilI),(3,.c (.int .i64 ((m.gates.length+pgS (m.pages.take i):Nat):Int))),(12,.c (pgs true m.pages)),(13,.c (.int .i64 m.pages.length)),(14,.c (.int .i64 i))]) (fun _=>[(g1,.cells 29 8 (ofL (mdc true m)))]) (fun i=>i≤m.pages.length) (fun i=>m.pages.length-i) 0 (zB hn_g1) zZ (Nat.zero_le _) ?_
 rintro i hi
 have hPi:=hP i hi
 repeat' first|refine zV hn_g1 ?_|refine zH hn_g1 (fun hb=>?_) fun hb=>?_|fail
 ·have hi':=hb
  have hP2:=hP (i+1) hi'
  have ht:=pgS_take hi'
  have hpg:=(hw.pg i).2
  refine yA hn_g1 fun g4 hn_g4=>?_
  refine zA (oj hn_g1 hn_g4) ?_
  refine aw_stop ⟨i+1,?_⟩
  and_intros
  all_goals first|rfl|exact List.Sublist.refl _|exact List.sublist_cons_self _ _|exact True.intro|exact c_int om|omega
 ·rename_i hi0
  refine yT hC hn_g1 ?_
  exact .one (.c (ler_errE (by unfold pgsC;rw [if_pos (.inl om)]) (by decide)))
 ·rename_i h8 hi0
  have htk:m.pages.take i=m.pages:=List.take_of_length_le om
  rw [htk] at hb
  have hg:gtN m>64:=by
   show m.gates.length+pgS m.pages>64
   omega
  refine yT hC hn_g1 ?_
  exact .one (.c (ler_errE (by unfold pgsC;rw [if_pos (.inr hg)]) (by decide)))
 rename_i h8 hi0
 have htk:m.pages.take i=m.pages:=List.take_of_length_le om
 rw [htk] at hb
 have hg:¬gtN m>64:=by
  show¬m.gates.length+pgS m.pages>64
  omega
 have he2:pgsC m=frst (pgC m) m.pages 0:=by
  unfold pgsC
  rw [if_neg (fun z=>z.elim om hg)]
 generalize hF:frst (pgC m) m.pages 0=F at he2
 refine aw_lp (fun i:Nat=>[(1,.c (.optr g1 0)),(2,.c .nilI),(34,.c (pgs true m.pages)),(35,.c (.int .i64 m.pages.length)),(36,.c (.int .i64 i))]) (fun _=>[(g1,.cells 29 8 (ofL (mdc true m)))]) (fun i=>i≤m.pages.length∧frst (pgC m) (m.pages.drop i) i=F) (fun i=>m.pages.length-i) 0 (zB hn_g1) zZ ⟨Nat.zero_le _,hF⟩ ?_
 rintro i ⟨hi,hlp⟩
 repeat' first|refine zV hn_g1 ?_|refine zH hn_g1 (fun hb=>?_) fun hb=>?_|fail
 ·obtain⟨w0,_⟩:=hw.pg i
  have hi':=hb
  have hR:∀c,pgC m i (m.pages.getD i pg0)=c→c≠0→pgsC m=c:=fun c hc h0=>by
   rw [he2];exact frst_ret hlp hi' hc h0
  have hG:=frst_go (d:=pg0) hlp hi'
  generalize hx:m.pages.getD i pg0=x at*
  have f1:Fa Tryz.prog 87 [.c (.str (sB x.name))] (.c (.bool (nameOk x.name))):=tname_fa x.name w0
  have f2:=page_fa m x.name hm.pg
  refine yA hn_g1 fun g4 hn_g4=>?_
  all_goals try(have Z:=(oj hn_g1 hn_g4);(repeat' first|refine zV Z ?_|(refine yC2 Z (f1) ?_)|(refine yD2 Z (f1) ?_)|(refine yC2 Z (f2) ?_)|(refine yD2 Z (f2) ?_)|refine zH Z (fun hb=>?_) fun hb=>?_|fail);all_goals clear Z)
  all_goals clear f1 f2
  all_goals first
   |(refine yT hC (oj hn_g1 hn_g4) ?_
     refine .one (.c (ler_errE (c:=pgsC m) (hR _ ?_ (by decide)) (by decide)))
     clear hR hG hlp hF hx
     unfold pgC pgI
     repeat' split
     all_goals first|rfl|(exfalso;simp_all;done)|(exfalso;simp_all;omega))
   |(refine aw_stop ⟨i+1,?_⟩
     have hz:pgC m i x=0:=by
      clear hR hG hlp hF hx
      unfold pgC pgI
      repeat' split
      all_goals first|rfl|(exfalso;simp_all;done)|(exfalso;simp_all;omega)
     and_intros
     all_goals first|rfl|exact List.Sublist.refl _|exact List.sublist_cons_self _ _|exact True.intro|exact hG hz|omega)
 ·have hF0:=frst_fin hlp hb
  subst hF0
  refine yT hC hn_g1 ?_
  exact .one (.c (ler_err0 he2))
theorem checkGates_fa (m:MdD) (k:Nat) (hk:k≤m.pages.length) (hm:MdOk m) (hw:MdWf2 m):Fa Tryz.prog 90 [.agg (mdc true m),.c (.int .i64 ((k:Int)-1))] (.c (errA (gtsC m k))):=by
 have hkl:=gtsK_len hw k
 have f0:=gatesOf_fa m k hk hm.pg
 refine fa_of_body Tryz.func90 rfl rfl (by simp [Tryz.ntmps90]) fun C hC=> ?_
 simp only [initS,Nat.reduceAdd]
 refine zA o0 ?_
 refine xB fun g1 hn_g1=>?_
 refine zA1 hn_g1 f0 ?_
 have he2:gtsC m k=frst (gtC m k) (gtsK m k) 0:=rfl
 generalize hF:frst (gtC m k) (gtsK m k) 0=F at he2
 generalize hL:gtsK m k=L at*
 refine aw_lp (fun i:Nat=>[(1,.c (.int .i64 ((k:Int)-1))),(2,.c (.optr g1 0)),(4,.c .nilI),(5,.c (gts true L)),(12,.c (gts true L)),(13,.c (.int .i64 L.length)),(14,.c (.int .i64 i))]) (fun _=>[(g1,.cells 29 8 (ofL (mdc true m)))]) (fun i=>i≤L.length∧frst (gtC m k) (L.drop i) i=F) (fun i=>L.length-i) 0 (zB hn_g1) zZ ⟨Nat.zero_le _,hF⟩ ?_
 rintro i ⟨hi,hlp⟩
 repeat' first|refine zV hn_g1 ?_|refine zH hn_g1 (fun hb=>?_) fun hb=>?_|fail
 ·obtain⟨w0,w1,w2⟩:=hw.gt k i
  rw [hL] at w0 w1 w2
  have hi':=hb
  have hR:∀c,gtC m k i (L.getD i gt0)=c→c≠0→gtsC m k=c:=fun c hc h0=>by
   rw [he2];exact frst_ret hlp hi' hc h0
  have hG:=frst_go (d:=gt0) hlp hi'
  generalize hx:L.getD i gt0=x at*
  have f1:Fa Tryz.prog 87 [.c (.str (sB x.name))] (.c (.bool (nameOk x.name))):=tname_fa x.name w0
  have f2:=event_fa m x.name hm.ev
  have f3:=house_fa m x.name hm.hs
  have f4:=gate_fa L x.name om
  have f5:=checkGate_fa x w1 w2
  refine yA hn_g1 fun g4 hn_g4=>?_
  all_goals try(have Z:=(oj hn_g1 hn_g4);(repeat' first|refine zV Z ?_|(refine yC2 Z (f1) ?_)|(refine yD2 Z (f1) ?_)|(refine yC2 Z (f2) ?_)|(refine yD2 Z (f2) ?_)|(refine yC2 Z (f3) ?_)|(refine yD2 Z (f3) ?_)|(refine yC2 Z (f4) ?_)|(refine yD2 Z (f4) ?_)|(refine yC2 Z (f5) ?_)|(refine yD2 Z (f5) ?_)|refine zH Z (fun hb=>?_) fun hb=>?_|fail);all_goals clear Z)
  all_goals clear f1 f2 f3 f4 f5
  all_goals first
   |(refine yT hC (oj hn_g1 hn_g4) ?_
     refine .one (.c (ler_errE (c:=gtsC m k) (hR _ ?_ (by decide)) (by decide)))
     clear hR hG hlp hF hx
     unfold gtC evI hsI
     repeat' split
     all_goals first|rfl|(exfalso;simp_all;done)|(exfalso;simp_all;omega))
   |(refine aw_stop ⟨i+1,?_⟩
     have hz:gtC m k i x=0:=by
      clear hR hG hlp hF hx
      unfold gtC evI hsI
      repeat' split
      all_goals first|rfl|(exfalso;simp_all;done)|(exfalso;simp_all;omega)|simp_all
     and_intros
     all_goals first|rfl|exact List.Sublist.refl _|exact List.sublist_cons_self _ _|exact True.intro|exact hG hz|omega)
   |(have h0:shpC x≠0:=by simpa using hb
     have hz:gtC m k i x=shpC x:=by
      clear hR hG hlp hF hx
      unfold gtC evI hsI
      repeat' split
      all_goals first|rfl|(exfalso;simp_all;done)|(exfalso;simp_all;omega)
     refine yT hC (oj hn_g1 hn_g4) ?_
     rw [hR (shpC x) hz h0]
     exact .one (.c ler_err))
 ·have hF0:=frst_fin hlp hb
  subst hF0
  refine yT hC hn_g1 ?_
  exact .one (.c (ler_err0 he2))
theorem gr1_fg (g:Nat) (y x:GrD):Fg Tryz.prog 146 g (.cells 95 4 (ofL (grc y))) [.agg (grc x),.c (.optr g 0)] (.c (.bool (x.name==y.name))) (.cells 95 4 (ofL (grc y))):=by
 unfold Fg
 refine fh_of_body Tryz.func146 rfl rfl (by simp [Tryz.ntmps146]) fun C hC=> ?_
 simp only [initS,Nat.reduceAdd]
 refine zA o0 ?_
 refine xB fun g1 hn_g1=>?_
 refine zA hn_g1 ?_
 refine aw_rethw (h':=[(g,(.cells 95 4 (ofL (grc y))))]) rfl sL fun R r=>?_;simp only[go_sem,hn_g1];refine r _ rfl ?_;clear r R
 exact⟨rfl,rfl⟩
theorem grI_fg (g:Nat) (y:GrD) (l:List GrD) (hl:l.length≤1099511627776):Fg Tryz.prog 145 g (.cells 95 4 (ofL (grc y))) [.c (grs true l),.c (fnC 146 [g])] (.c (.int .i64 (fidx (fun x=>x.name==y.name) l))) (.cells 95 4 (ofL (grc y))):=by
 unfold Fg
 refine fh_of_body Tryz.func145 rfl rfl (by simp [Tryz.ntmps145]) fun C hC=> ?_
 simp only [initS,Nat.reduceAdd]
 refine zA o0 ?_
 refine aw_lp (fun i:Nat=>[(0,.c (grs true l)),(1,.c (fnC 146 [g])),(4,.c (.int .i64 0)),(7,.c (.int .i64 l.length)),(8,.c (.int .i64 i))]) (fun _=>[(g,(.cells 95 4 (ofL (grc y))))]) (fun i=>i≤l.length∧∀j,j<i→((fun x:GrD=>x.name==y.name) (l.getD j gr0))=false) (fun i=>l.length-i) 0 eB zZ ⟨Nat.zero_le _,fun j hj=>absurd hj om⟩ ?_
 rintro i ⟨hi,hn⟩
 repeat' first|refine zV o0 ?_|refine zH o0 (fun hb=>?_) fun hb=>?_|fail
 ·have hi':=hb
  have hf:=gr1_fg g y (l.getD i gr0)
  refine aw_cgv (args:=[.agg (grc (l.getD i gr0))]) hf rfl rfl rfl eE eE eL ?_
  refine xS ?_
  repeat' first|refine zV o0 ?_|refine zH o0 (fun hb=>?_) fun hb=>?_|fail
  ·rw [fidx_at (p:=fun x:GrD=>x.name==y.name) gr0 hi' (by simpa using hb) hn]
   refine xU ?_
   exact⟨rfl,rfl⟩
  ·refine aw_stop ⟨i+1,?_⟩
   have hn':∀j,j<i+1→((fun x:GrD=>x.name==y.name) (l.getD j gr0))=false:=fun j hj=>by
    by_cases e:j=i
    ·subst e;simpa using hb
    ·exact hn j om
   and_intros
   all_goals first|rfl|exact List.Sublist.refl _|exact True.intro|exact hn'|omega
 ·have hf:fidx (fun x=>x.name==y.name) l= -1:=fidx_no gr0 (fun j hj=>hn j om)
  rw [hf]
  refine xU ?_
  exact⟨rfl,rfl⟩
theorem ph1_fg (g:Nat) (y x:PhD):Fg Tryz.prog 150 g (.cells 98 3 (ofL (phc y))) [.agg (phc x),.c (.optr g 0)] (.c (.bool (x.name==y.name))) (.cells 98 3 (ofL (phc y))):=by
 unfold Fg
 refine fh_of_body Tryz.func150 rfl rfl (by simp [Tryz.ntmps150]) fun C hC=> ?_
 simp only [initS,Nat.reduceAdd]
 refine zA o0 ?_
 refine xB fun g1 hn_g1=>?_
 refine zA hn_g1 ?_
 refine aw_rethw (h':=[(g,(.cells 98 3 (ofL (phc y))))]) rfl sL fun R r=>?_;simp only[go_sem,hn_g1];refine r _ rfl ?_;clear r R
 exact⟨rfl,rfl⟩
theorem phI_fg (g:Nat) (y:PhD) (l:List PhD) (hl:l.length≤1099511627776):Fg Tryz.prog 149 g (.cells 98 3 (ofL (phc y))) [.c (phs true l),.c (fnC 150 [g])] (.c (.int .i64 (fidx (fun x=>x.name==y.name) l))) (.cells 98 3 (ofL (phc y))):=by
 unfold Fg
 refine fh_of_body Tryz.func149 rfl rfl (by simp [Tryz.ntmps149]) fun C hC=> ?_
 simp only [initS,Nat.reduceAdd]
 refine zA o0 ?_
 refine aw_lp (fun i:Nat=>[(0,.c (phs true l)),(1,.c (fnC 150 [g])),(4,.c (.int .i64 0)),(7,.c (.int .i64 l.length)),(8,.c (.int .i64 i))]) (fun _=>[(g,(.cells 98 3 (ofL (phc y))))]) (fun i=>i≤l.length∧∀j,j<i→((fun x:PhD=>x.name==y.name) (l.getD j ph0))=false) (fun i=>l.length-i) 0 eB zZ ⟨Nat.zero_le _,fun j hj=>absurd hj om⟩ ?_
 rintro i ⟨hi,hn⟩
 repeat' first|refine zV o0 ?_|refine zH o0 (fun hb=>?_) fun hb=>?_|fail
 ·have hi':=hb
  have hf:=ph1_fg g y (l.getD i ph0)
  refine aw_cgv (args:=[.agg (phc (l.getD i ph0))]) hf rfl rfl rfl eE eE eL ?_
  refine xS ?_
  repeat' first|refine zV o0 ?_|refine zH o0 (fun hb=>?_) fun hb=>?_|fail
  ·rw [fidx_at (p:=fun x:PhD=>x.name==y.name) ph0 hi' (by simpa using hb) hn]
   refine xU ?_
   exact⟨rfl,rfl⟩
  ·refine aw_stop ⟨i+1,?_⟩
   have hn':∀j,j<i+1→((fun x:PhD=>x.name==y.name) (l.getD j ph0))=false:=fun j hj=>by
    by_cases e:j=i
    ·subst e;simpa using hb
    ·exact hn j om
   and_intros
   all_goals first|rfl|exact List.Sublist.refl _|exact True.intro|exact hn'|omega
 ·have hf:fidx (fun x=>x.name==y.name) l= -1:=fidx_no ph0 (fun j hj=>hn j om)
  rw [hf]
  refine xU ?_
  exact⟨rfl,rfl⟩
theorem vl1_fg (g:Nat) (y x:VlD):Fg Tryz.prog 152 g (.cells 100 4 (ofL (vlc y))) [.agg (vlc x),.c (.optr g 0)] (.c (.bool (x.event==y.event))) (.cells 100 4 (ofL (vlc y))):=by
 unfold Fg
 refine fh_of_body Tryz.func152 rfl rfl (by simp [Tryz.ntmps152]) fun C hC=> ?_
 simp only [initS,Nat.reduceAdd]
 refine zA o0 ?_
 refine xB fun g1 hn_g1=>?_
 refine zA hn_g1 ?_
 refine aw_rethw (h':=[(g,(.cells 100 4 (ofL (vlc y))))]) rfl sL fun R r=>?_;simp only[go_sem,hn_g1];refine r _ rfl ?_;clear r R
 exact⟨rfl,rfl⟩
theorem vlI_fg (g:Nat) (y:VlD) (l:List VlD) (hl:l.length≤1099511627776):Fg Tryz.prog 151 g (.cells 100 4 (ofL (vlc y))) [.c (vls true l),.c (fnC 152 [g])] (.c (.int .i64 (fidx (fun x=>x.event==y.event) l))) (.cells 100 4 (ofL (vlc y))):=by
 unfold Fg
 refine fh_of_body Tryz.func151 rfl rfl (by simp [Tryz.ntmps151]) fun C hC=> ?_
 simp only [initS,Nat.reduceAdd]
 refine zA o0 ?_
 refine aw_lp (fun i:Nat=>[(0,.c (vls true l)),(1,.c (fnC 152 [g])),(4,.c (.int .i64 0)),(7,.c (.int .i64 l.length)),(8,.c (.int .i64 i))]) (fun _=>[(g,(.cells 100 4 (ofL (vlc y))))]) (fun i=>i≤l.length∧∀j,j<i→((fun x:VlD=>x.event==y.event) (l.getD j vl0))=false) (fun i=>l.length-i) 0 eB zZ ⟨Nat.zero_le _,fun j hj=>absurd hj om⟩ ?_
 rintro i ⟨hi,hn⟩
 repeat' first|refine zV o0 ?_|refine zH o0 (fun hb=>?_) fun hb=>?_|fail
 ·have hi':=hb
  have hf:=vl1_fg g y (l.getD i vl0)
  refine aw_cgv (args:=[.agg (vlc (l.getD i vl0))]) hf rfl rfl rfl eE eE eL ?_
  refine xS ?_
  repeat' first|refine zV o0 ?_|refine zH o0 (fun hb=>?_) fun hb=>?_|fail
  ·rw [fidx_at (p:=fun x:VlD=>x.event==y.event) vl0 hi' (by simpa using hb) hn]
   refine xU ?_
   exact⟨rfl,rfl⟩
  ·refine aw_stop ⟨i+1,?_⟩
   have hn':∀j,j<i+1→((fun x:VlD=>x.event==y.event) (l.getD j vl0))=false:=fun j hj=>by
    by_cases e:j=i
    ·subst e;simpa using hb
    ·exact hn j om
   and_intros
   all_goals first|rfl|exact List.Sublist.refl _|exact True.intro|exact hn'|omega
 ·have hf:fidx (fun x=>x.event==y.event) l= -1:=fidx_no vl0 (fun j hj=>hn j om)
  rw [hf]
  refine xU ?_
  exact⟨rfl,rfl⟩
theorem fac1_fa (r:RD) (hw:r.wf 1073741824):Fa Tryz.prog 148 [.agg (rdc r)] (.c (.bool (!r.prob))):=by
 have f1:=rprob_fa r hw
 refine fa_of_body Tryz.func148 rfl rfl (by simp [Tryz.ntmps148]) fun C hC=> ?_
 simp only [initS,Nat.reduceAdd]
 refine zA o0 ?_
 refine xB fun g1 hn_g1=>?_
 refine zA1 hn_g1 f1 ?_
 refine yT hC hn_g1 ?_
 exact .one (.c (.bool _))
theorem facI_fa (l:List RD) (hl:l.length≤1099511627776) (hw:∀i,(l.getD i rd0).wf 1073741824):Fa Tryz.prog 253 [.c (rats true l),.c (.raw (.func (.func 148) #[] #[]))] (.c (.int .i64 (fidx (fun x=> !x.prob) l))):=by
 refine fa_of_body Tryz.func253 rfl rfl (by simp [Tryz.ntmps253]) fun C hC=> ?_
 simp only [initS,Nat.reduceAdd]
 refine zA o0 ?_
 refine aw_lp (fun i:Nat=>[(0,.c (rats true l)),(1,.c (.raw (.func (.func 148) #[] #[]))),(4,.c (.int .i64 0)),(7,.c (.int .i64 l.length)),(8,.c (.int .i64 i))]) (fun _=>[]) (fun i=>i≤l.length∧∀j,j<i→((fun x:RD=> !x.prob) (l.getD j rd0))=false) (fun i=>l.length-i) 0 eB zZ ⟨Nat.zero_le _,fun j hj=>absurd hj om⟩ ?_
 rintro i ⟨hi,hn⟩
 repeat' first|refine zV o0 ?_|refine zH o0 (fun hb=>?_) fun hb=>?_|fail
 ·have hi':=hb
  have hf:=fac1_fa (l.getD i rd0) (hw i)
  refine aw_callqv hf rfl rfl rfl eE eL ?_
  refine xS ?_
  repeat' first|refine zV o0 ?_|refine zH o0 (fun hb=>?_) fun hb=>?_|fail
  ·rw [fidx_at (p:=fun x:RD=> !x.prob) rd0 hi' (by simpa using hb) hn]
   refine xT hC ?_
   exact .one (.c (.int _ _))
  ·refine aw_stop ⟨i+1,?_⟩
   have hn':∀j,j<i+1→((fun x:RD=> !x.prob) (l.getD j rd0))=false:=fun j hj=>by
    by_cases e:j=i
    ·subst e;simpa using hb
    ·exact hn j om
   and_intros
   all_goals first|rfl|exact List.Sublist.refl _|exact True.intro|exact hn'|omega
 ·have hf:fidx (fun x:RD=> !x.prob) l= -1:=fidx_no rd0 (fun j hj=>hn j om)
  rw [hf]
  refine xT hC ?_
  exact .one (.c (.int _ _))
theorem fidx_all {α:Type} (p:α→Bool):∀l:List α,decide (fidx (fun x=> !p x) l≥0)= !l.all p
 |[]=>rfl
 |x::l=>by
  have ih:=fidx_all p l
  show decide ((if(!p x)=true then(0:Int) else if fidx (fun x=> !p x) l<0 then-1 else fidx (fun x=> !p x) l+1)≥0)= !(p x&&l.all p)
  cases h:p x with
  |false=>rfl
  |true=>
   rw [if_neg (by simp),Bool.true_and,←ih]
   by_cases h2:fidx (fun x=> !p x) l<0
   ·have a:¬fidx (fun x=> !p x) l≥0:=by omega
    rw [if_pos h2,decide_eq_false a];rfl
   ·have a:fidx (fun x=> !p x) l≥0:=by omega
    have b:fidx (fun x=> !p x) l+1≥0:=by omega
    rw [if_neg h2,decide_eq_true a,decide_eq_true b]
theorem facC_fa (l:List RD) (hl:l.length≤1099511627776) (hw:∀i,(l.getD i rd0).wf 1073741824):Fa Tryz.prog 147 [.c (rats true l),.c (.raw (.func (.func 148) #[] #[]))] (.c (.bool (!l.all RD.prob))):=by
 have f1:=facI_fa l hl hw
 have f2:=fidx_all RD.prob l
 refine fa_of_body Tryz.func147 rfl rfl (by simp [Tryz.ntmps147]) fun C hC=> ?_
 simp only [initS,Nat.reduceAdd]
 refine zA1 o0 f1 ?_
 refine xT hC ?_
 exact .one (.c (ler_bool f2))
end Go.Proofs.YtpcpaekpnfkhhaaGreatDoor
namespace Go.PN
open Go.AI
structure MdWf3 (m:MdD):Prop where
 l:m.phases.length≤1099511627776
 ph:∀i,(m.phases.getD i ph0).name.length≤1099511627776∧(m.phases.getD i ph0).top.length≤1099511627776∧(m.phases.getD i ph0).values.length≤1099511627776
 vl:∀i k,(((m.phases.getD i ph0).values.getD k vl0)).p.wf 1073741824
end Go.PN
namespace Go.Proofs.YtpcpaekpnfkhhaaGreatDoor
open Go.AI Go.PN
attribute [local irreducible] aw Fa Fh DrK
theorem checkPhases_fa (m:MdD) (hm:MdOk m) (hw2:MdWf2 m) (hw:MdWf3 m):Fa Tryz.prog 94 [.agg (mdc true m)] (.c (errA (phsC m))):=by
 have hl:=hw.l
 refine fa_of_body Tryz.func94 rfl rfl (by simp [Tryz.ntmps94]) fun C hC=> ?_
 simp only [initS,Nat.reduceAdd]
 refine zA o0 ?_
 refine xB fun g1 hn_g1=>?_
 repeat' first|refine zV hn_g1 ?_|refine zH hn_g1 (fun hb=>?_) fun hb=>?_|fail
 ·refine yT hC hn_g1 ?_
  exact .one (.c (ler_errE (by unfold phsC;rw [if_pos om]) (by decide)))
 have he2:phsC m=frst (phC m) m.phases 0:=by
  unfold phsC
  rw [if_neg om]
 generalize hF:frst (phC m) m.phases 0=F at he2
 refine aw_lp (fun i:Nat=>[(1,.c (.optr g1 0)),(2,.c .nilI),(13,.c (phs true m.phases)),(14,.c (.int .i64 m.phases.length)),(15,.c (.int .i64 i))]) (fun _=>[(g1,.cells 29 8 (ofL (mdc true m)))]) (fun i=>i≤m.phases.length∧frst (phC m) (m.phases.drop i) i=F) (fun i=>m.phases.length-i) 0 (zB hn_g1) zZ ⟨Nat.zero_le _,hF⟩ ?_
 rintro i ⟨hi,hlp⟩
 repeat' first|refine zV hn_g1 ?_|refine zH hn_g1 (fun hb=>?_) fun hb=>?_|fail
 ·obtain⟨w0,w1,w2⟩:=hw.ph i
  have w3:=hw.vl i
  have hi':=hb
  have hR:∀c,phC m i (m.phases.getD i ph0)=c→c≠0→phsC m=c:=fun c hc h0=>by
   rw [he2];exact frst_ret hlp hi' hc h0
  have hG:=frst_go (d:=ph0) hlp hi'
  clear hlp
  generalize hx:m.phases.getD i ph0=x at*
  have f1:Fa Tryz.prog 87 [.c (.str (sB x.name))] (.c (.bool (nameOk x.name))):=tname_fa x.name w0
  have f3:Fa Tryz.prog 92 [.agg (mdc true m),.c (.int .i64 (-1)),.c (.str (sB x.top))] (.c (.bool (isInp m 0 x.top))):=isInput_fa m 0 x.top (Nat.zero_le _) hm (by have:=gtsK_len hw2 0;omega) w1
  refine yA hn_g1 fun g4 hn_g4=>?_
  all_goals try(have Z:=(oj hn_g1 hn_g4);(repeat' first|refine zV Z ?_|(refine yC2 Z (f1) ?_)|(refine yD2 Z (f1) ?_)|refine zH Z (fun hb=>?_) fun hb=>?_|fail);all_goals clear Z)
  ·refine yT hC (oj hn_g1 hn_g4) ?_
   refine .one (.c (ler_errE (c:=phsC m) (hR _ ?_ (by decide)) (by decide)))
   unfold phC
   rw [if_pos (by simpa using hb)]
  rename_i hn1
  replace hn1:=hb
  refine aw_makeFunc (gs:=[g4]) rfl rfl rfl (zE (oj hn_g1 hn_g4)) ?_
  have J1:=oj hn_g1 hn_g4
  refine yS J1 ?_
  have f2:=phI_fg g4 x m.phases hl
  all_goals repeat' first|refine zV J1 ?_|(refine zg J1 (f2) ?_)|(refine yC2 J1 (f3) ?_)|(refine yD2 J1 (f3) ?_)|refine zH J1 (fun hb=>?_) fun hb=>?_|fail
  ·refine yT hC J1 ?_
   refine .one (.c (ler_errE (c:=phsC m) (hR _ ?_ (by decide)) (by decide)))
   unfold phC
   rw [if_neg (by simpa using hn1),if_pos hb]
  ·rename_i hn2
   refine yT hC J1 ?_
   refine .one (.c (ler_errE (c:=phsC m) (hR _ ?_ (by decide)) (by decide)))
   unfold phC
   rw [if_neg (by simpa using hn1),if_neg hn2,if_pos (by simpa using hb)]
  rename_i hn2
  have hn3:=hb
  have hp:phC m i x=frst (vlC m x) x.values 0:=by
   unfold phC
   rw [if_neg (by simpa using hn1),if_neg hn2,if_neg (by simpa using hn3)]
  clear f1 f2 f3 J1
  generalize hF2:frst (vlC m x) x.values 0=F2 at hp
  refine aw_lp (fun k:Nat=>[(1,.c (.optr g1 0)),(2,.c .nilI),(4,.c (.optr g4 0)),(13,.c (phs true m.phases)),(14,.c (.int .i64 m.phases.length)),(15,.c (.int .i64 i)),(39,.c (vls true x.values)),(40,.c (.int .i64 x.values.length)),(41,.c (.int .i64 k))]) (fun _=>[(g4,.cells 98 3 (ofL (phc x))),(g1,.cells 29 8 (ofL (mdc true m)))]) (fun k=>k≤x.values.length∧frst (vlC m x) (x.values.drop k) k=F2) (fun k=>x.values.length-k) 0 (zB (oj hn_g1 hn_g4)) zZ ⟨Nat.zero_le _,hF2⟩ ?_
  rintro k ⟨hk,hlq⟩
  all_goals try(have Z:=(oj hn_g1 hn_g4);(repeat' first|refine zV Z ?_|refine zH Z (fun hb=>?_) fun hb=>?_|fail);all_goals clear Z)
  ·have hk':=hb
   have hR2:∀c,vlC m x k (x.values.getD k vl0)=c→c≠0→phsC m=c:=fun c hc h0=>hR c (hp.trans (frst_ret hlq hk' hc h0)) h0
   have hG2:=frst_go (d:=vl0) hlq hk'
   clear hlq
   have w4:=w3 k
   generalize hv:x.values.getD k vl0=v at*
   have f1:=event_fa m v.event hm.ev
   have f3:=rprob_fa v.p w4
   refine yA (oj hn_g1 hn_g4) fun g5 hn_g5=>?_
   all_goals try(have Z:=(oj hn_g1 (oj hn_g4 hn_g5));(repeat' first|refine zV Z ?_|(refine yC2 Z (f1) ?_)|(refine yD2 Z (f1) ?_)|refine zH Z (fun hb=>?_) fun hb=>?_|fail);all_goals clear Z)
   ·refine yT hC (oj hn_g1 (oj hn_g4 hn_g5)) ?_
    refine .one (.c (ler_errE (c:=phsC m) (hR2 _ ?_ (by decide)) (by decide)))
    unfold vlC evI
    rw [if_pos hb]
   have m1:=hb
   refine aw_makeFunc (gs:=[g5]) rfl rfl rfl (zE (oj hn_g1 (oj hn_g4 hn_g5))) ?_
   have J2:=oj hn_g1 (oj hn_g4 hn_g5)
   refine yS J2 ?_
   have f2:=vlI_fg g5 v x.values w2
   all_goals repeat' first|refine zV J2 ?_|(refine zg J2 (f2) ?_)|(refine yC2 J2 (f3) ?_)|(refine yD2 J2 (f3) ?_)|refine zH J2 (fun hb=>?_) fun hb=>?_|fail
   ·refine yT hC J2 ?_
    refine .one (.c (ler_errE (c:=phsC m) (hR2 _ ?_ (by decide)) (by decide)))
    unfold vlC evI
    rw [if_neg m1,if_pos hb]
   ·rename_i m2
    refine yT hC J2 ?_
    refine .one (.c (ler_errE (c:=phsC m) (hR2 _ ?_ (by decide)) (by decide)))
    unfold vlC evI
    rw [if_neg m1,if_neg m2,if_pos (by simpa using hb)]
   ·rename_i m2
    refine aw_stop ⟨k+1,?_⟩
    have hz:vlC m x k v=0:=by
     unfold vlC evI
     rw [if_neg m1,if_neg m2,if_neg (by simpa using hb)]
    and_intros
    all_goals first|rfl|exact List.Sublist.refl _|exact List.sublist_cons_self _ _|exact True.intro|exact hG2 hz|omega
  ·have hF0:=frst_fin hlq hb
   refine aw_stop ⟨i+1,?_⟩
   and_intros
   all_goals first|rfl|exact List.Sublist.refl _|exact List.sublist_cons_self _ _|exact True.intro|exact hG (hp.trans hF0)|omega
 ·have hF0:=frst_fin hlp hb
  subst hF0
  refine yT hC hn_g1 ?_
  exact .one (.c (ler_err0 he2))
theorem sindexF_fa (l:List BS) (n:BS) (hl:l.length≤1099511627776):Fa Tryz.prog 252 [.c (strs false l),.c (.str (sB n))] (.c (.int .i64 (fidx (fun x=>n==x) l))):=by
 refine fa_of_body Tryz.func252 rfl rfl (by simp [Tryz.ntmps252]) fun C hC=> ?_
 simp only [initS,Nat.reduceAdd]
 refine zA o0 ?_
 refine aw_lp (fun i:Nat=>[(0,.c (strs false l)),(1,.c (.str (sB n))),(4,.c (.int .i64 0)),(7,.c (.int .i64 l.length)),(8,.c (.int .i64 i))]) (fun _=>[]) (fun i=>i≤l.length∧∀j,j<i→((fun x:BS=>n==x) (l.getD j []))=false) (fun i=>l.length-i) 0 eB zZ ⟨Nat.zero_le _,fun j hj=>absurd hj om⟩ ?_
 rintro i ⟨hi,hn⟩
 repeat' first|refine zV o0 ?_|refine zH o0 (fun hb=>?_) fun hb=>?_|fail
 ·rename_i hi'
  rw [fidx_at (p:=fun x:BS=>n==x) [] hi' (by simpa using hb) hn]
  refine xT hC ?_
  exact .one (.c (.int _ _))
 ·rename_i hi'
  refine aw_stop ⟨i+1,?_⟩
  have hn':∀j,j<i+1→((fun x:BS=>n==x) (l.getD j []))=false:=fun j hj=>by
   by_cases e:j=i
   ·subst e;simpa using hb
   ·exact hn j om
  and_intros
  all_goals first|rfl|exact List.Sublist.refl _|exact True.intro|exact hn'|omega
 ·have hf:fidx (fun x=>n==x) l= -1:=fidx_no [] (fun j hj=>hn j om)
  rw [hf]
  refine xT hC ?_
  exact .one (.c (.int _ _))
theorem scontF_fa (l:List BS) (n:BS) (hl:l.length≤1099511627776):Fa Tryz.prog 144 [.c (strs false l),.c (.str (sB n))] (.c (.bool (l.contains n))):=by
 have f1:=sindexF_fa l n hl
 have f2:=fidx_mem n l
 refine fa_of_body Tryz.func144 rfl rfl (by simp [Tryz.ntmps144]) fun C hC=> ?_
 simp only [initS,Nat.reduceAdd]
 refine zA1 o0 f1 ?_
 refine xT hC ?_
 exact .one (.c (ler_bool f2))
end Go.Proofs.YtpcpaekpnfkhhaaGreatDoor
namespace Go.PN
open Go.AI
theorem frsS_ret {α σ:Type} {f:Nat→α→σ→Int×σ} {l:List α} {d:α} {i:Nat} {s:σ} {F:Int×σ} (h:frsS f (l.drop i) i s=F) (hi:i<l.length) {r:Int×σ} (hc:f i (l.getD i d) s=r) (h0:r.1≠0):F=r:=by
 rw [frsS_step d hi,hc,if_neg h0] at h
 exact h.symm
theorem frsS_go {α σ:Type} {f:Nat→α→σ→Int×σ} {l:List α} {d:α} {i:Nat} {s:σ} {F:Int×σ} (h:frsS f (l.drop i) i s=F) (hi:i<l.length) {r:Int×σ} (hc:f i (l.getD i d) s=r) (h0:r.1=0):frsS f (l.drop (i+1)) (i+1) r.2=F:=by
 rw [frsS_step d hi,hc,if_pos h0] at h
 exact h
theorem frsS_fin {α σ:Type} {f:Nat→α→σ→Int×σ} {l:List α} {i:Nat} {s:σ} {F:Int×σ} (h:frsS f (l.drop i) i s=F) (hi:¬i<l.length):F=(0,s):=by
 rw [frsS_end hi] at h
 exact h.symm
end Go.PN
namespace Go.Proofs.YtpcpaekpnfkhhaaGreatDoor
open Go.AI Go.PN
theorem le_gst {pre:Heap} {og:Option Nat} {ty:TypeId} {sp:List BS} (hog:og=none→sp.length=0) (hnd:(pre++gh og ty sp.length (strsF sp)).keys.Nodup):LeC (pre++gh og ty sp.length (strsF sp)) (gs og 1 sp.length) (strs false sp):=by
 cases og with
 |none=>
  have h0:=hog rfl
  show LeC _ .nils (.row false 1 sp.length (strsF sp))
  rw [h0]
  exact .nils
 |some g=>
  have hg:g∉pre.keys:=fun hm=>by
   have hk:(pre++gh (some g) ty sp.length (strsF sp)).keys=pre.keys++[g]:=by simp [Heap.keys,gh]
   rw [hk] at hnd
   exact(List.nodup_append.1 hnd).2.2 g hm g (by simp) rfl
  exact .osl (Heap.get_app hg) om (fun j _=>by rw [Nat.zero_add];exact .refl _)
attribute [local irreducible] aw Fa Fh DrK
theorem checkInputs_fh (m:MdD) (k:Nat) (sp0:List BS) (og0:Option Nat) (hk:k≤m.pages.length) (hm:MdOk m) (hw2:MdWf2 m) (hI:∀i,((gtsK m k).getD i gt0).inputs.length≤16) (hin:∀i j,(((gtsK m k).getD i gt0).inputs.getD j []).length≤1099511627776) (hog0:og0=none→sp0.length=0) (hb0:sp0.length≤1073741824):Fh Tryz.prog 91 (gh og0 9 sp0.length (strsF sp0)) [.agg (mdc true m),.c (.int .i64 ((k:Int)-1)),.c (gs og0 1 sp0.length)] (fun x h=>((inP m k sp0).1≠0∧h=[]∧x=.tup [.c .nils,.c (errA (inP m k sp0).1)])∨((inP m k sp0).1=0∧∃og,(og=none→(inP m k sp0).2.length=0)∧h=gh og 9 (inP m k sp0).2.length (strsF (inP m k sp0).2)∧x=.tup [.c (gs og 1 (inP m k sp0).2.length),.c .nilI])):=by
 have hkl:=gtsK_len hw2 k
 have f0:=gatesOf_fa m k hk hm.pg
 refine fh_of_body Tryz.func91 rfl rfl (by simp [Tryz.ntmps91]) fun C hC=> ?_
 simp only [initS,Nat.reduceAdd]
 refine zA o0 ?_
 refine xB fun g1 hn_g1=>?_
 refine zA1 hn_g1 f0 ?_
 generalize hF:frsS (inG m k) (gtsK m k) 0 sp0=F
 have hPn:F.1≠0→inP m k sp0=F:=fun h=>by unfold inP;rw [hF,if_neg h]
 have hP0:F.1=0→inP m k sp0=(tpC m k,F.2):=fun h=>by unfold inP;rw [hF,if_pos h]
 generalize hL:gtsK m k=L at*
 refine aw_lp (fun x:Nat×List BS×Option Nat=>[(1,.c (.int .i64 ((k:Int)-1))),(2,.c (gs x.2.2 1 x.2.1.length)),(3,.c (.optr g1 0)),(6,.c .nils),(7,.c .nilI),(15,.c (gts true L)),(16,.c (.int .i64 L.length)),(17,.c (.int .i64 x.1))]) (fun x=>[(g1,.cells 29 8 (ofL (mdc true m)))]++gh x.2.2 9 x.2.1.length (strsF x.2.1)) (fun x=>x.1≤L.length∧(x.2.2=none→x.2.1.length=0)∧x.2.1.length≤sp0.length+16*x.1∧frsS (inG m k) (L.drop x.1) x.1 x.2.1=F) (fun x=>L.length-x.1) (0,sp0,og0) (zB hn_g1) zZ ⟨Nat.zero_le _,hog0,by dsimp only;omega,hF⟩ ?_
 rintro ⟨i,sp,og⟩ ⟨hi,hog,hsz,hlp⟩
 dsimp only at hi hog hsz hlp⊢
 simp only [List.cons_append,List.nil_append]
 have fT1:=gate_fa (m.pages.getD (k-1) pg0).gates (m.pages.getD (k-1) pg0).top (by have:=(hw2.pg (k-1)).2;omega)
 have fT2:=event_fa m (m.pages.getD (k-1) pg0).top hm.ev
 repeat' first|refine zV hn_g1 ?_|(refine yC2 hn_g1 (fT1) ?_)|(refine yD2 hn_g1 (fT1) ?_)|(refine yC2 hn_g1 (fT2) ?_)|(refine yD2 hn_g1 (fT2) ?_)|refine zH hn_g1 (fun hb=>?_) fun hb=>?_|fail
 ·have hi':=hb
  have w1:=hI i
  have w2:=hin i
  have hlp2:=fun r=>frsS_ret (d:=gt0) (r:=r) hlp hi'
  have hgo:=fun r=>frsS_go (d:=gt0) (r:=r) hlp hi'
  clear hlp fT1 fT2
  generalize hx:L.getD i gt0=x at*
  refine yA hn_g1 fun g4 hn_g4=>?_
  refine zA (oj hn_g1 hn_g4) ?_
  generalize hF2:frsS (inI m k x) x.inputs 0 sp=F2
  have e2:inG m k i x sp=F2:=hF2
  rw [e2] at hlp2 hgo
  refine aw_lp (fun y:Nat×List BS×Option Nat=>[(1,.c (.int .i64 ((k:Int)-1))),(2,.c (gs y.2.2 1 y.2.1.length)),(3,.c (.optr g1 0)),(6,.c .nils),(7,.c .nilI),(9,.c (.optr g4 0)),(15,.c (gts true L)),(16,.c (.int .i64 L.length)),(17,.c (.int .i64 i)),(22,.c (strs true x.inputs)),(23,.c (.int .i64 x.inputs.length)),(24,.c (.int .i64 y.1))]) (fun y=>[(g4,.cells 140 7 (ofL (gtc x))),(g1,.cells 29 8 (ofL (mdc true m)))]++gh y.2.2 9 y.2.1.length (strsF y.2.1)) (fun y=>y.1≤x.inputs.length∧(y.2.2=none→y.2.1.length=0)∧y.2.1.length≤sp.length+y.1∧frsS (inI m k x) (x.inputs.drop y.1) y.1 y.2.1=F2) (fun y=>x.inputs.length-y.1) (0,sp,og) (zB (oj hn_g1 hn_g4)) zZ ⟨Nat.zero_le _,hog,by dsimp only;omega,hF2⟩ ?_
  rintro ⟨j,sq,oq⟩ ⟨hj,hoq,hsq,hlq⟩
  dsimp only at hj hoq hsq hlq⊢
  simp only [List.cons_append,List.nil_append]
  all_goals try(have Z:=(oj hn_g1 hn_g4);(repeat' first|refine zV Z ?_|refine zH Z (fun hb=>?_) fun hb=>?_|fail);all_goals clear Z)
  ·have hj':=hb
   have w3:=w2 j
   have hq2:=fun r=>frsS_ret (d:=([]:BS)) (r:=r) hlq hj'
   have hqg:=fun r=>frsS_go (d:=([]:BS)) (r:=r) hlq hj'
   clear hlq
   generalize hy:x.inputs.getD j []=y at*
   have hR:∀c s,inI m k x j y sq=(c,s)→c≠0→(inP m k sp0).1=c:=fun c s h1 h2=>by
    have a1:=hq2 _ h1 h2
    rw [a1] at hlp2
    have a2:=hlp2 _ rfl h2
    rw [hPn (by rw [a2];exact h2),a2]
   have f1:=isInput_fa m k y hk hm (by rw [hL];omega) w3
   have f2:=must_fa x j om
   have f3:=event_fa m y hm.ev
   have f4:=scontF_fa sq y om
   all_goals try(have Z:=(oj hn_g1 hn_g4);(repeat' first|refine zV Z ?_|(refine yC2 Z (f1) ?_)|(refine yD2 Z (f1) ?_)|(refine yC2 Z (f2) ?_)|(refine yD2 Z (f2) ?_)|(refine yC2 Z (f3) ?_)|(refine yD2 Z (f3) ?_)|refine zH Z (fun hb=>?_) fun hb=>?_|fail);all_goals clear Z)
   all_goals first
    |(refine aw_keep [(6,.c .nils),(7,.c (.ifc 69 (.int .i64 5)))] [] (zB (oj hn_g1 hn_g4)) (List.nil_sublist _) ?_
      have h5:=hR 5 sq (by
       unfold inI evI
       repeat' split
       all_goals first|rfl|(exfalso;simp_all;done)|(exfalso;simp_all;omega)) (by decide)
      refine yU (oj hn_g1 hn_g4) ?_
      rw [h5]
      exact .inl ⟨by decide,rfl,rfl⟩)
    |(refine aw_keep [(6,.c .nils),(7,.c (.ifc 69 (.int .i64 7)))] [] (zB (oj hn_g1 hn_g4)) (List.nil_sublist _) ?_
      have h5:=hR 7 sq (by
       unfold inI evI
       repeat' split
       all_goals first|rfl|(exfalso;simp_all;done)|(exfalso;simp_all;omega)) (by decide)
      refine yU (oj hn_g1 hn_g4) ?_
      rw [h5]
      exact .inl ⟨by decide,rfl,rfl⟩)
    |(refine aw_stop ⟨(j+1,sq,oq),?_⟩
      have hz:inI m k x j y sq=(0,sq):=by
       unfold inI evI
       repeat' split
       all_goals first|rfl|(exfalso;simp_all;done)|(exfalso;simp_all;omega)
      have hq:=hqg _ hz rfl
      and_intros
      all_goals first|rfl|exact List.Sublist.refl _|exact List.sublist_cons_self _ _|exact True.intro|exact hoq|exact hq|(dsimp only;omega))
    |skip
   all_goals
    have hk7:=hb
    refine aw_nd fun hnd=> ?_
    refine aw_callq f4 rfl rfl rfl (by refine yS (oj hn_g1 hn_g4) ?_;exact⟨.c (le_gst (pre:=[(g4,.cells 140 7 (ofL (gtc x))),(g1,.cells 29 8 (ofL (mdc true m)))]) hoq hnd),.c (.refl _)⟩) ?_
    have J1:=oj hn_g1 hn_g4
    refine yS J1 ?_
    all_goals repeat' first|refine zV J1 ?_|refine zH J1 (fun hb=>?_) fun hb=>?_|fail
    ·refine aw_keep [(6,.c .nils),(7,.c (.ifc 69 (.int .i64 6)))] [] (zB J1) (List.nil_sublist _) ?_
     have h5:=hR 6 sq (by
      unfold inI evI
      repeat' split
      all_goals first|rfl|(exfalso;simp_all;done)|(exfalso;simp_all;omega)) (by decide)
     refine yU J1 ?_
     rw [h5]
     exact .inl ⟨by decide,rfl,rfl⟩
    ·have hz:inI m k x j y sq=(0,sq++[y]):=by
      unfold inI evI
      repeat' split
      all_goals first|rfl|(exfalso;simp_all;done)|(exfalso;simp_all;omega)
     have hq:=hqg _ hz rfl
     have hln:(sq++[y]).length=sq.length+1:=by rw [List.length_append];rfl
     refine aw_push (pre:=[(g4,.cells 140 7 (ofL (gtc x))),(g1,.cells 29 8 (ofL (mdc true m)))]) rfl rfl rfl rfl rfl rfl rfl (zE J1) (zE J1) (by rfl) om om (zE J1) om (by exact hoq) (zE J1) (by rfl) (by rfl) qb qc om (by exact strs_push rfl y) fun gb hn_gb=> ?_
     replace hn_gb:=Heap.ne_of hn_gb
     first|dsimp only [Heap.ne,gh] at hn_gb|dsimp only [Heap.ne] at hn_gb|skip
     refine yS (oj hn_g1 (oj hn_g4 hn_gb)) ?_
     refine zA (oj hn_g1 (oj hn_g4 hn_gb)) ?_
     refine aw_stop ⟨(j+1,sq++[y],some gb),?_⟩
     dsimp only
     simp only [hln]
     and_intros
     all_goals first|rfl|exact List.Sublist.refl _|exact List.sublist_cons_self _ _|exact True.intro|exact some_ne|exact hq|omega|trace_state
  ·have hF0:=frsS_fin hlq hb
   subst hF0
   refine aw_stop ⟨(i+1,sq,oq),?_⟩
   and_intros
   all_goals first|rfl|exact List.Sublist.refl _|exact List.sublist_cons_self _ _|exact True.intro|exact hoq|exact hgo _ rfl rfl|(dsimp only;omega)
 ·rename_i hi0 hk1 ha
  have hF0:=frsS_fin hlp hi0
  subst hF0
  have hT:inP m k sp0=(tpC m k,sp):=hP0 rfl
  have h5:tpC m k=5:=by
   obtain⟨q,rfl⟩:∃q,k=q+1:=⟨k-1,by omega⟩
   exact if_pos ⟨ha,hb⟩
  refine aw_keep [(6,.c .nils),(7,.c (.ifc 69 (.int .i64 5)))] [] (zB hn_g1) (List.nil_sublist _) ?_
  refine yU hn_g1 ?_
  rw [hT,h5]
  exact .inl ⟨show(5:Int)≠0 by decide,rfl,rfl⟩
 ·rename_i hi0 hk1 ha
  have hF0:=frsS_fin hlp hi0
  subst hF0
  have hT:inP m k sp0=(tpC m k,sp):=hP0 rfl
  have h0:tpC m k=0:=by
   obtain⟨q,rfl⟩:∃q,k=q+1:=⟨k-1,by omega⟩
   exact if_neg fun z=>hb z.2
  refine aw_keep [(6,.c (gs og 1 sp.length)),(7,.c .nilI)] (gh og 9 sp.length (strsF sp)) (zB hn_g1) (List.sublist_cons_self _ _) ?_
  refine yU hn_g1 ?_
  rw [hT,h0]
  exact .inr ⟨rfl,og,hog,rfl,rfl⟩
 ·rename_i hi0 hk1
  have hF0:=frsS_fin hlp hi0
  subst hF0
  have hT:inP m k sp0=(tpC m k,sp):=hP0 rfl
  have h0:tpC m k=0:=by
   obtain⟨q,rfl⟩:∃q,k=q+1:=⟨k-1,by omega⟩
   exact if_neg fun z=>hb z.1
  refine aw_keep [(6,.c (gs og 1 sp.length)),(7,.c .nilI)] (gh og 9 sp.length (strsF sp)) (zB hn_g1) (List.sublist_cons_self _ _) ?_
  refine yU hn_g1 ?_
  rw [hT,h0]
  exact .inr ⟨rfl,og,hog,rfl,rfl⟩
 ·rename_i hi0
  have hF0:=frsS_fin hlp hi0
  subst hF0
  have hT:inP m k sp0=(tpC m k,sp):=hP0 rfl
  have h0:tpC m k=0:=by
   have:k=0:=by omega
   subst this
   rfl
  refine aw_keep [(6,.c (gs og 1 sp.length)),(7,.c .nilI)] (gh og 9 sp.length (strsF sp)) (zB hn_g1) (List.sublist_cons_self _ _) ?_
  refine yU hn_g1 ?_
  rw [hT,h0]
  exact .inr ⟨rfl,og,hog,rfl,rfl⟩
end Go.Proofs.YtpcpaekpnfkhhaaGreatDoor
namespace Go.PN
open Go.AI
structure MdWf4 (m:MdD):Prop where
 l:m.groups.length≤1099511627776
 gr:∀i,(m.groups.getD i gr0).name.length≤1099511627776∧(m.groups.getD i gr0).members.length≤1048576∧(m.groups.getD i gr0).factors.length≤1099511627776
 fa:∀i k,((m.groups.getD i gr0).factors.getD k rd0).wf 1073741824
end Go.PN
namespace Go.Proofs.YtpcpaekpnfkhhaaGreatDoor
open Go.AI Go.PN
attribute [local irreducible] aw Fa Fh DrK
theorem checkGroups_fa (m:MdD) (hm:MdOk m) (hw:MdWf4 m):Fa Tryz.prog 93 [.agg (mdc true m)] (.c (errA (grsC m))):=by
 have hl:=hw.l
 refine fa_of_body Tryz.func93 rfl rfl (by simp [Tryz.ntmps93]) fun C hC=> ?_
 simp only [initS,Nat.reduceAdd]
 refine zA o0 ?_
 refine xB fun g1 hn_g1=>?_
 repeat' first|refine zV hn_g1 ?_|refine zH hn_g1 (fun hb=>?_) fun hb=>?_|fail
 ·refine yT hC hn_g1 ?_
  exact .one (.c (ler_errE (by unfold grsC;rw [if_pos om]) (by decide)))
 have h8:m.groups.length≤8:=by omega
 have he2:grsC m=(frsS (grC m) m.groups 0 []).1:=by
  unfold grsC
  rw [if_neg om]
 generalize hF:frsS (grC m) m.groups 0 []=F at he2
 refine aw_lp (fun x:Nat×List BS×Option Nat=>[(1,.c (.optr g1 0)),(2,.c .nilI),(3,.c (gs x.2.2 1 x.2.1.length)),(16,.c (grs true m.groups)),(17,.c (.int .i64 m.groups.length)),(18,.c (.int .i64 x.1))]) (fun x=>[(g1,.cells 29 8 (ofL (mdc true m)))]++gh x.2.2 9 x.2.1.length (strsF x.2.1)) (fun x=>x.1≤m.groups.length∧(x.2.2=none→x.2.1.length=0)∧x.2.1.length≤1048576*x.1∧frsS (grC m) (m.groups.drop x.1) x.1 x.2.1=F) (fun x=>m.groups.length-x.1) (0,[],none) (zB hn_g1) zZ ⟨Nat.zero_le _,fun _=>rfl,Nat.zero_le _,hF⟩ ?_
 rintro ⟨i,ms,og⟩ ⟨hi,hog,hsz,hlp⟩
 dsimp only at hi hog hsz hlp⊢
 simp only [List.cons_append,List.nil_append]
 repeat' first|refine zV hn_g1 ?_|refine zH hn_g1 (fun hb=>?_) fun hb=>?_|fail
 ·obtain⟨w0,w1,w2⟩:=hw.gr i
  have w3:=hw.fa i
  have hi':=hb
  have hR:∀c s,grC m i (m.groups.getD i gr0) ms=(c,s)→c≠0→grsC m=c:=fun c s hc h0=>by
   rw [he2,frsS_ret hlp hi' hc h0]
  have hgo:=fun r=>frsS_go (d:=gr0) (r:=r) hlp hi'
  clear hlp
  generalize hx:m.groups.getD i gr0=x at*
  have f1:Fa Tryz.prog 87 [.c (.str (sB x.name))] (.c (.bool (nameOk x.name))):=tname_fa x.name w0
  refine yA hn_g1 fun g4 hn_g4=>?_
  all_goals try(have Z:=(oj hn_g1 hn_g4);(repeat' first|refine zV Z ?_|(refine yC2 Z (f1) ?_)|(refine yD2 Z (f1) ?_)|refine zH Z (fun hb=>?_) fun hb=>?_|fail);all_goals clear Z)
  ·refine yT hC (oj hn_g1 hn_g4) ?_
   refine .one (.c (ler_errE (c:=grsC m) (hR _ ms ?_ (by decide)) (by decide)))
   unfold grC
   rw [if_pos (by simpa using hb)]
  have hn1:=hb
  refine aw_makeFunc (gs:=[g4]) rfl rfl rfl (zE (oj hn_g1 hn_g4)) ?_
  have J1:=oj hn_g1 hn_g4
  refine yS J1 ?_
  have f2:=grI_fg g4 x m.groups hl
  have f3:=facC_fa x.factors w2 w3
  obtain⟨nm,kd,mb,fc⟩:=x
  dsimp only at*
  by_cases k0:kd=0
  ·subst k0
   all_goals repeat' first|refine zV J1 ?_|(refine zg J1 (f2) ?_)|refine zH J1 (fun hb=>?_) fun hb=>?_|fail
   all_goals clear f1 f2
   ·refine yT hC J1 ?_
    refine .one (.c (ler_errE (c:=grsC m) (hR _ ms ?_ (by decide)) (by decide)))
    unfold grC
    repeat' split
    all_goals first|rfl|(exfalso;simp_all;done)|(exfalso;simp_all;omega)
   ·refine yT hC J1 ?_
    refine .one (.c (ler_errE (c:=grsC m) (hR _ ms ?_ (by decide)) (by decide)))
    unfold grC
    repeat' split
    all_goals first|rfl|(exfalso;simp_all;done)|(exfalso;simp_all;omega)
   ·refine yT hC J1 ?_
    refine .one (.c (ler_errE (c:=grsC m) (hR _ ms ?_ (by decide)) (by decide)))
    unfold grC
    repeat' split
    all_goals first|rfl|(exfalso;simp_all;done)|(exfalso;simp_all;omega)
   ·refine yT hC J1 ?_
    refine .one (.c (ler_errE (c:=grsC m) (hR _ ms ?_ (by decide)) (by decide)))
    unfold grC
    repeat' split
    all_goals first|rfl|(exfalso;simp_all;done)|(exfalso;simp_all;omega)
   have hff:=hb
   generalize hF2:frsS (meC m) mb 0 ms=F2
   have hQ:grC m i ⟨nm,0,mb,fc⟩ ms=(if F2.1≠0 then F2 else if fc.all RD.prob=false then(3,ms) else(0,F2.2)):=by
    unfold grC
    dsimp only
    rw [hF2]
    rw [if_neg (by simpa using hn1),if_neg (by assumption),if_neg (by decide),if_neg (by simp;omega)]
   refine aw_lp (fun y:Nat×List BS×Option Nat=>[(1,.c (.optr g1 0)),(2,.c .nilI),(3,.c (gs y.2.2 1 y.2.1.length)),(5,.c (.optr g4 0)),(16,.c (grs true m.groups)),(17,.c (.int .i64 m.groups.length)),(18,.c (.int .i64 i)),(71,.c (strs true mb)),(72,.c (.int .i64 mb.length)),(73,.c (.int .i64 y.1))]) (fun y=>[(g4,.cells 95 4 (ofL (grc ⟨nm,0,mb,fc⟩))),(g1,.cells 29 8 (ofL (mdc true m)))]++gh y.2.2 9 y.2.1.length (strsF y.2.1)) (fun y=>y.1≤mb.length∧(y.2.2=none→y.2.1.length=0)∧y.2.1.length≤ms.length+y.1∧frsS (meC m) (mb.drop y.1) y.1 y.2.1=F2) (fun y=>mb.length-y.1) (0,ms,og) (zB J1) zZ ⟨Nat.zero_le _,hog,by dsimp only;omega,hF2⟩ ?_
   rintro ⟨j,sq,oq⟩ ⟨hj,hoq,hsq,hlq⟩
   dsimp only at hj hoq hsq hlq⊢
   simp only [List.cons_append,List.nil_append]
   all_goals repeat' first|refine zV J1 ?_|(refine yC2 J1 (f3) ?_)|(refine yD2 J1 (f3) ?_)|refine zH J1 (fun hb=>?_) fun hb=>?_|fail
   ·have hj':=hb
    have hq2:=fun r=>frsS_ret (d:=([]:BS)) (r:=r) hlq hj'
    have hqg:=fun r=>frsS_go (d:=([]:BS)) (r:=r) hlq hj'
    clear hlq J1
    generalize hy:mb.getD j []=y at*
    have hR2:∀c s,meC m j y sq=(c,s)→c≠0→grsC m=c:=fun c s h1 h2=>by
     have a1:=hq2 _ h1 h2
     refine hR c s ?_ h2
     rw [hQ,a1]
     exact if_pos h2
    have f5:=event_fa m y hm.ev
    have f4:=scontF_fa sq y om
    all_goals try(have Z:=(oj hn_g1 hn_g4);(repeat' first|refine zV Z ?_|(refine yC2 Z (f5) ?_)|(refine yD2 Z (f5) ?_)|refine zH Z (fun hb=>?_) fun hb=>?_|fail);all_goals clear Z)
    ·refine yT hC (oj hn_g1 hn_g4) ?_
     refine .one (.c (ler_errE (c:=grsC m) (hR2 _ sq ?_ (by decide)) (by decide)))
     unfold meC evI
     rw [if_pos hb]
    have h5:=hb
    refine aw_nd fun hnd=> ?_
    refine aw_callq f4 rfl rfl rfl (by refine yS (oj hn_g1 hn_g4) ?_;exact⟨.c (le_gst (pre:=[(g4,.cells 95 4 (ofL (grc ⟨nm,0,mb,fc⟩))),(g1,.cells 29 8 (ofL (mdc true m)))]) hoq hnd),.c (.refl _)⟩) ?_
    have J2:=oj hn_g1 hn_g4
    refine yS J2 ?_
    all_goals repeat' first|refine zV J2 ?_|refine zH J2 (fun hb=>?_) fun hb=>?_|fail
    ·refine yT hC J2 ?_
     refine .one (.c (ler_errE (c:=grsC m) (hR2 _ sq ?_ (by decide)) (by decide)))
     unfold meC evI
     rw [if_neg h5,if_pos hb]
    ·have hz:meC m j y sq=(0,sq++[y]):=by
      unfold meC evI
      rw [if_neg h5,if_neg (by simpa using hb)]
     have hq:=hqg _ hz rfl
     have hln:(sq++[y]).length=sq.length+1:=by rw [List.length_append];rfl
     refine aw_push (pre:=[(g4,.cells 95 4 (ofL (grc ⟨nm,0,mb,fc⟩))),(g1,.cells 29 8 (ofL (mdc true m)))]) rfl rfl rfl rfl rfl rfl rfl (zE J2) (zE J2) (by rfl) om om (zE J2) om (by exact hoq) (zE J2) (by rfl) (by rfl) qb qc om (by exact strs_push rfl y) fun gb hn_gb=> ?_
     replace hn_gb:=Heap.ne_of hn_gb
     first|dsimp only [Heap.ne,gh] at hn_gb|dsimp only [Heap.ne] at hn_gb|skip
     refine yS (oj hn_g1 (oj hn_g4 hn_gb)) ?_
     refine zA (oj hn_g1 (oj hn_g4 hn_gb)) ?_
     refine aw_stop ⟨(j+1,sq++[y],some gb),?_⟩
     dsimp only
     simp only [hln]
     and_intros
     all_goals first|rfl|exact List.Sublist.refl _|exact List.sublist_cons_self _ _|exact True.intro|exact some_ne|exact hq|omega
   ·rename_i hj0
    have hF0:=frsS_fin hlq hj0
    refine yT hC (oj hn_g1 hn_g4) ?_
    refine .one (.c (ler_errE (c:=grsC m) (hR _ ms ?_ (by decide)) (by decide)))
    rw [hQ,hF0,if_neg (by simp),if_pos (by simpa using hb)]
   ·rename_i hj0
    have hF0:=frsS_fin hlq hj0
    have hz:grC m i ⟨nm,0,mb,fc⟩ ms=(0,sq):=by
     rw [hQ,hF0,if_neg (by simp),if_neg (by simpa using hb)]
    have hq:=hgo _ hz rfl
    refine aw_stop ⟨(i+1,sq,oq),?_⟩
    and_intros
    all_goals first|rfl|exact List.Sublist.refl _|exact List.sublist_cons_self _ _|exact True.intro|exact hoq|exact hq|(dsimp only;omega)
  by_cases k1:kd=1
  ·subst k1
   all_goals try(have Z:=(oj hn_g1 hn_g4);(repeat' first|refine zV Z ?_|(refine zg Z (f2) ?_)|refine zH Z (fun hb=>?_) fun hb=>?_|fail);all_goals clear Z)
   ·refine yT hC (oj hn_g1 hn_g4) ?_
    refine .one (.c (ler_errE (c:=grsC m) (hR _ ms ?_ (by decide)) (by decide)))
    unfold grC
    repeat' split
    all_goals first|rfl|(exfalso;simp_all;done)|(exfalso;simp_all;omega)
   refine aw_dr 6 ty_mixed (by kernel_rfl) ?_
   all_goals try(have Z:=(oj hn_g1 hn_g4);(repeat' first|refine zV Z ?_|refine zH Z (fun hb=>?_) fun hb=>?_|fail);all_goals clear Z)
   all_goals clear f1 f2
   ·refine yT hC (oj hn_g1 hn_g4) ?_
    refine .one (.c (ler_errE (c:=grsC m) (hR _ ms ?_ (by decide)) (by decide)))
    unfold grC
    repeat' split
    all_goals first|rfl|(exfalso;simp_all;done)|(exfalso;simp_all;omega)
   ·refine yT hC (oj hn_g1 hn_g4) ?_
    refine .one (.c (ler_errE (c:=grsC m) (hR _ ms ?_ (by decide)) (by decide)))
    unfold grC
    repeat' split
    all_goals first|rfl|(exfalso;simp_all;done)|(exfalso;simp_all;omega)
   ·refine yT hC (oj hn_g1 hn_g4) ?_
    refine .one (.c (ler_errE (c:=grsC m) (hR _ ms ?_ (by decide)) (by decide)))
    unfold grC
    repeat' split
    all_goals first|rfl|(exfalso;simp_all;done)|(exfalso;simp_all;omega)
   have hff:=hb
   generalize hF2:frsS (meC m) mb 0 ms=F2
   have hQ:grC m i ⟨nm,1,mb,fc⟩ ms=(if F2.1≠0 then F2 else if fc.all RD.prob=false then(3,ms) else(0,F2.2)):=by
    unfold grC
    dsimp only
    rw [hF2]
    rw [if_neg (by simpa using hn1),if_neg (by assumption),if_neg (by decide),if_neg (by simp;omega)]
   refine aw_lp (fun y:Nat×List BS×Option Nat=>[(1,.c (.optr g1 0)),(2,.c .nilI),(3,.c (gs y.2.2 1 y.2.1.length)),(5,.c (.optr g4 0)),(16,.c (grs true m.groups)),(17,.c (.int .i64 m.groups.length)),(18,.c (.int .i64 i)),(71,.c (strs true mb)),(72,.c (.int .i64 mb.length)),(73,.c (.int .i64 y.1))]) (fun y=>[(g4,.cells 95 4 (ofL (grc ⟨nm,1,mb,fc⟩))),(g1,.cells 29 8 (ofL (mdc true m)))]++gh y.2.2 9 y.2.1.length (strsF y.2.1)) (fun y=>y.1≤mb.length∧(y.2.2=none→y.2.1.length=0)∧y.2.1.length≤ms.length+y.1∧frsS (meC m) (mb.drop y.1) y.1 y.2.1=F2) (fun y=>mb.length-y.1) (0,ms,og) (zB (oj hn_g1 hn_g4)) zZ ⟨Nat.zero_le _,hog,by dsimp only;omega,hF2⟩ ?_
   rintro ⟨j,sq,oq⟩ ⟨hj,hoq,hsq,hlq⟩
   dsimp only at hj hoq hsq hlq⊢
   simp only [List.cons_append,List.nil_append]
   all_goals try(have Z:=(oj hn_g1 hn_g4);(repeat' first|refine zV Z ?_|(refine yC2 Z (f3) ?_)|(refine yD2 Z (f3) ?_)|refine zH Z (fun hb=>?_) fun hb=>?_|fail);all_goals clear Z)
   ·have hj':=hb
    have hq2:=fun r=>frsS_ret (d:=([]:BS)) (r:=r) hlq hj'
    have hqg:=fun r=>frsS_go (d:=([]:BS)) (r:=r) hlq hj'
    clear hlq
    generalize hy:mb.getD j []=y at*
    have hR2:∀c s,meC m j y sq=(c,s)→c≠0→grsC m=c:=fun c s h1 h2=>by
     have a1:=hq2 _ h1 h2
     refine hR c s ?_ h2
     rw [hQ,a1]
     exact if_pos h2
    have f5:=event_fa m y hm.ev
    have f4:=scontF_fa sq y om
    all_goals try(have Z:=(oj hn_g1 hn_g4);(repeat' first|refine zV Z ?_|(refine yC2 Z (f5) ?_)|(refine yD2 Z (f5) ?_)|refine zH Z (fun hb=>?_) fun hb=>?_|fail);all_goals clear Z)
    ·refine yT hC (oj hn_g1 hn_g4) ?_
     refine .one (.c (ler_errE (c:=grsC m) (hR2 _ sq ?_ (by decide)) (by decide)))
     unfold meC evI
     rw [if_pos hb]
    have h5:=hb
    refine aw_nd fun hnd=> ?_
    refine aw_callq f4 rfl rfl rfl (by refine yS (oj hn_g1 hn_g4) ?_;exact⟨.c (le_gst (pre:=[(g4,.cells 95 4 (ofL (grc ⟨nm,1,mb,fc⟩))),(g1,.cells 29 8 (ofL (mdc true m)))]) hoq hnd),.c (.refl _)⟩) ?_
    have J3:=oj hn_g1 hn_g4
    refine yS J3 ?_
    all_goals repeat' first|refine zV J3 ?_|refine zH J3 (fun hb=>?_) fun hb=>?_|fail
    ·refine yT hC J3 ?_
     refine .one (.c (ler_errE (c:=grsC m) (hR2 _ sq ?_ (by decide)) (by decide)))
     unfold meC evI
     rw [if_neg h5,if_pos hb]
    ·have hz:meC m j y sq=(0,sq++[y]):=by
      unfold meC evI
      rw [if_neg h5,if_neg (by simpa using hb)]
     have hq:=hqg _ hz rfl
     have hln:(sq++[y]).length=sq.length+1:=by rw [List.length_append];rfl
     refine aw_push (pre:=[(g4,.cells 95 4 (ofL (grc ⟨nm,1,mb,fc⟩))),(g1,.cells 29 8 (ofL (mdc true m)))]) rfl rfl rfl rfl rfl rfl rfl (zE J3) (zE J3) (by rfl) om om (zE J3) om (by exact hoq) (zE J3) (by rfl) (by rfl) qb qc om (by exact strs_push rfl y) fun gb hn_gb=> ?_
     replace hn_gb:=Heap.ne_of hn_gb
     first|dsimp only [Heap.ne,gh] at hn_gb|dsimp only [Heap.ne] at hn_gb|skip
     refine yS (oj hn_g1 (oj hn_g4 hn_gb)) ?_
     refine zA (oj hn_g1 (oj hn_g4 hn_gb)) ?_
     refine aw_stop ⟨(j+1,sq++[y],some gb),?_⟩
     dsimp only
     simp only [hln]
     and_intros
     all_goals first|rfl|exact List.Sublist.refl _|exact List.sublist_cons_self _ _|exact True.intro|exact some_ne|exact hq|omega
   ·rename_i hj0
    have hF0:=frsS_fin hlq hj0
    refine yT hC (oj hn_g1 hn_g4) ?_
    refine .one (.c (ler_errE (c:=grsC m) (hR _ ms ?_ (by decide)) (by decide)))
    rw [hQ,hF0,if_neg (by simp),if_pos (by simpa using hb)]
   ·rename_i hj0
    have hF0:=frsS_fin hlq hj0
    have hz:grC m i ⟨nm,1,mb,fc⟩ ms=(0,sq):=by
     rw [hQ,hF0,if_neg (by simp),if_neg (by simpa using hb)]
    have hq:=hgo _ hz rfl
    refine aw_stop ⟨(i+1,sq,oq),?_⟩
    and_intros
    all_goals first|rfl|exact List.Sublist.refl _|exact List.sublist_cons_self _ _|exact True.intro|exact hoq|exact hq|(dsimp only;omega)
  ·all_goals try(have Z:=(oj hn_g1 hn_g4);(repeat' first|refine zV Z ?_|(refine zg Z (f2) ?_)|refine zH Z (fun hb=>?_) fun hb=>?_|fail);all_goals clear Z)
   all_goals clear f1 f2
   all_goals first
    |(exfalso;omega)
    |(refine yT hC (oj hn_g1 hn_g4) ?_
      refine .one (.c (ler_errE (c:=grsC m) (hR _ ms ?_ (by decide)) (by decide)))
      unfold grC
      repeat' split
      all_goals first|rfl|(exfalso;simp_all;done)|(exfalso;simp_all;omega))
 ·have hF0:=frsS_fin hlp hb
  subst hF0
  refine yT hC hn_g1 ?_
  exact .one (.c (ler_err0 he2))
end Go.Proofs.YtpcpaekpnfkhhaaGreatDoor
namespace Go.PN
open Go.AI
variable {α β γ : Type}
abbrev BG:Nat:=1048576
def TB (s:PS):Prop:=∀t∈s.l,t.text.length≤BG
theorem TB.suf {s r:PS} (h:TB s) (hs:r.l<:+s.l):TB r:=fun t ht=>h t (hs.subset ht)
def SzO (P:α→Prop) (f:PS→α×PS):Prop:=∀s,TB s→P (f s).1
theorem SzO.bnd {P:α→Prop} {Q:β→Prop} {f:PS→α×PS} {k:α→PS→β×PS} (h:SzO P f) (hf:Rdr f) (hk:∀a,P a→SzO Q (k a)):SzO Q (bnd f k):=fun s hs=>hk _ (h s hs) _ (hs.suf (hf.suf s))
theorem SzO.pure {P:α→Prop} {a:α} (h:P a):SzO P fun s=>(a,s):=fun _ _=>h
theorem SzO.ite {P:α→Prop} {c:PS→Prop} [DecidablePred c] {f g:PS→α×PS} (hf:SzO P f) (hg:SzO P g):SzO P fun s=>if c s then f s else g s:=fun s hs=>by
 dsimp only
 split
 ·exact hf s hs
 ·exact hg s hs
theorem SzO.unit {f:PS→Unit×PS}:SzO (fun _=>True) f:=fun _ _=>trivial
abbrev RdOk (r:RD):Prop:=r.wf 1000
theorem rd0_ok:RdOk rd0:=⟨fun x hx=>(by cases hx),fun x hx=>(by cases hx),Nat.zero_le _,Nat.zero_le _⟩
def GrO (P:α→Prop) (N:Nat) (a:List α) (s:PS):Prop:=TB s∧a.length+mS s≤N∧∀x∈a,P x
abbrev NG:Nat:=1048576
def EvO (x:EvD):Prop:=x.name.length≤BG∧RdOk x.p∧RdOk x.fail∧RdOk x.rep
def HsO (x:HsD):Prop:=x.name.length≤BG
def GtO (x:GtD):Prop:=x.name.length≤BG∧RdOk x.dorm∧x.inputs.length≤NG∧∀i∈x.inputs,i.length≤BG+1
def PgO (x:PgD):Prop:=x.name.length≤BG∧x.top.length≤BG+1∧x.gates.length≤NG∧∀g∈x.gates,GtO g
def GrpO (x:GrD):Prop:=x.name.length≤BG∧x.members.length≤NG∧(∀n∈x.members,n.length≤BG)∧x.factors.length≤NG∧∀r∈x.factors,RdOk r
def VlO (x:VlD):Prop:=x.event.length≤BG∧RdOk x.p
def PhO (x:PhD):Prop:=x.name.length≤BG∧x.top.length≤BG+1∧x.values.length≤NG∧∀v∈x.values,VlO v
def SzN (P:α→Prop) (f:PS→α×PS):Prop:=∀s,TB s→mS s≤NG→P (f s).1
theorem SzO.n {P:α→Prop} {f:PS→α×PS} (h:SzO P f):SzN P f:=fun s hs _=>h s hs
theorem SzN.bnd {P:α→Prop} {Q:β→Prop} {f:PS→α×PS} {k:α→PS→β×PS} (h:SzN P f) (hf:Rdr f) (hk:∀a,P a→SzN Q (k a)):SzN Q (bnd f k):=fun s hs hm=>hk _ (h s hs hm) _ (hs.suf (hf.suf s)) (Nat.le_trans (rdr_mS hf s) hm)
theorem SzN.pure {P:α→Prop} {a:α} (h:P a):SzN P fun s=>(a,s):=fun _ _ _=>h
theorem SzN.unit {f:PS→Unit×PS}:SzN (fun _=>True) f:=fun _ _ _=>trivial
structure MdO (m:MdD):Prop where
 nm:m.name.length≤BG
 tp:m.top.length≤BG+1
 ev:m.events.length≤NG∧∀x∈m.events,EvO x
 hs:m.houses.length≤NG∧∀x∈m.houses,HsO x
 gt:m.gates.length≤NG∧∀x∈m.gates,GtO x
 pg:m.pages.length≤NG∧∀x∈m.pages,PgO x
 gr:m.groups.length≤NG∧∀x∈m.groups,GrpO x
 ph:m.phases.length≤NG∧∀x∈m.phases,PhO x
structure MdR (m:MdD) (s:PS):Prop where
 nm:m.name.length≤BG
 tp:m.top.length≤BG+1
 ev:GrO EvO NG m.events s
 hs:GrO HsO NG m.houses s
 gt:GrO GtO NG m.gates s
 pg:GrO PgO NG m.pages s
 gr:GrO GrpO NG m.groups s
 ph:GrO PhO NG m.phases s
theorem gr_keep {P:α→Prop} {N:Nat} {a:List α} {s s':PS} (h:GrO P N a s) (hs:s'.l<:+s.l) (hm:mS s'≤mS s):GrO P N a s':=⟨h.1.suf hs,by have:=h.2.1;omega,h.2.2⟩
theorem MdR.keep {m:MdD} {s s':PS} (h:MdR m s) (hs:s'.l<:+s.l) (hm:mS s'≤mS s):MdR m s':=
 ⟨h.nm,h.tp,gr_keep h.ev hs hm,gr_keep h.hs hs hm,gr_keep h.gt hs hm,gr_keep h.pg hs hm,gr_keep h.gr hs hm,gr_keep h.ph hs hm⟩
theorem getD_all {P:α→Prop} {l:List α} {d:α} (h:∀x∈l,P x) (hd:P d) (i:Nat):P (l.getD i d):=by
 rw [List.getD_eq_getElem?_getD]
 by_cases hi:i<l.length
 ·rw [List.getElem?_eq_getElem hi];exact h _ (List.getElem_mem hi)
 ·rw [List.getElem?_eq_none om];exact hd
theorem gt0_o:GtO gt0:=⟨Nat.zero_le _,rd0_ok,Nat.zero_le _,fun _ h=>by cases h⟩
theorem pg0_o:PgO pg0:=⟨Nat.zero_le _,Nat.zero_le _,Nat.zero_le _,fun _ h=>by cases h⟩
theorem MdO.pgi {m:MdD} (h:MdO m) (i:Nat):PgO (m.pages.getD i pg0):=getD_all h.pg.2 pg0_o i
theorem MdO.gts {m:MdD} (h:MdO m):∀k,(gtsK m k).length≤NG∧∀g∈gtsK m k,GtO g
 |0=>h.gt
 |k+1=>(h.pgi k).2.2
theorem MdO.gti {m:MdD} (h:MdO m) (k i:Nat):GtO ((gtsK m k).getD i gt0):=getD_all (h.gts k).2 gt0_o i
theorem RdOk.w {r:RD} (h:RdOk r):r.wf 1073741824:=h.mono (by decide)
theorem RdOk.m {r:RD} (h:RdOk r):r.wf 500000000:=h.mono (by decide)
theorem MdO.ok {m:MdD} (h:MdO m):Go.Proofs.YtpcpaekpnfkhhaaGreatDoor.MdOk m:=⟨Nat.le_trans h.ev.1 (by decide),Nat.le_trans h.hs.1 (by decide),Nat.le_trans h.gt.1 (by decide),Nat.le_trans h.pg.1 (by decide),fun p hp=>Nat.le_trans (h.pg.2 p hp).2.2.1 (by decide)⟩
theorem ev0_o:EvO ev0:=⟨Nat.zero_le _,rd0_ok,rd0_ok,rd0_ok⟩
theorem hs0_o:HsO hs0:=Nat.zero_le _
theorem gr0_o:GrpO gr0:=⟨Nat.zero_le _,Nat.zero_le _,fun _ h=>(by cases h),Nat.zero_le _,fun _ h=>(by cases h)⟩
theorem ph0_o:PhO ph0:=⟨Nat.zero_le _,Nat.zero_le _,Nat.zero_le _,fun _ h=>by cases h⟩
theorem vl0_o:VlO vl0:=⟨Nat.zero_le _,rd0_ok⟩
theorem MdO.wf {m:MdD} (h:MdO m):MdWf m:=⟨Nat.le_trans h.nm (by decide),fun i=>by
 obtain⟨a,b⟩:=getD_all h.ev.2 ev0_o i
 exact⟨Nat.le_trans a (by decide),RdOk.w b.1,RdOk.w b.2.1,RdOk.w b.2.2⟩,fun i=>Nat.le_trans (getD_all h.hs.2 hs0_o i) (by decide)⟩
theorem MdO.wf2 {m:MdD} (h:MdO m):MdWf2 m:=⟨fun i=>⟨Nat.le_trans (h.pgi i).1 (by decide),(h.pgi i).2.2.1⟩,h.gt.1,h.pg.1,fun k i=>by
 obtain⟨a,b,c,_⟩:=h.gti k i
 exact⟨Nat.le_trans a (by decide),RdOk.w b,Nat.le_trans c (by decide)⟩⟩
theorem MdO.wf3 {m:MdD} (h:MdO m):MdWf3 m:=⟨Nat.le_trans h.ph.1 (by decide),fun i=>by
 obtain⟨a,b,c,_⟩:=getD_all h.ph.2 ph0_o i
 exact⟨Nat.le_trans a (by decide),Nat.le_trans b (by decide),Nat.le_trans c (by decide)⟩,fun i k=>RdOk.w (getD_all (getD_all h.ph.2 ph0_o i).2.2.2 vl0_o k).2⟩
theorem MdO.wf4 {m:MdD} (h:MdO m):MdWf4 m:=⟨Nat.le_trans h.gr.1 (by decide),fun i=>by
 obtain⟨a,b,_,d,_⟩:=getD_all h.gr.2 gr0_o i
 exact⟨Nat.le_trans a (by decide),b,Nat.le_trans d (by decide)⟩,fun i k=>RdOk.w (getD_all (getD_all h.gr.2 gr0_o i).2.2.2.2 rd0_ok k)⟩
theorem MdO.inl {m:MdD} (h:MdO m) (k i j:Nat):(((gtsK m k).getD i gt0).inputs.getD j []).length≤1099511627776:=
 Nat.le_trans (getD_all (P:=fun x:BS=>x.length≤BG+1) (h.gti k i).2.2.2 (Nat.zero_le _) j) (by decide)
end Go.PN
namespace Go.PN
open Go.AI
def RdU (n:Nat) (r:RD):Prop:=r.wf n
def EvU (n:Nat) (x:EvD):Prop:=x.name.length≤n∧RdU n x.p∧RdU n x.fail∧RdU n x.rep∧ -9223372036854775808≤x.cost∧x.cost<9223372036854775808
def HsU (n:Nat) (x:HsD):Prop:=x.name.length≤n
def InU (n:Nat) (l:List BS):Prop:=l.length≤n∧∀i∈l,i.length≤n
def GtU (n:Nat) (x:GtD):Prop:=x.name.length≤n∧(-9223372036854775808≤x.kind∧x.kind<9223372036854775808)∧(-9223372036854775808≤x.k∧x.k<9223372036854775808)∧InU n x.inputs∧RdU n x.dorm
def GsU (n:Nat) (l:List GtD):Prop:=l.length≤n∧∀g∈l,GtU n g
def PgU (n:Nat) (x:PgD):Prop:=x.name.length≤n∧x.top.length≤n∧GsU n x.gates
def RsU (n:Nat) (l:List RD):Prop:=l.length≤n∧∀r∈l,RdU n r
def GrU (n:Nat) (x:GrD):Prop:=x.name.length≤n∧(-9223372036854775808≤x.kind∧x.kind<9223372036854775808)∧InU n x.members∧RsU n x.factors
def VlU (n:Nat) (x:VlD):Prop:=x.event.length≤n∧RdU n x.p
def PhU (n:Nat) (x:PhD):Prop:=x.name.length≤n∧x.top.length≤n∧x.values.length≤n∧∀v∈x.values,VlU n v
structure MdU (n:Nat) (m:MdD):Prop where
 nm:m.name.length≤n
 tp:m.top.length≤n
 ev:m.events.length≤n∧∀x∈m.events,EvU n x
 hs:m.houses.length≤n∧∀x∈m.houses,HsU n x
 gt:GsU n m.gates
 pg:m.pages.length≤n∧∀x∈m.pages,PgU n x
 gr:m.groups.length≤n∧∀x∈m.groups,GrU n x
 ph:m.phases.length≤n∧∀x∈m.phases,PhU n x
section
variable {m n : Nat}
theorem RdU.mono {r:RD} (h:RdU m r) (hm:m≤n):RdU n r:=RD.wf.mono h hm
theorem EvU.mono {x:EvD} (h:EvU m x) (hm:m≤n):EvU n x:=⟨Nat.le_trans h.1 hm,h.2.1.mono hm,h.2.2.1.mono hm,h.2.2.2.1.mono hm,h.2.2.2.2⟩
theorem HsU.mono {x:HsD} (h:HsU m x) (hm:m≤n):HsU n x:=Nat.le_trans h hm
theorem InU.mono {l:List BS} (h:InU m l) (hm:m≤n):InU n l:=⟨Nat.le_trans h.1 hm,fun i hi=>Nat.le_trans (h.2 i hi) hm⟩
theorem GtU.mono {x:GtD} (h:GtU m x) (hm:m≤n):GtU n x:=⟨Nat.le_trans h.1 hm,h.2.1,h.2.2.1,h.2.2.2.1.mono hm,h.2.2.2.2.mono hm⟩
theorem GsU.mono {l:List GtD} (h:GsU m l) (hm:m≤n):GsU n l:=⟨Nat.le_trans h.1 hm,fun i hi=>(h.2 i hi).mono hm⟩
theorem PgU.mono {x:PgD} (h:PgU m x) (hm:m≤n):PgU n x:=⟨Nat.le_trans h.1 hm,Nat.le_trans h.2.1 hm,h.2.2.mono hm⟩
theorem RsU.mono {l:List RD} (h:RsU m l) (hm:m≤n):RsU n l:=⟨Nat.le_trans h.1 hm,fun i hi=>(h.2 i hi).mono hm⟩
theorem GrU.mono {x:GrD} (h:GrU m x) (hm:m≤n):GrU n x:=⟨Nat.le_trans h.1 hm,h.2.1,h.2.2.1.mono hm,h.2.2.2.mono hm⟩
theorem VlU.mono {x:VlD} (h:VlU m x) (hm:m≤n):VlU n x:=⟨Nat.le_trans h.1 hm,h.2.mono hm⟩
theorem PhU.mono {x:PhD} (h:PhU m x) (hm:m≤n):PhU n x:=⟨Nat.le_trans h.1 hm,Nat.le_trans h.2.1 hm,Nat.le_trans h.2.2.1 hm,fun i hi=>(h.2.2.2 i hi).mono hm⟩
theorem MdU.mono {x:MdD} (h:MdU m x) (hm:m≤n):MdU n x:=⟨Nat.le_trans h.nm hm,Nat.le_trans h.tp hm,⟨Nat.le_trans h.ev.1 hm,fun i hi=>(h.ev.2 i hi).mono hm⟩,⟨Nat.le_trans h.hs.1 hm,fun i hi=>(h.hs.2 i hi).mono hm⟩,h.gt.mono hm,⟨Nat.le_trans h.pg.1 hm,fun i hi=>(h.pg.2 i hi).mono hm⟩,⟨Nat.le_trans h.gr.1 hm,fun i hi=>(h.gr.2 i hi).mono hm⟩,⟨Nat.le_trans h.ph.1 hm,fun i hi=>(h.ph.2 i hi).mono hm⟩⟩
end
def shortB (r:RD):Bool:=decide (r.num.length≤40)&&decide (r.den.length≤40)
def fewG (x:GtD):Bool:=decide (x.inputs.length≤40)&&shortB x.dorm
def fewB (l:List GtD):Bool:=l.all fewG&&decide (l.length≤100)
def lightE (x:EvD):Bool:=shortB x.p&&shortB x.fail&&shortB x.rep
def lightP (x:PgD):Bool:=fewB x.gates
def lightR (x:GrD):Bool:=decide (x.members.length≤60)&&decide (x.factors.length≤60)&&x.factors.all shortB
def lightH (x:PhD):Bool:=decide (x.values.length≤60)&&x.values.all fun v=>shortB v.p
def lightB (m:MdD):Bool:=(decide (m.events.length≤60)&&decide (m.houses.length≤60)&&decide (m.pages.length≤30)&&decide (m.groups.length≤30)&&decide (m.phases.length≤30)&&fewB m.gates)&&(m.events.all lightE&&(m.pages.all lightP&&(m.groups.all lightR&&m.phases.all lightH)))
theorem short_o {n:Nat} {r:RD} (h:shortB r=true) (hu:RdU n r):RdOk r:=by
 unfold shortB at h
 simp only [Bool.and_eq_true,decide_eq_true_eq] at h
 exact⟨hu.1,hu.2.1,by omega,by omega⟩
theorem few_o {n:Nat} {l:List GtD} (h:fewB l=true) (hu:GsU n l) (hn:n≤1048576):l.length≤NG∧∀g∈l,GtO g:=by
 refine⟨Nat.le_trans hu.1 hn,fun g hg=> ?_⟩
 unfold fewB at h
 rw [Bool.and_eq_true,List.all_eq_true] at h
 have h1:=h.1 g hg
 unfold fewG at h1
 rw [Bool.and_eq_true] at h1
 have u:=hu.2 g hg
 exact⟨Nat.le_trans u.1 hn,short_o h1.2 u.2.2.2.2,Nat.le_trans u.2.2.2.1.1 hn,fun i hi=>Nat.le_succ_of_le (Nat.le_trans (u.2.2.2.1.2 i hi) hn)⟩
theorem light_o {n:Nat} {m:MdD} (h:lightB m=true) (hu:MdU n m) (hn:n≤1048576):MdO m:=by
 unfold lightB at h
 simp only [Bool.and_eq_true] at h
 obtain⟨⟨_,h1⟩,h2,h3,h4,h5⟩:=h
 refine⟨Nat.le_trans hu.nm hn,Nat.le_succ_of_le (Nat.le_trans hu.tp hn),⟨Nat.le_trans hu.ev.1 hn,fun x hx=> ?_⟩,⟨Nat.le_trans hu.hs.1 hn,fun x hx=>Nat.le_trans (hu.hs.2 x hx) hn⟩,few_o h1 hu.gt hn,⟨Nat.le_trans hu.pg.1 hn,fun x hx=> ?_⟩,⟨Nat.le_trans hu.gr.1 hn,fun x hx=> ?_⟩,⟨Nat.le_trans hu.ph.1 hn,fun x hx=> ?_⟩⟩
 ·have a:=List.all_eq_true.1 h2 x hx
  unfold lightE at a
  simp only [Bool.and_eq_true] at a
  obtain⟨u1,u2,u3,u4,_⟩:=hu.ev.2 x hx
  exact⟨Nat.le_trans u1 hn,short_o a.1.1 u2,short_o a.1.2 u3,short_o a.2 u4⟩
 ·have a:=List.all_eq_true.1 h3 x hx
  obtain⟨u1,u2,u3⟩:=hu.pg.2 x hx
  exact⟨Nat.le_trans u1 hn,Nat.le_succ_of_le (Nat.le_trans u2 hn),few_o a u3 hn⟩
 ·have a:=List.all_eq_true.1 h4 x hx
  unfold lightR at a
  rw [Bool.and_eq_true,List.all_eq_true] at a
  obtain⟨u1,_,u2,u3⟩:=hu.gr.2 x hx
  exact⟨Nat.le_trans u1 hn,Nat.le_trans u2.1 hn,fun i hi=>Nat.le_trans (u2.2 i hi) hn,Nat.le_trans u3.1 hn,fun r hr=>short_o (a.2 r hr) (u3.2 r hr)⟩
 ·have a:=List.all_eq_true.1 h5 x hx
  unfold lightH at a
  rw [Bool.and_eq_true,List.all_eq_true] at a
  obtain⟨u1,u2,u3,u4⟩:=hu.ph.2 x hx
  exact⟨Nat.le_trans u1 hn,Nat.le_succ_of_le (Nat.le_trans u2 hn),Nat.le_trans u3 hn,fun v hv=>⟨Nat.le_trans (u4 v hv).1 hn,short_o (a.2 v hv) (u4 v hv).2⟩⟩
end Go.PN
namespace Go.Proofs.YtpcpaekpnfkhhaaGreatDoor
open Go.AI Go.PN Go.ChangeShapes Go.WideShapes Go.RowKit
def RdrS (P:Program) (fs:List Field) (off T:Nat) {α:Type} (c:α→List CV) (B:α→Nat→Prop):Prop:=
 ∀(H:Type) (enc:TypeId×Value→H) (w:World) (n:Nat) (cs:List Value) (xs:List (DataW H×List MemPlace)),cs.length=T→xs.length=fs.length→(∀(i:Nat) (f:Field),fs[i]?=some f→DataW.trod enc P w 0 (fun _=>true) true n f.type ((cs.drop f.offset).take (P.cellsOf f.type))=xs[i]?)→∃y,RepL (AllB w) w (c y) (cs.drop off)∧∀m,Rows.uptoBulkAll (xs.map (·.1))≤m→B y m
theorem rdrS_nil {P:Program} {T:Nat}:RdrS P [] T T (fun _:Unit=>[]) (fun _ _=>True):=fun H enc w n cs xs hl _ _=>⟨(),by rw [List.drop_of_length_le om];trivial,fun _ _=>trivial⟩
theorem rdrS_cons {P:Program} {f:Field} {fs:List Field} {off T:Nat} {α β:Type} {c0:α→List CV} {c1:β→List CV} {B0:α→Nat→Prop} {B1:β→Nat→Prop} (s:Nat) (hz:P.cellsOf f.type=s) (ho:f.offset=off) (h0:Rdr P f.type c0 B0) (hB0:∀y m n,B0 y m→m≤n→B0 y n) (hr:RdrS P fs (off+s) T c1 B1):
  RdrS P (f::fs) off T (fun y:α×β=>c0 y.1++c1 y.2) (fun y n=>B0 y.1 n∧B1 y.2 n):=fun H enc w n cs xs hl hx hf=>by
 match xs,hx with
 |x0::xs,hx=>
  have g0:=hf 0 f rfl
  rw [ho,hz] at g0
  obtain⟨y0,r0,b0⟩:=h0 H enc w n _ x0 g0
  obtain⟨y1,r1,b1⟩:=hr H enc w n cs xs hl (by simpa using hx) fun i f' hi=>by have:=hf (i+1) f' (by simpa using hi);simpa using this
  refine⟨(y0,y1),?_,fun m hm=> ?_⟩
  ·have e:cs.drop off=(cs.drop off).take s++cs.drop (off+s):=by
    conv=>lhs;rw [←List.take_append_drop s (cs.drop off)]
    rw [List.drop_drop]
   rw [e]
   exact r0.append r1
  ·simp only [List.map_cons,Rows.uptoBulkAll] at hm
   exact⟨hB0 _ _ _ b0 om,b1 m om⟩
theorem rdr_structN {P:Program} {t:TypeId} {fs:List Field} {T:Nat} {α:Type} {c:α→List CV} {B:α→Nat→Prop} (ht:P.underlying t=some (.struct fs.toArray)) (hz:P.cellsOf t=T) (h:RdrS P fs 0 T c B):Rdr P t c B:=fun H enc w fuel cs x hx=>by
 obtain⟨xs,n,_,rfl,hl,hlen,hf⟩:=DataW.trod_struct ht hx
 obtain⟨y,r,b⟩:=h H enc w n cs xs (hl.trans hz) (by simpa using hlen) (fun i f hi=>hf i f (by simpa using hi))
 exact⟨y,by simpa using r,b _ (by simp only [Rows.uptoBulk];omega)⟩
theorem i64_r {x:Int} (h:(Lit.int .i64 x).wf=true): -9223372036854775808≤x∧x<9223372036854775808:=by
 have hb: -9223372036854775808≤x∧x≤9223372036854775807:=by simpa [Lit.wf,IntKind.min,IntKind.max,IntKind.signed,IntKind.bits] using h
 omega
theorem rdrM_int:Rdr Tryz.prog 3 (fun n:Int=>[.int .i64 n]) (fun x _=> -9223372036854775808≤x∧x<9223372036854775808):=(rdr_int Tryz.underlying3).to id (fun _=>rfl) fun _ _ h=>i64_r h
theorem rdrM_str:Rdr Tryz.prog 9 (fun l:BS=>[.str (sB l)]) (fun l n=>l.length≤n):=(rdr_str Tryz.underlying9).to id (fun _=>rfl) fun _ _ h=>Nat.le_of_succ_le h
theorem rdrM_bool:Rdr Tryz.prog 4 (fun b:Bool=>[.bool b]) (fun _ _=>True):=rdr_bool Tryz.underlying4
theorem wordsM_mono {xs:List Nat}:∀(m n:Nat),xs.length≤m∧(∀x∈xs,x<4294967296)→m≤n→xs.length≤n∧∀x∈xs,x<4294967296:=fun _ _ h hm=>⟨Nat.le_trans h.1 hm,h.2⟩
theorem rdrM_words:Rdr Tryz.prog 50 (fun xs:List Nat=>[ws true xs]) (fun xs n=>xs.length≤n∧∀x∈xs,x<4294967296):=
 (rdr_slice (0:Nat) true Tryz.underlying50 (s:=1) (by kernel_rfl) om (fun _ _ _ h _=>h) (rdr_u32w Tryz.underlying168)).to id (fun ys=>by
  show [CV.row true 1 ys.length _]=[CV.row true 1 ys.length _]
  congr 2
  funext j
  show _=ofL [CV.int .u32 ((ys.getD (j/1) 0:Nat):Int)] (j%1)
  rw [Nat.div_one,Nat.mod_one]
  rfl) (fun _ _ h=>h)
theorem tt_mono {α:Type}:∀(y:α) (m n:Nat),True→m≤n→True:=fun _ _ _ h _=>h
theorem i64_mono:∀(y:Int) (m n:Nat),(-9223372036854775808≤y∧y<9223372036854775808)→m≤n→(-9223372036854775808≤y∧y<9223372036854775808):=fun _ _ _ h _=>h
theorem len_mono {α:Type}:∀(y:List α) (m n:Nat),y.length≤m→m≤n→y.length≤n:=fun _ _ _ h hm=>Nat.le_trans h hm
theorem rdrM_rat:Rdr Tryz.prog 52 (fun r:RD=>rdc r) (fun r n=>RdU n r):=
 (rdr_structN Tryz.underlying52 (T:=3) (by kernel_rfl) (rdrS_cons 1 (by kernel_rfl) rfl rdrM_bool tt_mono (rdrS_cons 1 (by kernel_rfl) rfl rdrM_words (fun _=>wordsM_mono) (rdrS_cons 1 (by kernel_rfl) rfl rdrM_words (fun _=>wordsM_mono) rdrS_nil)))).to (fun y=>⟨y.1,y.2.1,y.2.2.1⟩) (fun _=>rfl) (fun _ _ h=>⟨h.2.1.2,h.2.2.1.2,h.2.1.1,h.2.2.1.1⟩)
theorem rdrM_strs:Rdr Tryz.prog 92 (fun xs:List BS=>[strs true xs]) (fun xs n=>InU n xs):=
 (rdr_slice (B:=fun(y:BS) n=>y.length≤n) ([]:BS) true Tryz.underlying92 (s:=1) (by kernel_rfl) om len_mono rdrM_str).to id (fun _=>rfl) (fun _ _ h=>h)
theorem rdrM_rats:Rdr Tryz.prog 93 (fun xs:List RD=>[rats true xs]) (fun xs n=>RsU n xs):=
 (rdr_slice (B:=fun(y:RD) n=>RdU n y) rd0 true Tryz.underlying93 (s:=3) (by kernel_rfl) om (fun _ _ _ h hm=>RdU.mono h hm) rdrM_rat).to id (fun _=>rfl) (fun _ _ h=>h)
theorem rdrM_event:Rdr Tryz.prog 54 (fun x:EvD=>evc x) (fun x n=>EvU n x):=
 (rdr_structN Tryz.underlying54 (T:=11) (by kernel_rfl) (rdrS_cons 1 (by kernel_rfl) rfl rdrM_str len_mono (rdrS_cons 3 (by kernel_rfl) rfl rdrM_rat (fun _ _ _ h hm=>RdU.mono h hm) (rdrS_cons 3 (by kernel_rfl) rfl rdrM_rat (fun _ _ _ h hm=>RdU.mono h hm) (rdrS_cons 3 (by kernel_rfl) rfl rdrM_rat (fun _ _ _ h hm=>RdU.mono h hm) (rdrS_cons 1 (by kernel_rfl) rfl rdrM_int i64_mono rdrS_nil)))))).to (fun y=>⟨y.1,y.2.1,y.2.2.1,y.2.2.2.1,y.2.2.2.2.1⟩) (fun _=>rfl) (fun _ _ h=>⟨h.1,h.2.1,h.2.2.1,h.2.2.2.1,h.2.2.2.2.1⟩)
theorem rdrM_house:Rdr Tryz.prog 105 (fun x:HsD=>hsc x) (fun x n=>HsU n x):=
 (rdr_structN Tryz.underlying105 (T:=2) (by kernel_rfl) (rdrS_cons 1 (by kernel_rfl) rfl rdrM_str len_mono (rdrS_cons 1 (by kernel_rfl) rfl rdrM_bool tt_mono rdrS_nil))).to (fun y=>⟨y.1,y.2.1⟩) (fun _=>rfl) (fun _ _ h=>h.1)
theorem rdrM_gate:Rdr Tryz.prog 140 (fun x:GtD=>gtc x) (fun x n=>GtU n x):=
 (rdr_structN Tryz.underlying140 (T:=7) (by kernel_rfl) (rdrS_cons 1 (by kernel_rfl) rfl rdrM_str len_mono (rdrS_cons 1 (by kernel_rfl) rfl rdrM_int i64_mono (rdrS_cons 1 (by kernel_rfl) rfl rdrM_int i64_mono (rdrS_cons 1 (by kernel_rfl) rfl rdrM_strs (fun _ _ _ h hm=>InU.mono h hm) (rdrS_cons 3 (by kernel_rfl) rfl rdrM_rat (fun _ _ _ h hm=>RdU.mono h hm) rdrS_nil)))))).to (fun y=>⟨y.1,y.2.1,y.2.2.1,y.2.2.2.1,y.2.2.2.2.1⟩) (fun _=>rfl) (fun _ _ h=>⟨h.1,h.2.1,h.2.2.1,h.2.2.2.1,h.2.2.2.2.1⟩)
theorem rdrM_gates:Rdr Tryz.prog 24 (fun xs:List GtD=>[gts true xs]) (fun xs n=>GsU n xs):=
 (rdr_slice (B:=fun(y:GtD) n=>GtU n y) gt0 true Tryz.underlying24 (s:=7) (by kernel_rfl) om (fun _ _ _ h hm=>GtU.mono h hm) rdrM_gate).to id (fun _=>rfl) (fun _ _ h=>h)
theorem rdrM_page:Rdr Tryz.prog 91 (fun x:PgD=>pgc x) (fun x n=>PgU n x):=
 (rdr_structN Tryz.underlying91 (T:=3) (by kernel_rfl) (rdrS_cons 1 (by kernel_rfl) rfl rdrM_str len_mono (rdrS_cons 1 (by kernel_rfl) rfl rdrM_str len_mono (rdrS_cons 1 (by kernel_rfl) rfl rdrM_gates (fun _ _ _ h hm=>GsU.mono h hm) rdrS_nil)))).to (fun y=>⟨y.1,y.2.1,y.2.2.1⟩) (fun _=>rfl) (fun _ _ h=>⟨h.1,h.2.1,h.2.2.1⟩)
theorem rdrM_group:Rdr Tryz.prog 95 (fun x:GrD=>grc x) (fun x n=>GrU n x):=
 (rdr_structN Tryz.underlying95 (T:=4) (by kernel_rfl) (rdrS_cons 1 (by kernel_rfl) rfl rdrM_str len_mono (rdrS_cons 1 (by kernel_rfl) rfl rdrM_int i64_mono (rdrS_cons 1 (by kernel_rfl) rfl rdrM_strs (fun _ _ _ h hm=>InU.mono h hm) (rdrS_cons 1 (by kernel_rfl) rfl rdrM_rats (fun _ _ _ h hm=>RsU.mono h hm) rdrS_nil))))).to (fun y=>⟨y.1,y.2.1,y.2.2.1,y.2.2.2.1⟩) (fun _=>rfl) (fun _ _ h=>⟨h.1,h.2.1,h.2.2.1,h.2.2.2.1⟩)
theorem rdrM_value:Rdr Tryz.prog 100 (fun x:VlD=>vlc x) (fun x n=>VlU n x):=
 (rdr_structN Tryz.underlying100 (T:=4) (by kernel_rfl) (rdrS_cons 1 (by kernel_rfl) rfl rdrM_str len_mono (rdrS_cons 3 (by kernel_rfl) rfl rdrM_rat (fun _ _ _ h hm=>RdU.mono h hm) rdrS_nil))).to (fun y=>⟨y.1,y.2.1⟩) (fun _=>rfl) (fun _ _ h=>⟨h.1,h.2.1⟩)
theorem rdrM_values:Rdr Tryz.prog 96 (fun xs:List VlD=>[vls true xs]) (fun xs n=>xs.length≤n∧∀x∈xs,VlU n x):=
 (rdr_slice (B:=fun(y:VlD) n=>VlU n y) vl0 true Tryz.underlying96 (s:=4) (by kernel_rfl) om (fun _ _ _ h hm=>VlU.mono h hm) rdrM_value).to id (fun _=>rfl) (fun _ _ h=>h)
theorem rdrM_phase:Rdr Tryz.prog 98 (fun x:PhD=>phc x) (fun x n=>PhU n x):=
 (rdr_structN Tryz.underlying98 (T:=3) (by kernel_rfl) (rdrS_cons 1 (by kernel_rfl) rfl rdrM_str len_mono (rdrS_cons 1 (by kernel_rfl) rfl rdrM_str len_mono (rdrS_cons 1 (by kernel_rfl) rfl rdrM_values (fun _ _ _ h hm=>⟨Nat.le_trans h.1 hm,fun x hx=>(h.2 x hx).mono hm⟩) rdrS_nil)))).to (fun y=>⟨y.1,y.2.1,y.2.2.1⟩) (fun _=>rfl) (fun _ _ h=>⟨h.1,h.2.1,h.2.2.1.1,h.2.2.1.2⟩)
theorem all_mono {α:Type} {U:Nat→α→Prop} (hU:∀{m n x},U m x→m≤n→U n x):∀(y:List α) (m n:Nat),(y.length≤m∧∀x∈y,U m x)→m≤n→(y.length≤n∧∀x∈y,U n x):=fun _ _ _ h hm=>⟨Nat.le_trans h.1 hm,fun x hx=>hU (h.2 x hx) hm⟩
theorem rdrM_events:Rdr Tryz.prog 22 (fun xs:List EvD=>[evs true xs]) (fun xs n=>xs.length≤n∧∀x∈xs,EvU n x):=
 (rdr_slice (B:=fun(y:EvD) n=>EvU n y) ev0 true Tryz.underlying22 (s:=11) (by kernel_rfl) om (fun _ _ _ h hm=>EvU.mono h hm) rdrM_event).to id (fun _=>rfl) (fun _ _ h=>h)
theorem rdrM_houses:Rdr Tryz.prog 23 (fun xs:List HsD=>[hss true xs]) (fun xs n=>xs.length≤n∧∀x∈xs,HsU n x):=
 (rdr_slice (B:=fun(y:HsD) n=>HsU n y) hs0 true Tryz.underlying23 (s:=2) (by kernel_rfl) om (fun _ _ _ h hm=>HsU.mono h hm) rdrM_house).to id (fun _=>rfl) (fun _ _ h=>h)
theorem rdrM_pages:Rdr Tryz.prog 25 (fun xs:List PgD=>[pgs true xs]) (fun xs n=>xs.length≤n∧∀x∈xs,PgU n x):=
 (rdr_slice (B:=fun(y:PgD) n=>PgU n y) pg0 true Tryz.underlying25 (s:=3) (by kernel_rfl) om (fun _ _ _ h hm=>PgU.mono h hm) rdrM_page).to id (fun _=>rfl) (fun _ _ h=>h)
theorem rdrM_groups:Rdr Tryz.prog 26 (fun xs:List GrD=>[grs true xs]) (fun xs n=>xs.length≤n∧∀x∈xs,GrU n x):=
 (rdr_slice (B:=fun(y:GrD) n=>GrU n y) gr0 true Tryz.underlying26 (s:=4) (by kernel_rfl) om (fun _ _ _ h hm=>GrU.mono h hm) rdrM_group).to id (fun _=>rfl) (fun _ _ h=>h)
theorem rdrM_phases:Rdr Tryz.prog 27 (fun xs:List PhD=>[phs true xs]) (fun xs n=>xs.length≤n∧∀x∈xs,PhU n x):=
 (rdr_slice (B:=fun(y:PhD) n=>PhU n y) ph0 true Tryz.underlying27 (s:=3) (by kernel_rfl) om (fun _ _ _ h hm=>PhU.mono h hm) rdrM_phase).to id (fun _=>rfl) (fun _ _ h=>h)
theorem rdrM_model:Rdr Tryz.prog 29 (fun x:MdD=>mdc true x) (fun x n=>MdU n x):=
 (rdr_structN Tryz.underlying29 (T:=8) (by kernel_rfl) (rdrS_cons 1 (by kernel_rfl) rfl rdrM_str len_mono (rdrS_cons 1 (by kernel_rfl) rfl rdrM_str len_mono (rdrS_cons 1 (by kernel_rfl) rfl rdrM_events (all_mono EvU.mono) (rdrS_cons 1 (by kernel_rfl) rfl rdrM_houses (all_mono HsU.mono) (rdrS_cons 1 (by kernel_rfl) rfl rdrM_gates (fun _ _ _ h hm=>GsU.mono h hm) (rdrS_cons 1 (by kernel_rfl) rfl rdrM_pages (all_mono PgU.mono) (rdrS_cons 1 (by kernel_rfl) rfl rdrM_groups (all_mono GrU.mono) (rdrS_cons 1 (by kernel_rfl) rfl rdrM_phases (all_mono PhU.mono) rdrS_nil))))))))).to (fun y=>⟨y.1,y.2.1,y.2.2.1,y.2.2.2.1,y.2.2.2.2.1,y.2.2.2.2.2.1,y.2.2.2.2.2.2.1,y.2.2.2.2.2.2.2.1⟩) (fun _=>rfl) (fun _ _ h=>⟨h.1,h.2.1,h.2.2.1,h.2.2.2.1,h.2.2.2.2.1,h.2.2.2.2.2.1,h.2.2.2.2.2.2.1,h.2.2.2.2.2.2.2.1⟩)
end Go.Proofs.YtpcpaekpnfkhhaaGreatDoor
namespace Go.Proofs.YtpcpaekpnfkhhaaGreatDoor
open Go.AI Go.PN Go.ChangeShapes Go.WideShapes Go.RowKit
def putCellsL (h:Array Obj) (g:Nat) (cs:Array Value):Array Obj:=h.modify g fun
 |.cells _ t frozen=>.cells cs t frozen
 |o=>o
def cells_internal_strconv_uint64pow10:Array Value:=(([1,10,100,1000,10000,100000,1000000,10000000,100000000,1000000000,10000000000,100000000000,1000000000000,10000000000000,100000000000000,1000000000000000,10000000000000000,100000000000000000,1000000000000000000,10000000000000000000]:List Int).map fun n=>Value.int .u64 n).toArray
def cells_unicode_utf8_first:Array Value:=(Go.Pinned.utf8FirstZ.map fun(n:Nat)=>Value.int .u8 (n:Int)).toArray
def cells_unicode_utf8_acceptRanges:Array Value:=(([128,191,160,191,128,159,144,191,128,143,0,0,0,0,0,0,0,0,0,0,0,0,0,0,0,0,0,0,0,0,0,0]:List Int).map fun n=>Value.int .u8 n).toArray
def cells_math_bits_deBruijn32tab:Array Value:=(([0,1,28,2,29,14,24,3,30,22,20,15,25,17,4,8,31,27,13,23,21,19,16,7,26,12,18,6,11,5,10,9]:List Int).map fun n=>Value.int .u8 n).toArray
def cells_math_bits_deBruijn64tab:Array Value:=(([0,1,56,2,57,49,28,3,61,58,42,50,38,29,17,4,62,47,59,36,45,43,51,22,53,39,33,30,24,18,12,5,63,55,48,27,60,41,37,16,46,35,44,21,52,32,23,11,54,26,40,15,34,20,31,10,25,14,19,9,13,8,7,6]:List Int).map fun n=>Value.int .u8 n).toArray
noncomputable def laidWorld (os:Os):World:=
 {World.holding Tryz.prog os ⟨#[], #[],[]⟩ with heap:=putCellsL (putCellsL (putCellsL (putCellsL (putCellsL (World.holding Tryz.prog os ⟨#[], #[],[]⟩).heap 1 cells_internal_strconv_uint64pow10) 2 cells_unicode_utf8_first) 3 cells_unicode_utf8_acceptRanges) 4 cells_math_bits_deBruijn32tab) 5 cells_math_bits_deBruijn64tab}
end Go.Proofs.YtpcpaekpnfkhhaaGreatDoor
namespace Go.AI
open Go.Sort
theorem fr_grow {w w':World} (h:Fr (fun _=>False) w w'):∃q os',w'=grow (w.drewN q) os':=by
 refine⟨w'.drawn-w.drawn,w'.heap.extract w.heap.size w'.heap.size,?_⟩
 have h1:=h.os
 have h2:=h.tape
 have h3:=h.output
 have h4:=h.drawn
 have h5:=h.size
 have h6:=h.block
 have hh:w'.heap=w.heap++w'.heap.extract w.heap.size w'.heap.size:=by
  refine Array.ext_getElem? fun b=> ?_
  by_cases hb:b<w.heap.size
  ·rw [Array.getElem?_append_left hb];exact h6 b hb (fun x=>x)
  ·rw [Array.getElem?_append_right om,Array.getElem?_extract]
   by_cases hb2:b<w'.heap.size
   ·rw [if_pos om];congr 1;omega
   ·rw [if_neg om,Array.getElem?_eq_none om]
 have hd:w.drawn+(w'.drawn-w.drawn)=w'.drawn:=by omega
 cases w with
 |mk heap tape drawn os output=>
  cases w' with
  |mk heap' tape' drawn' os' output'=>
   simp only at h1 h2 h3 hh hd
   subst h1 h2 h3
   unfold grow World.drewN
   simp only [World.mk.injEq,true_and]
   exact⟨hh,hd.symm,trivial⟩
end Go.AI
