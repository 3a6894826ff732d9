/- Parts of one proof, laid by a program. -/
import Derived.Test.YtnmeahogifekdaaGreatDoorM00
import Derived.Test.YtnmeahogifekdaaGreatDoorM07
import Derived.Test.YtnmeahogifekdaaGreatDoorCards
import Derived.Test.YtnmeahogifekdaaGreatDoorTie
import Derived.Deep.DeepHandedRow
import Derived.Lib.LaidTab
import Derived.Sort.Statements
import Derived.Sort.Row
import Derived.Sort.Grow
import Derived.Deep.Draws
set_option linter.unusedSimpArgs false
set_option linter.unusedVariables false
set_option maxRecDepth 100000
set_option maxHeartbeats 12800000
namespace Go.AI
section
variable {E : Env} {K : List It} {σ σ' : Sl} {h : Heap} {all l rest : List Oper} {o : Oper}
theorem aw_cgv {f:FuncId} {x:Operand} {xs:List Operand} {ts:Array TypeId} {g:Nat} {ob ob':AObj} {args:List AV} {r:AV} (hf:Fg E.P f g ob (args++[.c (.optr g 0)]) r ob') (hop:o.op=.call {callee:=.value x,args:=xs.toArray,argTypes:=ts}) (hw:wantA all σ o=some true) (hd:dstOk E.N o.dst=true)
  (hx:ev σ x=.c (fnC f [g])) (hg:h.get g=some ob) (le:LeA [] (xs.map (ev σ)) args) (k:aw E (.ops all rest::K) (σ.setO o.dst r) (h.set g ob')):aw E (.ops all (o::rest)::K) σ h:=by
 refine aw_callhv (gs:=[g]) hf hop hw hd hx (hr:=h.del g) (Heap.get_perm hg) le ?_
 rintro _ _ ⟨rfl,rfl⟩ _
 exact aw_perm (Heap.set_perm hg).symm k
end
end Go.AI
namespace Go.Proofs.YtnmeahogifekdaaGreatDoor
open Go.AI Go.PN
abbrev stO (n:BS):AObj:=.cells 9 1 (ofL [.str (sB n)])
attribute [local irreducible] aw Fa Fh DrK
theorem event1_fg (g:Nat) (n:BS) (x:EvD):Fg Tryz.prog 125 g (stO n) [.agg (evc x),.c (.optr g 0)] (.c (.bool (x.name==n))) (stO n):=by
 unfold Fg
 refine fh_of_body Tryz.func125 rfl rfl (by simp [Tryz.ntmps125]) fun C hC=> ?_
 simp only [initS,Nat.reduceAdd]
 repeat' first|refine zV o0 ?_|refine zH o0 (fun hb=>?_) fun hb=>?_|fail
 refine xB fun g1 hn_g1=>?_
 repeat' first|refine zV hn_g1 ?_|refine zH hn_g1 (fun hb=>?_) fun hb=>?_|fail
 refine aw_rethw (h':=[(g,stO n)]) rfl sL fun R r=>?_;simp only[go_sem,hn_g1];refine r _ rfl ?_;clear r R
 exact⟨rfl,rfl⟩
theorem eventI_fg (g:Nat) (n:BS) (l:List EvD) (hl:l.length≤1099511627776):Fg Tryz.prog 124 g (stO n) [.c (evs true l),.c (fnC 125 [g])] (.c (.int .i64 (fidx (fun x=>x.name==n) l))) (stO n):=by
 unfold Fg
 refine fh_of_body Tryz.func124 rfl rfl (by simp [Tryz.ntmps124]) fun C hC=> ?_
 simp only [initS,Nat.reduceAdd]
 repeat' first|refine zV o0 ?_|refine zH o0 (fun hb=>?_) fun hb=>?_|fail
 refine aw_lp (fun i:Nat=>[(0,.c (evs true l)),(1,.c (fnC 125 [g])),(4,.c (.int .i64 0)),(7,.c (.int .i64 l.length)),(8,.c (.int .i64 i))]) (fun _=>[(g,stO n)]) (fun i=>i≤l.length∧∀j,j<i→((fun x:EvD=>x.name==n) (l.getD j ev0))=false) (fun i=>l.length-i) 0 eB zZ ⟨Nat.zero_le _,fun j hj=>absurd hj om⟩ ?_
 rintro i ⟨hi,hn⟩
 repeat' first|refine zV o0 ?_|refine zH o0 (fun hb=>?_) fun hb=>?_|fail
 ·have hi':=hb
  have hf:=event1_fg g n (l.getD i ev0)
  refine aw_cgv (args:=[.agg (evc (l.getD i ev0))]) hf rfl rfl rfl eE eE eL ?_
  refine xS ?_
  repeat' first|refine zV o0 ?_|refine zH o0 (fun hb=>?_) fun hb=>?_|fail
  ·rw [fidx_at (p:=fun x:EvD=>x.name==n) ev0 hi' (by simpa using hb) hn]
   refine xU ?_
   exact⟨rfl,rfl⟩
  ·refine aw_stop ⟨i+1,?_⟩
   have hn':∀j,j<i+1→((fun x:EvD=>x.name==n) (l.getD j ev0))=false:=fun j hj=>by
    by_cases e:j=i
    ·subst e;simpa using hb
    ·exact hn j om
   and_intros
   all_goals first|rfl|exact List.Sublist.refl _|exact True.intro|exact hn'|omega
 ·have hf:fidx (fun x=>x.name==n) l= -1:=fidx_no ev0 (fun j hj=>hn j om)
  rw [hf]
  refine xU ?_
  exact⟨rfl,rfl⟩
theorem event_fa (m:MdD) (n:BS) (hl:m.events.length≤1099511627776):Fa Tryz.prog 71 [.agg (mdc true m),.c (.str (sB n))] (.c (.int .i64 (fidx (fun x=>x.name==n) m.events))):=by
 refine fa_of_body Tryz.func71 rfl rfl (by simp [Tryz.ntmps71]) fun C hC=> ?_
 simp only [initS,Nat.reduceAdd]
 repeat' first|refine zV o0 ?_|refine zH o0 (fun hb=>?_) fun hb=>?_|fail
 refine xB fun g1 hn_g1=>?_
 repeat' first|refine zV hn_g1 ?_|refine zH hn_g1 (fun hb=>?_) fun hb=>?_|fail
 refine yB hn_g1 fun g2 hn_g2=>?_
 all_goals try(have Z:=(oj hn_g1 hn_g2);(repeat' first|refine zV Z ?_|refine zH Z (fun hb=>?_) fun hb=>?_|fail);all_goals clear Z)
 refine aw_makeFunc (gs:=[g2]) rfl rfl rfl (zE (oj hn_g1 hn_g2)) ?_
 have J1:=oj hn_g1 hn_g2
 refine yS J1 ?_
 have hf:=eventI_fg g2 n m.events hl
 all_goals try(have Z:=J1;(repeat' first|refine zV Z ?_|(refine zg Z (hf) ?_)|refine zH Z (fun hb=>?_) fun hb=>?_|fail);all_goals clear Z)
 refine yT hC J1 ?_
 exact .one (.c (.int _ _))
theorem house1_fg (g:Nat) (n:BS) (x:HsD):Fg Tryz.prog 128 g (stO n) [.agg (hsc x),.c (.optr g 0)] (.c (.bool (x.name==n))) (stO n):=by
 unfold Fg
 refine fh_of_body Tryz.func128 rfl rfl (by simp [Tryz.ntmps128]) fun C hC=> ?_
 simp only [initS,Nat.reduceAdd]
 repeat' first|refine zV o0 ?_|refine zH o0 (fun hb=>?_) fun hb=>?_|fail
 refine xB fun g1 hn_g1=>?_
 repeat' first|refine zV hn_g1 ?_|refine zH hn_g1 (fun hb=>?_) fun hb=>?_|fail
 refine aw_rethw (h':=[(g,stO n)]) rfl sL fun R r=>?_;simp only[go_sem,hn_g1];refine r _ rfl ?_;clear r R
 exact⟨rfl,rfl⟩
theorem houseI_fg (g:Nat) (n:BS) (l:List HsD) (hl:l.length≤1099511627776):Fg Tryz.prog 127 g (stO n) [.c (hss true l),.c (fnC 128 [g])] (.c (.int .i64 (fidx (fun x=>x.name==n) l))) (stO n):=by
 unfold Fg
 refine fh_of_body Tryz.func127 rfl rfl (by simp [Tryz.ntmps127]) fun C hC=> ?_
 simp only [initS,Nat.reduceAdd]
 repeat' first|refine zV o0 ?_|refine zH o0 (fun hb=>?_) fun hb=>?_|fail
 refine aw_lp (fun i:Nat=>[(0,.c (hss true l)),(1,.c (fnC 128 [g])),(4,.c (.int .i64 0)),(7,.c (.int .i64 l.length)),(8,.c (.int .i64 i))]) (fun _=>[(g,stO n)]) (fun i=>i≤l.length∧∀j,j<i→((fun x:HsD=>x.name==n) (l.getD j hs0))=false) (fun i=>l.length-i) 0 eB zZ ⟨Nat.zero_le _,fun j hj=>absurd hj om⟩ ?_
 rintro i ⟨hi,hn⟩
 repeat' first|refine zV o0 ?_|refine zH o0 (fun hb=>?_) fun hb=>?_|fail
 ·have hi':=hb
  have hf:=house1_fg g n (l.getD i hs0)
  refine aw_cgv (args:=[.agg (hsc (l.getD i hs0))]) hf rfl rfl rfl eE eE eL ?_
  refine xS ?_
  repeat' first|refine zV o0 ?_|refine zH o0 (fun hb=>?_) fun hb=>?_|fail
  ·rw [fidx_at (p:=fun x:HsD=>x.name==n) hs0 hi' (by simpa using hb) hn]
   refine xU ?_
   exact⟨rfl,rfl⟩
  ·refine aw_stop ⟨i+1,?_⟩
   have hn':∀j,j<i+1→((fun x:HsD=>x.name==n) (l.getD j hs0))=false:=fun j hj=>by
    by_cases e:j=i
    ·subst e;simpa using hb
    ·exact hn j om
   and_intros
   all_goals first|rfl|exact List.Sublist.refl _|exact True.intro|exact hn'|omega
 ·have hf:fidx (fun x=>x.name==n) l= -1:=fidx_no hs0 (fun j hj=>hn j om)
  rw [hf]
  refine xU ?_
  exact⟨rfl,rfl⟩
theorem house_fa (m:MdD) (n:BS) (hl:m.houses.length≤1099511627776):Fa Tryz.prog 74 [.agg (mdc true m),.c (.str (sB n))] (.c (.int .i64 (fidx (fun x=>x.name==n) m.houses))):=by
 refine fa_of_body Tryz.func74 rfl rfl (by simp [Tryz.ntmps74]) fun C hC=> ?_
 simp only [initS,Nat.reduceAdd]
 repeat' first|refine zV o0 ?_|refine zH o0 (fun hb=>?_) fun hb=>?_|fail
 refine xB fun g1 hn_g1=>?_
 repeat' first|refine zV hn_g1 ?_|refine zH hn_g1 (fun hb=>?_) fun hb=>?_|fail
 refine yB hn_g1 fun g2 hn_g2=>?_
 all_goals try(have Z:=(oj hn_g1 hn_g2);(repeat' first|refine zV Z ?_|refine zH Z (fun hb=>?_) fun hb=>?_|fail);all_goals clear Z)
 refine aw_makeFunc (gs:=[g2]) rfl rfl rfl (zE (oj hn_g1 hn_g2)) ?_
 have J1:=oj hn_g1 hn_g2
 refine yS J1 ?_
 have hf:=houseI_fg g2 n m.houses hl
 all_goals try(have Z:=J1;(repeat' first|refine zV Z ?_|(refine zg Z (hf) ?_)|refine zH Z (fun hb=>?_) fun hb=>?_|fail);all_goals clear Z)
 refine yT hC J1 ?_
 exact .one (.c (.int _ _))
theorem page1_fg (g:Nat) (n:BS) (x:PgD):Fg Tryz.prog 130 g (stO n) [.agg (pgc x),.c (.optr g 0)] (.c (.bool (x.name==n))) (stO n):=by
 unfold Fg
 refine fh_of_body Tryz.func130 rfl rfl (by simp [Tryz.ntmps130]) fun C hC=> ?_
 simp only [initS,Nat.reduceAdd]
 repeat' first|refine zV o0 ?_|refine zH o0 (fun hb=>?_) fun hb=>?_|fail
 refine xB fun g1 hn_g1=>?_
 repeat' first|refine zV hn_g1 ?_|refine zH hn_g1 (fun hb=>?_) fun hb=>?_|fail
 refine aw_rethw (h':=[(g,stO n)]) rfl sL fun R r=>?_;simp only[go_sem,hn_g1];refine r _ rfl ?_;clear r R
 exact⟨rfl,rfl⟩
theorem pageI_fg (g:Nat) (n:BS) (l:List PgD) (hl:l.length≤1099511627776):Fg Tryz.prog 129 g (stO n) [.c (pgs true l),.c (fnC 130 [g])] (.c (.int .i64 (fidx (fun x=>x.name==n) l))) (stO n):=by
 unfold Fg
 refine fh_of_body Tryz.func129 rfl rfl (by simp [Tryz.ntmps129]) fun C hC=> ?_
 simp only [initS,Nat.reduceAdd]
 repeat' first|refine zV o0 ?_|refine zH o0 (fun hb=>?_) fun hb=>?_|fail
 refine aw_lp (fun i:Nat=>[(0,.c (pgs true l)),(1,.c (fnC 130 [g])),(4,.c (.int .i64 0)),(7,.c (.int .i64 l.length)),(8,.c (.int .i64 i))]) (fun _=>[(g,stO n)]) (fun i=>i≤l.length∧∀j,j<i→((fun x:PgD=>x.name==n) (l.getD j pg0))=false) (fun i=>l.length-i) 0 eB zZ ⟨Nat.zero_le _,fun j hj=>absurd hj om⟩ ?_
 rintro i ⟨hi,hn⟩
 repeat' first|refine zV o0 ?_|refine zH o0 (fun hb=>?_) fun hb=>?_|fail
 ·have hi':=hb
  have hf:=page1_fg g n (l.getD i pg0)
  refine aw_cgv (args:=[.agg (pgc (l.getD i pg0))]) hf rfl rfl rfl eE eE eL ?_
  refine xS ?_
  repeat' first|refine zV o0 ?_|refine zH o0 (fun hb=>?_) fun hb=>?_|fail
  ·rw [fidx_at (p:=fun x:PgD=>x.name==n) pg0 hi' (by simpa using hb) hn]
   refine xU ?_
   exact⟨rfl,rfl⟩
  ·refine aw_stop ⟨i+1,?_⟩
   have hn':∀j,j<i+1→((fun x:PgD=>x.name==n) (l.getD j pg0))=false:=fun j hj=>by
    by_cases e:j=i
    ·subst e;simpa using hb
    ·exact hn j om
   and_intros
   all_goals first|rfl|exact List.Sublist.refl _|exact True.intro|exact hn'|omega
 ·have hf:fidx (fun x=>x.name==n) l= -1:=fidx_no pg0 (fun j hj=>hn j om)
  rw [hf]
  refine xU ?_
  exact⟨rfl,rfl⟩
theorem page_fa (m:MdD) (n:BS) (hl:m.pages.length≤1099511627776):Fa Tryz.prog 75 [.agg (mdc true m),.c (.str (sB n))] (.c (.int .i64 (fidx (fun x=>x.name==n) m.pages))):=by
 refine fa_of_body Tryz.func75 rfl rfl (by simp [Tryz.ntmps75]) fun C hC=> ?_
 simp only [initS,Nat.reduceAdd]
 repeat' first|refine zV o0 ?_|refine zH o0 (fun hb=>?_) fun hb=>?_|fail
 refine xB fun g1 hn_g1=>?_
 repeat' first|refine zV hn_g1 ?_|refine zH hn_g1 (fun hb=>?_) fun hb=>?_|fail
 refine yB hn_g1 fun g2 hn_g2=>?_
 all_goals try(have Z:=(oj hn_g1 hn_g2);(repeat' first|refine zV Z ?_|refine zH Z (fun hb=>?_) fun hb=>?_|fail);all_goals clear Z)
 refine aw_makeFunc (gs:=[g2]) rfl rfl rfl (zE (oj hn_g1 hn_g2)) ?_
 have J1:=oj hn_g1 hn_g2
 refine yS J1 ?_
 have hf:=pageI_fg g2 n m.pages hl
 all_goals try(have Z:=J1;(repeat' first|refine zV Z ?_|(refine zg Z (hf) ?_)|refine zH Z (fun hb=>?_) fun hb=>?_|fail);all_goals clear Z)
 refine yT hC J1 ?_
 exact .one (.c (.int _ _))
theorem gate1_fg (g:Nat) (n:BS) (x:GtD):Fg Tryz.prog 132 g (stO n) [.agg (gtc x),.c (.optr g 0)] (.c (.bool (x.name==n))) (stO n):=by
 unfold Fg
 refine fh_of_body Tryz.func132 rfl rfl (by simp [Tryz.ntmps132]) fun C hC=> ?_
 simp only [initS,Nat.reduceAdd]
 repeat' first|refine zV o0 ?_|refine zH o0 (fun hb=>?_) fun hb=>?_|fail
 refine xB fun g1 hn_g1=>?_
 repeat' first|refine zV hn_g1 ?_|refine zH hn_g1 (fun hb=>?_) fun hb=>?_|fail
 refine aw_rethw (h':=[(g,stO n)]) rfl sL fun R r=>?_;simp only[go_sem,hn_g1];refine r _ rfl ?_;clear r R
 exact⟨rfl,rfl⟩
theorem gateI_fg (g:Nat) (n:BS) (l:List GtD) (hl:l.length≤1099511627776):Fg Tryz.prog 131 g (stO n) [.c (gts true l),.c (fnC 132 [g])] (.c (.int .i64 (fidx (fun x=>x.name==n) l))) (stO n):=by
 unfold Fg
 refine fh_of_body Tryz.func131 rfl rfl (by simp [Tryz.ntmps131]) fun C hC=> ?_
 simp only [initS,Nat.reduceAdd]
 repeat' first|refine zV o0 ?_|refine zH o0 (fun hb=>?_) fun hb=>?_|fail
 refine aw_lp (fun i:Nat=>[(0,.c (gts true l)),(1,.c (fnC 132 [g])),(4,.c (.int .i64 0)),(7,.c (.int .i64 l.length)),(8,.c (.int .i64 i))]) (fun _=>[(g,stO n)]) (fun i=>i≤l.length∧∀j,j<i→((fun x:GtD=>x.name==n) (l.getD j gt0))=false) (fun i=>l.length-i) 0 eB zZ ⟨Nat.zero_le _,fun j hj=>absurd hj om⟩ ?_
 rintro i ⟨hi,hn⟩
 repeat' first|refine zV o0 ?_|refine zH o0 (fun hb=>?_) fun hb=>?_|fail
 ·have hi':=hb
  have hf:=gate1_fg g n (l.getD i gt0)
  refine aw_cgv (args:=[.agg (gtc (l.getD i gt0))]) hf rfl rfl rfl eE eE eL ?_
  refine xS ?_
  repeat' first|refine zV o0 ?_|refine zH o0 (fun hb=>?_) fun hb=>?_|fail
  ·rw [fidx_at (p:=fun x:GtD=>x.name==n) gt0 hi' (by simpa using hb) hn]
   refine xU ?_
   exact⟨rfl,rfl⟩
  ·refine aw_stop ⟨i+1,?_⟩
   have hn':∀j,j<i+1→((fun x:GtD=>x.name==n) (l.getD j gt0))=false:=fun j hj=>by
    by_cases e:j=i
    ·subst e;simpa using hb
    ·exact hn j om
   and_intros
   all_goals first|rfl|exact List.Sublist.refl _|exact True.intro|exact hn'|omega
 ·have hf:fidx (fun x=>x.name==n) l= -1:=fidx_no gt0 (fun j hj=>hn j om)
  rw [hf]
  refine xU ?_
  exact⟨rfl,rfl⟩
theorem gate_fa (l:List GtD) (n:BS) (hl:l.length≤1099511627776):Fa Tryz.prog 77 [.c (gts true l),.c (.str (sB n))] (.c (.int .i64 (gtI l n))):=by
 refine fa_of_body Tryz.func77 rfl rfl (by simp [Tryz.ntmps77]) fun C hC=> ?_
 simp only [initS,Nat.reduceAdd]
 repeat' first|refine zV o0 ?_|refine zH o0 (fun hb=>?_) fun hb=>?_|fail
 refine xB fun g2 hn_g2=>?_
 repeat' first|refine zV hn_g2 ?_|refine zH hn_g2 (fun hb=>?_) fun hb=>?_|fail
 refine aw_makeFunc (gs:=[g2]) rfl rfl rfl (zE hn_g2) ?_
 refine yS hn_g2 ?_
 have hf:=gateI_fg g2 n l hl
 repeat' first|refine zV hn_g2 ?_|(refine zg hn_g2 (hf) ?_)|refine zH hn_g2 (fun hb=>?_) fun hb=>?_|fail
 refine yT hC hn_g2 ?_
 exact .one (.c (.int _ _))
end Go.Proofs.YtnmeahogifekdaaGreatDoor
namespace Go.PN
open Go.AI
theorem RD.wf.mono {r:RD} {a b:Nat} (h:r.wf a) (hab:a≤b):r.wf b:=by
 exact⟨h.1,h.2.1,Nat.le_trans h.2.2.1 hab,Nat.le_trans h.2.2.2 hab⟩
end Go.PN
namespace Go.Proofs.YtnmeahogifekdaaGreatDoor
open Go.AI Go.PN
attribute [local irreducible] aw Fa Fh DrK
theorem rate_fa (r:RD) (hw:r.wf 1073741824):Fa Tryz.prog 73 [.agg (rdc r)] (.c (.bool (rateB r))):=by
 have f1:=rvalid_fa r (hw.mono (by decide))
 have f2:=rsign_fa r hw
 unfold rateB
 refine fa_of_body Tryz.func73 rfl rfl (by simp [Tryz.ntmps73]) fun C hC=> ?_
 simp only [initS,Nat.reduceAdd]
 repeat' first|refine zV o0 ?_|refine zH o0 (fun hb=>?_) fun hb=>?_|fail
 refine xB fun g1 hn_g1=>?_
 repeat' first|refine zV hn_g1 ?_|(refine yC2 hn_g1 (f1) ?_)|(refine yD2 hn_g1 (f1) ?_)|(refine yC2 hn_g1 (f2) ?_)|(refine yD2 hn_g1 (f2) ?_)|refine zH hn_g1 (fun hb=>?_) fun hb=>?_|fail
 all_goals
  refine yT hC hn_g1 ?_
  refine .one (.c (ler_bool ?_))
  simp [hb]
theorem must_fa (x:GtD) (j:Nat) (hj:j≤1099511627776):Fa Tryz.prog 79 [.agg (gtc x),.c (.int .i64 j)] (.c (.bool (mustE x j))):=by
 unfold mustE
 refine fa_of_body Tryz.func79 rfl rfl (by simp [Tryz.ntmps79]) fun C hC=> ?_
 simp only [initS,Nat.reduceAdd]
 repeat' first|refine zV o0 ?_|refine zH o0 (fun hb=>?_) fun hb=>?_|fail
 refine xB fun g1 hn_g1=>?_
 repeat' first|refine zV hn_g1 ?_|refine zH hn_g1 (fun hb=>?_) fun hb=>?_|fail
 all_goals
  refine yT hC hn_g1 ?_
  refine .one (.c (ler_bool ?_))
  simp_all
theorem minp_fa (k:Int) (n:Nat) (hn:n≤1099511627776):Fa Tryz.prog 133 [.c (.int .i64 k),.c (.int .i64 n)] (.c (.bool (inpB k n))):=by
 unfold inpB
 refine fa_of_body Tryz.func133 rfl rfl (by simp [Tryz.ntmps133]) fun C hC=> ?_
 simp only [initS,Nat.reduceAdd]
 repeat' first|refine zV o0 ?_|refine zH o0 (fun hb=>?_) fun hb=>?_|fail
 all_goals first
  |(exfalso;omega)
  |(refine xT hC ?_
    refine .one (.c (ler_bool ?_))
    simp_all<;>omega)
theorem mzero_fa (r:RD) (hw:r.wf 1073741824):Fa Tryz.prog 134 [.agg (rdc r)] (.c (.bool (zeroB r))):=by
 unfold zeroB
 obtain⟨w1,w2⟩:r.num.length≤1073741824∧r.den.length≤1073741824:=⟨hw.2.2.1,hw.2.2.2⟩
 refine fa_of_body Tryz.func134 rfl rfl (by simp [Tryz.ntmps134]) fun C hC=> ?_
 simp only [initS,Nat.reduceAdd]
 repeat' first|refine zV o0 ?_|refine zH o0 (fun hb=>?_) fun hb=>?_|fail
 refine xB fun g1 hn_g1=>?_
 repeat' first|refine zV hn_g1 ?_|refine zH hn_g1 (fun hb=>?_) fun hb=>?_|fail
 all_goals
  refine yT hC hn_g1 ?_
  refine .one (.c (ler_bool ?_))
  simp_all
theorem gatesOf_fa (m:MdD) (k:Nat) (hk:k≤m.pages.length) (hl:m.pages.length≤1099511627776):Fa Tryz.prog 76 [.agg (mdc true m),.c (.int .i64 ((k:Int)-1))] (.c (gts true (gtsK m k))):=by
 refine fa_of_body Tryz.func76 rfl rfl (by simp [Tryz.ntmps76]) fun C hC=> ?_
 simp only [initS,Nat.reduceAdd]
 repeat' first|refine zV o0 ?_|refine zH o0 (fun hb=>?_) fun hb=>?_|fail
 refine xB fun g1 hn_g1=>?_
 repeat' first|refine zV hn_g1 ?_|refine zH hn_g1 (fun hb=>?_) fun hb=>?_|fail
 ·have h0:k=0:=by omega
  subst h0
  refine yT hC hn_g1 ?_
  exact .one (.c ler_gts)
 ·obtain⟨j,rfl⟩:∃j,k=j+1:=⟨k-1,by omega⟩
  refine yT hC hn_g1 ?_
  exact .one (.c ler_gts)
theorem ler_errE {h:Heap} {T:TypeId} {n c:Int} (e:c=n) (h0:n≠0):LeR h (.ifc T (.int .i64 n)) (errC T c):=ler_errN e.symm (by rw [e];exact h0)
theorem fidx_mem (n:BS):∀l:List BS,decide (fidx (fun x=>n==x) l≥0)=l.contains n
 |[]=>rfl
 |x::l=>by
  have ih:=fidx_mem n l
  rw [List.contains_cons,←ih]
  have hg:=fidx_ge (fun x=>n==x) l
  show decide ((if(n==x)=true then(0:Int) else if fidx (fun x=>n==x) l<0 then-1 else fidx (fun x=>n==x) l+1)≥0)=(n==x||decide (fidx (fun x=>n==x) l≥0))
  cases h:(n==x) with
  |true=>rfl
  |false=>
   rw [if_neg (by simp),Bool.false_or]
   by_cases h2:fidx (fun x=>n==x) l<0
   ·have a:¬fidx (fun x=>n==x) l≥0:=by omega
    rw [if_pos h2,decide_eq_false a];rfl
   ·have a:fidx (fun x=>n==x) l≥0:=by omega
    have b:fidx (fun x=>n==x) l+1≥0:=by omega
    rw [if_neg h2,decide_eq_true a,decide_eq_true b]
theorem checkGate_fa (x:GtD) (hw:x.dorm.wf 1073741824) (hl:x.inputs.length≤1099511627776):Fa Tryz.prog 78 [.agg (gtc x)] (.c (errA (shpC x))):=by
 have f1:=minp_fa x.kind x.inputs.length hl
 have f2:=rprob_fa x.dorm hw
 have f3:=mzero_fa x.dorm hw
 refine fa_of_body Tryz.func78 rfl rfl (by simp [Tryz.ntmps78]) fun C hC=> ?_
 simp only [initS,Nat.reduceAdd]
 repeat' first|refine zV o0 ?_|refine zH o0 (fun hb=>?_) fun hb=>?_|fail
 refine xB fun g1 hn_g1=>?_
 repeat' first|refine zV hn_g1 ?_|(refine yC2 hn_g1 (f1) ?_)|(refine yD2 hn_g1 (f1) ?_)|(refine yC2 hn_g1 (f2) ?_)|(refine yD2 hn_g1 (f2) ?_)|(refine yC2 hn_g1 (f3) ?_)|(refine yD2 hn_g1 (f3) ?_)|refine zH hn_g1 (fun hb=>?_) fun hb=>?_|fail
 all_goals first
  |(exfalso;omega)
  |(refine yT hC hn_g1 ?_
    first
     |(refine .one (.c (ler_errE (c:=shpC x) ?_ (by decide)))
       unfold shpC
       repeat' split
       all_goals first|rfl|(exfalso;simp_all;done)|(exfalso;simp_all;omega))
     |(refine .one (.c (ler_err0 (c:=shpC x) ?_))
       unfold shpC
       repeat' split
       all_goals first|rfl|(exfalso;simp_all;done)|(exfalso;simp_all;omega)))
structure MdOk (m:MdD):Prop where
 ev:m.events.length≤1099511627776
 hs:m.houses.length≤1099511627776
 gt:m.gates.length≤1099511627776
 pg:m.pages.length≤1099511627776
 pgt:∀p∈m.pages,p.gates.length≤1099511627776
theorem isInput_fa (m:MdD) (k:Nat) (n:BS) (hk:k≤m.pages.length) (hm:MdOk m) (hg:(gtsK m k).length≤1099511627776) (hn:n.length≤1099511627776):Fa Tryz.prog 25 [.agg (mdc true m),.c (.int .i64 ((k:Int)-1)),.c (.str (sB n))] (.c (.bool (isInp m k n))):=by
 have f1:=event_fa m n hm.ev
 have f2:=house_fa m n hm.hs
 have f3:=page_fa m (cutS n 1 n.length) hm.pg
 have f4:=gatesOf_fa m k hk hm.pg
 have f5:=gate_fa (gtsK m k) n hg
 refine fa_of_body Tryz.func25 rfl rfl (by simp [Tryz.ntmps25]) fun C hC=> ?_
 simp only [initS,Nat.reduceAdd]
 repeat' first|refine zV o0 ?_|refine zH o0 (fun hb=>?_) fun hb=>?_|fail
 refine xB fun g1 hn_g1=>?_
 repeat' first|refine zV hn_g1 ?_|(refine yC2 hn_g1 (f1) ?_)|(refine yD2 hn_g1 (f1) ?_)|(refine yC2 hn_g1 (f2) ?_)|(refine yD2 hn_g1 (f2) ?_)|(refine yC2 hn_g1 (f3) ?_)|(refine yD2 hn_g1 (f3) ?_)|(refine yC2 hn_g1 (f4) ?_)|(refine yD2 hn_g1 (f4) ?_)|(refine yC2 hn_g1 (f5) ?_)|(refine yD2 hn_g1 (f5) ?_)|refine zH hn_g1 (fun hb=>?_) fun hb=>?_|fail
 ·rename_i h0
  refine aw_dr 6 ty_mixed (by kernel_rfl) ?_
  repeat' first|refine zV hn_g1 ?_|(refine yC2 hn_g1 (f3) ?_)|(refine yD2 hn_g1 (f3) ?_)|refine zH hn_g1 (fun hb=>?_) fun hb=>?_|fail
  rw [cutS_drop]
  rw [show isInp m k n=decide (pgI m (n.drop 1)≥0) from if_pos ⟨h0,hb⟩]
  refine yT hC hn_g1 ?_
  exact .one (.c (.bool _))
 all_goals
  clear f1 f2 f3 f4 f5
  refine yT hC hn_g1 ?_
  refine .one (.c (ler_bool ?_))
  unfold isInp evI hsI
  simp_all<;>omega
end Go.Proofs.YtnmeahogifekdaaGreatDoor
namespace Go.PN
open Go.AI
theorem frst_ret {α:Type} {f:Nat→α→Int} {l:List α} {d:α} {i:Nat} {F:Int} (h:frst f (l.drop i) i=F) (hi:i<l.length) {c:Int} (hc:f i (l.getD i d)=c) (h0:c≠0):F=c:=by
 rw [frst_step d hi,hc,if_neg h0] at h
 exact h.symm
theorem frst_go {α:Type} {f:Nat→α→Int} {l:List α} {d:α} {i:Nat} {F:Int} (h:frst f (l.drop i) i=F) (hi:i<l.length) (hc:f i (l.getD i d)=0):frst f (l.drop (i+1)) (i+1)=F:=by
 rw [frst_step d hi,hc,if_pos rfl] at h
 exact h
theorem frst_fin {α:Type} {f:Nat→α→Int} {l:List α} {i:Nat} {F:Int} (h:frst f (l.drop i) i=F) (hi:¬i<l.length):F=0:=by
 rw [frst_end hi] at h
 exact h.symm
structure MdWf (m:MdD):Prop where
 nm:m.name.length≤1099511627776
 ev:∀i,(m.events.getD i ev0).name.length≤1099511627776∧(m.events.getD i ev0).p.wf 1073741824∧(m.events.getD i ev0).fail.wf 1073741824∧(m.events.getD i ev0).rep.wf 1073741824
 hs:∀i,(m.houses.getD i hs0).name.length≤1099511627776
end Go.PN
namespace Go.Proofs.YtnmeahogifekdaaGreatDoor
open Go.AI Go.PN
attribute [local irreducible] aw Fa Fh DrK
theorem checkEvents_fa (m:MdD) (hm:MdOk m) (hw:MdWf m):Fa Tryz.prog 21 [.agg (mdc true m)] (.c (errA (evhC m))):=by
 refine fa_of_body Tryz.func21 rfl rfl (by simp [Tryz.ntmps21]) fun C hC=> ?_
 simp only [initS,Nat.reduceAdd]
 repeat' first|refine zV o0 ?_|refine zH o0 (fun hb=>?_) fun hb=>?_|fail
 refine xB fun g1 hn_g1=>?_
 repeat' first|refine zV hn_g1 ?_|refine zH hn_g1 (fun hb=>?_) fun hb=>?_|fail
 ·refine yT hC hn_g1 ?_
  exact .one (.c (ler_errE (by unfold evhC;rw [if_pos om]) (by decide)))
 have he:¬m.events.length>24:=by omega
 generalize hF:frst (evC m) m.events 0=F
 have hl1:=hm.ev
 have hl2:=hm.hs
 refine aw_lp (fun i:Nat=>[(1,.c (.optr g1 0)),(2,.c .nilI),(13,.c (evs true m.events)),(14,.c (.int .i64 m.events.length)),(15,.c (.int .i64 i))]) (fun _=>[(g1,.cells 29 8 (ofL (mdc true m)))]) (fun i=>i≤m.events.length∧frst (evC m) (m.events.drop i) i=F) (fun i=>m.events.length-i) 0 (zB hn_g1) zZ ⟨Nat.zero_le _,hF⟩ ?_
 rintro i ⟨hi,hlp⟩
 repeat' first|refine zV hn_g1 ?_|refine zH hn_g1 (fun hb=>?_) fun hb=>?_|fail
 ·obtain⟨w0,w1,w2,w3⟩:=hw.ev i
  have hi':=hb
  have hR:∀c,evC m i (m.events.getD i ev0)=c→c≠0→evhC m=c:=fun c hc h0=>by
   have:=frst_ret hlp hi' hc h0
   unfold evhC orC
   rw [if_neg he,hF,this,if_neg h0]
  have hG:=frst_go (d:=ev0) hlp hi'
  generalize hx:m.events.getD i ev0=x at*
  have f1:Fa Tryz.prog 20 [.c (.str (sB x.name))] (.c (.bool (nameOk x.name))):=tname_fa x.name w0
  have f2:=event_fa m x.name hl1
  have f3:=rprob_fa x.p w1
  have f4:=rate_fa x.fail w2
  have f5:=rate_fa x.rep w3
  refine yA hn_g1 fun g4 hn_g4=>?_
  all_goals try(have Z:=(oj hn_g1 hn_g4);(repeat' first|refine zV Z ?_|(refine yC2 Z (f1) ?_)|(refine yD2 Z (f1) ?_)|(refine yC2 Z (f2) ?_)|(refine yD2 Z (f2) ?_)|(refine yC2 Z (f3) ?_)|(refine yD2 Z (f3) ?_)|(refine yC2 Z (f4) ?_)|(refine yD2 Z (f4) ?_)|(refine yC2 Z (f5) ?_)|(refine yD2 Z (f5) ?_)|refine zH Z (fun hb=>?_) fun hb=>?_|fail);all_goals clear Z)
  all_goals clear f1 f2 f3 f4 f5
  all_goals first
   |(refine yT hC (oj hn_g1 hn_g4) ?_
     refine .one (.c (ler_errE (c:=evhC m) (hR _ ?_ (by decide)) (by decide)))
     clear hR hG hlp hF hx
     unfold evC evI
     repeat' split
     all_goals first|rfl|(exfalso;simp_all;done)|(exfalso;simp_all;omega))
   |(refine aw_stop ⟨i+1,?_⟩
     have hz:evC m i x=0:=by
      clear hR hG hlp hF hx
      unfold evC evI
      repeat' split
      all_goals first|rfl|(exfalso;simp_all;done)|(exfalso;simp_all;omega)
     and_intros
     all_goals first|rfl|exact List.Sublist.refl _|exact List.sublist_cons_self _ _|exact True.intro|exact hG hz|omega)
 ·rename_i hi0
  have hF0:=frst_fin hlp hi0
  subst hF0
  refine yT hC hn_g1 ?_
  refine .one (.c (ler_errE (c:=evhC m) ?_ (by decide)))
  unfold evhC orC
  rw [if_neg he,hF,if_pos rfl,if_pos om]
 rename_i hi0
 have hF0:=frst_fin hlp hi0
 subst hF0
 have hh:¬m.houses.length>16:=by omega
 have he2:evhC m=frst (hsC m) m.houses 0:=by
  unfold evhC orC
  rw [if_neg he,hF,if_pos rfl,if_neg hh]
 clear hlp hi0 hi hF
 generalize hF:frst (hsC m) m.houses 0=F at he2
 refine aw_lp (fun i:Nat=>[(1,.c (.optr g1 0)),(2,.c .nilI),(69,.c (hss true m.houses)),(70,.c (.int .i64 m.houses.length)),(71,.c (.int .i64 i))]) (fun _=>[(g1,.cells 29 8 (ofL (mdc true m)))]) (fun i=>i≤m.houses.length∧frst (hsC m) (m.houses.drop i) i=F) (fun i=>m.houses.length-i) 0 (zB hn_g1) zZ ⟨Nat.zero_le _,hF⟩ ?_
 rintro i ⟨hi,hlp⟩
 repeat' first|refine zV hn_g1 ?_|refine zH hn_g1 (fun hb=>?_) fun hb=>?_|fail
 ·have w0:=hw.hs i
  have hi':=hb
  have hR:∀c,hsC m i (m.houses.getD i hs0)=c→c≠0→evhC m=c:=fun c hc h0=>by
   rw [he2];exact frst_ret hlp hi' hc h0
  have hG:=frst_go (d:=hs0) hlp hi'
  generalize hx:m.houses.getD i hs0=x at*
  have f1:Fa Tryz.prog 20 [.c (.str (sB x.name))] (.c (.bool (nameOk x.name))):=tname_fa x.name w0
  have f2:=event_fa m x.name hl1
  have f3:=house_fa m x.name hl2
  refine yA hn_g1 fun g4 hn_g4=>?_
  all_goals try(have Z:=(oj hn_g1 hn_g4);(repeat' first|refine zV Z ?_|(refine yC2 Z (f1) ?_)|(refine yD2 Z (f1) ?_)|(refine yC2 Z (f2) ?_)|(refine yD2 Z (f2) ?_)|(refine yC2 Z (f3) ?_)|(refine yD2 Z (f3) ?_)|refine zH Z (fun hb=>?_) fun hb=>?_|fail);all_goals clear Z)
  all_goals clear f1 f2 f3
  all_goals first
   |(refine yT hC (oj hn_g1 hn_g4) ?_
     refine .one (.c (ler_errE (c:=evhC m) (hR _ ?_ (by decide)) (by decide)))
     clear hR hG hlp hF hx
     unfold hsC evI hsI
     repeat' split
     all_goals first|rfl|(exfalso;simp_all;done)|(exfalso;simp_all;omega))
   |(refine aw_stop ⟨i+1,?_⟩
     have hz:hsC m i x=0:=by
      clear hR hG hlp hF hx
      unfold hsC evI hsI
      repeat' split
      all_goals first|rfl|(exfalso;simp_all;done)|(exfalso;simp_all;omega)
     and_intros
     all_goals first|rfl|exact List.Sublist.refl _|exact List.sublist_cons_self _ _|exact True.intro|exact hG hz|omega)
 ·have hF0:=frst_fin hlp hb
  subst hF0
  refine yT hC hn_g1 ?_
  exact .one (.c (ler_err0 he2))
end Go.Proofs.YtnmeahogifekdaaGreatDoor
namespace Go.PN
open Go.AI
structure MdWf2 (m:MdD):Prop where
 pg:∀i,(m.pages.getD i pg0).name.length≤1099511627776∧(m.pages.getD i pg0).gates.length≤1048576
 gl:m.gates.length≤1048576
 pl:m.pages.length≤1048576
 gt:∀k i,((gtsK m k).getD i gt0).name.length≤1099511627776∧((gtsK m k).getD i gt0).dorm.wf 1073741824∧((gtsK m k).getD i gt0).inputs.length≤1099511627776
theorem gtsK_len {m:MdD} (h:MdWf2 m) (k:Nat):(gtsK m k).length≤1048576:=match k with
 |0=>h.gl
 |k+1=>(h.pg k).2
def pgS (l:List PgD):Nat:=(l.map fun p=>p.gates.length).sum
theorem pgS_le {l:List PgD} (h:∀i,(l.getD i pg0).gates.length≤1048576):pgS l≤l.length*1048576:=by
 induction l with
 |nil=>exact Nat.zero_le _
 |cons p l ih=>
  have h0:=h 0
  have:=ih fun i=>h (i+1)
  show p.gates.length+pgS l≤_
  rw [List.length_cons]
  have h1:p.gates.length≤1048576:=h0
  omega
theorem pgS_take {l:List PgD} {i:Nat} (h:i<l.length):pgS (l.take (i+1))=pgS (l.take i)+(l.getD i pg0).gates.length:=by
 have e:l.getD i pg0=l[i]:=by rw [List.getD_eq_getElem?_getD,List.getElem?_eq_getElem h];rfl
 rw [List.take_succ_eq_append_getElem h,e]
 unfold pgS
 rw [List.map_append,List.sum_append]
 simp
end Go.PN
namespace Go.Proofs.YtnmeahogifekdaaGreatDoor
open Go.AI Go.PN
attribute [local irreducible] aw Fa Fh DrK
theorem checkPages_fa (m:MdD) (hm:MdOk m) (hw:MdWf2 m):Fa Tryz.prog 22 [.agg (mdc true m)] (.c (errA (pgsC m))):=by
 have hgl:=hw.gl
 have hpl:=hw.pl
 have hP:∀i,i≤m.pages.length→pgS (m.pages.take i)≤1099511627776:=fun i hi=>by
  have h1:∀j,((m.pages.take i).getD j pg0).gates.length≤1048576:=fun j=>by
   by_cases hj:j<i
   ·have:=(hw.pg j).2
    rw [List.getD_eq_getElem?_getD,List.getElem?_take_of_lt hj,←List.getD_eq_getElem?_getD];exact this
   ·rw [List.getD_eq_getElem?_getD,List.getElem?_take_eq_none om];exact Nat.zero_le _
  have h2:=pgS_le h1
  rw [List.length_take] at h2
  have:min i m.pages.length≤1048576:=by omega
  calc _≤_:=h2
   _≤1048576*1048576:=Nat.mul_le_mul_right _ this
 refine fa_of_body Tryz.func22 rfl rfl (by simp [Tryz.ntmps22]) fun C hC=> ?_
 simp only [initS,Nat.reduceAdd]
 repeat' first|refine zV o0 ?_|refine zH o0 (fun hb=>?_) fun hb=>?_|fail
 refine xB fun g1 hn_g1=>?_
 repeat' first|refine zV hn_g1 ?_|refine zH hn_g1 (fun hb=>?_) fun hb=>?_|fail
 refine aw_lp (fun i:Nat=>[(1,.c (.optr g1 0)),(2,.c .nilI),(3,.c (.int .i64 ((m.gates.length+pgS (m.pages.take i):Nat):Int))),(12,.c (pgs true m.pages)),(13,.c (.int .i64 m.pages.length)),(14,.c (.int .i64 i))]) (fun _=>[(g1,.cells 29 8 (ofL (mdc true m)))]) (fun i=>i≤m.pages.length) (fun i=>m.pages.length-i) 0 (zB hn_g1) zZ (Nat.zero_le _) ?_
 rintro i hi
 have hPi:=hP i hi
 repeat' first|refine zV hn_g1 ?_|refine zH hn_g1 (fun hb=>?_) fun hb=>?_|fail
 ·have hi':=hb
  have hP2:=hP (i+1) hi'
  have ht:=pgS_take hi'
  have hpg:=(hw.pg i).2
  refine yA hn_g1 fun g4 hn_g4=>?_
  all_goals try(have Z:=(oj hn_g1 hn_g4);(repeat' first|refine zV Z ?_|refine zH Z (fun hb=>?_) fun hb=>?_|fail);all_goals clear Z)
  refine aw_stop ⟨i+1,?_⟩
  and_intros
  all_goals first|rfl|exact List.Sublist.refl _|exact List.sublist_cons_self _ _|exact True.intro|exact c_int om|omega
 ·rename_i hi0
  refine yT hC hn_g1 ?_
  exact .one (.c (ler_errE (by unfold pgsC;rw [if_pos (.inl om)]) (by decide)))
 ·rename_i h8 hi0
  have htk:m.pages.take i=m.pages:=List.take_of_length_le om
  rw [htk] at hb
  have hg:gtN m>64:=by
   show m.gates.length+pgS m.pages>64
   omega
  refine yT hC hn_g1 ?_
  exact .one (.c (ler_errE (by unfold pgsC;rw [if_pos (.inr hg)]) (by decide)))
 rename_i h8 hi0
 have htk:m.pages.take i=m.pages:=List.take_of_length_le om
 rw [htk] at hb
 have hg:¬gtN m>64:=by
  show¬m.gates.length+pgS m.pages>64
  omega
 have he2:pgsC m=frst (pgC m) m.pages 0:=by
  unfold pgsC
  rw [if_neg (fun z=>z.elim om hg)]
 generalize hF:frst (pgC m) m.pages 0=F at he2
 refine aw_lp (fun i:Nat=>[(1,.c (.optr g1 0)),(2,.c .nilI),(34,.c (pgs true m.pages)),(35,.c (.int .i64 m.pages.length)),(36,.c (.int .i64 i))]) (fun _=>[(g1,.cells 29 8 (ofL (mdc true m)))]) (fun i=>i≤m.pages.length∧frst (pgC m) (m.pages.drop i) i=F) (fun i=>m.pages.length-i) 0 (zB hn_g1) zZ ⟨Nat.zero_le _,hF⟩ ?_
 rintro i ⟨hi,hlp⟩
 repeat' first|refine zV hn_g1 ?_|refine zH hn_g1 (fun hb=>?_) fun hb=>?_|fail
 ·obtain⟨w0,_⟩:=hw.pg i
  have hi':=hb
  have hR:∀c,pgC m i (m.pages.getD i pg0)=c→c≠0→pgsC m=c:=fun c hc h0=>by
   rw [he2];exact frst_ret hlp hi' hc h0
  have hG:=frst_go (d:=pg0) hlp hi'
  generalize hx:m.pages.getD i pg0=x at*
  have f1:Fa Tryz.prog 20 [.c (.str (sB x.name))] (.c (.bool (nameOk x.name))):=tname_fa x.name w0
  have f2:=page_fa m x.name hm.pg
  refine yA hn_g1 fun g4 hn_g4=>?_
  all_goals try(have Z:=(oj hn_g1 hn_g4);(repeat' first|refine zV Z ?_|(refine yC2 Z (f1) ?_)|(refine yD2 Z (f1) ?_)|(refine yC2 Z (f2) ?_)|(refine yD2 Z (f2) ?_)|refine zH Z (fun hb=>?_) fun hb=>?_|fail);all_goals clear Z)
  all_goals clear f1 f2
  all_goals first
   |(refine yT hC (oj hn_g1 hn_g4) ?_
     refine .one (.c (ler_errE (c:=pgsC m) (hR _ ?_ (by decide)) (by decide)))
     clear hR hG hlp hF hx
     unfold pgC pgI
     repeat' split
     all_goals first|rfl|(exfalso;simp_all;done)|(exfalso;simp_all;omega))
   |(refine aw_stop ⟨i+1,?_⟩
     have hz:pgC m i x=0:=by
      clear hR hG hlp hF hx
      unfold pgC pgI
      repeat' split
      all_goals first|rfl|(exfalso;simp_all;done)|(exfalso;simp_all;omega)
     and_intros
     all_goals first|rfl|exact List.Sublist.refl _|exact List.sublist_cons_self _ _|exact True.intro|exact hG hz|omega)
 ·have hF0:=frst_fin hlp hb
  subst hF0
  refine yT hC hn_g1 ?_
  exact .one (.c (ler_err0 he2))
theorem checkGates_fa (m:MdD) (k:Nat) (hk:k≤m.pages.length) (hm:MdOk m) (hw:MdWf2 m):Fa Tryz.prog 23 [.agg (mdc true m),.c (.int .i64 ((k:Int)-1))] (.c (errA (gtsC m k))):=by
 have hkl:=gtsK_len hw k
 have f0:=gatesOf_fa m k hk hm.pg
 refine fa_of_body Tryz.func23 rfl rfl (by simp [Tryz.ntmps23]) fun C hC=> ?_
 simp only [initS,Nat.reduceAdd]
 repeat' first|refine zV o0 ?_|refine zH o0 (fun hb=>?_) fun hb=>?_|fail
 refine xB fun g1 hn_g1=>?_
 repeat' first|refine zV hn_g1 ?_|(refine yC2 hn_g1 (f0) ?_)|(refine yD2 hn_g1 (f0) ?_)|refine zH hn_g1 (fun hb=>?_) fun hb=>?_|fail
 have he2:gtsC m k=frst (gtC m k) (gtsK m k) 0:=rfl
 generalize hF:frst (gtC m k) (gtsK m k) 0=F at he2
 generalize hL:gtsK m k=L at*
 refine aw_lp (fun i:Nat=>[(1,.c (.int .i64 ((k:Int)-1))),(2,.c (.optr g1 0)),(4,.c .nilI),(5,.c (gts true L)),(12,.c (gts true L)),(13,.c (.int .i64 L.length)),(14,.c (.int .i64 i))]) (fun _=>[(g1,.cells 29 8 (ofL (mdc true m)))]) (fun i=>i≤L.length∧frst (gtC m k) (L.drop i) i=F) (fun i=>L.length-i) 0 (zB hn_g1) zZ ⟨Nat.zero_le _,hF⟩ ?_
 rintro i ⟨hi,hlp⟩
 repeat' first|refine zV hn_g1 ?_|refine zH hn_g1 (fun hb=>?_) fun hb=>?_|fail
 ·obtain⟨w0,w1,w2⟩:=hw.gt k i
  rw [hL] at w0 w1 w2
  have hi':=hb
  have hR:∀c,gtC m k i (L.getD i gt0)=c→c≠0→gtsC m k=c:=fun c hc h0=>by
   rw [he2];exact frst_ret hlp hi' hc h0
  have hG:=frst_go (d:=gt0) hlp hi'
  generalize hx:L.getD i gt0=x at*
  have f1:Fa Tryz.prog 20 [.c (.str (sB x.name))] (.c (.bool (nameOk x.name))):=tname_fa x.name w0
  have f2:=event_fa m x.name hm.ev
  have f3:=house_fa m x.name hm.hs
  have f4:=gate_fa L x.name om
  have f5:=checkGate_fa x w1 w2
  refine yA hn_g1 fun g4 hn_g4=>?_
  all_goals try(have Z:=(oj hn_g1 hn_g4);(repeat' first|refine zV Z ?_|(refine yC2 Z (f1) ?_)|(refine yD2 Z (f1) ?_)|(refine yC2 Z (f2) ?_)|(refine yD2 Z (f2) ?_)|(refine yC2 Z (f3) ?_)|(refine yD2 Z (f3) ?_)|(refine yC2 Z (f4) ?_)|(refine yD2 Z (f4) ?_)|(refine yC2 Z (f5) ?_)|(refine yD2 Z (f5) ?_)|refine zH Z (fun hb=>?_) fun hb=>?_|fail);all_goals clear Z)
  all_goals clear f1 f2 f3 f4 f5
  all_goals first
   |(refine yT hC (oj hn_g1 hn_g4) ?_
     refine .one (.c (ler_errE (c:=gtsC m k) (hR _ ?_ (by decide)) (by decide)))
     clear hR hG hlp hF hx
     unfold gtC evI hsI
     repeat' split
     all_goals first|rfl|(exfalso;simp_all;done)|(exfalso;simp_all;omega))
   |(refine aw_stop ⟨i+1,?_⟩
     have hz:gtC m k i x=0:=by
      clear hR hG hlp hF hx
      unfold gtC evI hsI
      repeat' split
      all_goals first|rfl|(exfalso;simp_all;done)|(exfalso;simp_all;omega)|simp_all
     and_intros
     all_goals first|rfl|exact List.Sublist.refl _|exact List.sublist_cons_self _ _|exact True.intro|exact hG hz|omega)
   |(have h0:shpC x≠0:=by simpa using hb
     have hz:gtC m k i x=shpC x:=by
      clear hR hG hlp hF hx
      unfold gtC evI hsI
      repeat' split
      all_goals first|rfl|(exfalso;simp_all;done)|(exfalso;simp_all;omega)
     refine yT hC (oj hn_g1 hn_g4) ?_
     rw [hR (shpC x) hz h0]
     exact .one (.c ler_err))
 ·have hF0:=frst_fin hlp hb
  subst hF0
  refine yT hC hn_g1 ?_
  exact .one (.c (ler_err0 he2))
end Go.Proofs.YtnmeahogifekdaaGreatDoor
namespace Go.Proofs.YtnmeahogifekdaaGreatDoor
open Go.AI Go.PN
attribute [local irreducible] aw Fa Fh DrK
theorem gr1_fg (g:Nat) (y x:GrD):Fg Tryz.prog 82 g (.cells 55 4 (ofL (grc y))) [.agg (grc x),.c (.optr g 0)] (.c (.bool (x.name==y.name))) (.cells 55 4 (ofL (grc y))):=by
 unfold Fg
 refine fh_of_body Tryz.func82 rfl rfl (by simp [Tryz.ntmps82]) fun C hC=> ?_
 simp only [initS,Nat.reduceAdd]
 repeat' first|refine zV o0 ?_|refine zH o0 (fun hb=>?_) fun hb=>?_|fail
 refine xB fun g1 hn_g1=>?_
 repeat' first|refine zV hn_g1 ?_|refine zH hn_g1 (fun hb=>?_) fun hb=>?_|fail
 refine aw_rethw (h':=[(g,(.cells 55 4 (ofL (grc y))))]) rfl sL fun R r=>?_;simp only[go_sem,hn_g1];refine r _ rfl ?_;clear r R
 exact⟨rfl,rfl⟩
theorem grI_fg (g:Nat) (y:GrD) (l:List GrD) (hl:l.length≤1099511627776):Fg Tryz.prog 81 g (.cells 55 4 (ofL (grc y))) [.c (grs true l),.c (fnC 82 [g])] (.c (.int .i64 (fidx (fun x=>x.name==y.name) l))) (.cells 55 4 (ofL (grc y))):=by
 unfold Fg
 refine fh_of_body Tryz.func81 rfl rfl (by simp [Tryz.ntmps81]) fun C hC=> ?_
 simp only [initS,Nat.reduceAdd]
 repeat' first|refine zV o0 ?_|refine zH o0 (fun hb=>?_) fun hb=>?_|fail
 refine aw_lp (fun i:Nat=>[(0,.c (grs true l)),(1,.c (fnC 82 [g])),(4,.c (.int .i64 0)),(7,.c (.int .i64 l.length)),(8,.c (.int .i64 i))]) (fun _=>[(g,(.cells 55 4 (ofL (grc y))))]) (fun i=>i≤l.length∧∀j,j<i→((fun x:GrD=>x.name==y.name) (l.getD j gr0))=false) (fun i=>l.length-i) 0 eB zZ ⟨Nat.zero_le _,fun j hj=>absurd hj om⟩ ?_
 rintro i ⟨hi,hn⟩
 repeat' first|refine zV o0 ?_|refine zH o0 (fun hb=>?_) fun hb=>?_|fail
 ·have hi':=hb
  have hf:=gr1_fg g y (l.getD i gr0)
  refine aw_cgv (args:=[.agg (grc (l.getD i gr0))]) hf rfl rfl rfl eE eE eL ?_
  refine xS ?_
  repeat' first|refine zV o0 ?_|refine zH o0 (fun hb=>?_) fun hb=>?_|fail
  ·rw [fidx_at (p:=fun x:GrD=>x.name==y.name) gr0 hi' (by simpa using hb) hn]
   refine xU ?_
   exact⟨rfl,rfl⟩
  ·refine aw_stop ⟨i+1,?_⟩
   have hn':∀j,j<i+1→((fun x:GrD=>x.name==y.name) (l.getD j gr0))=false:=fun j hj=>by
    by_cases e:j=i
    ·subst e;simpa using hb
    ·exact hn j om
   and_intros
   all_goals first|rfl|exact List.Sublist.refl _|exact True.intro|exact hn'|omega
 ·have hf:fidx (fun x=>x.name==y.name) l= -1:=fidx_no gr0 (fun j hj=>hn j om)
  rw [hf]
  refine xU ?_
  exact⟨rfl,rfl⟩
theorem ph1_fg (g:Nat) (y x:PhD):Fg Tryz.prog 86 g (.cells 66 3 (ofL (phc y))) [.agg (phc x),.c (.optr g 0)] (.c (.bool (x.name==y.name))) (.cells 66 3 (ofL (phc y))):=by
 unfold Fg
 refine fh_of_body Tryz.func86 rfl rfl (by simp [Tryz.ntmps86]) fun C hC=> ?_
 simp only [initS,Nat.reduceAdd]
 repeat' first|refine zV o0 ?_|refine zH o0 (fun hb=>?_) fun hb=>?_|fail
 refine xB fun g1 hn_g1=>?_
 repeat' first|refine zV hn_g1 ?_|refine zH hn_g1 (fun hb=>?_) fun hb=>?_|fail
 refine aw_rethw (h':=[(g,(.cells 66 3 (ofL (phc y))))]) rfl sL fun R r=>?_;simp only[go_sem,hn_g1];refine r _ rfl ?_;clear r R
 exact⟨rfl,rfl⟩
theorem phI_fg (g:Nat) (y:PhD) (l:List PhD) (hl:l.length≤1099511627776):Fg Tryz.prog 85 g (.cells 66 3 (ofL (phc y))) [.c (phs true l),.c (fnC 86 [g])] (.c (.int .i64 (fidx (fun x=>x.name==y.name) l))) (.cells 66 3 (ofL (phc y))):=by
 unfold Fg
 refine fh_of_body Tryz.func85 rfl rfl (by simp [Tryz.ntmps85]) fun C hC=> ?_
 simp only [initS,Nat.reduceAdd]
 repeat' first|refine zV o0 ?_|refine zH o0 (fun hb=>?_) fun hb=>?_|fail
 refine aw_lp (fun i:Nat=>[(0,.c (phs true l)),(1,.c (fnC 86 [g])),(4,.c (.int .i64 0)),(7,.c (.int .i64 l.length)),(8,.c (.int .i64 i))]) (fun _=>[(g,(.cells 66 3 (ofL (phc y))))]) (fun i=>i≤l.length∧∀j,j<i→((fun x:PhD=>x.name==y.name) (l.getD j ph0))=false) (fun i=>l.length-i) 0 eB zZ ⟨Nat.zero_le _,fun j hj=>absurd hj om⟩ ?_
 rintro i ⟨hi,hn⟩
 repeat' first|refine zV o0 ?_|refine zH o0 (fun hb=>?_) fun hb=>?_|fail
 ·have hi':=hb
  have hf:=ph1_fg g y (l.getD i ph0)
  refine aw_cgv (args:=[.agg (phc (l.getD i ph0))]) hf rfl rfl rfl eE eE eL ?_
  refine xS ?_
  repeat' first|refine zV o0 ?_|refine zH o0 (fun hb=>?_) fun hb=>?_|fail
  ·rw [fidx_at (p:=fun x:PhD=>x.name==y.name) ph0 hi' (by simpa using hb) hn]
   refine xU ?_
   exact⟨rfl,rfl⟩
  ·refine aw_stop ⟨i+1,?_⟩
   have hn':∀j,j<i+1→((fun x:PhD=>x.name==y.name) (l.getD j ph0))=false:=fun j hj=>by
    by_cases e:j=i
    ·subst e;simpa using hb
    ·exact hn j om
   and_intros
   all_goals first|rfl|exact List.Sublist.refl _|exact True.intro|exact hn'|omega
 ·have hf:fidx (fun x=>x.name==y.name) l= -1:=fidx_no ph0 (fun j hj=>hn j om)
  rw [hf]
  refine xU ?_
  exact⟨rfl,rfl⟩
theorem vl1_fg (g:Nat) (y x:VlD):Fg Tryz.prog 88 g (.cells 68 4 (ofL (vlc y))) [.agg (vlc x),.c (.optr g 0)] (.c (.bool (x.event==y.event))) (.cells 68 4 (ofL (vlc y))):=by
 unfold Fg
 refine fh_of_body Tryz.func88 rfl rfl (by simp [Tryz.ntmps88]) fun C hC=> ?_
 simp only [initS,Nat.reduceAdd]
 repeat' first|refine zV o0 ?_|refine zH o0 (fun hb=>?_) fun hb=>?_|fail
 refine xB fun g1 hn_g1=>?_
 repeat' first|refine zV hn_g1 ?_|refine zH hn_g1 (fun hb=>?_) fun hb=>?_|fail
 refine aw_rethw (h':=[(g,(.cells 68 4 (ofL (vlc y))))]) rfl sL fun R r=>?_;simp only[go_sem,hn_g1];refine r _ rfl ?_;clear r R
 exact⟨rfl,rfl⟩
theorem vlI_fg (g:Nat) (y:VlD) (l:List VlD) (hl:l.length≤1099511627776):Fg Tryz.prog 87 g (.cells 68 4 (ofL (vlc y))) [.c (vls true l),.c (fnC 88 [g])] (.c (.int .i64 (fidx (fun x=>x.event==y.event) l))) (.cells 68 4 (ofL (vlc y))):=by
 unfold Fg
 refine fh_of_body Tryz.func87 rfl rfl (by simp [Tryz.ntmps87]) fun C hC=> ?_
 simp only [initS,Nat.reduceAdd]
 repeat' first|refine zV o0 ?_|refine zH o0 (fun hb=>?_) fun hb=>?_|fail
 refine aw_lp (fun i:Nat=>[(0,.c (vls true l)),(1,.c (fnC 88 [g])),(4,.c (.int .i64 0)),(7,.c (.int .i64 l.length)),(8,.c (.int .i64 i))]) (fun _=>[(g,(.cells 68 4 (ofL (vlc y))))]) (fun i=>i≤l.length∧∀j,j<i→((fun x:VlD=>x.event==y.event) (l.getD j vl0))=false) (fun i=>l.length-i) 0 eB zZ ⟨Nat.zero_le _,fun j hj=>absurd hj om⟩ ?_
 rintro i ⟨hi,hn⟩
 repeat' first|refine zV o0 ?_|refine zH o0 (fun hb=>?_) fun hb=>?_|fail
 ·have hi':=hb
  have hf:=vl1_fg g y (l.getD i vl0)
  refine aw_cgv (args:=[.agg (vlc (l.getD i vl0))]) hf rfl rfl rfl eE eE eL ?_
  refine xS ?_
  repeat' first|refine zV o0 ?_|refine zH o0 (fun hb=>?_) fun hb=>?_|fail
  ·rw [fidx_at (p:=fun x:VlD=>x.event==y.event) vl0 hi' (by simpa using hb) hn]
   refine xU ?_
   exact⟨rfl,rfl⟩
  ·refine aw_stop ⟨i+1,?_⟩
   have hn':∀j,j<i+1→((fun x:VlD=>x.event==y.event) (l.getD j vl0))=false:=fun j hj=>by
    by_cases e:j=i
    ·subst e;simpa using hb
    ·exact hn j om
   and_intros
   all_goals first|rfl|exact List.Sublist.refl _|exact True.intro|exact hn'|omega
 ·have hf:fidx (fun x=>x.event==y.event) l= -1:=fidx_no vl0 (fun j hj=>hn j om)
  rw [hf]
  refine xU ?_
  exact⟨rfl,rfl⟩
theorem fac1_fa (r:RD) (hw:r.wf 1073741824):Fa Tryz.prog 84 [.agg (rdc r)] (.c (.bool (!r.prob))):=by
 have f1:=rprob_fa r hw
 refine fa_of_body Tryz.func84 rfl rfl (by simp [Tryz.ntmps84]) fun C hC=> ?_
 simp only [initS,Nat.reduceAdd]
 repeat' first|refine zV o0 ?_|refine zH o0 (fun hb=>?_) fun hb=>?_|fail
 refine xB fun g1 hn_g1=>?_
 repeat' first|refine zV hn_g1 ?_|(refine yC2 hn_g1 (f1) ?_)|(refine yD2 hn_g1 (f1) ?_)|refine zH hn_g1 (fun hb=>?_) fun hb=>?_|fail
 refine yT hC hn_g1 ?_
 exact .one (.c (.bool _))
theorem facI_fa (l:List RD) (hl:l.length≤1099511627776) (hw:∀i,(l.getD i rd0).wf 1073741824):Fa Tryz.prog 136 [.c (rats true l),.c (.raw (.func (.func 84) #[] #[]))] (.c (.int .i64 (fidx (fun x=> !x.prob) l))):=by
 refine fa_of_body Tryz.func136 rfl rfl (by simp [Tryz.ntmps136]) fun C hC=> ?_
 simp only [initS,Nat.reduceAdd]
 repeat' first|refine zV o0 ?_|refine zH o0 (fun hb=>?_) fun hb=>?_|fail
 refine aw_lp (fun i:Nat=>[(0,.c (rats true l)),(1,.c (.raw (.func (.func 84) #[] #[]))),(4,.c (.int .i64 0)),(7,.c (.int .i64 l.length)),(8,.c (.int .i64 i))]) (fun _=>[]) (fun i=>i≤l.length∧∀j,j<i→((fun x:RD=> !x.prob) (l.getD j rd0))=false) (fun i=>l.length-i) 0 eB zZ ⟨Nat.zero_le _,fun j hj=>absurd hj om⟩ ?_
 rintro i ⟨hi,hn⟩
 repeat' first|refine zV o0 ?_|refine zH o0 (fun hb=>?_) fun hb=>?_|fail
 ·have hi':=hb
  have hf:=fac1_fa (l.getD i rd0) (hw i)
  refine aw_callqv hf rfl rfl rfl eE eL ?_
  refine xS ?_
  repeat' first|refine zV o0 ?_|refine zH o0 (fun hb=>?_) fun hb=>?_|fail
  ·rw [fidx_at (p:=fun x:RD=> !x.prob) rd0 hi' (by simpa using hb) hn]
   refine xT hC ?_
   exact .one (.c (.int _ _))
  ·refine aw_stop ⟨i+1,?_⟩
   have hn':∀j,j<i+1→((fun x:RD=> !x.prob) (l.getD j rd0))=false:=fun j hj=>by
    by_cases e:j=i
    ·subst e;simpa using hb
    ·exact hn j om
   and_intros
   all_goals first|rfl|exact List.Sublist.refl _|exact True.intro|exact hn'|omega
 ·have hf:fidx (fun x:RD=> !x.prob) l= -1:=fidx_no rd0 (fun j hj=>hn j om)
  rw [hf]
  refine xT hC ?_
  exact .one (.c (.int _ _))
theorem fidx_all {α:Type} (p:α→Bool):∀l:List α,decide (fidx (fun x=> !p x) l≥0)= !l.all p
 |[]=>rfl
 |x::l=>by
  have ih:=fidx_all p l
  show decide ((if(!p x)=true then(0:Int) else if fidx (fun x=> !p x) l<0 then-1 else fidx (fun x=> !p x) l+1)≥0)= !(p x&&l.all p)
  cases h:p x with
  |false=>rfl
  |true=>
   rw [if_neg (by simp),Bool.true_and,←ih]
   by_cases h2:fidx (fun x=> !p x) l<0
   ·have a:¬fidx (fun x=> !p x) l≥0:=by omega
    rw [if_pos h2,decide_eq_false a];rfl
   ·have a:fidx (fun x=> !p x) l≥0:=by omega
    have b:fidx (fun x=> !p x) l+1≥0:=by omega
    rw [if_neg h2,decide_eq_true a,decide_eq_true b]
theorem facC_fa (l:List RD) (hl:l.length≤1099511627776) (hw:∀i,(l.getD i rd0).wf 1073741824):Fa Tryz.prog 83 [.c (rats true l),.c (.raw (.func (.func 84) #[] #[]))] (.c (.bool (!l.all RD.prob))):=by
 have f1:=facI_fa l hl hw
 have f2:=fidx_all RD.prob l
 refine fa_of_body Tryz.func83 rfl rfl (by simp [Tryz.ntmps83]) fun C hC=> ?_
 simp only [initS,Nat.reduceAdd]
 repeat' first|refine zV o0 ?_|(refine yC2 o0 (f1) ?_)|(refine yD2 o0 (f1) ?_)|refine zH o0 (fun hb=>?_) fun hb=>?_|fail
 refine xT hC ?_
 exact .one (.c (ler_bool f2))
end Go.Proofs.YtnmeahogifekdaaGreatDoor
namespace Go.PN
open Go.AI
structure MdWf3 (m:MdD):Prop where
 l:m.phases.length≤1099511627776
 ph:∀i,(m.phases.getD i ph0).name.length≤1099511627776∧(m.phases.getD i ph0).top.length≤1099511627776∧(m.phases.getD i ph0).values.length≤1099511627776
 vl:∀i k,(((m.phases.getD i ph0).values.getD k vl0)).p.wf 1073741824
end Go.PN
namespace Go.Proofs.YtnmeahogifekdaaGreatDoor
open Go.AI Go.PN
attribute [local irreducible] aw Fa Fh DrK
theorem checkPhases_fa (m:MdD) (hm:MdOk m) (hw2:MdWf2 m) (hw:MdWf3 m):Fa Tryz.prog 27 [.agg (mdc true m)] (.c (errA (phsC m))):=by
 have hl:=hw.l
 refine fa_of_body Tryz.func27 rfl rfl (by simp [Tryz.ntmps27]) fun C hC=> ?_
 simp only [initS,Nat.reduceAdd]
 repeat' first|refine zV o0 ?_|refine zH o0 (fun hb=>?_) fun hb=>?_|fail
 refine xB fun g1 hn_g1=>?_
 repeat' first|refine zV hn_g1 ?_|refine zH hn_g1 (fun hb=>?_) fun hb=>?_|fail
 ·refine yT hC hn_g1 ?_
  exact .one (.c (ler_errE (by unfold phsC;rw [if_pos om]) (by decide)))
 have he2:phsC m=frst (phC m) m.phases 0:=by
  unfold phsC
  rw [if_neg om]
 generalize hF:frst (phC m) m.phases 0=F at he2
 refine aw_lp (fun i:Nat=>[(1,.c (.optr g1 0)),(2,.c .nilI),(13,.c (phs true m.phases)),(14,.c (.int .i64 m.phases.length)),(15,.c (.int .i64 i))]) (fun _=>[(g1,.cells 29 8 (ofL (mdc true m)))]) (fun i=>i≤m.phases.length∧frst (phC m) (m.phases.drop i) i=F) (fun i=>m.phases.length-i) 0 (zB hn_g1) zZ ⟨Nat.zero_le _,hF⟩ ?_
 rintro i ⟨hi,hlp⟩
 repeat' first|refine zV hn_g1 ?_|refine zH hn_g1 (fun hb=>?_) fun hb=>?_|fail
 ·obtain⟨w0,w1,w2⟩:=hw.ph i
  have w3:=hw.vl i
  have hi':=hb
  have hR:∀c,phC m i (m.phases.getD i ph0)=c→c≠0→phsC m=c:=fun c hc h0=>by
   rw [he2];exact frst_ret hlp hi' hc h0
  have hG:=frst_go (d:=ph0) hlp hi'
  clear hlp
  generalize hx:m.phases.getD i ph0=x at*
  have f1:Fa Tryz.prog 20 [.c (.str (sB x.name))] (.c (.bool (nameOk x.name))):=tname_fa x.name w0
  have f3:Fa Tryz.prog 25 [.agg (mdc true m),.c (.int .i64 (-1)),.c (.str (sB x.top))] (.c (.bool (isInp m 0 x.top))):=isInput_fa m 0 x.top (Nat.zero_le _) hm (by have:=gtsK_len hw2 0;omega) w1
  refine yA hn_g1 fun g4 hn_g4=>?_
  all_goals try(have Z:=(oj hn_g1 hn_g4);(repeat' first|refine zV Z ?_|(refine yC2 Z (f1) ?_)|(refine yD2 Z (f1) ?_)|refine zH Z (fun hb=>?_) fun hb=>?_|fail);all_goals clear Z)
  ·refine yT hC (oj hn_g1 hn_g4) ?_
   refine .one (.c (ler_errE (c:=phsC m) (hR _ ?_ (by decide)) (by decide)))
   unfold phC
   rw [if_pos (by simpa using hb)]
  rename_i hn1
  replace hn1:=hb
  refine aw_makeFunc (gs:=[g4]) rfl rfl rfl (zE (oj hn_g1 hn_g4)) ?_
  have J1:=oj hn_g1 hn_g4
  refine yS J1 ?_
  have f2:=phI_fg g4 x m.phases hl
  all_goals try(have Z:=J1;(repeat' first|refine zV Z ?_|(refine zg Z (f2) ?_)|(refine yC2 Z (f3) ?_)|(refine yD2 Z (f3) ?_)|refine zH Z (fun hb=>?_) fun hb=>?_|fail);all_goals clear Z)
  ·refine yT hC J1 ?_
   refine .one (.c (ler_errE (c:=phsC m) (hR _ ?_ (by decide)) (by decide)))
   unfold phC
   rw [if_neg (by simpa using hn1),if_pos hb]
  ·rename_i hn2
   refine yT hC J1 ?_
   refine .one (.c (ler_errE (c:=phsC m) (hR _ ?_ (by decide)) (by decide)))
   unfold phC
   rw [if_neg (by simpa using hn1),if_neg hn2,if_pos (by simpa using hb)]
  rename_i hn2
  have hn3:=hb
  have hp:phC m i x=frst (vlC m x) x.values 0:=by
   unfold phC
   rw [if_neg (by simpa using hn1),if_neg hn2,if_neg (by simpa using hn3)]
  clear f1 f2 f3 J1
  generalize hF2:frst (vlC m x) x.values 0=F2 at hp
  refine aw_lp (fun k:Nat=>[(1,.c (.optr g1 0)),(2,.c .nilI),(4,.c (.optr g4 0)),(13,.c (phs true m.phases)),(14,.c (.int .i64 m.phases.length)),(15,.c (.int .i64 i)),(39,.c (vls true x.values)),(40,.c (.int .i64 x.values.length)),(41,.c (.int .i64 k))]) (fun _=>[(g4,.cells 66 3 (ofL (phc x))),(g1,.cells 29 8 (ofL (mdc true m)))]) (fun k=>k≤x.values.length∧frst (vlC m x) (x.values.drop k) k=F2) (fun k=>x.values.length-k) 0 (zB (oj hn_g1 hn_g4)) zZ ⟨Nat.zero_le _,hF2⟩ ?_
  rintro k ⟨hk,hlq⟩
  all_goals try(have Z:=(oj hn_g1 hn_g4);(repeat' first|refine zV Z ?_|refine zH Z (fun hb=>?_) fun hb=>?_|fail);all_goals clear Z)
  ·have hk':=hb
   have hR2:∀c,vlC m x k (x.values.getD k vl0)=c→c≠0→phsC m=c:=fun c hc h0=>hR c (hp.trans (frst_ret hlq hk' hc h0)) h0
   have hG2:=frst_go (d:=vl0) hlq hk'
   clear hlq
   have w4:=w3 k
   generalize hv:x.values.getD k vl0=v at*
   have f1:=event_fa m v.event hm.ev
   have f3:=rprob_fa v.p w4
   refine yA (oj hn_g1 hn_g4) fun g5 hn_g5=>?_
   all_goals try(have Z:=(oj hn_g1 (oj hn_g4 hn_g5));(repeat' first|refine zV Z ?_|(refine yC2 Z (f1) ?_)|(refine yD2 Z (f1) ?_)|refine zH Z (fun hb=>?_) fun hb=>?_|fail);all_goals clear Z)
   ·refine yT hC (oj hn_g1 (oj hn_g4 hn_g5)) ?_
    refine .one (.c (ler_errE (c:=phsC m) (hR2 _ ?_ (by decide)) (by decide)))
    unfold vlC evI
    rw [if_pos hb]
   have m1:=hb
   refine aw_makeFunc (gs:=[g5]) rfl rfl rfl (zE (oj hn_g1 (oj hn_g4 hn_g5))) ?_
   have J2:=oj hn_g1 (oj hn_g4 hn_g5)
   refine yS J2 ?_
   have f2:=vlI_fg g5 v x.values w2
   all_goals try(have Z:=J2;(repeat' first|refine zV Z ?_|(refine zg Z (f2) ?_)|(refine yC2 Z (f3) ?_)|(refine yD2 Z (f3) ?_)|refine zH Z (fun hb=>?_) fun hb=>?_|fail);all_goals clear Z)
   ·refine yT hC J2 ?_
    refine .one (.c (ler_errE (c:=phsC m) (hR2 _ ?_ (by decide)) (by decide)))
    unfold vlC evI
    rw [if_neg m1,if_pos hb]
   ·rename_i m2
    refine yT hC J2 ?_
    refine .one (.c (ler_errE (c:=phsC m) (hR2 _ ?_ (by decide)) (by decide)))
    unfold vlC evI
    rw [if_neg m1,if_neg m2,if_pos (by simpa using hb)]
   ·rename_i m2
    refine aw_stop ⟨k+1,?_⟩
    have hz:vlC m x k v=0:=by
     unfold vlC evI
     rw [if_neg m1,if_neg m2,if_neg (by simpa using hb)]
    and_intros
    all_goals first|rfl|exact List.Sublist.refl _|exact List.sublist_cons_self _ _|exact True.intro|exact hG2 hz|omega
  ·have hF0:=frst_fin hlq hb
   refine aw_stop ⟨i+1,?_⟩
   and_intros
   all_goals first|rfl|exact List.Sublist.refl _|exact List.sublist_cons_self _ _|exact True.intro|exact hG (hp.trans hF0)|omega
 ·have hF0:=frst_fin hlp hb
  subst hF0
  refine yT hC hn_g1 ?_
  exact .one (.c (ler_err0 he2))
end Go.Proofs.YtnmeahogifekdaaGreatDoor
namespace Go.Proofs.YtnmeahogifekdaaGreatDoor
open Go.AI Go.PN
attribute [local irreducible] aw Fa Fh DrK
theorem sindexF_fa (l:List BS) (n:BS) (hl:l.length≤1099511627776):Fa Tryz.prog 135 [.c (strs false l),.c (.str (sB n))] (.c (.int .i64 (fidx (fun x=>n==x) l))):=by
 refine fa_of_body Tryz.func135 rfl rfl (by simp [Tryz.ntmps135]) fun C hC=> ?_
 simp only [initS,Nat.reduceAdd]
 repeat' first|refine zV o0 ?_|refine zH o0 (fun hb=>?_) fun hb=>?_|fail
 refine aw_lp (fun i:Nat=>[(0,.c (strs false l)),(1,.c (.str (sB n))),(4,.c (.int .i64 0)),(7,.c (.int .i64 l.length)),(8,.c (.int .i64 i))]) (fun _=>[]) (fun i=>i≤l.length∧∀j,j<i→((fun x:BS=>n==x) (l.getD j []))=false) (fun i=>l.length-i) 0 eB zZ ⟨Nat.zero_le _,fun j hj=>absurd hj om⟩ ?_
 rintro i ⟨hi,hn⟩
 repeat' first|refine zV o0 ?_|refine zH o0 (fun hb=>?_) fun hb=>?_|fail
 ·rename_i hi'
  rw [fidx_at (p:=fun x:BS=>n==x) [] hi' (by simpa using hb) hn]
  refine xT hC ?_
  exact .one (.c (.int _ _))
 ·rename_i hi'
  refine aw_stop ⟨i+1,?_⟩
  have hn':∀j,j<i+1→((fun x:BS=>n==x) (l.getD j []))=false:=fun j hj=>by
   by_cases e:j=i
   ·subst e;simpa using hb
   ·exact hn j om
  and_intros
  all_goals first|rfl|exact List.Sublist.refl _|exact True.intro|exact hn'|omega
 ·have hf:fidx (fun x=>n==x) l= -1:=fidx_no [] (fun j hj=>hn j om)
  rw [hf]
  refine xT hC ?_
  exact .one (.c (.int _ _))
theorem scontF_fa (l:List BS) (n:BS) (hl:l.length≤1099511627776):Fa Tryz.prog 80 [.c (strs false l),.c (.str (sB n))] (.c (.bool (l.contains n))):=by
 have f1:=sindexF_fa l n hl
 have f2:=fidx_mem n l
 refine fa_of_body Tryz.func80 rfl rfl (by simp [Tryz.ntmps80]) fun C hC=> ?_
 simp only [initS,Nat.reduceAdd]
 repeat' first|refine zV o0 ?_|(refine yC2 o0 (f1) ?_)|(refine yD2 o0 (f1) ?_)|refine zH o0 (fun hb=>?_) fun hb=>?_|fail
 refine xT hC ?_
 exact .one (.c (ler_bool f2))
end Go.Proofs.YtnmeahogifekdaaGreatDoor
namespace Go.PN
open Go.AI
theorem frsS_ret {α σ:Type} {f:Nat→α→σ→Int×σ} {l:List α} {d:α} {i:Nat} {s:σ} {F:Int×σ} (h:frsS f (l.drop i) i s=F) (hi:i<l.length) {r:Int×σ} (hc:f i (l.getD i d) s=r) (h0:r.1≠0):F=r:=by
 rw [frsS_step d hi,hc,if_neg h0] at h
 exact h.symm
theorem frsS_go {α σ:Type} {f:Nat→α→σ→Int×σ} {l:List α} {d:α} {i:Nat} {s:σ} {F:Int×σ} (h:frsS f (l.drop i) i s=F) (hi:i<l.length) {r:Int×σ} (hc:f i (l.getD i d) s=r) (h0:r.1=0):frsS f (l.drop (i+1)) (i+1) r.2=F:=by
 rw [frsS_step d hi,hc,if_pos h0] at h
 exact h
theorem frsS_fin {α σ:Type} {f:Nat→α→σ→Int×σ} {l:List α} {i:Nat} {s:σ} {F:Int×σ} (h:frsS f (l.drop i) i s=F) (hi:¬i<l.length):F=(0,s):=by
 rw [frsS_end hi] at h
 exact h.symm
end Go.PN
namespace Go.Proofs.YtnmeahogifekdaaGreatDoor
open Go.AI Go.PN
theorem le_gst {pre:Heap} {og:Option Nat} {ty:TypeId} {sp:List BS} (hog:og=none→sp.length=0) (hnd:(pre++gh og ty sp.length (strsF sp)).keys.Nodup):LeC (pre++gh og ty sp.length (strsF sp)) (gs og 1 sp.length) (strs false sp):=by
 cases og with
 |none=>
  have h0:=hog rfl
  show LeC _ .nils (.row false 1 sp.length (strsF sp))
  rw [h0]
  exact .nils
 |some g=>
  have hg:g∉pre.keys:=fun hm=>by
   have hk:(pre++gh (some g) ty sp.length (strsF sp)).keys=pre.keys++[g]:=by simp [Heap.keys,gh]
   rw [hk] at hnd
   exact(List.nodup_append.1 hnd).2.2 g hm g (by simp) rfl
  exact .osl (Heap.get_app hg) om (fun j _=>by rw [Nat.zero_add];exact .refl _)
attribute [local irreducible] aw Fa Fh DrK
theorem checkInputs_fh (m:MdD) (k:Nat) (sp0:List BS) (og0:Option Nat) (hk:k≤m.pages.length) (hm:MdOk m) (hw2:MdWf2 m) (hI:∀i,((gtsK m k).getD i gt0).inputs.length≤16) (hin:∀i j,(((gtsK m k).getD i gt0).inputs.getD j []).length≤1099511627776) (hog0:og0=none→sp0.length=0) (hb0:sp0.length≤1073741824):Fh Tryz.prog 24 (gh og0 9 sp0.length (strsF sp0)) [.agg (mdc true m),.c (.int .i64 ((k:Int)-1)),.c (gs og0 1 sp0.length)] (fun x h=>((inP m k sp0).1≠0∧h=[]∧x=.tup [.c .nils,.c (errA (inP m k sp0).1)])∨((inP m k sp0).1=0∧∃og,(og=none→(inP m k sp0).2.length=0)∧h=gh og 9 (inP m k sp0).2.length (strsF (inP m k sp0).2)∧x=.tup [.c (gs og 1 (inP m k sp0).2.length),.c .nilI])):=by
 have hkl:=gtsK_len hw2 k
 have f0:=gatesOf_fa m k hk hm.pg
 refine fh_of_body Tryz.func24 rfl rfl (by simp [Tryz.ntmps24]) fun C hC=> ?_
 simp only [initS,Nat.reduceAdd]
 repeat' first|refine zV o0 ?_|refine zH o0 (fun hb=>?_) fun hb=>?_|fail
 refine xB fun g1 hn_g1=>?_
 repeat' first|refine zV hn_g1 ?_|(refine yC2 hn_g1 (f0) ?_)|(refine yD2 hn_g1 (f0) ?_)|refine zH hn_g1 (fun hb=>?_) fun hb=>?_|fail
 generalize hF:frsS (inG m k) (gtsK m k) 0 sp0=F
 have hPn:F.1≠0→inP m k sp0=F:=fun h=>by unfold inP;rw [hF,if_neg h]
 have hP0:F.1=0→inP m k sp0=(tpC m k,F.2):=fun h=>by unfold inP;rw [hF,if_pos h]
 generalize hL:gtsK m k=L at*
 refine aw_lp (fun x:Nat×List BS×Option Nat=>[(1,.c (.int .i64 ((k:Int)-1))),(2,.c (gs x.2.2 1 x.2.1.length)),(3,.c (.optr g1 0)),(6,.c .nils),(7,.c .nilI),(15,.c (gts true L)),(16,.c (.int .i64 L.length)),(17,.c (.int .i64 x.1))]) (fun x=>[(g1,.cells 29 8 (ofL (mdc true m)))]++gh x.2.2 9 x.2.1.length (strsF x.2.1)) (fun x=>x.1≤L.length∧(x.2.2=none→x.2.1.length=0)∧x.2.1.length≤sp0.length+16*x.1∧frsS (inG m k) (L.drop x.1) x.1 x.2.1=F) (fun x=>L.length-x.1) (0,sp0,og0) (zB hn_g1) zZ ⟨Nat.zero_le _,hog0,by dsimp only;omega,hF⟩ ?_
 rintro ⟨i,sp,og⟩ ⟨hi,hog,hsz,hlp⟩
 dsimp only at hi hog hsz hlp⊢
 simp only [List.cons_append,List.nil_append]
 have fT1:=gate_fa (m.pages.getD (k-1) pg0).gates (m.pages.getD (k-1) pg0).top (by have:=(hw2.pg (k-1)).2;omega)
 have fT2:=event_fa m (m.pages.getD (k-1) pg0).top hm.ev
 repeat' first|refine zV hn_g1 ?_|(refine yC2 hn_g1 (fT1) ?_)|(refine yD2 hn_g1 (fT1) ?_)|(refine yC2 hn_g1 (fT2) ?_)|(refine yD2 hn_g1 (fT2) ?_)|refine zH hn_g1 (fun hb=>?_) fun hb=>?_|fail
 ·have hi':=hb
  have w1:=hI i
  have w2:=hin i
  have hlp2:=fun r=>frsS_ret (d:=gt0) (r:=r) hlp hi'
  have hgo:=fun r=>frsS_go (d:=gt0) (r:=r) hlp hi'
  clear hlp fT1 fT2
  generalize hx:L.getD i gt0=x at*
  refine yA hn_g1 fun g4 hn_g4=>?_
  all_goals try(have Z:=(oj hn_g1 hn_g4);(repeat' first|refine zV Z ?_|refine zH Z (fun hb=>?_) fun hb=>?_|fail);all_goals clear Z)
  generalize hF2:frsS (inI m k x) x.inputs 0 sp=F2
  have e2:inG m k i x sp=F2:=hF2
  rw [e2] at hlp2 hgo
  refine aw_lp (fun y:Nat×List BS×Option Nat=>[(1,.c (.int .i64 ((k:Int)-1))),(2,.c (gs y.2.2 1 y.2.1.length)),(3,.c (.optr g1 0)),(6,.c .nils),(7,.c .nilI),(9,.c (.optr g4 0)),(15,.c (gts true L)),(16,.c (.int .i64 L.length)),(17,.c (.int .i64 i)),(22,.c (strs true x.inputs)),(23,.c (.int .i64 x.inputs.length)),(24,.c (.int .i64 y.1))]) (fun y=>[(g4,.cells 60 7 (ofL (gtc x))),(g1,.cells 29 8 (ofL (mdc true m)))]++gh y.2.2 9 y.2.1.length (strsF y.2.1)) (fun y=>y.1≤x.inputs.length∧(y.2.2=none→y.2.1.length=0)∧y.2.1.length≤sp.length+y.1∧frsS (inI m k x) (x.inputs.drop y.1) y.1 y.2.1=F2) (fun y=>x.inputs.length-y.1) (0,sp,og) (zB (oj hn_g1 hn_g4)) zZ ⟨Nat.zero_le _,hog,by dsimp only;omega,hF2⟩ ?_
  rintro ⟨j,sq,oq⟩ ⟨hj,hoq,hsq,hlq⟩
  dsimp only at hj hoq hsq hlq⊢
  simp only [List.cons_append,List.nil_append]
  all_goals try(have Z:=(oj hn_g1 hn_g4);(repeat' first|refine zV Z ?_|refine zH Z (fun hb=>?_) fun hb=>?_|fail);all_goals clear Z)
  ·have hj':=hb
   have w3:=w2 j
   have hq2:=fun r=>frsS_ret (d:=([]:BS)) (r:=r) hlq hj'
   have hqg:=fun r=>frsS_go (d:=([]:BS)) (r:=r) hlq hj'
   clear hlq
   generalize hy:x.inputs.getD j []=y at*
   have hR:∀c s,inI m k x j y sq=(c,s)→c≠0→(inP m k sp0).1=c:=fun c s h1 h2=>by
    have a1:=hq2 _ h1 h2
    rw [a1] at hlp2
    have a2:=hlp2 _ rfl h2
    rw [hPn (by rw [a2];exact h2),a2]
   have f1:=isInput_fa m k y hk hm (by rw [hL];omega) w3
   have f2:=must_fa x j om
   have f3:=event_fa m y hm.ev
   have f4:=scontF_fa sq y om
   all_goals try(have Z:=(oj hn_g1 hn_g4);(repeat' first|refine zV Z ?_|(refine yC2 Z (f1) ?_)|(refine yD2 Z (f1) ?_)|(refine yC2 Z (f2) ?_)|(refine yD2 Z (f2) ?_)|(refine yC2 Z (f3) ?_)|(refine yD2 Z (f3) ?_)|refine zH Z (fun hb=>?_) fun hb=>?_|fail);all_goals clear Z)
   all_goals first
    |(refine aw_keep [(6,.c .nils),(7,.c (.ifc 38 (.int .i64 5)))] [] (zB (oj hn_g1 hn_g4)) (List.nil_sublist _) ?_
      have h5:=hR 5 sq (by
       unfold inI evI
       repeat' split
       all_goals first|rfl|(exfalso;simp_all;done)|(exfalso;simp_all;omega)) (by decide)
      refine yU (oj hn_g1 hn_g4) ?_
      rw [h5]
      exact .inl ⟨by decide,rfl,rfl⟩)
    |(refine aw_keep [(6,.c .nils),(7,.c (.ifc 38 (.int .i64 7)))] [] (zB (oj hn_g1 hn_g4)) (List.nil_sublist _) ?_
      have h5:=hR 7 sq (by
       unfold inI evI
       repeat' split
       all_goals first|rfl|(exfalso;simp_all;done)|(exfalso;simp_all;omega)) (by decide)
      refine yU (oj hn_g1 hn_g4) ?_
      rw [h5]
      exact .inl ⟨by decide,rfl,rfl⟩)
    |(refine aw_stop ⟨(j+1,sq,oq),?_⟩
      have hz:inI m k x j y sq=(0,sq):=by
       unfold inI evI
       repeat' split
       all_goals first|rfl|(exfalso;simp_all;done)|(exfalso;simp_all;omega)
      have hq:=hqg _ hz rfl
      and_intros
      all_goals first|rfl|exact List.Sublist.refl _|exact List.sublist_cons_self _ _|exact True.intro|exact hoq|exact hq|(dsimp only;omega))
    |skip
   all_goals
    have hk7:=hb
    refine aw_nd fun hnd=> ?_
    refine aw_callq f4 rfl rfl rfl (by refine yS (oj hn_g1 hn_g4) ?_;exact⟨.c (le_gst (pre:=[(g4,.cells 60 7 (ofL (gtc x))),(g1,.cells 29 8 (ofL (mdc true m)))]) hoq hnd),.c (.refl _)⟩) ?_
    have J1:=oj hn_g1 hn_g4
    refine yS J1 ?_
    all_goals try(have Z:=J1;(repeat' first|refine zV Z ?_|refine zH Z (fun hb=>?_) fun hb=>?_|fail);all_goals clear Z)
    ·refine aw_keep [(6,.c .nils),(7,.c (.ifc 38 (.int .i64 6)))] [] (zB J1) (List.nil_sublist _) ?_
     have h5:=hR 6 sq (by
      unfold inI evI
      repeat' split
      all_goals first|rfl|(exfalso;simp_all;done)|(exfalso;simp_all;omega)) (by decide)
     refine yU J1 ?_
     rw [h5]
     exact .inl ⟨by decide,rfl,rfl⟩
    ·have hz:inI m k x j y sq=(0,sq++[y]):=by
      unfold inI evI
      repeat' split
      all_goals first|rfl|(exfalso;simp_all;done)|(exfalso;simp_all;omega)
     have hq:=hqg _ hz rfl
     have hln:(sq++[y]).length=sq.length+1:=by rw [List.length_append];rfl
     refine aw_push (pre:=[(g4,.cells 60 7 (ofL (gtc x))),(g1,.cells 29 8 (ofL (mdc true m)))]) rfl rfl rfl rfl rfl rfl rfl (zE J1) (zE J1) (by rfl) om om (zE J1) om (by exact hoq) (zE J1) (by rfl) (by rfl) (by first|rfl|simp only [Nat.mul_one,List.nil_append,List.cons_append]<;>rfl) (by unfold maxLen;omega) om (by exact strs_push rfl y) fun gb hn_gb=> ?_
     replace hn_gb:=Heap.ne_of hn_gb
     first|dsimp only [Heap.ne,gh] at hn_gb|dsimp only [Heap.ne] at hn_gb|skip
     refine yS (oj hn_g1 (oj hn_g4 hn_gb)) ?_
     all_goals try(have Z:=(oj hn_g1 (oj hn_g4 hn_gb));(repeat' first|refine zV Z ?_|refine zH Z (fun hb=>?_) fun hb=>?_|fail);all_goals clear Z)
     refine aw_stop ⟨(j+1,sq++[y],some gb),?_⟩
     dsimp only
     simp only [hln]
     and_intros
     all_goals first|rfl|exact List.Sublist.refl _|exact List.sublist_cons_self _ _|exact True.intro|exact some_ne|exact hq|omega|trace_state
  ·have hF0:=frsS_fin hlq hb
   subst hF0
   refine aw_stop ⟨(i+1,sq,oq),?_⟩
   and_intros
   all_goals first|rfl|exact List.Sublist.refl _|exact List.sublist_cons_self _ _|exact True.intro|exact hoq|exact hgo _ rfl rfl|(dsimp only;omega)
 ·rename_i hi0 hk1 ha
  have hF0:=frsS_fin hlp hi0
  subst hF0
  have hT:inP m k sp0=(tpC m k,sp):=hP0 rfl
  have h5:tpC m k=5:=by
   obtain⟨q,rfl⟩:∃q,k=q+1:=⟨k-1,by omega⟩
   exact if_pos ⟨ha,hb⟩
  refine aw_keep [(6,.c .nils),(7,.c (.ifc 38 (.int .i64 5)))] [] (zB hn_g1) (List.nil_sublist _) ?_
  refine yU hn_g1 ?_
  rw [hT,h5]
  exact .inl ⟨show(5:Int)≠0 by decide,rfl,rfl⟩
 ·rename_i hi0 hk1 ha
  have hF0:=frsS_fin hlp hi0
  subst hF0
  have hT:inP m k sp0=(tpC m k,sp):=hP0 rfl
  have h0:tpC m k=0:=by
   obtain⟨q,rfl⟩:∃q,k=q+1:=⟨k-1,by omega⟩
   exact if_neg fun z=>hb z.2
  refine aw_keep [(6,.c (gs og 1 sp.length)),(7,.c .nilI)] (gh og 9 sp.length (strsF sp)) (zB hn_g1) (List.sublist_cons_self _ _) ?_
  refine yU hn_g1 ?_
  rw [hT,h0]
  exact .inr ⟨rfl,og,hog,rfl,rfl⟩
 ·rename_i hi0 hk1
  have hF0:=frsS_fin hlp hi0
  subst hF0
  have hT:inP m k sp0=(tpC m k,sp):=hP0 rfl
  have h0:tpC m k=0:=by
   obtain⟨q,rfl⟩:∃q,k=q+1:=⟨k-1,by omega⟩
   exact if_neg fun z=>hb z.1
  refine aw_keep [(6,.c (gs og 1 sp.length)),(7,.c .nilI)] (gh og 9 sp.length (strsF sp)) (zB hn_g1) (List.sublist_cons_self _ _) ?_
  refine yU hn_g1 ?_
  rw [hT,h0]
  exact .inr ⟨rfl,og,hog,rfl,rfl⟩
 ·rename_i hi0
  have hF0:=frsS_fin hlp hi0
  subst hF0
  have hT:inP m k sp0=(tpC m k,sp):=hP0 rfl
  have h0:tpC m k=0:=by
   have:k=0:=by omega
   subst this
   rfl
  refine aw_keep [(6,.c (gs og 1 sp.length)),(7,.c .nilI)] (gh og 9 sp.length (strsF sp)) (zB hn_g1) (List.sublist_cons_self _ _) ?_
  refine yU hn_g1 ?_
  rw [hT,h0]
  exact .inr ⟨rfl,og,hog,rfl,rfl⟩
end Go.Proofs.YtnmeahogifekdaaGreatDoor
namespace Go.PN
open Go.AI
structure MdWf4 (m:MdD):Prop where
 l:m.groups.length≤1099511627776
 gr:∀i,(m.groups.getD i gr0).name.length≤1099511627776∧(m.groups.getD i gr0).members.length≤1048576∧(m.groups.getD i gr0).factors.length≤1099511627776
 fa:∀i k,((m.groups.getD i gr0).factors.getD k rd0).wf 1073741824
end Go.PN
namespace Go.Proofs.YtnmeahogifekdaaGreatDoor
open Go.AI Go.PN
attribute [local irreducible] aw Fa Fh DrK
theorem checkGroups_fa (m:MdD) (hm:MdOk m) (hw:MdWf4 m):Fa Tryz.prog 26 [.agg (mdc true m)] (.c (errA (grsC m))):=by
 have hl:=hw.l
 refine fa_of_body Tryz.func26 rfl rfl (by simp [Tryz.ntmps26]) fun C hC=> ?_
 simp only [initS,Nat.reduceAdd]
 repeat' first|refine zV o0 ?_|refine zH o0 (fun hb=>?_) fun hb=>?_|fail
 refine xB fun g1 hn_g1=>?_
 repeat' first|refine zV hn_g1 ?_|refine zH hn_g1 (fun hb=>?_) fun hb=>?_|fail
 ·refine yT hC hn_g1 ?_
  exact .one (.c (ler_errE (by unfold grsC;rw [if_pos om]) (by decide)))
 have h8:m.groups.length≤8:=by omega
 have he2:grsC m=(frsS (grC m) m.groups 0 []).1:=by
  unfold grsC
  rw [if_neg om]
 generalize hF:frsS (grC m) m.groups 0 []=F at he2
 refine aw_lp (fun x:Nat×List BS×Option Nat=>[(1,.c (.optr g1 0)),(2,.c .nilI),(3,.c (gs x.2.2 1 x.2.1.length)),(16,.c (grs true m.groups)),(17,.c (.int .i64 m.groups.length)),(18,.c (.int .i64 x.1))]) (fun x=>[(g1,.cells 29 8 (ofL (mdc true m)))]++gh x.2.2 9 x.2.1.length (strsF x.2.1)) (fun x=>x.1≤m.groups.length∧(x.2.2=none→x.2.1.length=0)∧x.2.1.length≤1048576*x.1∧frsS (grC m) (m.groups.drop x.1) x.1 x.2.1=F) (fun x=>m.groups.length-x.1) (0,[],none) (zB hn_g1) zZ ⟨Nat.zero_le _,fun _=>rfl,Nat.zero_le _,hF⟩ ?_
 rintro ⟨i,ms,og⟩ ⟨hi,hog,hsz,hlp⟩
 dsimp only at hi hog hsz hlp⊢
 simp only [List.cons_append,List.nil_append]
 repeat' first|refine zV hn_g1 ?_|refine zH hn_g1 (fun hb=>?_) fun hb=>?_|fail
 ·obtain⟨w0,w1,w2⟩:=hw.gr i
  have w3:=hw.fa i
  have hi':=hb
  have hR:∀c s,grC m i (m.groups.getD i gr0) ms=(c,s)→c≠0→grsC m=c:=fun c s hc h0=>by
   rw [he2,frsS_ret hlp hi' hc h0]
  have hgo:=fun r=>frsS_go (d:=gr0) (r:=r) hlp hi'
  clear hlp
  generalize hx:m.groups.getD i gr0=x at*
  have f1:Fa Tryz.prog 20 [.c (.str (sB x.name))] (.c (.bool (nameOk x.name))):=tname_fa x.name w0
  refine yA hn_g1 fun g4 hn_g4=>?_
  all_goals try(have Z:=(oj hn_g1 hn_g4);(repeat' first|refine zV Z ?_|(refine yC2 Z (f1) ?_)|(refine yD2 Z (f1) ?_)|refine zH Z (fun hb=>?_) fun hb=>?_|fail);all_goals clear Z)
  ·refine yT hC (oj hn_g1 hn_g4) ?_
   refine .one (.c (ler_errE (c:=grsC m) (hR _ ms ?_ (by decide)) (by decide)))
   unfold grC
   rw [if_pos (by simpa using hb)]
  have hn1:=hb
  refine aw_makeFunc (gs:=[g4]) rfl rfl rfl (zE (oj hn_g1 hn_g4)) ?_
  have J1:=oj hn_g1 hn_g4
  refine yS J1 ?_
  have f2:=grI_fg g4 x m.groups hl
  have f3:=facC_fa x.factors w2 w3
  obtain⟨nm,kd,mb,fc⟩:=x
  dsimp only at*
  by_cases k0:kd=0
  ·subst k0
   all_goals try(have Z:=J1;(repeat' first|refine zV Z ?_|(refine zg Z (f2) ?_)|refine zH Z (fun hb=>?_) fun hb=>?_|fail);all_goals clear Z)
   all_goals clear f1 f2
   ·refine yT hC J1 ?_
    refine .one (.c (ler_errE (c:=grsC m) (hR _ ms ?_ (by decide)) (by decide)))
    unfold grC
    repeat' split
    all_goals first|rfl|(exfalso;simp_all;done)|(exfalso;simp_all;omega)
   ·refine yT hC J1 ?_
    refine .one (.c (ler_errE (c:=grsC m) (hR _ ms ?_ (by decide)) (by decide)))
    unfold grC
    repeat' split
    all_goals first|rfl|(exfalso;simp_all;done)|(exfalso;simp_all;omega)
   ·refine yT hC J1 ?_
    refine .one (.c (ler_errE (c:=grsC m) (hR _ ms ?_ (by decide)) (by decide)))
    unfold grC
    repeat' split
    all_goals first|rfl|(exfalso;simp_all;done)|(exfalso;simp_all;omega)
   ·refine yT hC J1 ?_
    refine .one (.c (ler_errE (c:=grsC m) (hR _ ms ?_ (by decide)) (by decide)))
    unfold grC
    repeat' split
    all_goals first|rfl|(exfalso;simp_all;done)|(exfalso;simp_all;omega)
   have hff:=hb
   generalize hF2:frsS (meC m) mb 0 ms=F2
   have hQ:grC m i ⟨nm,0,mb,fc⟩ ms=(if F2.1≠0 then F2 else if fc.all RD.prob=false then(3,ms) else(0,F2.2)):=by
    unfold grC
    dsimp only
    rw [hF2]
    rw [if_neg (by simpa using hn1),if_neg (by assumption),if_neg (by decide),if_neg (by simp;omega)]
   refine aw_lp (fun y:Nat×List BS×Option Nat=>[(1,.c (.optr g1 0)),(2,.c .nilI),(3,.c (gs y.2.2 1 y.2.1.length)),(5,.c (.optr g4 0)),(16,.c (grs true m.groups)),(17,.c (.int .i64 m.groups.length)),(18,.c (.int .i64 i)),(71,.c (strs true mb)),(72,.c (.int .i64 mb.length)),(73,.c (.int .i64 y.1))]) (fun y=>[(g4,.cells 55 4 (ofL (grc ⟨nm,0,mb,fc⟩))),(g1,.cells 29 8 (ofL (mdc true m)))]++gh y.2.2 9 y.2.1.length (strsF y.2.1)) (fun y=>y.1≤mb.length∧(y.2.2=none→y.2.1.length=0)∧y.2.1.length≤ms.length+y.1∧frsS (meC m) (mb.drop y.1) y.1 y.2.1=F2) (fun y=>mb.length-y.1) (0,ms,og) (zB J1) zZ ⟨Nat.zero_le _,hog,by dsimp only;omega,hF2⟩ ?_
   rintro ⟨j,sq,oq⟩ ⟨hj,hoq,hsq,hlq⟩
   dsimp only at hj hoq hsq hlq⊢
   simp only [List.cons_append,List.nil_append]
   all_goals try(have Z:=J1;(repeat' first|refine zV Z ?_|(refine yC2 Z (f3) ?_)|(refine yD2 Z (f3) ?_)|refine zH Z (fun hb=>?_) fun hb=>?_|fail);all_goals clear Z)
   ·have hj':=hb
    have hq2:=fun r=>frsS_ret (d:=([]:BS)) (r:=r) hlq hj'
    have hqg:=fun r=>frsS_go (d:=([]:BS)) (r:=r) hlq hj'
    clear hlq J1
    generalize hy:mb.getD j []=y at*
    have hR2:∀c s,meC m j y sq=(c,s)→c≠0→grsC m=c:=fun c s h1 h2=>by
     have a1:=hq2 _ h1 h2
     refine hR c s ?_ h2
     rw [hQ,a1]
     exact if_pos h2
    have f5:=event_fa m y hm.ev
    have f4:=scontF_fa sq y om
    all_goals try(have Z:=(oj hn_g1 hn_g4);(repeat' first|refine zV Z ?_|(refine yC2 Z (f5) ?_)|(refine yD2 Z (f5) ?_)|refine zH Z (fun hb=>?_) fun hb=>?_|fail);all_goals clear Z)
    ·refine yT hC (oj hn_g1 hn_g4) ?_
     refine .one (.c (ler_errE (c:=grsC m) (hR2 _ sq ?_ (by decide)) (by decide)))
     unfold meC evI
     rw [if_pos hb]
    have h5:=hb
    refine aw_nd fun hnd=> ?_
    refine aw_callq f4 rfl rfl rfl (by refine yS (oj hn_g1 hn_g4) ?_;exact⟨.c (le_gst (pre:=[(g4,.cells 55 4 (ofL (grc ⟨nm,0,mb,fc⟩))),(g1,.cells 29 8 (ofL (mdc true m)))]) hoq hnd),.c (.refl _)⟩) ?_
    have J2:=oj hn_g1 hn_g4
    refine yS J2 ?_
    all_goals try(have Z:=J2;(repeat' first|refine zV Z ?_|refine zH Z (fun hb=>?_) fun hb=>?_|fail);all_goals clear Z)
    ·refine yT hC J2 ?_
     refine .one (.c (ler_errE (c:=grsC m) (hR2 _ sq ?_ (by decide)) (by decide)))
     unfold meC evI
     rw [if_neg h5,if_pos hb]
    ·have hz:meC m j y sq=(0,sq++[y]):=by
      unfold meC evI
      rw [if_neg h5,if_neg (by simpa using hb)]
     have hq:=hqg _ hz rfl
     have hln:(sq++[y]).length=sq.length+1:=by rw [List.length_append];rfl
     refine aw_push (pre:=[(g4,.cells 55 4 (ofL (grc ⟨nm,0,mb,fc⟩))),(g1,.cells 29 8 (ofL (mdc true m)))]) rfl rfl rfl rfl rfl rfl rfl (zE J2) (zE J2) (by rfl) om om (zE J2) om (by exact hoq) (zE J2) (by rfl) (by rfl) (by first|rfl|simp only [Nat.mul_one,List.nil_append,List.cons_append]<;>rfl) (by unfold maxLen;omega) om (by exact strs_push rfl y) fun gb hn_gb=> ?_
     replace hn_gb:=Heap.ne_of hn_gb
     first|dsimp only [Heap.ne,gh] at hn_gb|dsimp only [Heap.ne] at hn_gb|skip
     refine yS (oj hn_g1 (oj hn_g4 hn_gb)) ?_
     all_goals try(have Z:=(oj hn_g1 (oj hn_g4 hn_gb));(repeat' first|refine zV Z ?_|refine zH Z (fun hb=>?_) fun hb=>?_|fail);all_goals clear Z)
     refine aw_stop ⟨(j+1,sq++[y],some gb),?_⟩
     dsimp only
     simp only [hln]
     and_intros
     all_goals first|rfl|exact List.Sublist.refl _|exact List.sublist_cons_self _ _|exact True.intro|exact some_ne|exact hq|omega
   ·rename_i hj0
    have hF0:=frsS_fin hlq hj0
    refine yT hC (oj hn_g1 hn_g4) ?_
    refine .one (.c (ler_errE (c:=grsC m) (hR _ ms ?_ (by decide)) (by decide)))
    rw [hQ,hF0,if_neg (by simp),if_pos (by simpa using hb)]
   ·rename_i hj0
    have hF0:=frsS_fin hlq hj0
    have hz:grC m i ⟨nm,0,mb,fc⟩ ms=(0,sq):=by
     rw [hQ,hF0,if_neg (by simp),if_neg (by simpa using hb)]
    have hq:=hgo _ hz rfl
    refine aw_stop ⟨(i+1,sq,oq),?_⟩
    and_intros
    all_goals first|rfl|exact List.Sublist.refl _|exact List.sublist_cons_self _ _|exact True.intro|exact hoq|exact hq|(dsimp only;omega)
  by_cases k1:kd=1
  ·subst k1
   all_goals try(have Z:=(oj hn_g1 hn_g4);(repeat' first|refine zV Z ?_|(refine zg Z (f2) ?_)|refine zH Z (fun hb=>?_) fun hb=>?_|fail);all_goals clear Z)
   ·refine yT hC (oj hn_g1 hn_g4) ?_
    refine .one (.c (ler_errE (c:=grsC m) (hR _ ms ?_ (by decide)) (by decide)))
    unfold grC
    repeat' split
    all_goals first|rfl|(exfalso;simp_all;done)|(exfalso;simp_all;omega)
   refine aw_dr 6 ty_mixed (by kernel_rfl) ?_
   all_goals try(have Z:=(oj hn_g1 hn_g4);(repeat' first|refine zV Z ?_|refine zH Z (fun hb=>?_) fun hb=>?_|fail);all_goals clear Z)
   all_goals clear f1 f2
   ·refine yT hC (oj hn_g1 hn_g4) ?_
    refine .one (.c (ler_errE (c:=grsC m) (hR _ ms ?_ (by decide)) (by decide)))
    unfold grC
    repeat' split
    all_goals first|rfl|(exfalso;simp_all;done)|(exfalso;simp_all;omega)
   ·refine yT hC (oj hn_g1 hn_g4) ?_
    refine .one (.c (ler_errE (c:=grsC m) (hR _ ms ?_ (by decide)) (by decide)))
    unfold grC
    repeat' split
    all_goals first|rfl|(exfalso;simp_all;done)|(exfalso;simp_all;omega)
   ·refine yT hC (oj hn_g1 hn_g4) ?_
    refine .one (.c (ler_errE (c:=grsC m) (hR _ ms ?_ (by decide)) (by decide)))
    unfold grC
    repeat' split
    all_goals first|rfl|(exfalso;simp_all;done)|(exfalso;simp_all;omega)
   have hff:=hb
   generalize hF2:frsS (meC m) mb 0 ms=F2
   have hQ:grC m i ⟨nm,1,mb,fc⟩ ms=(if F2.1≠0 then F2 else if fc.all RD.prob=false then(3,ms) else(0,F2.2)):=by
    unfold grC
    dsimp only
    rw [hF2]
    rw [if_neg (by simpa using hn1),if_neg (by assumption),if_neg (by decide),if_neg (by simp;omega)]
   refine aw_lp (fun y:Nat×List BS×Option Nat=>[(1,.c (.optr g1 0)),(2,.c .nilI),(3,.c (gs y.2.2 1 y.2.1.length)),(5,.c (.optr g4 0)),(16,.c (grs true m.groups)),(17,.c (.int .i64 m.groups.length)),(18,.c (.int .i64 i)),(71,.c (strs true mb)),(72,.c (.int .i64 mb.length)),(73,.c (.int .i64 y.1))]) (fun y=>[(g4,.cells 55 4 (ofL (grc ⟨nm,1,mb,fc⟩))),(g1,.cells 29 8 (ofL (mdc true m)))]++gh y.2.2 9 y.2.1.length (strsF y.2.1)) (fun y=>y.1≤mb.length∧(y.2.2=none→y.2.1.length=0)∧y.2.1.length≤ms.length+y.1∧frsS (meC m) (mb.drop y.1) y.1 y.2.1=F2) (fun y=>mb.length-y.1) (0,ms,og) (zB (oj hn_g1 hn_g4)) zZ ⟨Nat.zero_le _,hog,by dsimp only;omega,hF2⟩ ?_
   rintro ⟨j,sq,oq⟩ ⟨hj,hoq,hsq,hlq⟩
   dsimp only at hj hoq hsq hlq⊢
   simp only [List.cons_append,List.nil_append]
   all_goals try(have Z:=(oj hn_g1 hn_g4);(repeat' first|refine zV Z ?_|(refine yC2 Z (f3) ?_)|(refine yD2 Z (f3) ?_)|refine zH Z (fun hb=>?_) fun hb=>?_|fail);all_goals clear Z)
   ·have hj':=hb
    have hq2:=fun r=>frsS_ret (d:=([]:BS)) (r:=r) hlq hj'
    have hqg:=fun r=>frsS_go (d:=([]:BS)) (r:=r) hlq hj'
    clear hlq
    generalize hy:mb.getD j []=y at*
    have hR2:∀c s,meC m j y sq=(c,s)→c≠0→grsC m=c:=fun c s h1 h2=>by
     have a1:=hq2 _ h1 h2
     refine hR c s ?_ h2
     rw [hQ,a1]
     exact if_pos h2
    have f5:=event_fa m y hm.ev
    have f4:=scontF_fa sq y om
    all_goals try(have Z:=(oj hn_g1 hn_g4);(repeat' first|refine zV Z ?_|(refine yC2 Z (f5) ?_)|(refine yD2 Z (f5) ?_)|refine zH Z (fun hb=>?_) fun hb=>?_|fail);all_goals clear Z)
    ·refine yT hC (oj hn_g1 hn_g4) ?_
     refine .one (.c (ler_errE (c:=grsC m) (hR2 _ sq ?_ (by decide)) (by decide)))
     unfold meC evI
     rw [if_pos hb]
    have h5:=hb
    refine aw_nd fun hnd=> ?_
    refine aw_callq f4 rfl rfl rfl (by refine yS (oj hn_g1 hn_g4) ?_;exact⟨.c (le_gst (pre:=[(g4,.cells 55 4 (ofL (grc ⟨nm,1,mb,fc⟩))),(g1,.cells 29 8 (ofL (mdc true m)))]) hoq hnd),.c (.refl _)⟩) ?_
    have J3:=oj hn_g1 hn_g4
    refine yS J3 ?_
    all_goals try(have Z:=J3;(repeat' first|refine zV Z ?_|refine zH Z (fun hb=>?_) fun hb=>?_|fail);all_goals clear Z)
    ·refine yT hC J3 ?_
     refine .one (.c (ler_errE (c:=grsC m) (hR2 _ sq ?_ (by decide)) (by decide)))
     unfold meC evI
     rw [if_neg h5,if_pos hb]
    ·have hz:meC m j y sq=(0,sq++[y]):=by
      unfold meC evI
      rw [if_neg h5,if_neg (by simpa using hb)]
     have hq:=hqg _ hz rfl
     have hln:(sq++[y]).length=sq.length+1:=by rw [List.length_append];rfl
     refine aw_push (pre:=[(g4,.cells 55 4 (ofL (grc ⟨nm,1,mb,fc⟩))),(g1,.cells 29 8 (ofL (mdc true m)))]) rfl rfl rfl rfl rfl rfl rfl (zE J3) (zE J3) (by rfl) om om (zE J3) om (by exact hoq) (zE J3) (by rfl) (by rfl) (by first|rfl|simp only [Nat.mul_one,List.nil_append,List.cons_append]<;>rfl) (by unfold maxLen;omega) om (by exact strs_push rfl y) fun gb hn_gb=> ?_
     replace hn_gb:=Heap.ne_of hn_gb
     first|dsimp only [Heap.ne,gh] at hn_gb|dsimp only [Heap.ne] at hn_gb|skip
     refine yS (oj hn_g1 (oj hn_g4 hn_gb)) ?_
     all_goals try(have Z:=(oj hn_g1 (oj hn_g4 hn_gb));(repeat' first|refine zV Z ?_|refine zH Z (fun hb=>?_) fun hb=>?_|fail);all_goals clear Z)
     refine aw_stop ⟨(j+1,sq++[y],some gb),?_⟩
     dsimp only
     simp only [hln]
     and_intros
     all_goals first|rfl|exact List.Sublist.refl _|exact List.sublist_cons_self _ _|exact True.intro|exact some_ne|exact hq|omega
   ·rename_i hj0
    have hF0:=frsS_fin hlq hj0
    refine yT hC (oj hn_g1 hn_g4) ?_
    refine .one (.c (ler_errE (c:=grsC m) (hR _ ms ?_ (by decide)) (by decide)))
    rw [hQ,hF0,if_neg (by simp),if_pos (by simpa using hb)]
   ·rename_i hj0
    have hF0:=frsS_fin hlq hj0
    have hz:grC m i ⟨nm,1,mb,fc⟩ ms=(0,sq):=by
     rw [hQ,hF0,if_neg (by simp),if_neg (by simpa using hb)]
    have hq:=hgo _ hz rfl
    refine aw_stop ⟨(i+1,sq,oq),?_⟩
    and_intros
    all_goals first|rfl|exact List.Sublist.refl _|exact List.sublist_cons_self _ _|exact True.intro|exact hoq|exact hq|(dsimp only;omega)
  ·all_goals try(have Z:=(oj hn_g1 hn_g4);(repeat' first|refine zV Z ?_|(refine zg Z (f2) ?_)|refine zH Z (fun hb=>?_) fun hb=>?_|fail);all_goals clear Z)
   all_goals clear f1 f2
   all_goals first
    |(exfalso;omega)
    |(refine yT hC (oj hn_g1 hn_g4) ?_
      refine .one (.c (ler_errE (c:=grsC m) (hR _ ms ?_ (by decide)) (by decide)))
      unfold grC
      repeat' split
      all_goals first|rfl|(exfalso;simp_all;done)|(exfalso;simp_all;omega))
 ·have hF0:=frsS_fin hlp hb
  subst hF0
  refine yT hC hn_g1 ?_
  exact .one (.c (ler_err0 he2))
end Go.Proofs.YtnmeahogifekdaaGreatDoor
namespace Go.PN
open Go.AI
variable {α β γ : Type}
abbrev BG:Nat:=1048576
def TB (s:PS):Prop:=∀t∈s.l,t.text.length≤BG
theorem TB.suf {s r:PS} (h:TB s) (hs:r.l<:+s.l):TB r:=fun t ht=>h t (hs.subset ht)
def SzO (P:α→Prop) (f:PS→α×PS):Prop:=∀s,TB s→P (f s).1
theorem SzO.bnd {P:α→Prop} {Q:β→Prop} {f:PS→α×PS} {k:α→PS→β×PS} (h:SzO P f) (hf:Rdr f) (hk:∀a,P a→SzO Q (k a)):SzO Q (bnd f k):=fun s hs=>hk _ (h s hs) _ (hs.suf (hf.suf s))
theorem SzO.pure {P:α→Prop} {a:α} (h:P a):SzO P fun s=>(a,s):=fun _ _=>h
theorem SzO.ite {P:α→Prop} {c:PS→Prop} [DecidablePred c] {f g:PS→α×PS} (hf:SzO P f) (hg:SzO P g):SzO P fun s=>if c s then f s else g s:=fun s hs=>by
 dsimp only
 split
 ·exact hf s hs
 ·exact hg s hs
theorem SzO.unit {f:PS→Unit×PS}:SzO (fun _=>True) f:=fun _ _=>trivial
theorem sz_take (m:PS→Bool):SzO (fun x:BS=>x.length≤BG) fun s=>takeS (m s) s:=fun s hs=>by
 dsimp only
 unfold takeS
 split
 ·split
  ·exact Nat.zero_le _
  ·rename_i t l e
   split
   ·exact hs t (by rw [e];exact List.mem_cons_self)
   ·exact Nat.zero_le _
 ·exact Nat.zero_le _
theorem sz_word:SzO (fun x:BS=>x.length≤BG) wordS:=sz_take _
abbrev RdOk (r:RD):Prop:=r.wf 1000
theorem rd0_ok:RdOk rd0:=⟨fun x hx=>(by cases hx),fun x hx=>(by cases hx),Nat.zero_le _,Nat.zero_le _⟩
theorem valR_ok (s:BS):RdOk (valR s):=(valR_wf s).mono (by decide)
theorem sz_num:SzO RdOk numS:=fun s _=>by
 unfold numS
 dsimp only
 split
 ·exact valR_ok _
 ·exact rd0_ok
theorem sz_input:SzO (fun x:BS=>x.length≤BG+1) inputS:=fun s hs=>by
 unfold inputS
 split
 ·exact Nat.succ_le_succ (sz_word _ (hs.suf ((rdr_exp kAt).suf s)))
 ·exact Nat.le_succ_of_le (sz_word s hs)
theorem loop_inv {J:α→PS→Prop} {c:PS→Bool} {b:α→PS→α×PS} (hb:∀a s,s.e=0→J a s→J (b a s).1 (b a s).2):∀(n:Nat) (a:α) (s:PS),J a s→J (loopS c b n a s).1 (loopS c b n a s).2
 |0,_,_,h=>h
 |n+1,a,s,h=>by
  unfold loopS
  split
  ·rename_i e
   exact loop_inv hb n _ _ (hb a s e.1 h)
  ·exact h
def GrO (P:α→Prop) (N:Nat) (a:List α) (s:PS):Prop:=TB s∧a.length+mS s≤N∧∀x∈a,P x
theorem gr_step {P:α→Prop} {N:Nat} {a:List α} {s:PS} {x:α} {s':PS} (h:GrO P N a s) (hs:s'.l<:+s.l) (hm:mS s'<mS s) (hx:P x):GrO P N (a++[x]) s':=
 ⟨h.1.suf hs,by rw [List.length_append,List.length_singleton];have:=h.2.1;omega,fun y hy=>by
  rcases List.mem_append.1 hy with e|e
  ·exact h.2.2 y e
  ·rw [List.mem_singleton.1 e];exact hx⟩
abbrev NG:Nat:=1048576
def EvO (x:EvD):Prop:=x.name.length≤BG∧RdOk x.p∧RdOk x.fail∧RdOk x.rep
def HsO (x:HsD):Prop:=x.name.length≤BG
def GtO (x:GtD):Prop:=x.name.length≤BG∧RdOk x.dorm∧x.inputs.length≤NG∧∀i∈x.inputs,i.length≤BG+1
def PgO (x:PgD):Prop:=x.name.length≤BG∧x.top.length≤BG+1∧x.gates.length≤NG∧∀g∈x.gates,GtO g
def GrpO (x:GrD):Prop:=x.name.length≤BG∧x.members.length≤NG∧(∀n∈x.members,n.length≤BG)∧x.factors.length≤NG∧∀r∈x.factors,RdOk r
def VlO (x:VlD):Prop:=x.event.length≤BG∧RdOk x.p
def PhO (x:PhD):Prop:=x.name.length≤BG∧x.top.length≤BG+1∧x.values.length≤NG∧∀v∈x.values,VlO v
def SzN (P:α→Prop) (f:PS→α×PS):Prop:=∀s,TB s→mS s≤NG→P (f s).1
theorem SzO.n {P:α→Prop} {f:PS→α×PS} (h:SzO P f):SzN P f:=fun s hs _=>h s hs
theorem SzN.bnd {P:α→Prop} {Q:β→Prop} {f:PS→α×PS} {k:α→PS→β×PS} (h:SzN P f) (hf:Rdr f) (hk:∀a,P a→SzN Q (k a)):SzN Q (bnd f k):=fun s hs hm=>hk _ (h s hs hm) _ (hs.suf (hf.suf s)) (Nat.le_trans (rdr_mS hf s) hm)
theorem SzN.pure {P:α→Prop} {a:α} (h:P a):SzN P fun s=>(a,s):=fun _ _ _=>h
theorem SzN.unit {f:PS→Unit×PS}:SzN (fun _=>True) f:=fun _ _ _=>trivial
theorem szn_loop {P:α→Prop} {c:PS→Bool} {f:PS→α×PS} {b:List α→PS→List α×PS} (hb:∀a s,b a s=(a++[(f s).1],(f s).2)) (rf:Rdr f) (cf:Con f) (hf:SzN P f):SzN (fun l=>l.length≤NG∧∀x∈l,P x) (lpS c b []):=fun s ht hN=>by
 have:=loop_inv (J:=fun a s=>GrO P NG a s∧mS s≤NG) (c:=c) (b:=b) (fun a s e h=>by
  rw [hb]
  exact⟨gr_step h.1 (rf.suf s) (cf s e) (hf s h.1.1 h.2),Nat.le_trans (rdr_mS rf s) h.2⟩) (mS s) [] s ⟨⟨ht,by simpa using hN,fun _ h=>by cases h⟩,hN⟩
 exact⟨by have:=this.1.2.1;unfold lpS;omega,this.1.2.2⟩
theorem sz_gate:SzN GtO gateS:=by
 rw [gateS_eq]
 refine SzN.bnd sz_word.n rdr_word fun nm hn=>SzN.bnd (P:=fun _=>True) (fun _ _ _=>trivial) rdr_gk fun k _=> ?_
 refine SzN.bnd (P:=fun _=>True) (fun _ _ _=>trivial) (rdr_ite rdr_whole (rdr_pure 0)) fun v _=> ?_
 refine SzN.bnd (P:=RdOk) (SzO.ite (c:=fun _=>k=some 7) sz_num (SzO.pure rd0_ok)).n (rdr_ite rdr_num (rdr_pure rd0)) fun d hd=> ?_
 refine SzN.bnd (P:=fun l:List BS=>l.length≤NG∧∀x∈l,x.length≤BG+1) ?_ rdr_ins fun q hq=>SzN.pure ⟨hn,hd,hq⟩
 exact SzN.bnd (Q:=fun l:List BS=>l.length≤NG∧∀x∈l,x.length≤BG+1) (szn_loop (fun _ _=>rfl) rdr_input con_input sz_input.n) (rdr_lp rdr_inB []) fun q hq=>SzN.bnd (Q:=fun l:List BS=>l.length≤NG∧∀x∈l,x.length≤BG+1) SzN.unit (rdr_exp kSemi) fun _ _=>SzN.pure (P:=fun l:List BS=>l.length≤NG∧∀x∈l,x.length≤BG+1) hq
theorem sz_topK {P:α→Prop} {k:BS→PS→α×PS} (h:∀t,t.length≤BG+1→SzN P (k t)):SzN P (topK k):=
 SzN.bnd SzN.unit (rdr_exp _) fun _ _=>SzN.bnd sz_input.n rdr_input fun t ht=>SzN.bnd SzN.unit (rdr_exp _) fun _ _=>h t ht
theorem sz_page:SzN PgO pageS:=by
 rw [pageS_eq]
 refine SzN.bnd sz_word.n rdr_word fun nm hn=>sz_topK fun t ht=> ?_
 refine SzN.bnd (szn_loop (P:=GtO) (f:=PN.bnd (fun s=>((),expS kGate s)) fun _=>gateS) (fun _ _=>rfl) (Rdr.bnd (rdr_exp kGate) fun _=>rdr_gate) (Con.bnd (con_exp kGate) fun _=>rdr_gate) (SzN.bnd SzN.unit (rdr_exp kGate) fun _ _=>sz_gate)) (rdr_lp rdr_pgB _) fun q hq=> ?_
 exact SzN.bnd SzN.unit (rdr_exp _) fun _ _=>SzN.pure ⟨hn,ht,hq⟩
theorem sz_phase:SzN PhO phaseS:=by
 rw [phaseS_eq]
 refine SzN.bnd sz_word.n rdr_word fun nm hn=>sz_topK fun t ht=> ?_
 refine SzN.bnd (szn_loop (P:=VlO) (f:=PN.bnd wordS fun w=>PN.bnd numS fun q=>PN.bnd (fun s=>((),expS kSemi s)) fun _ s=>((⟨w,q⟩:VlD),s)) (fun _ _=>rfl) (Rdr.bnd rdr_word fun w=>Rdr.bnd rdr_num fun q=>Rdr.bnd (rdr_exp kSemi) fun _=>rdr_pure _) (Con.bnd con_word fun w=>Rdr.bnd rdr_num fun q=>Rdr.bnd (rdr_exp kSemi) fun _=>rdr_pure _) ?_) (rdr_lp rdr_vlB _) fun q hq=> ?_
 ·exact SzN.bnd sz_word.n rdr_word fun w hw=>SzN.bnd sz_num.n rdr_num fun q hq=>SzN.bnd SzN.unit (rdr_exp kSemi) fun _ _=>SzN.pure ⟨hw,hq⟩
 ·exact SzN.bnd SzN.unit (rdr_exp _) fun _ _=>SzN.pure ⟨hn,ht,hq⟩
theorem sz_group:SzN GrpO groupS:=by
 rw [groupS_eq]
 refine SzN.bnd sz_word.n rdr_word fun nm hn=>SzN.bnd (P:=fun _=>True) (fun _ _ _=>trivial) rdr_grT fun g _=> ?_
 refine SzN.bnd (szn_loop (P:=RdOk) (f:=numS) (fun _ _=>rfl) rdr_num con_num sz_num.n) (rdr_lp rdr_facB _) fun f hf=>SzN.bnd SzN.unit (rdr_exp _) fun _ _=> ?_
 refine SzN.bnd (szn_loop (P:=fun x:BS=>x.length≤BG) (f:=wordS) (fun _ _=>rfl) rdr_word con_word sz_word.n) (rdr_lp rdr_memB _) fun m hm=>SzN.bnd SzN.unit (rdr_exp _) fun _ _=>SzN.pure ⟨hn,hm.1,hm.2,hf⟩
theorem sz_house:SzN HsO houseS:=by
 rw [houseS_eq]
 exact SzN.bnd sz_word.n rdr_word fun nm hn=>SzN.bnd (P:=fun _=>True) (fun _ _ _=>trivial) rdr_hsT fun b _=>SzN.bnd SzN.unit (rdr_exp _) fun _ _=>SzN.pure hn
theorem sz_event:SzN EvO eventS:=fun s hs _=>by
 have hw:=sz_word s hs
 have:=loop_inv (J:=fun(x:List BS×EvD) (_:PS)=>EvO x.2) (c:=fun s=> !isS s kSemi) (b:=evB) (fun a s _ h=>by
  have hn:∀r,RdOk (numS r).1:=fun r=>by
   unfold numS
   dsimp only
   split
   ·exact valR_ok _
   ·exact rd0_ok
  unfold evB
  dsimp only
  split
  ·exact h
  split
  ·exact⟨h.1,hn _,h.2.2⟩
  split
  ·exact⟨h.1,h.2.1,hn _,h.2.2.2⟩
  split
  ·exact⟨h.1,h.2.1,h.2.2.1,hn _⟩
  split<;>exact h) (mS (wordS s).2) ([],{ev0 with name:=(wordS s).1}) (wordS s).2 ⟨hw,rd0_ok,rd0_ok,rd0_ok⟩
 exact this
structure MdO (m:MdD):Prop where
 nm:m.name.length≤BG
 tp:m.top.length≤BG+1
 ev:m.events.length≤NG∧∀x∈m.events,EvO x
 hs:m.houses.length≤NG∧∀x∈m.houses,HsO x
 gt:m.gates.length≤NG∧∀x∈m.gates,GtO x
 pg:m.pages.length≤NG∧∀x∈m.pages,PgO x
 gr:m.groups.length≤NG∧∀x∈m.groups,GrpO x
 ph:m.phases.length≤NG∧∀x∈m.phases,PhO x
structure MdR (m:MdD) (s:PS):Prop where
 nm:m.name.length≤BG
 tp:m.top.length≤BG+1
 ev:GrO EvO NG m.events s
 hs:GrO HsO NG m.houses s
 gt:GrO GtO NG m.gates s
 pg:GrO PgO NG m.pages s
 gr:GrO GrpO NG m.groups s
 ph:GrO PhO NG m.phases s
theorem gr_keep {P:α→Prop} {N:Nat} {a:List α} {s s':PS} (h:GrO P N a s) (hs:s'.l<:+s.l) (hm:mS s'≤mS s):GrO P N a s':=⟨h.1.suf hs,by have:=h.2.1;omega,h.2.2⟩
theorem MdR.keep {m:MdD} {s s':PS} (h:MdR m s) (hs:s'.l<:+s.l) (hm:mS s'≤mS s):MdR m s':=
 ⟨h.nm,h.tp,gr_keep h.ev hs hm,gr_keep h.hs hs hm,gr_keep h.gt hs hm,gr_keep h.pg hs hm,gr_keep h.gr hs hm,gr_keep h.ph hs hm⟩
theorem mdr_step {m:MdD} {s:PS} (e0:s.e=0) (h:MdR m s):MdR (stB m s).1 (stB m s).2:=by
 have hsf:=(rdr_stB m).suf s
 have hcm:=con_stB m s e0
 have hm:mS s≤NG:=by have:=h.ev.2.1;omega
 have rt:=rdr_take stM
 have ht:TB (takeS (stM s) s).2:=h.ev.1.suf (rt.suf s)
 have hmt:mS (takeS (stM s) s).2≤NG:=Nat.le_trans (rdr_mS rt s) hm
 unfold stB at hsf hcm⊢
 dsimp only at hsf hcm⊢
 change TB (takeS (isS s kEvent||isS s kHouse||isS s kGate||isS s kPage||isS s kGroup||isS s kPhase) s).2 at ht
 change mS (takeS (isS s kEvent||isS s kHouse||isS s kGate||isS s kPage||isS s kGroup||isS s kPhase) s).2≤NG at hmt
 generalize takeS (isS s kEvent||isS s kHouse||isS s kGate||isS s kPage||isS s kGroup||isS s kPhase) s=r at*
 have kp:∀{s':PS},s'.l<:+s.l→mS s'<mS s→MdR m s':=fun a b=>h.keep a (Nat.le_of_lt b)
 split at hsf
 ·rename_i e
  rw [if_pos e] at hcm⊢
  exact {kp hsf hcm with ev:=gr_step h.ev hsf hcm (sz_event _ ht hmt)}
 rename_i e;rw [if_neg e] at hcm⊢
 split at hsf
 ·rename_i e
  rw [if_pos e] at hcm⊢
  exact {kp hsf hcm with hs:=gr_step h.hs hsf hcm (sz_house _ ht hmt)}
 rename_i e;rw [if_neg e] at hcm⊢
 split at hsf
 ·rename_i e
  rw [if_pos e] at hcm⊢
  exact {kp hsf hcm with gt:=gr_step h.gt hsf hcm (sz_gate _ ht hmt)}
 rename_i e;rw [if_neg e] at hcm⊢
 split at hsf
 ·rename_i e
  rw [if_pos e] at hcm⊢
  exact {kp hsf hcm with pg:=gr_step h.pg hsf hcm (sz_page _ ht hmt)}
 rename_i e;rw [if_neg e] at hcm⊢
 split at hsf
 ·rename_i e
  rw [if_pos e] at hcm⊢
  exact {kp hsf hcm with gr:=gr_step h.gr hsf hcm (sz_group _ ht hmt)}
 rename_i e;rw [if_neg e] at hcm⊢
 split at hsf
 ·rename_i e
  rw [if_pos e] at hcm⊢
  exact {kp hsf hcm with ph:=gr_step h.ph hsf hcm (sz_phase _ ht hmt)}
 rename_i e;rw [if_neg e] at hcm⊢
 exact kp hsf hcm
theorem sz_read:SzN MdO readS:=by
 rw [readS_eq]
 refine SzN.bnd SzN.unit (rdr_exp _) fun _ _=>SzN.bnd sz_word.n rdr_word fun nm hn=>SzN.bnd SzN.unit (rdr_exp _) fun _ _=> ?_
 intro s hs hm
 have g0:∀{α:Type} (P:α→Prop),GrO P NG [] s:=fun P=>⟨hs,by simpa using hm,fun _ h=>by cases h⟩
 have h0:MdR {md0 with name:=nm} s:=⟨hn,Nat.zero_le _,g0 _,g0 _,g0 _,g0 _,g0 _,g0 _⟩
 have h1:=loop_inv (J:=MdR) (c:=fun s=> !isS s kTop) (b:=stB) (fun a s e h=>mdr_step e h) (mS s) _ _ h0
 have ht:∀x:MdD,MdR x (lpS (fun s=> !isS s kTop) stB {md0 with name:=nm} s).2→SzN MdO (rdK x):=fun x hx=>by
  refine SzN.bnd SzN.unit (rdr_exp _) fun _ _=>SzN.bnd sz_input.n rdr_input fun t ht=>SzN.bnd SzN.unit (rdr_exp _) fun _ _=> ?_
  have gl:∀{α:Type} {P:α→Prop} {l:List α} {r:PS},GrO P NG l r→l.length≤NG∧∀x∈l,P x:=fun h=>⟨by have:=h.2.1;omega,h.2.2⟩
  exact fun _ _ _=>⟨hx.nm,ht,gl hx.ev,gl hx.hs,gl hx.gt,gl hx.pg,gl hx.gr,gl hx.ph⟩
 have h1':MdR (lpS (fun s=> !isS s kTop) stB {md0 with name:=nm} s).1 (lpS (fun s=> !isS s kTop) stB {md0 with name:=nm} s).2:=h1
 exact ht _ h1' _ h1'.ev.1 (by have:=h1'.ev.2.1;omega)
theorem getD_all {P:α→Prop} {l:List α} {d:α} (h:∀x∈l,P x) (hd:P d) (i:Nat):P (l.getD i d):=by
 rw [List.getD_eq_getElem?_getD]
 by_cases hi:i<l.length
 ·rw [List.getElem?_eq_getElem hi];exact h _ (List.getElem_mem hi)
 ·rw [List.getElem?_eq_none om];exact hd
theorem gt0_o:GtO gt0:=⟨Nat.zero_le _,rd0_ok,Nat.zero_le _,fun _ h=>by cases h⟩
theorem pg0_o:PgO pg0:=⟨Nat.zero_le _,Nat.zero_le _,Nat.zero_le _,fun _ h=>by cases h⟩
theorem MdO.pgi {m:MdD} (h:MdO m) (i:Nat):PgO (m.pages.getD i pg0):=getD_all h.pg.2 pg0_o i
theorem MdO.gts {m:MdD} (h:MdO m):∀k,(gtsK m k).length≤NG∧∀g∈gtsK m k,GtO g
 |0=>h.gt
 |k+1=>(h.pgi k).2.2
theorem MdO.gti {m:MdD} (h:MdO m) (k i:Nat):GtO ((gtsK m k).getD i gt0):=getD_all (h.gts k).2 gt0_o i
theorem RdOk.w {r:RD} (h:RdOk r):r.wf 1073741824:=h.mono (by decide)
theorem RdOk.m {r:RD} (h:RdOk r):r.wf 500000000:=h.mono (by decide)
theorem MdO.ok {m:MdD} (h:MdO m):Go.Proofs.YtnmeahogifekdaaGreatDoor.MdOk m:=⟨Nat.le_trans h.ev.1 (by decide),Nat.le_trans h.hs.1 (by decide),Nat.le_trans h.gt.1 (by decide),Nat.le_trans h.pg.1 (by decide),fun p hp=>Nat.le_trans (h.pg.2 p hp).2.2.1 (by decide)⟩
theorem ev0_o:EvO ev0:=⟨Nat.zero_le _,rd0_ok,rd0_ok,rd0_ok⟩
theorem hs0_o:HsO hs0:=Nat.zero_le _
theorem gr0_o:GrpO gr0:=⟨Nat.zero_le _,Nat.zero_le _,fun _ h=>(by cases h),Nat.zero_le _,fun _ h=>(by cases h)⟩
theorem ph0_o:PhO ph0:=⟨Nat.zero_le _,Nat.zero_le _,Nat.zero_le _,fun _ h=>by cases h⟩
theorem vl0_o:VlO vl0:=⟨Nat.zero_le _,rd0_ok⟩
theorem MdO.wf {m:MdD} (h:MdO m):MdWf m:=⟨Nat.le_trans h.nm (by decide),fun i=>by
 obtain⟨a,b⟩:=getD_all h.ev.2 ev0_o i
 exact⟨Nat.le_trans a (by decide),RdOk.w b.1,RdOk.w b.2.1,RdOk.w b.2.2⟩,fun i=>Nat.le_trans (getD_all h.hs.2 hs0_o i) (by decide)⟩
theorem MdO.wf2 {m:MdD} (h:MdO m):MdWf2 m:=⟨fun i=>⟨Nat.le_trans (h.pgi i).1 (by decide),(h.pgi i).2.2.1⟩,h.gt.1,h.pg.1,fun k i=>by
 obtain⟨a,b,c,_⟩:=h.gti k i
 exact⟨Nat.le_trans a (by decide),RdOk.w b,Nat.le_trans c (by decide)⟩⟩
theorem MdO.wf3 {m:MdD} (h:MdO m):MdWf3 m:=⟨Nat.le_trans h.ph.1 (by decide),fun i=>by
 obtain⟨a,b,c,_⟩:=getD_all h.ph.2 ph0_o i
 exact⟨Nat.le_trans a (by decide),Nat.le_trans b (by decide),Nat.le_trans c (by decide)⟩,fun i k=>RdOk.w (getD_all (getD_all h.ph.2 ph0_o i).2.2.2 vl0_o k).2⟩
theorem MdO.wf4 {m:MdD} (h:MdO m):MdWf4 m:=⟨Nat.le_trans h.gr.1 (by decide),fun i=>by
 obtain⟨a,b,_,d,_⟩:=getD_all h.gr.2 gr0_o i
 exact⟨Nat.le_trans a (by decide),b,Nat.le_trans d (by decide)⟩,fun i k=>RdOk.w (getD_all (getD_all h.gr.2 gr0_o i).2.2.2.2 rd0_ok k)⟩
theorem MdO.inl {m:MdD} (h:MdO m) (k i j:Nat):(((gtsK m k).getD i gt0).inputs.getD j []).length≤1099511627776:=
 Nat.le_trans (getD_all (P:=fun x:BS=>x.length≤BG+1) (h.gti k i).2.2.2 (Nat.zero_le _) j) (by decide)
end Go.PN
namespace Go.PN
open Go.AI
def RdU (n:Nat) (r:RD):Prop:=r.wf n
def EvU (n:Nat) (x:EvD):Prop:=x.name.length≤n∧RdU n x.p∧RdU n x.fail∧RdU n x.rep∧ -9223372036854775808≤x.cost∧x.cost<9223372036854775808
def HsU (n:Nat) (x:HsD):Prop:=x.name.length≤n
def InU (n:Nat) (l:List BS):Prop:=l.length≤n∧∀i∈l,i.length≤n
def GtU (n:Nat) (x:GtD):Prop:=x.name.length≤n∧(-9223372036854775808≤x.kind∧x.kind<9223372036854775808)∧(-9223372036854775808≤x.k∧x.k<9223372036854775808)∧InU n x.inputs∧RdU n x.dorm
def GsU (n:Nat) (l:List GtD):Prop:=l.length≤n∧∀g∈l,GtU n g
def PgU (n:Nat) (x:PgD):Prop:=x.name.length≤n∧x.top.length≤n∧GsU n x.gates
def RsU (n:Nat) (l:List RD):Prop:=l.length≤n∧∀r∈l,RdU n r
def GrU (n:Nat) (x:GrD):Prop:=x.name.length≤n∧(-9223372036854775808≤x.kind∧x.kind<9223372036854775808)∧InU n x.members∧RsU n x.factors
def VlU (n:Nat) (x:VlD):Prop:=x.event.length≤n∧RdU n x.p
def PhU (n:Nat) (x:PhD):Prop:=x.name.length≤n∧x.top.length≤n∧x.values.length≤n∧∀v∈x.values,VlU n v
structure MdU (n:Nat) (m:MdD):Prop where
 nm:m.name.length≤n
 tp:m.top.length≤n
 ev:m.events.length≤n∧∀x∈m.events,EvU n x
 hs:m.houses.length≤n∧∀x∈m.houses,HsU n x
 gt:GsU n m.gates
 pg:m.pages.length≤n∧∀x∈m.pages,PgU n x
 gr:m.groups.length≤n∧∀x∈m.groups,GrU n x
 ph:m.phases.length≤n∧∀x∈m.phases,PhU n x
section
variable {m n : Nat}
theorem RdU.mono {r:RD} (h:RdU m r) (hm:m≤n):RdU n r:=RD.wf.mono h hm
theorem EvU.mono {x:EvD} (h:EvU m x) (hm:m≤n):EvU n x:=⟨Nat.le_trans h.1 hm,h.2.1.mono hm,h.2.2.1.mono hm,h.2.2.2.1.mono hm,h.2.2.2.2⟩
theorem HsU.mono {x:HsD} (h:HsU m x) (hm:m≤n):HsU n x:=Nat.le_trans h hm
theorem InU.mono {l:List BS} (h:InU m l) (hm:m≤n):InU n l:=⟨Nat.le_trans h.1 hm,fun i hi=>Nat.le_trans (h.2 i hi) hm⟩
theorem GtU.mono {x:GtD} (h:GtU m x) (hm:m≤n):GtU n x:=⟨Nat.le_trans h.1 hm,h.2.1,h.2.2.1,h.2.2.2.1.mono hm,h.2.2.2.2.mono hm⟩
theorem GsU.mono {l:List GtD} (h:GsU m l) (hm:m≤n):GsU n l:=⟨Nat.le_trans h.1 hm,fun i hi=>(h.2 i hi).mono hm⟩
theorem PgU.mono {x:PgD} (h:PgU m x) (hm:m≤n):PgU n x:=⟨Nat.le_trans h.1 hm,Nat.le_trans h.2.1 hm,h.2.2.mono hm⟩
theorem RsU.mono {l:List RD} (h:RsU m l) (hm:m≤n):RsU n l:=⟨Nat.le_trans h.1 hm,fun i hi=>(h.2 i hi).mono hm⟩
theorem GrU.mono {x:GrD} (h:GrU m x) (hm:m≤n):GrU n x:=⟨Nat.le_trans h.1 hm,h.2.1,h.2.2.1.mono hm,h.2.2.2.mono hm⟩
theorem VlU.mono {x:VlD} (h:VlU m x) (hm:m≤n):VlU n x:=⟨Nat.le_trans h.1 hm,h.2.mono hm⟩
theorem PhU.mono {x:PhD} (h:PhU m x) (hm:m≤n):PhU n x:=⟨Nat.le_trans h.1 hm,Nat.le_trans h.2.1 hm,Nat.le_trans h.2.2.1 hm,fun i hi=>(h.2.2.2 i hi).mono hm⟩
theorem MdU.mono {x:MdD} (h:MdU m x) (hm:m≤n):MdU n x:=⟨Nat.le_trans h.nm hm,Nat.le_trans h.tp hm,⟨Nat.le_trans h.ev.1 hm,fun i hi=>(h.ev.2 i hi).mono hm⟩,⟨Nat.le_trans h.hs.1 hm,fun i hi=>(h.hs.2 i hi).mono hm⟩,h.gt.mono hm,⟨Nat.le_trans h.pg.1 hm,fun i hi=>(h.pg.2 i hi).mono hm⟩,⟨Nat.le_trans h.gr.1 hm,fun i hi=>(h.gr.2 i hi).mono hm⟩,⟨Nat.le_trans h.ph.1 hm,fun i hi=>(h.ph.2 i hi).mono hm⟩⟩
end
end Go.PN
namespace Go.Proofs.YtnmeahogifekdaaGreatDoor
open Go.AI Go.PN Go.ChangeShapes Go.WideShapes Go.RowKit
def putCellsL (h:Array Obj) (g:Nat) (cs:Array Value):Array Obj:=h.modify g fun
 |.cells _ t frozen=>.cells cs t frozen
 |o=>o
def cells_internal_strconv_uint64pow10:Array Value:=(([1,10,100,1000,10000,100000,1000000,10000000,100000000,1000000000,10000000000,100000000000,1000000000000,10000000000000,100000000000000,1000000000000000,10000000000000000,100000000000000000,1000000000000000000,10000000000000000000]:List Int).map fun n=>Value.int .u64 n).toArray
def cells_math_bits_deBruijn32tab:Array Value:=(([0,1,28,2,29,14,24,3,30,22,20,15,25,17,4,8,31,27,13,23,21,19,16,7,26,12,18,6,11,5,10,9]:List Int).map fun n=>Value.int .u8 n).toArray
def cells_math_bits_deBruijn64tab:Array Value:=(([0,1,56,2,57,49,28,3,61,58,42,50,38,29,17,4,62,47,59,36,45,43,51,22,53,39,33,30,24,18,12,5,63,55,48,27,60,41,37,16,46,35,44,21,52,32,23,11,54,26,40,15,34,20,31,10,25,14,19,9,13,8,7,6]:List Int).map fun n=>Value.int .u8 n).toArray
def cells_unicode_utf8_first:Array Value:=(Go.Pinned.utf8FirstZ.map fun(n:Nat)=>Value.int .u8 (n:Int)).toArray
def cells_unicode_utf8_acceptRanges:Array Value:=(([128,191,160,191,128,159,144,191,128,143,0,0,0,0,0,0,0,0,0,0,0,0,0,0,0,0,0,0,0,0,0,0]:List Int).map fun n=>Value.int .u8 n).toArray
noncomputable def laidWorld (os:Os):World:=
 {World.holding Tryz.prog os ⟨#[], #[],[]⟩ with heap:=putCellsL (putCellsL (putCellsL (putCellsL (putCellsL (World.holding Tryz.prog os ⟨#[], #[],[]⟩).heap 1 cells_internal_strconv_uint64pow10) 2 cells_math_bits_deBruijn32tab) 3 cells_math_bits_deBruijn64tab) 4 cells_unicode_utf8_first) 5 cells_unicode_utf8_acceptRanges}
end Go.Proofs.YtnmeahogifekdaaGreatDoor
namespace Go.AI
open Go.Sort
theorem fr_grow {w w':World} (h:Fr (fun _=>False) w w'):∃q os',w'=grow (w.drewN q) os':=by
 refine⟨w'.drawn-w.drawn,w'.heap.extract w.heap.size w'.heap.size,?_⟩
 have h1:=h.os
 have h2:=h.tape
 have h3:=h.output
 have h4:=h.drawn
 have h5:=h.size
 have h6:=h.block
 have hh:w'.heap=w.heap++w'.heap.extract w.heap.size w'.heap.size:=by
  refine Array.ext_getElem? fun b=> ?_
  by_cases hb:b<w.heap.size
  ·rw [Array.getElem?_append_left hb];exact h6 b hb (fun x=>x)
  ·rw [Array.getElem?_append_right om,Array.getElem?_extract]
   by_cases hb2:b<w'.heap.size
   ·rw [if_pos om];congr 1;omega
   ·rw [if_neg om,Array.getElem?_eq_none om]
 have hd:w.drawn+(w'.drawn-w.drawn)=w'.drawn:=by omega
 cases w with
 |mk heap tape drawn os output=>
  cases w' with
  |mk heap' tape' drawn' os' output'=>
   simp only at h1 h2 h3 hh hd
   subst h1 h2 h3
   unfold grow World.drewN
   simp only [World.mk.injEq,true_and]
   exact⟨hh,hd.symm,trivial⟩
end Go.AI
namespace Go.PN
open Go.AI
section
variable {α : Type} [DecidableEq α]
def stGet (a:α):List (α×Int)→Int
 |[]=>0
 |p::st=>if a=p.1 then p.2 else stGet a st
def stSet (a:α) (v:Int):List (α×Int)→List (α×Int)
 |[]=>[]
 |p::st=>if a=p.1 then(p.1,v)::st else p::stSet a v st
def goD (f:List (α×Int)→α→Bool×List (α×Int)):List α→List (α×Int)→Bool×List (α×Int)
 |[],st=>(false,st)
 |x::l,st=>if(f st x).1=true then f st x else goD f l (f st x).2
def walkD (leaf:α→Bool) (succ:α→List α):Nat→List (α×Int)→α→Bool×List (α×Int)
 |0,st,_=>(false,st)
 |n+1,st,t=>if leaf t=true then(false,st) else if stGet t st=1 then(true,st) else if stGet t st=2 then(false,st) else
  let r:=goD (walkD leaf succ n) (succ t) (st++[(t,1)])
  if r.1=true then r else(false,stSet t 2 r.2)
theorem stGet_set (a b:α) (v:Int):∀st:List (α×Int),stGet b (stSet a v st)=if b=a∧a∈st.map (·.1) then v else stGet b st
 |[]=>by simp [stSet,stGet]
 |p::st=>by
  have ih:=stGet_set a b v st
  unfold stSet
  by_cases h:a=p.1
  ·rw [if_pos h]
   show(if b=p.1 then v else stGet b st)=(if b=a∧a∈p.1::st.map (·.1) then v else(if b=p.1 then p.2 else stGet b st))
   by_cases hb:b=p.1
   ·rw [if_pos hb,if_pos ⟨hb.trans h.symm,by rw [h];exact List.mem_cons_self⟩]
   ·rw [if_neg hb,if_neg (fun z=>hb (z.1.trans h)),if_neg hb]
  ·rw [if_neg h]
   show(if b=p.1 then p.2 else stGet b (stSet a v st))=(if b=a∧a∈p.1::st.map (·.1) then v else(if b=p.1 then p.2 else stGet b st))
   by_cases hb:b=p.1
   ·rw [if_pos hb,if_neg (fun z=>h (z.1.symm.trans hb)),if_pos hb]
   ·rw [if_neg hb,if_neg hb,ih]
    have:(a∈p.1::st.map (·.1))↔a∈st.map (·.1):=by
     rw [List.mem_cons];exact⟨fun z=>z.elim (fun e=>absurd e h) id,.inr⟩
    simp only [this]
theorem stGet_app (a b:α) (v:Int):∀st:List (α×Int),a∉st.map (·.1)→stGet b (st++[(a,v)])=if b=a then v else stGet b st
 |[],_=>by simp [stGet]
 |p::st,h=>by
  have h1:a≠p.1:=fun e=>h (by rw [e];exact List.mem_cons_self)
  have ih:=stGet_app a b v st fun z=>h (List.mem_cons_of_mem _ z)
  show(if b=p.1 then p.2 else stGet b (st++[(a,v)]))=(if b=a then v else(if b=p.1 then p.2 else stGet b st))
  by_cases hb:b=p.1
  ·rw [if_pos hb,if_pos hb,if_neg (fun e=>h1 (e.symm.trans hb))]
  ·rw [if_neg hb,if_neg hb,ih]
def CycS (nodes:List α) (succ:α→List α):Prop:=∃S:List α,S≠[]∧∀x∈S,x∈nodes∧∃y∈S,y∈succ x
def pathS (succ:α→List α):List α→Prop
 |[]=>True
 |[_]=>True
 |a::b::l=>a∈succ b∧pathS succ (b::l)
omit [DecidableEq α] in
theorem path_cyc {succ:α→List α} {t:α} {l2:List α}:∀(l1:List α) (z:α),pathS succ (l1++t::l2)→(∀h,(l1++t::l2).head?=some h→z∈succ h)→∀x∈l1++[t],∃y∈z::(l1++[t]),y∈succ x
 |[],z,_,hz,x,hx=>by
  have:x=t:=by simpa using hx
  subst this
  exact⟨z,List.mem_cons_self,hz x rfl⟩
 |a::l1,z,hp,hz,x,hx=>by
  rcases List.mem_cons.1 hx with h|h
  ·subst h
   exact⟨z,List.mem_cons_self,hz x rfl⟩
  ·have hp':pathS succ (l1++t::l2)∧∀h,(l1++t::l2).head?=some h→a∈succ h:=by
    cases l1 with
    |nil=>
     cases l2 with
     |nil=>exact⟨trivial,fun h e=>by simp at e;subst e;exact hp.1⟩
     |cons c l2=>exact⟨hp.2,fun h e=>by simp at e;subst e;exact hp.1⟩
    |cons c l1=>exact⟨hp.2,fun h e=>by simp at e;subst e;exact hp.1⟩
   obtain⟨y,hy,hys⟩:=path_cyc l1 a hp'.1 hp'.2 x h
   exact⟨y,List.mem_cons_of_mem _ hy,hys⟩
structure DInv (leaf:α→Bool) (succ:α→List α) (nodes:List α) (st:List (α×Int)) (stk fin:List α):Prop where
 nd:(st.map (·.1)).Nodup
 sub:∀a∈st.map (·.1),a∈nodes
 key:∀a,a∈st.map (·.1)↔a∈stk∨a∈fin
 gray:∀a,stGet a st=1↔a∈stk
 black:∀a,stGet a st=2↔a∈fin
 path:pathS succ stk
 leafS:∀a∈stk,leaf a=false
 fd:fin.Nodup
 ord:∀l1 b l2,fin=l1++b::l2→∀x∈succ b,leaf x=true∨x∈l1
def DOut (leaf:α→Bool) (succ:α→List α) (nodes:List α) (st:List (α×Int)) (stk fin:List α) (r:Bool×List (α×Int)) (P:List α→Prop):Prop:=
 (r.1=true→CycS nodes succ)∧(r.1=false→∃fin',DInv leaf succ nodes r.2 stk fin'∧(∀a∈fin,a∈fin')∧st.length≤r.2.length∧P fin')
theorem go_ok {leaf:α→Bool} {succ:α→List α} {nodes stk:List α} {f:List (α×Int)→α→Bool×List (α×Int)} {k:Nat}
  (hf:∀st fin x,DInv leaf succ nodes st stk fin→k≤st.length→(leaf x=true∨x∈nodes)→(∀h,stk.head?=some h→x∈succ h)→DOut leaf succ nodes st stk fin (f st x) (fun fin'=>leaf x=true∨x∈fin')):
  ∀(l:List α) (st:List (α×Int)) (fin:List α),DInv leaf succ nodes st stk fin→k≤st.length→(∀x∈l,leaf x=true∨x∈nodes)→(∀x∈l,∀h,stk.head?=some h→x∈succ h)→DOut leaf succ nodes st stk fin (goD f l st) (fun fin'=>∀x∈l,leaf x=true∨x∈fin')
 |[],st,fin,hi,_,_,_=>⟨fun h=>(by cases h),fun _=>⟨fin,hi,fun _ h=>h,Nat.le_refl _,fun x hx=>(by cases hx)⟩⟩
 |x::l,st,fin,hi,hk,hl,hs=>by
  obtain⟨h1,h2⟩:=hf st fin x hi hk (hl x List.mem_cons_self) (hs x List.mem_cons_self)
  unfold goD
  by_cases hr:(f st x).1=true
  ·rw [if_pos hr]
   exact⟨h1,fun h=>by rw [hr] at h;cases h⟩
  ·rw [if_neg hr]
   obtain⟨fin1,i1,m1,l1,p1⟩:=h2 (by simpa using hr)
   obtain⟨g1,g2⟩:=go_ok hf l (f st x).2 fin1 i1 (Nat.le_trans hk l1) (fun y hy=>hl y (List.mem_cons_of_mem _ hy)) (fun y hy=>hs y (List.mem_cons_of_mem _ hy))
   refine⟨g1,fun h=> ?_⟩
   obtain⟨fin2,i2,m2,l2,p2⟩:=g2 h
   refine⟨fin2,i2,fun a ha=>m2 a (m1 a ha),Nat.le_trans l1 l2,fun y hy=> ?_⟩
   rcases List.mem_cons.1 hy with e|e
   ·subst e
    exact p1.elim .inl fun z=>.inr (m2 _ z)
   ·exact p2 y e
theorem nodup_len:∀{l n:List α},l.Nodup→(∀a∈l,a∈n)→l.length≤n.length
 |[],_,_,_=>Nat.zero_le _
 |a::l,n,hd,hs=>by
  have⟨h1,h2⟩:=List.nodup_cons.1 hd
  have ha:=hs a List.mem_cons_self
  have:=nodup_len (l:=l) (n:=n.erase a) h2 fun b hb=>(List.mem_erase_of_ne (fun e:b=a=>h1 (by rw [←e];exact hb))).2 (hs b (List.mem_cons_of_mem _ hb))
  rw [List.length_erase_of_mem ha] at this
  have hp:=List.length_pos_of_mem ha
  rw [List.length_cons]
  omega
theorem stSet_keys (a:α) (v:Int):∀st:List (α×Int),(stSet a v st).map (·.1)=st.map (·.1)
 |[]=>rfl
 |p::st=>by
  unfold stSet
  split
  ·rfl
  ·rw [List.map_cons,List.map_cons,stSet_keys a v st]
omit [DecidableEq α] in
theorem snoc_split {fin l1 l2:List α} {t b:α} (h:fin++[t]=l1++b::l2):(b=t∧l1=fin)∨∃l3,fin=l1++b::l3:=by
 rcases List.eq_nil_or_concat l2 with e|⟨l3,c,e⟩
 ·subst e
  have:=List.append_inj' h rfl
  exact .inl ⟨(List.cons.inj this.2).1.symm,this.1.symm⟩
 ·subst e
  have h':fin++[t]=(l1++b::l3)++[c]:=by rw [h];simp
  exact .inr ⟨l3,(List.append_inj' h' rfl).1⟩
theorem DInv.push {leaf:α→Bool} {succ:α→List α} {nodes:List α} {st:List (α×Int)} {stk fin:List α} {t:α} (hi:DInv leaf succ nodes st stk fin) (hl:¬leaf t=true) (htn:t∈nodes) (htk:t∉st.map (·.1)) (htF:t∉fin) (hh:∀h,stk.head?=some h→t∈succ h):DInv leaf succ nodes (st++[(t,1)]) (t::stk) fin:=by
 refine⟨?_,?_,?_,?_,?_,?_,?_,hi.fd,hi.ord⟩
 ·rw [List.map_append]
  exact List.nodup_append.2 ⟨hi.nd,by simp,fun a ha b hb e=>by simp at hb;exact htk (by rw [←hb,←e];exact ha)⟩
 ·intro a ha
  rw [List.map_append] at ha
  rcases List.mem_append.1 ha with h|h
  ·exact hi.sub a h
  ·rw [List.mem_singleton.1 h];exact htn
 ·intro a
  rw [List.map_append,List.mem_append,hi.key a,List.mem_cons]
  simp only [List.map_cons,List.map_nil,List.mem_singleton]
  exact⟨fun z=>z.elim (fun w=>w.elim (fun u=>.inl (.inr u)) .inr) fun w=>.inl (.inl w),fun z=>z.elim (fun w=>w.elim .inr fun u=>.inl (.inl u)) fun w=>.inl (.inr w)⟩
 ·intro a
  rw [stGet_app t a 1 st htk,List.mem_cons]
  by_cases e:a=t
  ·rw [if_pos e];exact⟨fun _=>.inl e,fun _=>rfl⟩
  ·rw [if_neg e,hi.gray a];exact⟨.inr,fun z=>z.resolve_left e⟩
 ·intro a
  rw [stGet_app t a 1 st htk]
  by_cases e:a=t
  ·rw [if_pos e];exact⟨fun z=>absurd z (by decide),fun z=>absurd (e▸z) htF⟩
  ·rw [if_neg e,hi.black a]
 ·cases stk with
  |nil=>trivial
  |cons b l=>exact⟨hh b rfl,hi.path⟩
 ·intro a ha
  rcases List.mem_cons.1 ha with h|h
  ·rw [h];simpa using hl
  ·exact hi.leafS a h
theorem walk_ok {leaf:α→Bool} {succ:α→List α} {nodes:List α} (hnl:∀t∈nodes,leaf t=false) (hcl:∀t∈nodes,∀x∈succ t,leaf x=true∨x∈nodes):∀(n:Nat) (st:List (α×Int)) (stk fin:List α) (t:α),DInv leaf succ nodes st stk fin→nodes.length<n+st.length→(leaf t=true∨t∈nodes)→(∀h,stk.head?=some h→t∈succ h)→DOut leaf succ nodes st stk fin (walkD leaf succ n st t) (fun fin'=>leaf t=true∨t∈fin')
 |0,st,stk,fin,t,hi,hn,_,_=>by
  have:=nodup_len hi.nd hi.sub
  rw [List.length_map] at this
  omega
 |n+1,st,stk,fin,t,hi,hn,ht,hh=>by
  unfold walkD
  by_cases hl:leaf t=true
  ·rw [if_pos hl]
   exact⟨fun h=>(by cases h),fun _=>⟨fin,hi,fun _ h=>h,Nat.le_refl _,.inl hl⟩⟩
  rw [if_neg hl]
  have htn:t∈nodes:=ht.resolve_left hl
  by_cases h1:stGet t st=1
  ·rw [if_pos h1]
   refine⟨fun _=> ?_,fun h=>(by cases h)⟩
   obtain⟨l1,l2,hs⟩:=List.append_of_mem ((hi.gray t).1 h1)
   have hp:=hi.path
   rw [hs] at hp hh
   have hc:=path_cyc l1 t hp hh
   refine⟨l1++[t],by simp,fun x hx=>⟨hi.sub x ((hi.key x).2 (.inl ?_)),?_⟩⟩
   ·rw [hs]
    rcases List.mem_append.1 hx with h|h
    ·exact List.mem_append_left _ h
    ·rw [List.mem_singleton.1 h];simp
   ·obtain⟨y,hy,hys⟩:=hc x hx
    refine⟨y,?_,hys⟩
    rcases List.mem_cons.1 hy with h|h
    ·rw [h];simp
    ·exact h
  rw [if_neg h1]
  by_cases h2:stGet t st=2
  ·rw [if_pos h2]
   exact⟨fun h=>(by cases h),fun _=>⟨fin,hi,fun _ h=>h,Nat.le_refl _,.inr ((hi.black t).1 h2)⟩⟩
  rw [if_neg h2]
  have htk:t∉st.map (·.1):=fun h=>((hi.key t).1 h).elim (fun z=>h1 ((hi.gray t).2 z)) fun z=>h2 ((hi.black t).2 z)
  have htS:t∉stk:=fun z=>h1 ((hi.gray t).2 z)
  have htF:t∉fin:=fun z=>h2 ((hi.black t).2 z)
  have hi2:=hi.push hl htn htk htF hh
  obtain⟨g1,g2⟩:=go_ok (f:=walkD leaf succ n) (k:=st.length+1) (stk:=t::stk) (nodes:=nodes) (fun st' fin' x i' hk' hx hs'=>walk_ok hnl hcl n st' (t::stk) fin' x i' om hx hs') (succ t) (st++[(t,1)]) fin hi2 (by rw [List.length_append];exact Nat.le_refl _) (hcl t htn) (fun x hx h e=>by simp at e;subst e;exact hx)
  dsimp only
  by_cases hr:(goD (walkD leaf succ n) (succ t) (st++[(t,1)])).1=true
  ·rw [if_pos hr]
   exact⟨g1,fun h=>by rw [hr] at h;cases h⟩
  rw [if_neg hr]
  obtain⟨fin1,i1,m1,l1,p1⟩:=g2 (by simpa using hr)
  generalize goD (walkD leaf succ n) (succ t) (st++[(t,1)])=r at*
  refine⟨fun h=>(by cases h),fun _=>⟨fin1++[t],?_,fun a ha=>List.mem_append_left _ (m1 a ha),?_,.inr (by simp)⟩⟩
  ·have htk1:t∈r.2.map (·.1):=(i1.key t).2 (.inl List.mem_cons_self)
   have ht1:stGet t r.2=1:=(i1.gray t).2 List.mem_cons_self
   have htF1:t∉fin1:=fun z=>by have:=(i1.black t).2 z;rw [ht1] at this;cases this
   refine⟨?_,?_,?_,?_,?_,?_,fun a ha=>i1.leafS a (List.mem_cons_of_mem _ ha),List.nodup_append.2 ⟨i1.fd,by simp,fun a ha b hb e=>by simp at hb;exact htF1 (by rw [←hb,←e];exact ha)⟩,?_⟩
   ·rw [stSet_keys];exact i1.nd
   ·rw [stSet_keys];exact i1.sub
   ·intro a
    rw [stSet_keys,i1.key a,List.mem_cons,List.mem_append,List.mem_singleton]
    exact⟨fun z=>z.elim (fun w=>w.elim (fun u=>.inr (.inr u)) .inl) fun w=>.inr (.inl w),fun z=>z.elim (fun w=>.inl (.inr w)) fun w=>w.elim .inr fun u=>.inl (.inl u)⟩
   ·intro a
    rw [stGet_set]
    by_cases e:a=t
    ·rw [if_pos ⟨e,htk1⟩];exact⟨fun z=>absurd z (by decide),fun z=>absurd (e▸z) htS⟩
    ·rw [if_neg (fun z=>e z.1),i1.gray a,List.mem_cons];exact⟨fun z=>z.resolve_left e,.inr⟩
   ·intro a
    rw [stGet_set,List.mem_append,List.mem_singleton]
    by_cases e:a=t
    ·rw [if_pos ⟨e,htk1⟩];exact⟨fun _=>.inr e,fun _=>rfl⟩
    ·rw [if_neg (fun z=>e z.1),i1.black a];exact⟨.inl,fun z=>z.resolve_right e⟩
   ·have hp:=i1.path
    cases stk with
    |nil=>trivial
    |cons b l=>exact hp.2
   ·intro a1 b a2 hs x hx
    rcases snoc_split hs with ⟨e1,e2⟩|⟨a3,e⟩
    ·subst e1 e2
     exact p1 x hx
    ·exact i1.ord a1 b a3 e x hx
  ·have:(stSet t 2 r.2).length=r.2.length:=by rw [←List.length_map (·.1),stSet_keys,List.length_map]
   rw [List.length_append] at l1
   dsimp only
   omega
end
end Go.PN
namespace Go.PN
open Go.AI
section
variable {α : Type} [DecidableEq α]
theorem dinv_nil {leaf:α→Bool} {succ:α→List α} {nodes:List α}:DInv leaf succ nodes [] [] []:=
 ⟨List.nodup_nil,fun _ h=>(by cases h),fun a=>(by simp),fun a=>(by simp [stGet]),fun a=>(by simp [stGet]),trivial,fun _ h=>(by cases h),List.nodup_nil,fun l1 b l2 h=>(by simp at h)⟩
end
end Go.PN
