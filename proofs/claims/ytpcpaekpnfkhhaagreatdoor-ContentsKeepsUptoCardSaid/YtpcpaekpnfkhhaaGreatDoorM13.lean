/- Parts of one proof, laid by a program. -/
import Derived.Test.YtpcpaekpnfkhhaaGreatDoorM00
import Derived.Test.YtpcpaekpnfkhhaaGreatDoorM12
set_option linter.unusedSimpArgs false
set_option linter.unusedVariables false
set_option maxRecDepth 100000
set_option maxHeartbeats 12800000
namespace Go.AI
theorem Heap.get_del:∀{h:Heap} {g g':Nat},g≠g'→(h.del g').get g=h.get g
 |[],_,_,_=>rfl
 |(a,x)::h,g,g',hne=>by
  by_cases h1:a=g'
  ·subst h1
   simp only [Heap.del,if_true,Heap.get]
   rw [if_neg (fun e=>hne e.symm)]
  ·simp only [Heap.del,if_neg h1,Heap.get]
   by_cases h2:a=g
   ·rw [if_pos h2,if_pos h2]
   ·rw [if_neg h2,if_neg h2];exact Heap.get_del hne
def Fg2 (P:Program) (f:FuncId) (g1:Nat) (o1:AObj) (g2:Nat) (o2:AObj) (args:List AV) (r:AV) (o2':AObj):Prop:=Fh P f [(g1,o1),(g2,o2)] args fun x h=>x=r∧h=[(g1,o1),(g2,o2')]
section
variable {E : Env} {K : List It} {σ σ' : Sl} {h : Heap} {all l rest : List Oper} {o : Oper}
theorem aw_cg2 {f:FuncId} {xs:List Operand} {ts:Array TypeId} {g1 g2:Nat} {o1 o2 o2':AObj} {args:List AV} {r:AV} (hf:Fg2 E.P f g1 o1 g2 o2 args r o2') (hop:o.op=.call {callee:=.value (.func f),args:=xs.toArray,argTypes:=ts}) (hw:wantA all σ o=some true) (hd:dstOk E.N o.dst=true)
  (h1:h.get g1=some o1) (h2:h.get g2=some o2) (hne:g1≠g2) (le:LeA [] (xs.map (ev σ)) args) (k:aw E (.ops all rest::K) (σ.setO o.dst r) (h.set g2 o2')):aw E (.ops all (o::rest)::K) σ h:=by
 have p2:=Heap.get_perm h2
 have e1:(h.del g2).get g1=some o1:=(Heap.get_del hne).trans h1
 have p1:=Heap.get_perm e1
 refine aw_callh hf hop hw hd (hr:=(h.del g2).del g1) (p2.trans ((p1.cons _).trans (List.Perm.swap _ _ _))) le ?_
 rintro _ _ ⟨rfl,rfl⟩ _
 refine aw_perm ?_ k
 exact(Heap.set_perm h2).trans ((p1.cons _).trans (List.Perm.swap _ _ _))|>.symm
theorem zh {F X:Prop} {f:FuncId} {xs:List Operand} {ts:Array TypeId} {g1 g2:Nat} {o1 o2 o2':AObj} {args:List AV} {r:AV} (q:F) (hf:Fg2 E.P f g1 o1 g2 o2 args r o2') (x:X) (hne:g1≠g2:=by assumption) (hop:o.op=.call {callee:=.value (.func f),args:=xs.toArray,argTypes:=ts}:=by exact rfl) (hw:wantA all σ o=some true:=by exact rfl) (hd:dstOk E.N o.dst=true:=by exact rfl)
 (h1:F→h.get g1=some o1:=by intro f;simp only[go_sem,f]<;>rfl) (h2:F→h.get g2=some o2:=by intro f;simp only[go_sem,f]<;>rfl) (le:F→LeA [] (xs.map (ev σ)) args:=by intro f;exact zL2 f) (k:F→Hold X→aw E (.ops all rest::K) (σ.setO o.dst r) (h.set g2 o2'):=by intro f x;(try simp only[go_sem,f]);exact x.out):aw E (.ops all (o::rest)::K) σ h:=aw_cg2 hf hop hw hd (h1 q) (h2 q) hne (le q) (k q ⟨x⟩)
end
end Go.AI
namespace Go.PN
open Go.AI
def putE (m:MdD) (q r:BS) (most:Nat) (es:List EnD):Int:=if(cntR m).2≠0 then(cntR m).2 else if 65536<q.length∨65536<r.length then 4 else if getS (cntR m).1 q es=none∧es.length=most then 19 else 0
def putM (m:MdD) (q r:BS) (most:Nat) (es:List EnD):List EnD:=if putE m q r most es=0 then putS (cntR m).1 q r es else es
end Go.PN
namespace Go.Proofs.YtpcpaekpnfkhhaaGreatDoor
open Go.AI Go.PN
abbrev SO (gM:Nat) (most:Nat):AObj:=.cells 127 2 (ofL [.int .i64 most,.raw (.map (some gM))])
abbrev MO (es:List EnD):AObj:=.gen (MapO keySS (kvOf es))
attribute [local irreducible] aw Fa Fh DrK
theorem ty_key:tSS Tryz.prog 129=true:=by kernel_rfl
theorem ty_smap:tMap Tryz.prog 125=some (129,9):=by kernel_rfl
theorem und_sp:Tryz.prog.underlying 57=some (.pointer 127):=by kernel_rfl
theorem ty_zs:tZS Tryz.prog 9=true:=by kernel_rfl
theorem cnew_fh (most:Nat) (h1:1≤most) (h2:most≤1024):Fh Tryz.prog 20 [] [.c (.int .i64 most)] (fun x h=>∃gS gM,x=.tup [.c (.optr gS 0),.c .nilI]∧h=[(gS,SO gM most),(gM,MO [])]):=by
 have hb1:((most:Int)<1)=False:=eq_false om
 have hb2:((most:Int)>1024)=False:=eq_false om
 refine fh_of_body Tryz.func20 rfl rfl (by simp [Tryz.ntmps20]) fun C hC=> ?_
 simp only [initS,Nat.reduceAdd]
 all_goals try(have Z:=(oj hb1 hb2);(repeat' first|refine zV Z ?_|refine zH Z (fun hb=>?_) fun hb=>?_|fail);all_goals clear Z)
 refine aw_makeMapO keySS rfl rfl rfl fun gM hn_gM=> ?_
 have J1:=oj hb1 hb2
 refine yS J1 ?_
 refine aw_pok (r:=.agg [.int .i64 most,.raw (.map (some gM))]) (build2_ok (ps:=[(0,.tmp 11),(1,.tmp 12)]) (zE J1) (by rfl)) rfl rfl ?_
 refine yS J1 ?_
 refine yB J1 fun gS hn_gS=>?_
 all_goals try(have Z:=(oj hb1 (oj hb2 hn_gS));(repeat' first|refine zV Z ?_|refine zH Z (fun hb=>?_) fun hb=>?_|fail);all_goals clear Z)
 refine yU (oj hb1 (oj hb2 hn_gS)) ?_
 exact⟨_,_,rfl,rfl⟩
theorem put_fg (gS gM:Nat) (m:MdD) (ho:MdO m) (q r:BS) (most:Nat) (es:List EnD) (hq:q.length≤1099511627776) (hr:r.length≤1099511627776) (hm:most≤1099511627776) (hl:es.length≤1099511627776) (hne:gS≠gM):
  Fg2 Tryz.prog 21 gS (SO gM most) gM (MO es) [.c (.optr gS 0),.agg (mdc true m),.c (.str (sB q)),.c (.str (sB r))] (.c (errA (putE m q r most es))) (MO (putM m q r most es)):=by
 have f1:=ctext_fa m ho
 have e0:errA 0=.nilI:=if_pos rfl
 have hkl:=kv_len es
 have hget:=fun t=>kv_get t q es
 have hput:=fun t=>kv_put t q r es
 have n1:¬gM=gS:=fun e=>hne e.symm
 have n2:¬gS=gM:=hne
 unfold putM putE
 generalize cntR m=C at*
 obtain⟨t,c⟩:=C
 dsimp only at*
 unfold Fg2
 refine fh_of_body Tryz.func21 rfl rfl (by simp [Tryz.ntmps21]) fun C hC=> ?_
 simp only [initS,Nat.reduceAdd]
 all_goals try(have Z:=(oj n1 n2);(repeat' first|refine zV Z ?_|refine zH Z (fun hb=>?_) fun hb=>?_|fail);all_goals clear Z)
 refine yB (oj n1 n2) fun g5 hn_g5=>?_
 all_goals try(have Z:=(oj n1 (oj n2 hn_g5));(repeat' first|refine zV Z ?_|refine zH Z (fun hb=>?_) fun hb=>?_|fail);all_goals clear Z)
 refine aw_pok (POk.eqPtr (b:=false) und_sp (zE (oj n1 (oj n2 hn_g5))) (zE (oj n1 (oj n2 hn_g5))) (.inr ⟨gS,rfl,rfl⟩)) rfl rfl ?_
 have J1:=oj n1 (oj n2 hn_g5)
 refine yS J1 ?_
 by_cases hc:c=0
 ·subst hc
  rw [e0] at f1
  all_goals repeat' first|refine zV J1 ?_|(refine yC2 J1 (f1) ?_)|(refine yD2 J1 (f1) ?_)|refine zH J1 (fun hb=>?_) fun hb=>?_|fail
  ·refine aw_keep [(8,.c (errA 4))] [(gS,SO gM most),(gM,MO es)] (zB J1) (List.sublist_cons_self _ _) ?_
   refine yU J1 ?_
   rw [if_neg (fun h=>h rfl),if_pos (.inl hb),if_neg (by decide)]
   exact⟨rfl,rfl⟩
  ·refine aw_keep [(8,.c (errA 4))] [(gS,SO gM most),(gM,MO es)] (zB J1) (List.sublist_cons_self _ _) ?_
   refine yU J1 ?_
   rw [if_neg (fun h=>h rfl),if_pos (.inr hb),if_neg (by decide)]
   exact⟨rfl,rfl⟩
  have hbig:¬(65536<q.length∨65536<r.length):=by omega
  rw [if_neg (fun h=>h rfl),if_neg hbig]
  refine yA J1 fun g11 hn_g11=>?_
  all_goals try(have Z:=(oj n1 (oj n2 (oj hn_g5 hn_g11)));(repeat' first|refine zV Z ?_|refine zH Z (fun hb=>?_) fun hb=>?_|fail);all_goals clear Z)
  refine aw_dr 11 ty_mixed (by kernel_rfl) ?_
  all_goals try(have Z:=(oj n1 (oj n2 (oj hn_g5 hn_g11)));(repeat' first|refine zV Z ?_|refine zH Z (fun hb=>?_) fun hb=>?_|fail);all_goals clear Z)
  refine drk_pok (POk.lookupO (a:=(t,q)) (kv:=kvOf es) (Kf:=keySS) ty_smap (keySS_ok ty_key) (tZS_run ty_zs) (zE (oj n1 (oj n2 (oj hn_g5 hn_g11)))) (zE (oj n1 (oj n2 (oj hn_g5 hn_g11)))) (zE (oj n1 (oj n2 (oj hn_g5 hn_g11)))) (keySS_rep t q)) rfl rfl ?_
  by_cases hG:getS t q es=none
  ·have hk1:kvGet (t,q) (kvOf es)=none:=by rw [hget,hG];rfl
   rw [hk1]
   simp only [Option.getD_none,Option.isSome_none,cstC]
   all_goals try(have Z:=(oj n1 (oj n2 (oj hn_g5 hn_g11)));(repeat' first|refine zV Z ?_|refine zH Z (fun hb=>?_) fun hb=>?_|fail);all_goals clear Z)
   refine aw_dr 14 ty_mixed (by kernel_rfl) ?_
   all_goals try(have Z:=(oj n1 (oj n2 (oj hn_g5 hn_g11)));(repeat' first|refine zV Z ?_|refine zH Z (fun hb=>?_) fun hb=>?_|fail);all_goals clear Z)
   refine drk_pok (POk.lenO (kv:=kvOf es) (Kf:=keySS) ty_smap (zE (oj n1 (oj n2 (oj hn_g5 hn_g11)))) (zE (oj n1 (oj n2 (oj hn_g5 hn_g11))))) rfl rfl ?_
   rw [hkl]
   all_goals try(have Z:=(oj n1 (oj n2 (oj hn_g5 hn_g11)));(repeat' first|refine zV Z ?_|refine zH Z (fun hb=>?_) fun hb=>?_|fail);all_goals clear Z)
   ·refine aw_keep [(8,.c (errA 19))] [(gS,SO gM most),(gM,MO es)] (zB (oj n1 (oj n2 (oj hn_g5 hn_g11)))) (.cons _ (List.sublist_cons_self _ _)) ?_
    refine yU (oj n1 (oj n2 (oj hn_g5 hn_g11))) ?_
    rw [if_pos ⟨hG,hb⟩,if_neg (by decide)]
    exact⟨rfl,rfl⟩
   refine aw_dr 6 ty_mixed (by kernel_rfl) ?_
   all_goals try(have Z:=(oj n1 (oj n2 (oj hn_g5 hn_g11)));(repeat' first|refine zV Z ?_|refine zH Z (fun hb=>?_) fun hb=>?_|fail);all_goals clear Z)
   refine aw_mapPutO (a:=(t,q)) (v:=.string (sB r)) (kv:=kvOf es) (Kf:=keySS) rfl rfl rfl ty_smap (keySS_ok ty_key) (keySS_bits _) (zE (oj n1 (oj n2 (oj hn_g5 hn_g11)))) (zE (oj n1 (oj n2 (oj hn_g5 hn_g11)))) (zE (oj n1 (oj n2 (oj hn_g5 hn_g11)))) (keySS_rep t q) (zE (oj n1 (oj n2 (oj hn_g5 hn_g11)))) (str_repV r) rfl ?_
   rw [hput]
   have J2:=oj n1 (oj n2 (oj hn_g5 hn_g11))
   refine yS J2 ?_
   all_goals repeat' first|refine zV J2 ?_|refine zH J2 (fun hb=>?_) fun hb=>?_|fail
   refine aw_keep [(8,.c .nilI)] [(gS,SO gM most),(gM,MO (putS t q r es))] (zB J2) (.cons _ (List.sublist_cons_self _ _)) ?_
   refine yU J2 ?_
   rw [if_neg (fun h=>hb h.2),if_pos rfl,e0]
   exact⟨rfl,rfl⟩
  ·obtain⟨x,hx⟩:=Option.ne_none_iff_exists'.1 hG
   have hk1:kvGet (t,q) (kvOf es)=some (.string (sB x)):=by rw [hget,hx];rfl
   rw [hk1]
   simp only [Option.getD_some,Option.isSome_some,cstC]
   all_goals try(have Z:=(oj n1 (oj n2 (oj hn_g5 hn_g11)));(repeat' first|refine zV Z ?_|refine zH Z (fun hb=>?_) fun hb=>?_|fail);all_goals clear Z)
   refine aw_dr 14 ty_mixed (by kernel_rfl) ?_
   all_goals try(have Z:=(oj n1 (oj n2 (oj hn_g5 hn_g11)));(repeat' first|refine zV Z ?_|refine zH Z (fun hb=>?_) fun hb=>?_|fail);all_goals clear Z)
   refine aw_dr 6 ty_mixed (by kernel_rfl) ?_
   all_goals try(have Z:=(oj n1 (oj n2 (oj hn_g5 hn_g11)));(repeat' first|refine zV Z ?_|refine zH Z (fun hb=>?_) fun hb=>?_|fail);all_goals clear Z)
   refine aw_mapPutO (a:=(t,q)) (v:=.string (sB r)) (kv:=kvOf es) (Kf:=keySS) rfl rfl rfl ty_smap (keySS_ok ty_key) (keySS_bits _) (zE (oj n1 (oj n2 (oj hn_g5 hn_g11)))) (zE (oj n1 (oj n2 (oj hn_g5 hn_g11)))) (zE (oj n1 (oj n2 (oj hn_g5 hn_g11)))) (keySS_rep t q) (zE (oj n1 (oj n2 (oj hn_g5 hn_g11)))) (str_repV r) rfl ?_
   rw [hput]
   have J3:=oj n1 (oj n2 (oj hn_g5 hn_g11))
   refine yS J3 ?_
   all_goals repeat' first|refine zV J3 ?_|refine zH J3 (fun hb=>?_) fun hb=>?_|fail
   refine aw_keep [(8,.c .nilI)] [(gS,SO gM most),(gM,MO (putS t q r es))] (zB J3) (.cons _ (List.sublist_cons_self _ _)) ?_
   refine yU J3 ?_
   rw [if_neg (fun h=>hG h.1),if_pos rfl,e0]
   exact⟨rfl,rfl⟩
 ·have hc':(!decide (c=0))=true:=by rw [decide_eq_false hc];rfl
  all_goals try(have Z:=(oj n1 (oj n2 (oj hn_g5 hc')));(repeat' first|refine zV Z ?_|(refine yC2 Z (f1) ?_)|(refine yD2 Z (f1) ?_)|refine zH Z (fun hb=>?_) fun hb=>?_|fail);all_goals clear Z)
  refine aw_keep [(8,.c (errA c))] [(gS,SO gM most),(gM,MO es)] (zB (oj n1 (oj n2 (oj hn_g5 hc')))) (List.sublist_cons_self _ _) ?_
  refine yU (oj n1 (oj n2 (oj hn_g5 hc'))) ?_
  rw [if_pos hc,if_neg hc]
  exact⟨rfl,rfl⟩
noncomputable def gotS (m:MdD) (q:BS) (es:List EnD):Option BS:=if(cntR m).2=0 then getS (cntR m).1 q es else none
theorem get_fg (gS gM:Nat) (m:MdD) (ho:MdO m) (q:BS) (most:Nat) (es:List EnD) (hq:q.length≤1099511627776) (hne:gS≠gM):
  Fg2 Tryz.prog 22 gS (SO gM most) gM (MO es) [.c (.optr gS 0),.agg (mdc true m),.c (.str (sB q))] (.tup [.c (.str (sB ((gotS m q es).getD []))),.c (.bool (gotS m q es).isSome),.c (errA (cntR m).2)]) (MO es):=by
 have f1:=ctext_fa m ho
 have e0:errA 0=.nilI:=if_pos rfl
 have hget:=fun t=>kv_get t q es
 have n1:¬gM=gS:=fun e=>hne e.symm
 have n2:¬gS=gM:=hne
 unfold gotS
 generalize cntR m=C at*
 obtain⟨t,c⟩:=C
 dsimp only at*
 unfold Fg2
 refine fh_of_body Tryz.func22 rfl rfl (by simp [Tryz.ntmps22]) fun C hC=> ?_
 simp only [initS,Nat.reduceAdd]
 all_goals try(have Z:=(oj n1 n2);(repeat' first|refine zV Z ?_|refine zH Z (fun hb=>?_) fun hb=>?_|fail);all_goals clear Z)
 refine yB (oj n1 n2) fun g4 hn_g4=>?_
 all_goals try(have Z:=(oj n1 (oj n2 hn_g4));(repeat' first|refine zV Z ?_|refine zH Z (fun hb=>?_) fun hb=>?_|fail);all_goals clear Z)
 refine aw_pok (POk.eqPtr (b:=false) und_sp (zE (oj n1 (oj n2 hn_g4))) (zE (oj n1 (oj n2 hn_g4))) (.inr ⟨gS,rfl,rfl⟩)) rfl rfl ?_
 have J1:=oj n1 (oj n2 hn_g4)
 refine yS J1 ?_
 by_cases hc:c=0
 ·subst hc
  rw [e0] at f1
  rw [if_pos rfl,e0]
  all_goals repeat' first|refine zV J1 ?_|(refine yC2 J1 (f1) ?_)|(refine yD2 J1 (f1) ?_)|refine zH J1 (fun hb=>?_) fun hb=>?_|fail
  refine aw_pok (POk.lookupO (a:=(t,q)) (kv:=kvOf es) (Kf:=keySS) ty_smap (keySS_ok ty_key) (tZS_run ty_zs) (zE J1) (zE J1) (zE J1) (keySS_rep t q)) rfl rfl ?_
  have hk1:cstC ((kvGet (t,q) (kvOf es)).getD (.string (sB [])))=.str (sB ((getS t q es).getD [])):=by rw [hget];cases getS t q es<;>rfl
  have hk2:(kvGet (t,q) (kvOf es)).isSome=(getS t q es).isSome:=by rw [hget];cases getS t q es<;>rfl
  rw [hk1,hk2]
  refine yS J1 ?_
  all_goals repeat' first|refine zV J1 ?_|refine zH J1 (fun hb=>?_) fun hb=>?_|fail
  refine aw_keep [(6,.c (.str (sB ((getS t q es).getD [])))),(7,.c (.bool (getS t q es).isSome)),(8,.c .nilI)] [(gS,SO gM most),(gM,MO es)] (zB J1) (List.sublist_cons_self _ _) ?_
  refine yU J1 ?_
  exact⟨rfl,rfl⟩
 ·have hc':(!decide (c=0))=true:=by rw [decide_eq_false hc];rfl
  rw [if_neg hc]
  all_goals try(have Z:=(oj n1 (oj n2 (oj hn_g4 hc')));(repeat' first|refine zV Z ?_|(refine yC2 Z (f1) ?_)|(refine yD2 Z (f1) ?_)|refine zH Z (fun hb=>?_) fun hb=>?_|fail);all_goals clear Z)
  refine aw_keep [(6,.c (.str (sB []))),(7,.c (.bool false)),(8,.c (errA c))] [(gS,SO gM most),(gM,MO es)] (zB (oj n1 (oj n2 (oj hn_g4 hc')))) (List.sublist_cons_self _ _) ?_
  refine yU (oj n1 (oj n2 (oj hn_g4 hc'))) ?_
  exact⟨rfl,rfl⟩
end Go.Proofs.YtpcpaekpnfkhhaaGreatDoor
namespace Go.AI
open Go.PN
def mdsF (l:List MdD):Nat→CV:=lf 8 (mdc true) (md0:MdD) l
@[go_sem] theorem mdsF_0 (l:List MdD) (i:Nat):mdsF l (i*8)=CV.str (sB (l.getD i md0).name):=by have:=lf_at (s:=8) (c:=mdc true) (d:=(md0:MdD)) (xs:=l) (i:=i) (k:=0) om;exact this
@[go_sem] theorem mdsF_1 (l:List MdD) (i:Nat):mdsF l (i*8+1)=.str (sB (l.getD i md0).top):=by have:=lf_at (s:=8) (c:=mdc true) (d:=(md0:MdD)) (xs:=l) (i:=i) (k:=1) om;exact this
@[go_sem] theorem mdsF_2 (l:List MdD) (i:Nat):mdsF l (i*8+2)=evs true (l.getD i md0).events:=by have:=lf_at (s:=8) (c:=mdc true) (d:=(md0:MdD)) (xs:=l) (i:=i) (k:=2) om;exact this
@[go_sem] theorem mdsF_3 (l:List MdD) (i:Nat):mdsF l (i*8+3)=hss true (l.getD i md0).houses:=by have:=lf_at (s:=8) (c:=mdc true) (d:=(md0:MdD)) (xs:=l) (i:=i) (k:=3) om;exact this
@[go_sem] theorem mdsF_4 (l:List MdD) (i:Nat):mdsF l (i*8+4)=gts true (l.getD i md0).gates:=by have:=lf_at (s:=8) (c:=mdc true) (d:=(md0:MdD)) (xs:=l) (i:=i) (k:=4) om;exact this
@[go_sem] theorem mdsF_5 (l:List MdD) (i:Nat):mdsF l (i*8+5)=pgs true (l.getD i md0).pages:=by have:=lf_at (s:=8) (c:=mdc true) (d:=(md0:MdD)) (xs:=l) (i:=i) (k:=5) om;exact this
@[go_sem] theorem mdsF_6 (l:List MdD) (i:Nat):mdsF l (i*8+6)=grs true (l.getD i md0).groups:=by have:=lf_at (s:=8) (c:=mdc true) (d:=(md0:MdD)) (xs:=l) (i:=i) (k:=6) om;exact this
@[go_sem] theorem mdsF_7 (l:List MdD) (i:Nat):mdsF l (i*8+7)=phs true (l.getD i md0).phases:=by have:=lf_at (s:=8) (c:=mdc true) (d:=(md0:MdD)) (xs:=l) (i:=i) (k:=7) om;exact this
abbrev mds (t:Bool) (l:List MdD):CV:=.row t 8 l.length (mdsF l)
theorem ofL_lt:∀(l r:List CV) (j:Nat),j<l.length→ofL (l++r) j=ofL l j
 |[],_,_,h=>absurd h (Nat.not_lt_zero _)
 |_::_,_,0,_=>rfl
 |_::l,r,j+1,h=>ofL_lt l r j (by simpa using h)
theorem ofL_ge:∀(l r:List CV) (j:Nat),ofL (l++r) (l.length+j)=ofL r j
 |[],r,j=>by rw [List.nil_append,List.length_nil,Nat.zero_add]
 |_::l,r,j=>by
  rw [List.length_cons,show l.length+1+j=(l.length+j)+1 from by omega]
  exact ofL_ge l r j
theorem lf_flat {α:Type} {s:Nat} {c:α→List CV} {d:α} (h0:0<s):∀{xs:List α},(∀x∈xs,(c x).length=s)→∀j,j<xs.length*s→lf s c d xs j=ofL (xs.flatMap c) j
 |[],_,j,h=>by simp at h
 |x::xs,hs,j,h=>by
  have hx:=hs x List.mem_cons_self
  rw [List.flatMap_cons]
  by_cases hj:j<s
  ·rw [ofL_lt _ _ _ om]
   unfold lf
   rw [Nat.div_eq_of_lt hj,Nat.mod_eq_of_lt hj];rfl
  ·obtain⟨k,rfl⟩:∃k,j=s+k:=⟨j-s,by omega⟩
   have hk:k<xs.length*s:=by rw [List.length_cons,Nat.succ_mul] at h;omega
   have:=lf_flat (d:=d) h0 (fun y hy=>hs y (List.mem_cons_of_mem _ hy)) k hk
   rw [←hx,ofL_ge,←this]
   unfold lf
   rw [hx,Nat.add_div_left k h0,Nat.add_mod_left,List.getD_cons_succ]
theorem ler_ofL {h:Heap}:∀{l r:List CV},LeRL h l r→∀j,j<l.length→LeR h (ofL l j) (ofL r j)
 |[],[],_,_,hj=>absurd hj (Nat.not_lt_zero _)
 |_::_,_::_,hl,0,_=>hl.1
 |_::_,_::_,hl,j+1,hj=>ler_ofL hl.2 j (by simpa using hj)
 |[],_::_,hl,_,_=>hl.elim
 |_::_,[],hl,_,_=>hl.elim
theorem ler_lf {α:Type} {h:Heap} {t:Bool} {s n g m:Nat} {ty:TypeId} {c:α→List CV} {d:α} {xs:List α} {l:List CV} (hg:h.get g=some (.cells ty m (ofL l))) (h0:0<s) (hn:n=xs.length) (hs:∀x∈xs,(c x).length=s) (hm:n*s≤m) (hl:n*s≤l.length) (hr:LeRL h l (xs.flatMap c)):LeR h (.osl g s 0 n) (.row t s n (lf s c d xs)):=
 .osl hg om fun j hj=>by
  rw [Nat.zero_add,lf_flat h0 hs j (by rw [←hn];exact hj)]
  exact ler_ofL hr j om
end Go.AI
namespace Go.PN
open Go.AI
abbrev exM22:MdD:=⟨[109],[103],[⟨[97],rd0,rd0,rd0,0⟩,⟨[98],rd0,rd0,rd0,0⟩,⟨[99],rd0,rd0,rd0,0⟩],[],[⟨[103],0,0,[[97],[64,112]],rd0⟩],[⟨[112],[104],[⟨[104],1,0,[[98],[99]],rd0⟩]⟩],[],[]⟩
end Go.PN
namespace Go.Proofs.YtpcpaekpnfkhhaaGreatDoor
open Go.AI Go.PN
attribute [local irreducible] aw Fa Fh DrK
theorem ex22_fa:Fa Tryz.prog 33 [] (.agg (mdc true exM22)):=by
 refine fa_of_body Tryz.func33 rfl rfl (by simp [Tryz.ntmps33]) fun C hC=> ?_
 simp only [initS,Nat.reduceAdd]
 repeat' first|refine zV o0 ?_|refine zH o0 (fun hb=>?_) fun hb=>?_|fail
 refine xA fun g0 hn_g0=>?_
 repeat' first|refine zV hn_g0 ?_|refine zH hn_g0 (fun hb=>?_) fun hb=>?_|fail
 refine aw_buildSlice (xs:=[.tmp 1,.tmp 2,.tmp 3]) (cells:=[.str (sB [97]),.bool false,.nils,.nils,.bool false,.nils,.nils,.bool false,.nils,.nils,.int .i64 0,.str (sB [98]),.bool false,.nils,.nils,.bool false,.nils,.nils,.bool false,.nils,.nils,.int .i64 0,.str (sB [99]),.bool false,.nils,.nils,.bool false,.nils,.nils,.bool false,.nils,.nils,.int .i64 0]) rfl rfl rfl (zE hn_g0) (by refine yS hn_g0 ?_;rfl) rfl om om (by intro z hz;simp only [List.mem_cons,List.not_mem_nil,or_false] at hz;rcases hz with rfl|rfl|rfl<;>exact⟨rfl,rfl,rfl⟩) rfl fun g1 hn_g1=> ?_
 replace hn_g1:=Heap.ne_of hn_g1
 dsimp only [Heap.ne] at hn_g1
 have J1:=oj hn_g0 hn_g1
 refine yS J1 ?_
 all_goals repeat' first|refine zV J1 ?_|refine zH J1 (fun hb=>?_) fun hb=>?_|fail
 refine aw_buildSlice (xs:=[.const (.string (sB [97])),.const (.string (sB [64,112]))]) (cells:=[.str (sB [97]),.str (sB [64,112])]) rfl rfl rfl (zE J1) (by refine yS J1 ?_;rfl) rfl om om (by intro z hz;simp only [List.mem_cons,List.not_mem_nil,or_false] at hz;rcases hz with rfl|rfl<;>exact⟨rfl,rfl,rfl⟩) rfl fun g2 hn_g2=> ?_
 replace hn_g2:=Heap.ne_of hn_g2
 dsimp only [Heap.ne] at hn_g2
 have J2:=oj hn_g0 (oj hn_g1 hn_g2)
 refine yS J2 ?_
 all_goals repeat' first|refine zV J2 ?_|refine zH J2 (fun hb=>?_) fun hb=>?_|fail
 refine aw_buildSlice (xs:=[.tmp 6]) (cells:=[.str (sB [103]),.int .i64 0,.int .i64 0,.osl g2 1 0 2,.bool false,.nils,.nils]) rfl rfl rfl (zE J2) (by refine yS J2 ?_;rfl) rfl om om qd rfl fun g3 hn_g3=> ?_
 replace hn_g3:=Heap.ne_of hn_g3
 dsimp only [Heap.ne] at hn_g3
 have J3:=oj hn_g0 (oj hn_g1 (oj hn_g2 hn_g3))
 refine yS J3 ?_
 all_goals repeat' first|refine zV J3 ?_|refine zH J3 (fun hb=>?_) fun hb=>?_|fail
 refine aw_buildSlice (xs:=[.const (.string (sB [98])),.const (.string (sB [99]))]) (cells:=[.str (sB [98]),.str (sB [99])]) rfl rfl rfl (zE J3) (by refine yS J3 ?_;rfl) rfl om om (by intro z hz;simp only [List.mem_cons,List.not_mem_nil,or_false] at hz;rcases hz with rfl|rfl<;>exact⟨rfl,rfl,rfl⟩) rfl fun g4 hn_g4=> ?_
 replace hn_g4:=Heap.ne_of hn_g4
 dsimp only [Heap.ne] at hn_g4
 have J4:=oj hn_g0 (oj hn_g1 (oj hn_g2 (oj hn_g3 hn_g4)))
 refine yS J4 ?_
 all_goals repeat' first|refine zV J4 ?_|refine zH J4 (fun hb=>?_) fun hb=>?_|fail
 refine aw_buildSlice (xs:=[.tmp 9]) (cells:=[.str (sB [104]),.int .i64 1,.int .i64 0,.osl g4 1 0 2,.bool false,.nils,.nils]) rfl rfl rfl (zE J4) (by refine yS J4 ?_;rfl) rfl om om qd rfl fun g5 hn_g5=> ?_
 replace hn_g5:=Heap.ne_of hn_g5
 dsimp only [Heap.ne] at hn_g5
 have J5:=oj hn_g0 (oj hn_g1 (oj hn_g2 (oj hn_g3 (oj hn_g4 hn_g5))))
 refine yS J5 ?_
 all_goals repeat' first|refine zV J5 ?_|refine zH J5 (fun hb=>?_) fun hb=>?_|fail
 refine aw_buildSlice (xs:=[.tmp 11]) (cells:=[.str (sB [112]),.str (sB [104]),.osl g5 7 0 1]) rfl rfl rfl (zE J5) (by refine yS J5 ?_;rfl) rfl om om qd rfl fun g6 hn_g6=> ?_
 replace hn_g6:=Heap.ne_of hn_g6
 dsimp only [Heap.ne] at hn_g6
 have J6:=oj hn_g0 (oj hn_g1 (oj hn_g2 (oj hn_g3 (oj hn_g4 (oj hn_g5 hn_g6)))))
 refine yS J6 ?_
 all_goals repeat' first|refine zV J6 ?_|refine zH J6 (fun hb=>?_) fun hb=>?_|fail
 refine yT hC J6 ?_
 refine .one (.agg ⟨.str _,.str _,?_,.nils,?_,?_,.nils,.nils,trivial⟩)
 ·refine ler_lf (zE J6) (Nat.succ_pos _) rfl (fun _ _=>rfl) (Nat.le_refl _) (Nat.le_refl _) ?_
  exact⟨.str _,.bool _,.nils,.nils,.bool _,.nils,.nils,.bool _,.nils,.nils,.int _ _,.str _,.bool _,.nils,.nils,.bool _,.nils,.nils,.bool _,.nils,.nils,.int _ _,.str _,.bool _,.nils,.nils,.bool _,.nils,.nils,.bool _,.nils,.nils,.int _ _,trivial⟩
 ·refine ler_lf (zE J6) (Nat.succ_pos _) rfl (fun _ _=>rfl) (Nat.le_refl _) (Nat.le_refl _) ?_
  refine⟨.str _,.int _ _,.int _ _,?_,.bool _,.nils,.nils,trivial⟩
  refine ler_lf (zE J6) (Nat.succ_pos _) rfl (fun _ _=>rfl) (Nat.le_refl _) (Nat.le_refl _) ?_
  exact⟨.str _,.str _,trivial⟩
 ·refine ler_lf (zE J6) (Nat.succ_pos _) rfl (fun _ _=>rfl) (Nat.le_refl _) (Nat.le_refl _) ?_
  refine⟨.str _,.str _,?_,trivial⟩
  refine ler_lf (zE J6) (Nat.succ_pos _) rfl (fun _ _=>rfl) (Nat.le_refl _) (Nat.le_refl _) ?_
  refine⟨.str _,.int _ _,.int _ _,?_,.bool _,.nils,.nils,trivial⟩
  refine ler_lf (zE J6) (Nat.succ_pos _) rfl (fun _ _=>rfl) (Nat.le_refl _) (Nat.le_refl _) ?_
  exact⟨.str _,.str _,trivial⟩
end Go.Proofs.YtpcpaekpnfkhhaaGreatDoor
namespace Go.PN
open Go.AI
theorem exM22_o:MdO exM22:=by
 have hg:∀(n a b:BS) (k:Int),n.length≤1000→a.length≤1000→b.length≤1000→GtO ⟨n,k,0,[a,b],rd0⟩:=fun n a b k h1 h2 h3=>⟨Nat.le_trans h1 (by decide),rd0_ok,by show 2≤_;decide,fun i hi=>by
  simp only [List.mem_cons,List.not_mem_nil,or_false] at hi
  rcases hi with rfl|rfl
  ·exact Nat.le_trans h2 (by decide)
  ·exact Nat.le_trans h3 (by decide)⟩
 refine⟨by decide,by decide,⟨by decide,fun x hx=> ?_⟩,⟨by decide,fun _ h=>by cases h⟩,⟨by decide,fun x hx=> ?_⟩,⟨by decide,fun x hx=> ?_⟩,⟨by decide,fun _ h=>by cases h⟩,⟨by decide,fun _ h=>by cases h⟩⟩
 ·simp only [List.mem_cons,List.not_mem_nil,or_false] at hx
  rcases hx with rfl|rfl|rfl<;>exact⟨by decide,rd0_ok,rd0_ok,rd0_ok⟩
 ·rw [List.mem_singleton] at hx
  subst hx
  exact hg _ _ _ _ (by decide) (by decide) (by decide)
 ·rw [List.mem_singleton] at hx
  subst hx
  refine⟨by decide,by decide,by show 1≤_;decide,fun g hgm=> ?_⟩
  rw [List.mem_singleton] at hgm
  subst hgm
  exact hg _ _ _ _ (by decide) (by decide) (by decide)
theorem exM22_c:mcC exM22=0:=by decide+kernel
theorem exM22_l:longX exM22=false:=by decide+kernel
theorem exM22_t:(cntR exM22).2=0:=by rw [cntR_ok exM22_c exM22_l]
theorem dig_nil:digP []=14695981039346656037:=rfl
theorem dig_a:digP [97]=12638187200555641996:=by
 show dgZ 14695981039346656037 (bAt [97] 0)=_
 unfold dgZ
 rw [show((bAt [97] 0:Nat):Int)=97 from rfl,xorZ_eq,wrapZ_eq]
 decide+kernel
end Go.PN
namespace Go.Proofs.YtpcpaekpnfkhhaaGreatDoor
open Go.AI Go.PN
attribute [local irreducible] aw Fa Fh DrK
theorem awake58_fa:Fa Tryz.prog 8 [] (.c (.bool true)):=by
 have hc:=exM22_t
 have e0:errA 0=.nilI:=if_pos rfl
 have f1:=ex22_fa
 have f2:=digest_fa [] (by decide)
 have f3:=digest_fa [97] (by decide)
 rw [dig_nil] at f2
 rw [dig_a] at f3
 have hpE:putE exM22 [113] [114] 2 []=0:=by
  unfold putE
  rw [if_neg (fun h=>h hc),if_neg (by decide),if_neg (by rintro ⟨_,h⟩;cases h)]
 have hpM:putM exM22 [113] [114] 2 []=[((cntR exM22).1,[113],[114])]:=by
  unfold putM
  rw [if_pos hpE];rfl
 have hg:gotS exM22 [113] [((cntR exM22).1,[113],[114])]=some [114]:=by
  unfold gotS
  rw [if_pos hc]
  exact if_pos rfl
 have p1:=fun gS gM hne=>put_fg gS gM exM22 exM22_o [113] [114] 2 [] (by decide) (by decide) (by decide) (by decide) hne
 have p2:=fun gS gM hne=>get_fg gS gM exM22 exM22_o [113] 2 [((cntR exM22).1,[113],[114])] (by decide) hne
 rw [hpE,hpM,e0] at p1
 rw [hg,hc,e0] at p2
 generalize (cntR exM22).1=T at*
 dsimp only [Option.getD_some,Option.isSome_some] at p2
 refine fa_of_body Tryz.func8 rfl rfl (by simp [Tryz.ntmps8]) fun C hC=> ?_
 simp only [initS,Nat.reduceAdd]
 repeat' first|refine zV o0 ?_|refine zH o0 (fun hb=>?_) fun hb=>?_|fail
 refine aw_callh (cnew_fh 2 (by decide) (by decide)) rfl rfl rfl (hr:=[]) (.refl _) eL ?_
 rintro _ _ ⟨gS,gM,rfl,rfl⟩ _
 refine aw_nd fun hnd=> ?_
 have hne:gS≠gM:=by
  simp only [List.append_nil,Heap.keys,List.map_cons,List.map_nil,List.nodup_cons,List.mem_singleton] at hnd
  exact hnd.1
 clear hnd
 have n1:¬gM=gS:=fun e=>hne e.symm
 have n2:¬gS=gM:=hne
 have q1:=p1 gS gM hne
 have q2:=p2 gS gM hne
 clear p1 p2
 simp only [List.append_nil]
 refine yS (oj n1 n2) ?_
 all_goals try(have Z:=(oj n1 n2);(repeat' first|refine zV Z ?_|(refine yC2 Z (f1) ?_)|(refine yD2 Z (f1) ?_)|refine zH Z (fun hb=>?_) fun hb=>?_|fail);all_goals clear Z)
 refine yA (oj n1 n2) fun g3 hn_g3=>?_
 all_goals try(have Z:=(oj n1 (oj n2 hn_g3));(repeat' first|refine zV Z ?_|refine zH Z (fun hb=>?_) fun hb=>?_|fail);all_goals clear Z)
 refine aw_pok (POk.eqPtr (b:=false) und_sp (zE (oj n1 (oj n2 hn_g3))) (zE (oj n1 (oj n2 hn_g3))) (.inr ⟨gS,rfl,rfl⟩)) rfl rfl ?_
 have J1:=oj n1 (oj n2 hn_g3)
 refine yS J1 ?_
 all_goals repeat' first|refine zV J1 ?_|(refine zh J1 (q1) ?_)|(refine zh J1 (q2) ?_)|(refine yC2 J1 (f2) ?_)|(refine yD2 J1 (f2) ?_)|(refine yC2 J1 (f3) ?_)|(refine yD2 J1 (f3) ?_)|refine zH J1 (fun hb=>?_) fun hb=>?_|fail
 all_goals first
  |exact absurd rfl hb
  |(refine yT hC J1 ?_
    exact .one (.c (.bool _)))
end Go.Proofs.YtpcpaekpnfkhhaaGreatDoor
namespace Go.PN
open Go.AI
theorem all_f {α:Type} {p:α→Bool} {l:List α} {d:α} {j:Nat} (hj:j<l.length) (h:p (l.getD j d)=false):l.all p=false:=by
 refine Bool.of_not_eq_true fun e=> ?_
 have:=List.all_eq_true.1 e (l.getD j d) (by rw [List.getD_eq_getElem?_getD,List.getElem?_eq_getElem hj];exact List.getElem_mem _)
 rw [h] at this;cases this
theorem all_t {α:Type} {p:α→Bool} {l:List α} {d:α} (h:∀j,j<l.length→p (l.getD j d)=true):l.all p=true:=by
 refine List.all_eq_true.2 fun x hx=> ?_
 obtain⟨j,hj,rfl⟩:=List.getElem_of_mem hx
 have:=h j hj
 rwa [List.getD_eq_getElem?_getD,List.getElem?_eq_getElem hj] at this
theorem all_iff {α:Type} {p:α→Bool} {l:List α} (d:α):l.all p=true↔∀j,j<l.length→p (l.getD j d)=true:=
 ⟨fun h j hj=>Bool.of_not_eq_false fun e=>(by rw [all_f hj e] at h;cases h),all_t⟩
def LightP (m:MdD):Prop:=m.events.length≤60∧m.houses.length≤60∧m.pages.length≤30∧m.groups.length≤30∧m.phases.length≤30∧fewB m.gates=true∧(∀j,j<m.events.length→lightE (m.events.getD j ev0)=true)∧(∀j,j<m.pages.length→fewB (m.pages.getD j pg0).gates=true)∧(∀j,j<m.groups.length→lightR (m.groups.getD j gr0)=true)∧(∀j,j<m.phases.length→lightH (m.phases.getD j ph0)=true)
theorem light_iff (m:MdD):lightB m=true↔LightP m:=by
 unfold lightB LightP
 rw [←all_iff (p:=lightE) ev0,←all_iff (p:=lightR) gr0,←all_iff (p:=lightH) ph0]
 rw [show(∀j,j<m.pages.length→fewB (m.pages.getD j pg0).gates=true)↔m.pages.all lightP=true from(all_iff (p:=lightP) pg0).symm]
 simp only [Bool.and_eq_true,decide_eq_true_eq,and_assoc]
theorem light_ff {m:MdD} (h:¬LightP m):false=lightB m:=(Bool.of_not_eq_true fun e=>h ((light_iff m).1 e)).symm
theorem light_tt {m:MdD} (h:LightP m):true=lightB m:=((light_iff m).2 h).symm
theorem few_ff {l:List GtD} {j:Nat} (hj:j<l.length) (h:fewG (l.getD j gt0)=false):false=fewB l:=by
 unfold fewB
 rw [all_f hj h];rfl
theorem few_tt {l:List GtD} (h:∀j,j<l.length→fewG (l.getD j gt0)=true):decide (l.length≤100)=fewB l:=by
 unfold fewB
 rw [all_t h];rfl
theorem lightR_ff {x:GrD} {j:Nat} (hj:j<x.factors.length) (h:shortB (x.factors.getD j rd0)=false):lightR x=false:=by
 unfold lightR
 rw [all_f hj h,Bool.and_false]
theorem lightR_tt {x:GrD} (h1:x.members.length≤60) (h2:x.factors.length≤60) (h:∀j,j<x.factors.length→shortB (x.factors.getD j rd0)=true):lightR x=true:=by
 unfold lightR
 rw [all_t h,decide_eq_true h1,decide_eq_true h2];rfl
theorem lightH_ff {x:PhD} {j:Nat} (hj:j<x.values.length) (h:shortB (x.values.getD j vl0).p=false):lightH x=false:=by
 unfold lightH
 rw [all_f (p:=fun v:VlD=>shortB v.p) hj h,Bool.and_false]
theorem lightH_tt {x:PhD} (h1:x.values.length≤60) (h:∀j,j<x.values.length→shortB (x.values.getD j vl0).p=true):lightH x=true:=by
 unfold lightH
 rw [all_t (p:=fun v:VlD=>shortB v.p) h,decide_eq_true h1];rfl
theorem rd0_u (n:Nat):RdU n rd0:=RD.wf.mono (a:=0) ⟨fun _ h=>(by cases h),fun _ h=>(by cases h),Nat.le_refl _,Nat.le_refl _⟩ (Nat.zero_le n)
theorem ev0_u (n:Nat):EvU n ev0:=⟨Nat.zero_le _,rd0_u n,rd0_u n,rd0_u n,by decide,by decide⟩
theorem gt0_u (n:Nat):GtU n gt0:=⟨Nat.zero_le _,by decide,by decide,⟨Nat.zero_le _,fun _ h=>(by cases h)⟩,rd0_u n⟩
theorem pg0_u (n:Nat):PgU n pg0:=⟨Nat.zero_le _,Nat.zero_le _,Nat.zero_le _,fun _ h=>by cases h⟩
theorem gr0_u (n:Nat):GrU n gr0:=⟨Nat.zero_le _,by decide,⟨Nat.zero_le _,fun _ h=>(by cases h)⟩,Nat.zero_le _,fun _ h=>(by cases h)⟩
theorem vl0_u (n:Nat):VlU n vl0:=⟨Nat.zero_le _,rd0_u n⟩
theorem ph0_u (n:Nat):PhU n ph0:=⟨Nat.zero_le _,Nat.zero_le _,Nat.zero_le _,fun _ h=>by cases h⟩
end Go.PN
namespace Go.Proofs.YtpcpaekpnfkhhaaGreatDoor
open Go.AI Go.PN
attribute [local irreducible] aw Fa Fh DrK
theorem short_fa (r:RD) {n:Nat} (hu:RdU n r) (hn:n≤1048576):Fa Tryz.prog 35 [.agg (rdc r)] (.c (.bool (shortB r))):=by
 have l1:r.num.length≤1099511627776:=Nat.le_trans hu.2.2.1 (Nat.le_trans hn (by decide))
 have l2:r.den.length≤1099511627776:=Nat.le_trans hu.2.2.2 (Nat.le_trans hn (by decide))
 have hX:shortB r=(decide (r.num.length≤40)&&decide (r.den.length≤40)):=rfl
 refine fa_of_body Tryz.func35 rfl rfl (by simp [Tryz.ntmps35]) fun C hC=> ?_
 simp only [initS,Nat.reduceAdd]
 repeat' first|refine zV o0 ?_|refine zH o0 (fun hb=>?_) fun hb=>?_|fail
 refine xB fun g1 hn_g1=>?_
 repeat' first|refine zV hn_g1 ?_|refine zH hn_g1 (fun hb=>?_) fun hb=>?_|fail
 all_goals
  refine yT hC hn_g1 ?_
  exact .one (.c (ler_bool (by rw [hX];first|(simp_all;done)|(simp_all;intros;omega))))
theorem few_fa (l:List GtD) {n:Nat} (hu:GsU n l) (hn:n≤1048576):Fa Tryz.prog 34 [.c (gts true l)] (.c (.bool (fewB l))):=by
 have l1:l.length≤1099511627776:=Nat.le_trans hu.1 (Nat.le_trans hn (by decide))
 have hg:∀i,GtU n (l.getD i gt0):=fun i=>getD_all hu.2 (gt0_u n) i
 refine fa_of_body Tryz.func34 rfl rfl (by simp [Tryz.ntmps34]) fun C hC=> ?_
 simp only [initS,Nat.reduceAdd]
 repeat' first|refine zV o0 ?_|refine zH o0 (fun hb=>?_) fun hb=>?_|fail
 refine aw_lp (fun i:Nat=>[(0,.c (gts true l)),(5,.c (gts true l)),(6,.c (.int .i64 l.length)),(7,.c (.int .i64 i))]) (fun _=>[]) (fun i=>i≤l.length∧∀j,j<i→fewG (l.getD j gt0)=true) (fun i=>l.length-i) 0 eB zZ ⟨Nat.zero_le _,fun _ h=>absurd h (Nat.not_lt_zero _)⟩ ?_
 rintro i ⟨hi,hs⟩
 repeat' first|refine zV o0 ?_|refine zH o0 (fun hb=>?_) fun hb=>?_|fail
 ·have hi':=hb
  have hgi:=hg i
  have f1:=short_fa (l.getD i gt0).dorm hgi.2.2.2.2 hn
  have hff:=few_ff hi'
  have hst:=fun h:fewG (l.getD i gt0)=true=>(show∀j,j<i+1→fewG (l.getD j gt0)=true from fun j hj=>by
   rcases Nat.lt_succ_iff_lt_or_eq.1 hj with h1|h1
   ·exact hs j h1
   ·rw [h1];exact h)
  have l2:(l.getD i gt0).inputs.length≤1099511627776:=Nat.le_trans hgi.2.2.2.1.1 (Nat.le_trans hn (by decide))
  have hX:fewG (l.getD i gt0)=(decide ((l.getD i gt0).inputs.length≤40)&&shortB (l.getD i gt0).dorm):=rfl
  clear hb
  refine xA fun g4 hn_g4=>?_
  generalize l.getD i gt0=x at*
  repeat' first|refine zV hn_g4 ?_|(refine yC2 hn_g4 (f1) ?_)|(refine yD2 hn_g4 (f1) ?_)|refine zH hn_g4 (fun hb=>?_) fun hb=>?_|fail
  all_goals first
   |(refine yT hC hn_g4 ?_
     exact .one (.c (ler_bool (hff (by rw [hX];simp_all<;>(intros;omega)))))
     done)
   |(refine aw_stop ⟨i+1,?_⟩
     have ht3:=hst (by rw [hX];simp_all)
     and_intros
     all_goals first|rfl|exact List.sublist_cons_self _ _|exact List.Sublist.refl _|exact True.intro|exact ht3|omega)
 ·have ht:=few_tt (l:=l) fun j hj=>hs j om
  refine xT hC ?_
  exact .one (.c (ler_bool (by rw [←ht])))
end Go.Proofs.YtpcpaekpnfkhhaaGreatDoor
namespace Go.Proofs.YtpcpaekpnfkhhaaGreatDoor
open Go.AI Go.PN
theorem lt_step {p:Nat→Prop} {i:Nat} (hs:∀j,j<i→p j) (h:p i):∀j,j<i+1→p j:=fun j hj=>by
 rcases Nat.lt_succ_iff_lt_or_eq.1 hj with h1|h1
 ·exact hs j h1
 ·rw [h1];exact h
theorem no_lt {p:Nat→Prop}:∀j,j<0→p j:=fun _ h=>absurd h (Nat.not_lt_zero _)
attribute [local irreducible] aw Fa Fh DrK
theorem light_fa (m:MdD) {n:Nat} (hu:MdU n m) (hn:n≤1048576):Fa Tryz.prog 9 [.agg (mdc true m)] (.c (.bool (lightB m))):=by
 have big:∀{k:Nat},k≤n→k≤1099511627776:=fun h=>Nat.le_trans h (Nat.le_trans hn (by decide))
 have l1:=big hu.ev.1
 have l2:=big hu.hs.1
 have l3:=big hu.pg.1
 have l4:=big hu.gr.1
 have l5:=big hu.ph.1
 have f1:=few_fa m.gates hu.gt hn
 have hF:¬LightP m→false=lightB m:=light_ff
 have hT:LightP m→true=lightB m:=light_tt
 have hLP:LightP m↔LightP m:=Iff.rfl
 conv at hLP=>rhs;unfold LightP
 generalize lightB m=X at*
 refine fa_of_body Tryz.func9 rfl rfl (by simp [Tryz.ntmps9]) fun C hC=> ?_
 simp only [initS,Nat.reduceAdd]
 refine zA o0 ?_
 refine xB fun g1 hn_g1=>?_
 repeat' first|refine zV hn_g1 ?_|(refine yC2 hn_g1 (f1) ?_)|(refine yD2 hn_g1 (f1) ?_)|refine zH hn_g1 (fun hb=>?_) fun hb=>?_|fail
 all_goals try (first
  |(refine yT hC hn_g1 ?_
    refine .one (.c (ler_bool (hF fun h=> ?_)))
    obtain⟨c1,c2,c3,c4,c5,c6,_⟩:=hLP.1 h
    first|omega|(exfalso;simp_all;done)
    done))
 have b6:fewB m.gates=true:=by simpa using hb
 clear hb f1
 refine aw_lp (fun i:Nat=>[(1,.c (.optr g1 0)),(50,.c (evs true m.events)),(51,.c (.int .i64 m.events.length)),(52,.c (.int .i64 i))]) (fun _=>[(g1,.cells 29 8 (ofL (mdc true m)))]) (fun i=>i≤m.events.length∧∀j,j<i→lightE (m.events.getD j ev0)=true) (fun i=>m.events.length-i) 0 (zB hn_g1) zZ ⟨Nat.zero_le _,no_lt⟩ ?_
 rintro i ⟨hi,hs⟩
 repeat' first|refine zV hn_g1 ?_|refine zH hn_g1 (fun hb=>?_) fun hb=>?_|fail
 ·have hi':=hb
  have hq:LightP m→lightE (m.events.getD i ev0)=true:=fun h=>(hLP.1 h).2.2.2.2.2.2.1 i hi'
  have hst:=lt_step (p:=fun j=>lightE (m.events.getD j ev0)=true) (i:=i) hs
  have hu1:=getD_all hu.ev.2 (ev0_u n) i
  have s1:=short_fa _ hu1.2.1 hn
  have s2:=short_fa _ hu1.2.2.1 hn
  have s3:=short_fa _ hu1.2.2.2.1 hn
  clear hb
  refine yA hn_g1 fun g4 hn_g4=>?_
  generalize hv:m.events.getD i ev0=x at*
  have hX:lightE x=(shortB x.p&&shortB x.fail&&shortB x.rep):=rfl
  all_goals try(have Z:=(oj hn_g1 hn_g4);(repeat' first|refine zV Z ?_|(refine yC2 Z (s1) ?_)|(refine yD2 Z (s1) ?_)|(refine yC2 Z (s2) ?_)|(refine yD2 Z (s2) ?_)|(refine yC2 Z (s3) ?_)|(refine yD2 Z (s3) ?_)|refine zH Z (fun hb=>?_) fun hb=>?_|fail);all_goals clear Z)
  all_goals first
   |(refine yT hC (oj hn_g1 hn_g4) ?_
     refine .one (.c (ler_bool (hF fun h=> ?_)))
     have h2:=hq h
     clear hLP hT hF hs hq hst hv s1 s2 s3 h
     rw [hX] at h2
     simp_all
     done)
   |(refine aw_stop ⟨i+1,?_⟩
     have ht3:=hst (by rw [hX];clear hLP hT hF hs hq hst hv s1 s2 s3;simp_all)
     and_intros
     all_goals first|rfl|exact List.sublist_cons_self _ _|exact List.Sublist.refl _|exact True.intro|exact ht3|omega)
 have e7:∀j,j<m.events.length→lightE (m.events.getD j ev0)=true:=fun j hj=>hs j om
 clear hs hi hb
 refine aw_lp (fun i:Nat=>[(1,.c (.optr g1 0)),(74,.c (pgs true m.pages)),(75,.c (.int .i64 m.pages.length)),(76,.c (.int .i64 i))]) (fun _=>[(g1,.cells 29 8 (ofL (mdc true m)))]) (fun i=>i≤m.pages.length∧∀j,j<i→fewB (m.pages.getD j pg0).gates=true) (fun i=>m.pages.length-i) 0 (zB hn_g1) zZ ⟨Nat.zero_le _,no_lt⟩ ?_
 rintro i ⟨hi,hs⟩
 repeat' first|refine zV hn_g1 ?_|refine zH hn_g1 (fun hb=>?_) fun hb=>?_|fail
 ·have hi':=hb
  have hq:LightP m→fewB (m.pages.getD i pg0).gates=true:=fun h=>(hLP.1 h).2.2.2.2.2.2.2.1 i hi'
  have hst:=lt_step (p:=fun j=>fewB (m.pages.getD j pg0).gates=true) (i:=i) hs
  have hu1:=getD_all hu.pg.2 (pg0_u n) i
  have s1:=few_fa _ hu1.2.2 hn
  clear hb
  refine yA hn_g1 fun g6 hn_g6=>?_
  generalize hv:m.pages.getD i pg0=x at*
  all_goals try(have Z:=(oj hn_g1 hn_g6);(repeat' first|refine zV Z ?_|(refine yC2 Z (s1) ?_)|(refine yD2 Z (s1) ?_)|refine zH Z (fun hb=>?_) fun hb=>?_|fail);all_goals clear Z)
  all_goals first
   |(refine yT hC (oj hn_g1 hn_g6) ?_
     refine .one (.c (ler_bool (hF fun h=> ?_)))
     have h2:=hq h
     clear hLP hT hF hs hq hst hv s1 h
     simp_all
     done)
   |(refine aw_stop ⟨i+1,?_⟩
     have ht3:=hst (by clear hLP hT hF hs hq hst hv s1;simp_all)
     and_intros
     all_goals first|rfl|exact List.sublist_cons_self _ _|exact List.Sublist.refl _|exact True.intro|exact ht3|omega)
 have e8:∀j,j<m.pages.length→fewB (m.pages.getD j pg0).gates=true:=fun j hj=>hs j om
 clear hs hi hb
 refine aw_lp (fun i:Nat=>[(1,.c (.optr g1 0)),(86,.c (grs true m.groups)),(87,.c (.int .i64 m.groups.length)),(88,.c (.int .i64 i))]) (fun _=>[(g1,.cells 29 8 (ofL (mdc true m)))]) (fun i=>i≤m.groups.length∧∀j,j<i→lightR (m.groups.getD j gr0)=true) (fun i=>m.groups.length-i) 0 (zB hn_g1) zZ ⟨Nat.zero_le _,no_lt⟩ ?_
 rintro i ⟨hi,hs⟩
 repeat' first|refine zV hn_g1 ?_|refine zH hn_g1 (fun hb=>?_) fun hb=>?_|fail
 ·have hi':=hb
  have hq:LightP m→lightR (m.groups.getD i gr0)=true:=fun h=>(hLP.1 h).2.2.2.2.2.2.2.2.1 i hi'
  have hst:=lt_step (p:=fun j=>lightR (m.groups.getD j gr0)=true) (i:=i) hs
  have hu1:=getD_all hu.gr.2 (gr0_u n) i
  have nm1:=big hu1.2.2.1.1
  have nm2:=big hu1.2.2.2.1
  clear hb
  refine yA hn_g1 fun g8 hn_g8=>?_
  generalize hv:m.groups.getD i gr0=x at*
  all_goals try(have Z:=(oj hn_g1 hn_g8);(repeat' first|refine zV Z ?_|refine zH Z (fun hb=>?_) fun hb=>?_|fail);all_goals clear Z)
  all_goals try (first
   |(refine yT hC (oj hn_g1 hn_g8) ?_
     refine .one (.c (ler_bool (hF fun h=> ?_)))
     have h2:=hq h
     unfold lightR at h2
     simp only [Bool.and_eq_true,decide_eq_true_eq] at h2
     omega
     done))
  have c2:=hb
  clear hb
  refine aw_lp (fun k:Nat=>[(1,.c (.optr g1 0)),(86,.c (grs true m.groups)),(87,.c (.int .i64 m.groups.length)),(88,.c (.int .i64 i)),(103,.c (rats true x.factors)),(104,.c (.int .i64 x.factors.length)),(105,.c (.int .i64 k))]) (fun _=>[(g1,.cells 29 8 (ofL (mdc true m)))]) (fun k=>k≤x.factors.length∧∀j,j<k→shortB (x.factors.getD j rd0)=true) (fun k=>x.factors.length-k) 0 (zB (oj hn_g1 hn_g8)) (List.sublist_cons_self _ _) ⟨Nat.zero_le _,no_lt⟩ ?_
  rintro k ⟨hk,hks⟩
  all_goals try(have Z:=(oj hn_g1 hn_g8);(repeat' first|refine zV Z ?_|refine zH Z (fun hb=>?_) fun hb=>?_|fail);all_goals clear Z)
  ·have hk':=hb
   have hqf:shortB (x.factors.getD k rd0)=false→lightR x=false:=lightR_ff hk'
   have hst2:=lt_step (p:=fun j=>shortB (x.factors.getD j rd0)=true) (i:=k) hks
   have s1:=short_fa _ (getD_all hu1.2.2.2.2 (rd0_u n) k) hn
   clear hb
   refine yA (oj hn_g1 hn_g8) fun g10 hn_g10=>?_
   generalize hv2:x.factors.getD k rd0=y at*
   all_goals try(have Z:=(oj hn_g1 (oj hn_g8 hn_g10));(repeat' first|refine zV Z ?_|(refine yC2 Z (s1) ?_)|(refine yD2 Z (s1) ?_)|refine zH Z (fun hb=>?_) fun hb=>?_|fail);all_goals clear Z)
   all_goals first
    |(refine yT hC (oj hn_g1 (oj hn_g8 hn_g10)) ?_
      refine .one (.c (ler_bool (hF fun h=> ?_)))
      have h2:=hq h
      rw [hqf (by simpa using hb)] at h2
      cases h2
      done)
    |(refine aw_stop ⟨k+1,?_⟩
      have ht3:=hst2 (by simpa using hb)
      and_intros
      all_goals first|rfl|exact List.sublist_cons_self _ _|exact List.Sublist.refl _|exact True.intro|exact ht3|omega)
  ·have ht3:=hst (lightR_tt om om fun j hj=>hks j om)
   refine aw_stop ⟨i+1,?_⟩
   and_intros
   all_goals first|rfl|exact List.sublist_cons_self _ _|exact List.Sublist.refl _|exact True.intro|exact ht3|omega
 have e9:∀j,j<m.groups.length→lightR (m.groups.getD j gr0)=true:=fun j hj=>hs j om
 clear hs hi hb
 refine aw_lp (fun i:Nat=>[(1,.c (.optr g1 0)),(115,.c (phs true m.phases)),(116,.c (.int .i64 m.phases.length)),(117,.c (.int .i64 i))]) (fun _=>[(g1,.cells 29 8 (ofL (mdc true m)))]) (fun i=>i≤m.phases.length∧∀j,j<i→lightH (m.phases.getD j ph0)=true) (fun i=>m.phases.length-i) 0 (zB hn_g1) zZ ⟨Nat.zero_le _,no_lt⟩ ?_
 rintro i ⟨hi,hs⟩
 repeat' first|refine zV hn_g1 ?_|refine zH hn_g1 (fun hb=>?_) fun hb=>?_|fail
 ·have hi':=hb
  have hq:LightP m→lightH (m.phases.getD i ph0)=true:=fun h=>(hLP.1 h).2.2.2.2.2.2.2.2.2 i hi'
  have hst:=lt_step (p:=fun j=>lightH (m.phases.getD j ph0)=true) (i:=i) hs
  have hu1:=getD_all hu.ph.2 (ph0_u n) i
  have nm1:=big hu1.2.2.1
  clear hb
  refine yA hn_g1 fun g12 hn_g12=>?_
  generalize hv:m.phases.getD i ph0=x at*
  all_goals try(have Z:=(oj hn_g1 hn_g12);(repeat' first|refine zV Z ?_|refine zH Z (fun hb=>?_) fun hb=>?_|fail);all_goals clear Z)
  all_goals try (first
   |(refine yT hC (oj hn_g1 hn_g12) ?_
     refine .one (.c (ler_bool (hF fun h=> ?_)))
     have h2:=hq h
     unfold lightH at h2
     simp only [Bool.and_eq_true,decide_eq_true_eq] at h2
     omega
     done))
  have c2:=hb
  clear hb
  refine aw_lp (fun k:Nat=>[(1,.c (.optr g1 0)),(115,.c (phs true m.phases)),(116,.c (.int .i64 m.phases.length)),(117,.c (.int .i64 i)),(126,.c (vls true x.values)),(127,.c (.int .i64 x.values.length)),(128,.c (.int .i64 k))]) (fun _=>[(g1,.cells 29 8 (ofL (mdc true m)))]) (fun k=>k≤x.values.length∧∀j,j<k→shortB (x.values.getD j vl0).p=true) (fun k=>x.values.length-k) 0 (zB (oj hn_g1 hn_g12)) (List.sublist_cons_self _ _) ⟨Nat.zero_le _,no_lt⟩ ?_
  rintro k ⟨hk,hks⟩
  all_goals try(have Z:=(oj hn_g1 hn_g12);(repeat' first|refine zV Z ?_|refine zH Z (fun hb=>?_) fun hb=>?_|fail);all_goals clear Z)
  ·have hk':=hb
   have hqf:shortB (x.values.getD k vl0).p=false→lightH x=false:=lightH_ff hk'
   have hst2:=lt_step (p:=fun j=>shortB (x.values.getD j vl0).p=true) (i:=k) hks
   have s1:=short_fa _ (getD_all hu1.2.2.2 (vl0_u n) k).2 hn
   clear hb
   refine yA (oj hn_g1 hn_g12) fun g14 hn_g14=>?_
   generalize hv2:x.values.getD k vl0=y at*
   all_goals try(have Z:=(oj hn_g1 (oj hn_g12 hn_g14));(repeat' first|refine zV Z ?_|(refine yC2 Z (s1) ?_)|(refine yD2 Z (s1) ?_)|refine zH Z (fun hb=>?_) fun hb=>?_|fail);all_goals clear Z)
   all_goals first
    |(refine yT hC (oj hn_g1 (oj hn_g12 hn_g14)) ?_
      refine .one (.c (ler_bool (hF fun h=> ?_)))
      have h2:=hq h
      rw [hqf (by simpa using hb)] at h2
      cases h2
      done)
    |(refine aw_stop ⟨k+1,?_⟩
      have ht3:=hst2 (by simpa using hb)
      and_intros
      all_goals first|rfl|exact List.sublist_cons_self _ _|exact List.Sublist.refl _|exact True.intro|exact ht3|omega)
  ·have ht3:=hst (lightH_tt om fun j hj=>hks j om)
   refine aw_stop ⟨i+1,?_⟩
   and_intros
   all_goals first|rfl|exact List.sublist_cons_self _ _|exact List.Sublist.refl _|exact True.intro|exact ht3|omega
 have e10:∀j,j<m.phases.length→lightH (m.phases.getD j ph0)=true:=fun j hj=>hs j om
 refine yT hC hn_g1 ?_
 exact .one (.c (ler_bool (hT (hLP.2 ⟨by omega,by omega,by omega,by omega,by omega,b6,e7,e8,e9,e10⟩))))
end Go.Proofs.YtpcpaekpnfkhhaaGreatDoor
namespace Go.PN
open Go.AI
def modelsB (l:List MdD):Bool:=l.all lightB&&(decide (0<l.length)&&decide (l.length≤4))
theorem md0_u (n:Nat):MdU n md0:=⟨Nat.zero_le _,Nat.zero_le _,⟨Nat.zero_le _,fun _ h=>by cases h⟩,⟨Nat.zero_le _,fun _ h=>by cases h⟩,⟨Nat.zero_le _,fun _ h=>by cases h⟩,⟨Nat.zero_le _,fun _ h=>by cases h⟩,⟨Nat.zero_le _,fun _ h=>by cases h⟩,⟨Nat.zero_le _,fun _ h=>by cases h⟩⟩
theorem models_ff {l:List MdD} {i:Nat} (hi:i<l.length) (h:lightB (l.getD i md0)=false):false=modelsB l:=by
 unfold modelsB
 have:l.all lightB=false:=by
  rw [List.all_eq_false]
  refine⟨l.getD i md0,?_,by rw [h];simp⟩
  rw [List.getD_eq_getElem?_getD,List.getElem?_eq_getElem hi]
  exact List.getElem_mem hi
 rw [this];rfl
theorem models_all {l:List MdD} (h:∀j,j<l.length→lightB (l.getD j md0)=true):l.all lightB=true:=by
 rw [List.all_eq_true]
 intro x hx
 obtain⟨i,hi,e⟩:=List.mem_iff_getElem.1 hx
 have:=h i hi
 rw [List.getD_eq_getElem?_getD,List.getElem?_eq_getElem hi] at this
 rw [←e];exact this
end Go.PN
namespace Go.AI
open Go.PN
theorem le_mds {h:Heap} {g n:Nat} {ty:TypeId} {l:List MdD} (hg:h.get g=some (.cells ty (n*8) (mdsF l))):LeC h (.osl g 8 0 n) (.row false 8 n (mdsF l)):=.osl hg om fun j _=>by rw [Nat.zero_add];exact .refl _
end Go.AI
namespace Go.Proofs.YtpcpaekpnfkhhaaGreatDoor
open Go.AI Go.PN
attribute [local irreducible] aw Fa Fh DrK
theorem models_fa (l:List MdD) {n:Nat} (hu:∀m∈l,MdU n m) (hn:n≤1048576) (hl:l.length≤1099511627776):Fa Tryz.prog 15 [.c (mds false l)] (.c (.bool (modelsB l))):=by
 refine fa_of_body Tryz.func15 rfl rfl (by simp [Tryz.ntmps15]) fun C hC=> ?_
 simp only [initS,Nat.reduceAdd]
 repeat' first|refine zV o0 ?_|refine zH o0 (fun hb=>?_) fun hb=>?_|fail
 refine aw_lp (fun i:Nat=>[(0,.c (mds false l)),(5,.c (mds false l)),(6,.c (.int .i64 l.length)),(7,.c (.int .i64 i))]) (fun _=>[]) (fun i=>i≤l.length∧∀j,j<i→lightB (l.getD j md0)=true) (fun i=>l.length-i) 0 eB zZ ⟨Nat.zero_le _,no_lt⟩ ?_
 rintro i ⟨hi,hs⟩
 repeat' first|refine zV o0 ?_|refine zH o0 (fun hb=>?_) fun hb=>?_|fail
 ·have hi':=hb
  have f1:=light_fa (l.getD i md0) (getD_all hu (md0_u n) i) hn
  have hst:=lt_step (p:=fun j=>lightB (l.getD j md0)=true) (i:=i) hs
  have hff:=models_ff (l:=l) (i:=i)
  refine xA fun g4 hn_g4=>?_
  generalize l.getD i md0=x at*
  repeat' first|refine zV hn_g4 ?_|(refine yC2 hn_g4 (f1) ?_)|(refine yD2 hn_g4 (f1) ?_)|refine zH hn_g4 (fun hb=>?_) fun hb=>?_|fail
  ·refine yT hC hn_g4 ?_
   exact .one (.c (ler_bool (hff om (by simpa using hb))))
  ·have hx:lightB x=true:=by simpa using hb
   refine aw_stop ⟨i+1,?_⟩
   and_intros<;>first|rfl|exact List.sublist_cons_self _ _|exact List.Sublist.refl _|exact hst hx|omega
 all_goals
  have ha:=models_all (l:=l) fun j hj=>hs j om
 ·refine xT hC ?_
  exact .one (.c (ler_bool (by unfold modelsB;rw [ha,decide_eq_true hb];rfl)))
 ·refine xT hC ?_
  exact .one (.c (ler_bool (by unfold modelsB;rw [ha,decide_eq_false hb];rfl)))
end Go.Proofs.YtpcpaekpnfkhhaaGreatDoor
namespace Go.PN
open Go.AI
theorem getD_ext {α:Type} (d:α) {xs ys:List α} (hl:xs.length=ys.length) (h:∀j,j<xs.length→xs.getD j d=ys.getD j d):xs=ys:=by
 refine List.ext_getElem hl fun j h1 h2=> ?_
 have:=h j h1
 rw [List.getD_eq_getElem?_getD,List.getD_eq_getElem?_getD,List.getElem?_eq_getElem h1,List.getElem?_eq_getElem h2] at this
 exact this
theorem pre_succ {α:Type} {d:α} {xs ys:List α} {i:Nat} (hs:∀j,j<i→xs.getD j d=ys.getD j d) (h:xs.getD i d=ys.getD i d):∀j,j<i+1→xs.getD j d=ys.getD j d:=fun j hj=>by
 by_cases e:j=i
 ·subst e;exact h
 ·exact hs j om
instance:DecidableEq GtD:=fun a b=>decidable_of_iff (a.name=b.name∧a.kind=b.kind∧a.k=b.k∧a.inputs=b.inputs∧a.dorm=b.dorm) (by cases a;cases b;simp)
instance:DecidableEq EvD:=fun a b=>decidable_of_iff (a.name=b.name∧a.p=b.p∧a.fail=b.fail∧a.rep=b.rep∧a.cost=b.cost) (by cases a;cases b;simp)
instance:DecidableEq HsD:=fun a b=>decidable_of_iff (a.name=b.name∧a.on=b.on) (by cases a;cases b;simp)
instance:DecidableEq PgD:=fun a b=>decidable_of_iff (a.name=b.name∧a.top=b.top∧a.gates=b.gates) (by cases a;cases b;simp)
instance:DecidableEq GrD:=fun a b=>decidable_of_iff (a.name=b.name∧a.kind=b.kind∧a.members=b.members∧a.factors=b.factors) (by cases a;cases b;simp)
instance:DecidableEq VlD:=fun a b=>decidable_of_iff (a.event=b.event∧a.p=b.p) (by cases a;cases b;simp)
instance:DecidableEq PhD:=fun a b=>decidable_of_iff (a.name=b.name∧a.top=b.top∧a.values=b.values) (by cases a;cases b;simp)
instance:DecidableEq MdD:=fun a b=>decidable_of_iff (a.name=b.name∧a.top=b.top∧a.events=b.events∧a.houses=b.houses∧a.gates=b.gates∧a.pages=b.pages∧a.groups=b.groups∧a.phases=b.phases) (by cases a;cases b;simp)
end Go.PN
namespace Go.Proofs.YtpcpaekpnfkhhaaGreatDoor
open Go.AI Go.PN
attribute [local irreducible] aw Fa Fh DrK
theorem texts_fa (xs ys:List BS) (hl:xs.length≤1099511627776) (hl2:ys.length≤1099511627776):Fa Tryz.prog 58 [.c (strs false xs),.c (strs false ys)] (.c (.bool (decide (xs=ys)))):=by
 refine fa_of_body Tryz.func58 rfl rfl (by simp [Tryz.ntmps58]) fun C hC=> ?_
 simp only [initS,Nat.reduceAdd]
 repeat' first|refine zV o0 ?_|refine zH o0 (fun hb=>?_) fun hb=>?_|fail
 ·refine xT hC ?_
  exact .one (.c (ler_bool (decide_eq_false fun e=>hb (by rw [e])).symm))
 have hlen:xs.length=ys.length:=by simpa using hb
 refine aw_lp (fun i:Nat=>[(0,.c (strs false xs)),(1,.c (strs false ys)),(12,.c (.int .i64 xs.length)),(13,.c (.int .i64 i))]) (fun _=>[]) (fun i=>i≤xs.length∧∀j,j<i→xs.getD j []=ys.getD j []) (fun i=>xs.length-i) 0 eB zZ ⟨Nat.zero_le _,fun j hj=>absurd hj om⟩ ?_
 rintro i ⟨hi,hs⟩
 repeat' first|refine zV o0 ?_|refine zH o0 (fun hb=>?_) fun hb=>?_|fail
 ·have hi':=hb
  have hi2:i<ys.length:=by omega
  refine aw_dr 9 ty_mixed (by kernel_rfl) ?_
  repeat' first|refine zV o0 ?_|refine zH o0 (fun hb=>?_) fun hb=>?_|fail
  ·refine xT hC ?_
   exact .one (.c (ler_bool (decide_eq_false fun e=>hb (by rw [e])).symm))
  ·refine aw_stop ⟨i+1,?_⟩
   have hs2:=pre_succ hs (by simpa using hb)
   and_intros
   all_goals first|rfl|exact List.Sublist.refl _|exact True.intro|exact hs2|omega
 ·refine xT hC ?_
  exact .one (.c (ler_bool (decide_eq_true (getD_ext [] hlen fun j hj=>hs j om)).symm))
theorem rats_fa (xs ys:List RD) (hw:∀i,(xs.getD i rd0).wf 68719476736) (hl:xs.length≤1099511627776) (hl2:ys.length≤1099511627776):Fa Tryz.prog 59 [.c (rats true xs),.c (rats true ys)] (.c (.bool (decide (xs=ys)))):=by
 refine fa_of_body Tryz.func59 rfl rfl (by simp [Tryz.ntmps59]) fun C hC=> ?_
 simp only [initS,Nat.reduceAdd]
 repeat' first|refine zV o0 ?_|refine zH o0 (fun hb=>?_) fun hb=>?_|fail
 ·refine xT hC ?_
  exact .one (.c (ler_bool (decide_eq_false fun e=>hb (by rw [e])).symm))
 have hlen:xs.length=ys.length:=by simpa using hb
 refine aw_lp (fun i:Nat=>[(0,.c (rats true xs)),(1,.c (rats true ys)),(12,.c (.int .i64 xs.length)),(13,.c (.int .i64 i))]) (fun _=>[]) (fun i=>i≤xs.length∧∀j,j<i→xs.getD j rd0=ys.getD j rd0) (fun i=>xs.length-i) 0 eB zZ ⟨Nat.zero_le _,fun j hj=>absurd hj om⟩ ?_
 rintro i ⟨hi,hs⟩
 have f1:=ratEq_fa (xs.getD i rd0) (ys.getD i rd0) (hw i)
 repeat' first|refine zV o0 ?_|refine zH o0 (fun hb=>?_) fun hb=>?_|fail
 ·have hi':=hb
  have hi2:i<ys.length:=by omega
  refine aw_dr 10 ty_mixed (by kernel_rfl) ?_
  repeat' first|refine zV o0 ?_|(refine yC2 o0 (f1) ?_)|(refine yD2 o0 (f1) ?_)|refine zH o0 (fun hb=>?_) fun hb=>?_|fail
  ·refine xT hC ?_
   exact .one (.c (ler_bool (decide_eq_false fun e=>by rw [e] at hb;simp at hb).symm))
  ·refine aw_stop ⟨i+1,?_⟩
   have hs2:=pre_succ hs (by simpa using hb)
   and_intros
   all_goals first|rfl|exact List.Sublist.refl _|exact True.intro|exact hs2|omega
 ·refine xT hC ?_
  exact .one (.c (ler_bool (decide_eq_true (getD_ext rd0 hlen fun j hj=>hs j om)).symm))
theorem sameGates_fa (xs ys:List GtD) (hw:∀i,(xs.getD i gt0).dorm.wf 68719476736∧(xs.getD i gt0).inputs.length≤1099511627776∧(ys.getD i gt0).inputs.length≤1099511627776) (hl:xs.length≤1099511627776) (hl2:ys.length≤1099511627776):Fa Tryz.prog 57 [.c (gts true xs),.c (gts true ys)] (.c (.bool (decide (xs=ys)))):=by
 refine fa_of_body Tryz.func57 rfl rfl (by simp [Tryz.ntmps57]) fun C hC=> ?_
 simp only [initS,Nat.reduceAdd]
 repeat' first|refine zV o0 ?_|refine zH o0 (fun hb=>?_) fun hb=>?_|fail
 ·refine xT hC ?_
  exact .one (.c (ler_bool (decide_eq_false fun e=>hb (by rw [e])).symm))
 have hlen:xs.length=ys.length:=by simpa using hb
 refine aw_lp (fun i:Nat=>[(13,.c (gts true xs)),(1,.c (gts true ys)),(14,.c (.int .i64 xs.length)),(15,.c (.int .i64 i))]) (fun _=>[]) (fun i=>i≤xs.length∧∀j,j<i→xs.getD j gt0=ys.getD j gt0) (fun i=>xs.length-i) 0 eB zZ ⟨Nat.zero_le _,fun j hj=>absurd hj om⟩ ?_
 rintro i ⟨hi,hs⟩
 obtain⟨w1,w2,w3⟩:=hw i
 repeat' first|refine zV o0 ?_|refine zH o0 (fun hb=>?_) fun hb=>?_|fail
 ·have hi':=hb
  have hi2:i<ys.length:=by omega
  have hne:xs.getD i gt0≠ys.getD i gt0→decide (xs=ys)=false:=fun h=>decide_eq_false fun e=>h (by rw [e])
  have hs2:=fun h=>pre_succ (d:=gt0) hs h
  refine xA fun g6 hn_g6=>?_
  refine zA hn_g6 ?_
  refine yA hn_g6 fun g7 hn_g7=>?_
  generalize xs.getD i gt0=x at*
  generalize ys.getD i gt0=y at*
  have f1:=texts_fa x.inputs y.inputs w2 w3
  have f2:=ratEq_fa x.dorm y.dorm w1
  obtain⟨xn,xk,xv,xi,xd⟩:=x
  obtain⟨yn,yk,yv,yi,yd⟩:=y
  dsimp only at*
  all_goals try(have Z:=(oj hn_g6 hn_g7);(repeat' first|refine zV Z ?_|(refine yC2 Z (f1) ?_)|(refine yD2 Z (f1) ?_)|(refine yC2 Z (f2) ?_)|(refine yD2 Z (f2) ?_)|refine zH Z (fun hb=>?_) fun hb=>?_|fail);all_goals clear Z)
  all_goals clear f1 f2
  all_goals first
   |(refine yT hC (oj hn_g6 hn_g7) ?_
     exact .one (.c (ler_bool (hne (by simp_all)).symm)))
   |(refine aw_stop ⟨i+1,?_⟩
     have hs3:=hs2 (by simp_all)
     and_intros
     all_goals first|rfl|exact List.nil_sublist _|exact True.intro|exact hs3|omega)
 ·refine xT hC ?_
  exact .one (.c (ler_bool (decide_eq_true (getD_ext gt0 hlen fun j hj=>hs j om)).symm))
end Go.Proofs.YtpcpaekpnfkhhaaGreatDoor
namespace Go.PN
open Go.AI
theorem dec_f {p:Prop} [Decidable p] (h:¬p):false=decide p:=(decide_eq_false h).symm
theorem dec_t {p:Prop} [Decidable p] (h:p):true=decide p:=(decide_eq_true h).symm
end Go.PN
namespace Go.Proofs.YtpcpaekpnfkhhaaGreatDoor
open Go.AI Go.PN
attribute [local irreducible] aw Fa Fh DrK
theorem sameParts_fa (a b:MdD) (ha:MdO a) (hbb:MdO b):Fa Tryz.prog 56 [.agg (mdc true a),.agg (mdc true b)] (.c (.bool (decide (a.events=b.events∧a.houses=b.houses∧a.pages=b.pages)))):=by
 have a1:=ha.ok
 have a2:=hbb.ok
 have b1:=a1.ev
 have b2:=a1.hs
 have b3:=a1.pg
 have b4:=a2.ev
 have b5:=a2.hs
 have b6:=a2.pg
 refine fa_of_body Tryz.func56 rfl rfl (by simp [Tryz.ntmps56]) fun C hC=> ?_
 simp only [initS,Nat.reduceAdd]
 refine zA o0 ?_
 refine xB fun g2 hn_g2=>?_
 refine zA hn_g2 ?_
 refine yB hn_g2 fun g3 hn_g3=>?_
 all_goals try(have Z:=(oj hn_g2 hn_g3);(repeat' first|refine zV Z ?_|refine zH Z (fun hb=>?_) fun hb=>?_|fail);all_goals clear Z)
 ·refine yT hC (oj hn_g2 hn_g3) ?_
  exact .one (.c (ler_bool (dec_f fun e=>hb (by rw [e.1]))))
 ·refine yT hC (oj hn_g2 hn_g3) ?_
  exact .one (.c (ler_bool (dec_f fun e=>hb (by rw [e.2.1]))))
 ·refine yT hC (oj hn_g2 hn_g3) ?_
  exact .one (.c (ler_bool (dec_f fun e=>hb (by rw [e.2.2]))))
 rename_i l1 l2
 have l3:a.pages.length=b.pages.length:=by simpa using hb
 clear hb
 have wv:=fun i=>getD_all ha.ev.2 ev0_o i
 have wg:=ha.pgi
 have wh:=hbb.pgi
 refine aw_lp (fun i:Nat=>[(2,.c (.optr g2 0)),(3,.c (.optr g3 0)),(38,.c (evs true a.events)),(39,.c (.int .i64 a.events.length)),(40,.c (.int .i64 i))]) (fun _=>[(g3,.cells 29 8 (ofL (mdc true b))),(g2,.cells 29 8 (ofL (mdc true a)))]) (fun i=>i≤a.events.length∧∀j,j<i→a.events.getD j ev0=b.events.getD j ev0) (fun i=>a.events.length-i) 0 (zB (oj hn_g2 hn_g3)) zZ ⟨Nat.zero_le _,fun j hj=>absurd hj om⟩ ?_
 rintro i ⟨hi,hs⟩
 all_goals try(have Z:=(oj hn_g2 hn_g3);(repeat' first|refine zV Z ?_|refine zH Z (fun hb=>?_) fun hb=>?_|fail);all_goals clear Z)
 ·have hi':=hb
  have hi2:i<b.events.length:=by omega
  have hne:a.events.getD i ev0≠b.events.getD i ev0→decide (a.events=b.events∧a.houses=b.houses∧a.pages=b.pages)=false:=fun h=>decide_eq_false fun e=>h (by rw [e.1])
  have hs2:=fun h=>pre_succ (d:=ev0) hs h
  obtain⟨_,w1,w2,w3⟩:=wv i
  refine yA (oj hn_g2 hn_g3) fun g6 hn_g6=>?_
  refine zA (oj hn_g2 (oj hn_g3 hn_g6)) ?_
  refine yA (oj hn_g2 (oj hn_g3 hn_g6)) fun g7 hn_g7=>?_
  generalize a.events.getD i ev0=x at*
  generalize b.events.getD i ev0=y at*
  have f1:=ratEq_fa x.p y.p (wf_mono w1 (by decide))
  have f2:=ratEq_fa x.fail y.fail (wf_mono w2 (by decide))
  have f3:=ratEq_fa x.rep y.rep (wf_mono w3 (by decide))
  obtain⟨xn,xp,xf,xr,xc⟩:=x
  obtain⟨yn,yp,yf,yr,yc⟩:=y
  dsimp only at*
  all_goals try(have Z:=(oj hn_g2 (oj hn_g3 (oj hn_g6 hn_g7)));(repeat' first|refine zV Z ?_|(refine yC2 Z (f1) ?_)|(refine yD2 Z (f1) ?_)|(refine yC2 Z (f2) ?_)|(refine yD2 Z (f2) ?_)|(refine yC2 Z (f3) ?_)|(refine yD2 Z (f3) ?_)|refine zH Z (fun hb=>?_) fun hb=>?_|fail);all_goals clear Z)
  all_goals clear f1 f2 f3
  all_goals first
   |(refine yT hC (oj hn_g2 (oj hn_g3 (oj hn_g6 hn_g7))) ?_
     exact .one (.c (ler_bool (hne (by simp_all)).symm)))
   |(refine aw_stop ⟨i+1,?_⟩
     have hs3:=hs2 (by simp_all)
     and_intros
     all_goals first|rfl|exact .cons _ (.cons _ (.refl _))|exact True.intro|exact hs3|omega)
 have e1:a.events=b.events:=getD_ext ev0 l1 fun j hj=>hs j om
 clear hs hi hb
 refine aw_lp (fun i:Nat=>[(2,.c (.optr g2 0)),(3,.c (.optr g3 0)),(89,.c (.int .i64 a.houses.length)),(90,.c (.int .i64 i))]) (fun _=>[(g3,.cells 29 8 (ofL (mdc true b))),(g2,.cells 29 8 (ofL (mdc true a)))]) (fun i=>i≤a.houses.length∧∀j,j<i→a.houses.getD j hs0=b.houses.getD j hs0) (fun i=>a.houses.length-i) 0 (zB (oj hn_g2 hn_g3)) zZ ⟨Nat.zero_le _,fun j hj=>absurd hj om⟩ ?_
 rintro i ⟨hi,hs⟩
 all_goals try(have Z:=(oj hn_g2 hn_g3);(repeat' first|refine zV Z ?_|refine zH Z (fun hb=>?_) fun hb=>?_|fail);all_goals clear Z)
 ·have hi':=hb
  have hi2:i<b.houses.length:=by omega
  have hne:a.houses.getD i hs0≠b.houses.getD i hs0→decide (a.events=b.events∧a.houses=b.houses∧a.pages=b.pages)=false:=fun h=>decide_eq_false fun e=>h (by rw [e.2.1])
  have hs2:=fun h=>pre_succ (d:=hs0) hs h
  refine aw_dr 11 ty_mixed (by kernel_rfl) ?_
  refine zA (oj hn_g2 hn_g3) ?_
  generalize a.houses.getD i hs0=x at*
  generalize b.houses.getD i hs0=y at*
  obtain⟨xn,xo⟩:=x
  obtain⟨yn,yo⟩:=y
  dsimp only at*
  refine drk_pok (POk.neqSB (a:=xn) (b:=xo) (c:=yn) (d:=yo) (zE (oj hn_g2 hn_g3)) (zE (oj hn_g2 hn_g3)) (by kernel_rfl)) rfl rfl ?_
  have J1:=oj hn_g2 hn_g3
  refine yS J1 ?_
  all_goals repeat' first|refine zV J1 ?_|refine zH J1 (fun hb=>?_) fun hb=>?_|fail
  all_goals first
   |(refine yT hC J1 ?_
     exact .one (.c (ler_bool (hne (fun e=>by have:=HsD.mk.inj e;simp [this] at hb)).symm)))
   |(refine aw_stop ⟨i+1,?_⟩
     have hs3:=hs2 (by simp_all)
     and_intros
     all_goals first|rfl|exact .refl _|exact True.intro|exact hs3|omega)
 have e2:a.houses=b.houses:=getD_ext hs0 l2 fun j hj=>hs j om
 clear hs hi hb
 refine aw_lp (fun i:Nat=>[(2,.c (.optr g2 0)),(3,.c (.optr g3 0)),(106,.c (pgs true a.pages)),(107,.c (.int .i64 a.pages.length)),(108,.c (.int .i64 i))]) (fun _=>[(g3,.cells 29 8 (ofL (mdc true b))),(g2,.cells 29 8 (ofL (mdc true a)))]) (fun i=>i≤a.pages.length∧∀j,j<i→a.pages.getD j pg0=b.pages.getD j pg0) (fun i=>a.pages.length-i) 0 (zB (oj hn_g2 hn_g3)) zZ ⟨Nat.zero_le _,fun j hj=>absurd hj om⟩ ?_
 rintro i ⟨hi,hs⟩
 all_goals try(have Z:=(oj hn_g2 hn_g3);(repeat' first|refine zV Z ?_|refine zH Z (fun hb=>?_) fun hb=>?_|fail);all_goals clear Z)
 ·have hi':=hb
  have hi2:i<b.pages.length:=by omega
  have hne:a.pages.getD i pg0≠b.pages.getD i pg0→decide (a.events=b.events∧a.houses=b.houses∧a.pages=b.pages)=false:=fun h=>decide_eq_false fun e=>h (by rw [e.2.2])
  have hs2:=fun h=>pre_succ (d:=pg0) hs h
  have w1:=wg i
  have w2:=wh i
  refine yA (oj hn_g2 hn_g3) fun g6 hn_g6=>?_
  refine zA (oj hn_g2 (oj hn_g3 hn_g6)) ?_
  refine yA (oj hn_g2 (oj hn_g3 hn_g6)) fun g7 hn_g7=>?_
  generalize a.pages.getD i pg0=x at*
  generalize b.pages.getD i pg0=y at*
  have f1:=sameGates_fa x.gates y.gates (fun j=>⟨wf_mono (getD_all w1.2.2.2 gt0_o j).2.1 (by decide),Nat.le_trans (getD_all w1.2.2.2 gt0_o j).2.2.1 (by decide),Nat.le_trans (getD_all w2.2.2.2 gt0_o j).2.2.1 (by decide)⟩) (Nat.le_trans w1.2.2.1 (by decide)) (Nat.le_trans w2.2.2.1 (by decide))
  obtain⟨xn,xt,xg⟩:=x
  obtain⟨yn,yt,yg⟩:=y
  dsimp only at*
  clear w1 w2
  all_goals try(have Z:=(oj hn_g2 (oj hn_g3 (oj hn_g6 hn_g7)));(repeat' first|refine zV Z ?_|(refine yC2 Z (f1) ?_)|(refine yD2 Z (f1) ?_)|refine zH Z (fun hb=>?_) fun hb=>?_|fail);all_goals clear Z)
  all_goals clear f1
  all_goals first
   |(refine yT hC (oj hn_g2 (oj hn_g3 (oj hn_g6 hn_g7))) ?_
     exact .one (.c (ler_bool (hne (by simp_all)).symm)))
   |(refine aw_stop ⟨i+1,?_⟩
     have hs3:=hs2 (by simp_all)
     and_intros
     all_goals first|rfl|exact .cons _ (.cons _ (.refl _))|exact True.intro|exact hs3|omega)
 ·refine yT hC (oj hn_g2 hn_g3) ?_
  exact .one (.c (ler_bool (dec_t ⟨e1,e2,getD_ext pg0 l3 fun j hj=>hs j om⟩)))
theorem same_fa (a b:MdD) (ha:MdO a) (hbb:MdO b):Fa Tryz.prog 18 [.agg (mdc true a),.agg (mdc true b)] (.c (.bool (decide (a=b)))):=by
 have f1:=sameParts_fa a b ha hbb
 have f2:=sameGates_fa a.gates b.gates (fun j=>⟨wf_mono (getD_all ha.gt.2 gt0_o j).2.1 (by decide),Nat.le_trans (getD_all ha.gt.2 gt0_o j).2.2.1 (by decide),Nat.le_trans (getD_all hbb.gt.2 gt0_o j).2.2.1 (by decide)⟩) (Nat.le_trans ha.gt.1 (by decide)) (Nat.le_trans hbb.gt.1 (by decide))
 have a1:a.groups.length≤1099511627776:=Nat.le_trans ha.gr.1 (by decide)
 have a2:a.phases.length≤1099511627776:=Nat.le_trans ha.ph.1 (by decide)
 have a3:b.groups.length≤1099511627776:=Nat.le_trans hbb.gr.1 (by decide)
 have a4:b.phases.length≤1099511627776:=Nat.le_trans hbb.ph.1 (by decide)
 have v1:=fun i=>getD_all ha.gr.2 gr0_o i
 have v2:=fun i=>getD_all hbb.gr.2 gr0_o i
 have v3:=fun i=>getD_all ha.ph.2 ph0_o i
 have v4:=fun i=>getD_all hbb.ph.2 ph0_o i
 have hE:a.name=b.name→a.top=b.top→(a.events=b.events∧a.houses=b.houses∧a.pages=b.pages)→a.gates=b.gates→a.groups=b.groups→a.phases=b.phases→a=b:=by
  rintro q1 q2 ⟨q3,q4,q5⟩ q6 q7 q8
  cases a;cases b
  simp_all
 have n1:a.name≠b.name→decide (a=b)=false:=fun h=>decide_eq_false fun e=>h (by rw [e])
 have n2:a.top≠b.top→decide (a=b)=false:=fun h=>decide_eq_false fun e=>h (by rw [e])
 have n3:¬(a.events=b.events∧a.houses=b.houses∧a.pages=b.pages)→decide (a=b)=false:=fun h=>decide_eq_false fun e=>h (by rw [e];exact⟨rfl,rfl,rfl⟩)
 have n4:a.gates≠b.gates→decide (a=b)=false:=fun h=>decide_eq_false fun e=>h (by rw [e])
 have n5:a.groups.length≠b.groups.length→decide (a=b)=false:=fun h=>decide_eq_false fun e=>h (by rw [e])
 have n6:a.phases.length≠b.phases.length→decide (a=b)=false:=fun h=>decide_eq_false fun e=>h (by rw [e])
 have n7:∀i,a.groups.getD i gr0≠b.groups.getD i gr0→decide (a=b)=false:=fun i h=>decide_eq_false fun e=>h (by rw [e])
 have n8:∀i,a.phases.getD i ph0≠b.phases.getD i ph0→decide (a=b)=false:=fun i h=>decide_eq_false fun e=>h (by rw [e])
 generalize hX:decide (a=b)=X at*
 refine fa_of_body Tryz.func18 rfl rfl (by simp [Tryz.ntmps18]) fun C hC=> ?_
 simp only [initS,Nat.reduceAdd]
 refine zA o0 ?_
 refine xB fun g2 hn_g2=>?_
 refine zA hn_g2 ?_
 refine yB hn_g2 fun g3 hn_g3=>?_
 all_goals try(have Z:=(oj hn_g2 hn_g3);(repeat' first|refine zV Z ?_|(refine yC2 Z (f1) ?_)|(refine yD2 Z (f1) ?_)|(refine yC2 Z (f2) ?_)|(refine yD2 Z (f2) ?_)|refine zH Z (fun hb=>?_) fun hb=>?_|fail);all_goals clear Z)
 ·refine yT hC (oj hn_g2 hn_g3) ?_
  exact .one (.c (ler_bool (n1 hb).symm))
 ·refine yT hC (oj hn_g2 hn_g3) ?_
  exact .one (.c (ler_bool (n2 hb).symm))
 ·refine yT hC (oj hn_g2 hn_g3) ?_
  exact .one (.c (ler_bool (n3 fun z=>by simp [z.1,z.2.1,z.2.2] at hb).symm))
 ·refine yT hC (oj hn_g2 hn_g3) ?_
  exact .one (.c (ler_bool (n4 (by simpa using hb)).symm))
 ·refine yT hC (oj hn_g2 hn_g3) ?_
  exact .one (.c (ler_bool (n5 hb).symm))
 ·refine yT hC (oj hn_g2 hn_g3) ?_
  exact .one (.c (ler_bool (n6 hb).symm))
 rename_i q1 q2 q3 q4 q5
 have q6:a.phases.length=b.phases.length:=by simpa using hb
 have q3:a.events=b.events∧a.houses=b.houses∧a.pages=b.pages:=by simpa using q3
 have q4:a.gates=b.gates:=by simpa using q4
 clear hb f1 f2 n1 n2 n3 n4 n5 n6
 refine aw_lp (fun i:Nat=>[(2,.c (.optr g2 0)),(3,.c (.optr g3 0)),(59,.c (grs true a.groups)),(60,.c (.int .i64 a.groups.length)),(61,.c (.int .i64 i))]) (fun _=>[(g3,.cells 29 8 (ofL (mdc true b))),(g2,.cells 29 8 (ofL (mdc true a)))]) (fun i=>i≤a.groups.length∧∀j,j<i→a.groups.getD j gr0=b.groups.getD j gr0) (fun i=>a.groups.length-i) 0 (zB (oj hn_g2 hn_g3)) zZ ⟨Nat.zero_le _,fun j hj=>absurd hj om⟩ ?_
 rintro i ⟨hi,hs⟩
 all_goals try(have Z:=(oj hn_g2 hn_g3);(repeat' first|refine zV Z ?_|refine zH Z (fun hb=>?_) fun hb=>?_|fail);all_goals clear Z)
 ·have hi':=hb
  have hi2:i<b.groups.length:=by omega
  have hs2:=fun h=>pre_succ (d:=gr0) hs h
  have hne:=n7 i
  have w1:=v1 i
  have w2:=v2 i
  refine yA (oj hn_g2 hn_g3) fun g6 hn_g6=>?_
  refine zA (oj hn_g2 (oj hn_g3 hn_g6)) ?_
  refine yA (oj hn_g2 (oj hn_g3 hn_g6)) fun g7 hn_g7=>?_
  generalize a.groups.getD i gr0=x at*
  generalize b.groups.getD i gr0=y at*
  have f1:=texts_fa x.members y.members (Nat.le_trans w1.2.1 (by decide)) (Nat.le_trans w2.2.1 (by decide))
  have f2:=rats_fa x.factors y.factors (fun j=>wf_mono (getD_all w1.2.2.2.2 rd0_ok j) (by decide)) (Nat.le_trans w1.2.2.2.1 (by decide)) (Nat.le_trans w2.2.2.2.1 (by decide))
  obtain⟨xn,xk,xm,xf⟩:=x
  obtain⟨yn,yk,ym,yf⟩:=y
  dsimp only at*
  clear w1 w2
  all_goals try(have Z:=(oj hn_g2 (oj hn_g3 (oj hn_g6 hn_g7)));(repeat' first|refine zV Z ?_|(refine yC2 Z (f1) ?_)|(refine yD2 Z (f1) ?_)|(refine yC2 Z (f2) ?_)|(refine yD2 Z (f2) ?_)|refine zH Z (fun hb=>?_) fun hb=>?_|fail);all_goals clear Z)
  all_goals clear f1 f2
  all_goals first
   |(refine yT hC (oj hn_g2 (oj hn_g3 (oj hn_g6 hn_g7))) ?_
     exact .one (.c (ler_bool (hne (by simp_all)).symm)))
   |(refine aw_stop ⟨i+1,?_⟩
     have hs3:=hs2 (by simp_all)
     and_intros
     all_goals first|rfl|exact .cons _ (.cons _ (.refl _))|exact True.intro|exact hs3|omega)
 have q7:a.groups=b.groups:=getD_ext gr0 q5 fun j hj=>hs j om
 clear hs hi hb
 refine aw_lp (fun i:Nat=>[(2,.c (.optr g2 0)),(3,.c (.optr g3 0)),(101,.c (phs true a.phases)),(102,.c (.int .i64 a.phases.length)),(103,.c (.int .i64 i))]) (fun _=>[(g3,.cells 29 8 (ofL (mdc true b))),(g2,.cells 29 8 (ofL (mdc true a)))]) (fun i=>i≤a.phases.length∧∀j,j<i→a.phases.getD j ph0=b.phases.getD j ph0) (fun i=>a.phases.length-i) 0 (zB (oj hn_g2 hn_g3)) zZ ⟨Nat.zero_le _,fun j hj=>absurd hj om⟩ ?_
 rintro i ⟨hi,hs⟩
 all_goals try(have Z:=(oj hn_g2 hn_g3);(repeat' first|refine zV Z ?_|refine zH Z (fun hb=>?_) fun hb=>?_|fail);all_goals clear Z)
 ·have hi':=hb
  have hi2:i<b.phases.length:=by omega
  have hs2:=fun h=>pre_succ (d:=ph0) hs h
  have hne:=n8 i
  have w1:=v3 i
  have w2:=v4 i
  refine yA (oj hn_g2 hn_g3) fun g6 hn_g6=>?_
  refine zA (oj hn_g2 (oj hn_g3 hn_g6)) ?_
  refine yA (oj hn_g2 (oj hn_g3 hn_g6)) fun g7 hn_g7=>?_
  generalize a.phases.getD i ph0=x at*
  generalize b.phases.getD i ph0=y at*
  obtain⟨xn,xt,xv⟩:=x
  obtain⟨yn,yt,yv⟩:=y
  dsimp only at*
  have u1:xv.length≤1099511627776:=Nat.le_trans w1.2.2.1 (by decide)
  have u2:yv.length≤1099511627776:=Nat.le_trans w2.2.2.1 (by decide)
  all_goals try(have Z:=(oj hn_g2 (oj hn_g3 (oj hn_g6 hn_g7)));(repeat' first|refine zV Z ?_|refine zH Z (fun hb=>?_) fun hb=>?_|fail);all_goals clear Z)
  ·refine yT hC (oj hn_g2 (oj hn_g3 (oj hn_g6 hn_g7))) ?_
   exact .one (.c (ler_bool (hne (by simp_all)).symm))
  ·refine yT hC (oj hn_g2 (oj hn_g3 (oj hn_g6 hn_g7))) ?_
   exact .one (.c (ler_bool (hne (by simp_all)).symm))
  ·refine yT hC (oj hn_g2 (oj hn_g3 (oj hn_g6 hn_g7))) ?_
   exact .one (.c (ler_bool (hne (fun e=>hb (by rw [(PhD.mk.inj e).2.2]))).symm))
  rename_i r1 r2
  have r3:xv.length=yv.length:=by simpa using hb
  clear hb
  refine aw_lp (fun k:Nat=>[(2,.c (.optr g2 0)),(3,.c (.optr g3 0)),(10,.c (.optr g7 0)),(101,.c (phs true a.phases)),(102,.c (.int .i64 a.phases.length)),(103,.c (.int .i64 i)),(135,.c (vls true xv)),(136,.c (.int .i64 xv.length)),(137,.c (.int .i64 k))]) (fun _=>[(g7,.cells 98 3 (ofL (phc ⟨yn,yt,yv⟩))),(g3,.cells 29 8 (ofL (mdc true b))),(g2,.cells 29 8 (ofL (mdc true a)))]) (fun k=>k≤xv.length∧∀j,j<k→xv.getD j vl0=yv.getD j vl0) (fun k=>xv.length-k) 0 (zB (oj hn_g2 (oj hn_g3 (oj hn_g6 hn_g7)))) (by first|exact .refl _|exact .cons _ (.refl _)|exact .cons_cons _ (.cons _ (.refl _))) ⟨Nat.zero_le _,fun j hj=>absurd hj om⟩ ?_
  rintro k ⟨hk,ht⟩
  all_goals try(have Z:=(oj hn_g2 (oj hn_g3 (oj hn_g6 hn_g7)));(repeat' first|refine zV Z ?_|refine zH Z (fun hb=>?_) fun hb=>?_|fail);all_goals clear Z)
  ·have hk':=hb
   have hk2:k<yv.length:=by omega
   have ht2:=fun h=>pre_succ (d:=vl0) ht h
   have hne2:xv.getD k vl0≠yv.getD k vl0→X=false:=fun h=>hne (fun e=>h (by rw [(PhD.mk.inj e).2.2]))
   have w3:=(getD_all w1.2.2.2 vl0_o k).2
   refine yA (oj hn_g2 (oj hn_g3 (oj hn_g6 hn_g7))) fun g8 hn_g8=>?_
   refine zA (oj hn_g2 (oj hn_g3 (oj hn_g6 (oj hn_g7 hn_g8)))) ?_
   refine yA (oj hn_g2 (oj hn_g3 (oj hn_g6 (oj hn_g7 hn_g8)))) fun g9 hn_g9=>?_
   generalize xv.getD k vl0=p at*
   generalize yv.getD k vl0=q at*
   have f1:=ratEq_fa p.p q.p (wf_mono w3 (by decide))
   obtain⟨pe,pp⟩:=p
   obtain⟨qe,qp⟩:=q
   dsimp only at*
   all_goals try(have Z:=(oj hn_g2 (oj hn_g3 (oj hn_g6 (oj hn_g7 (oj hn_g8 hn_g9)))));(repeat' first|refine zV Z ?_|(refine yC2 Z (f1) ?_)|(refine yD2 Z (f1) ?_)|refine zH Z (fun hb=>?_) fun hb=>?_|fail);all_goals clear Z)
   all_goals clear f1
   all_goals first
    |(refine yT hC (oj hn_g2 (oj hn_g3 (oj hn_g6 (oj hn_g7 (oj hn_g8 hn_g9))))) ?_
      exact .one (.c (ler_bool (hne2 (by simp_all)).symm)))
    |(refine aw_stop ⟨k+1,?_⟩
      have ht3:=ht2 (by simp_all)
      and_intros
      all_goals first|rfl|exact .cons _ (.cons _ (.refl _))|exact True.intro|exact ht3|omega)
  ·have r4:xv=yv:=getD_ext vl0 r3 fun j hj=>ht j om
   refine zA (oj hn_g2 (oj hn_g3 (oj hn_g6 hn_g7))) ?_
   refine aw_stop ⟨i+1,?_⟩
   have hs3:=hs2 (by simp_all)
   and_intros
   all_goals first|rfl|exact .cons _ (.refl _)|exact True.intro|exact hs3|omega
 ·have q8:a.phases=b.phases:=getD_ext ph0 q6 fun j hj=>hs j om
  refine yT hC (oj hn_g2 hn_g3) ?_
  rw [←hX]
  exact .one (.c (ler_bool (dec_t (hE q1 q2 q3 q4 q7 q8))))
end Go.Proofs.YtpcpaekpnfkhhaaGreatDoor
namespace Go.PN
open Go.AI
theorem rev_getD {α:Type} (l:List α) (d:α) {j:Nat} (hj:j<l.length):l.reverse.getD j d=l.getD (l.length-1-j) d:=by
 rw [List.getD_eq_getElem?_getD,List.getD_eq_getElem?_getD,List.getElem?_reverse hj]
theorem rev_succ {α:Type} (l:List α) (d:α) {j:Nat} (hj:j<l.length):l.reverse.take (j+1)=l.reverse.take j++[l.getD (l.length-1-j) d]:=by
 rw [←rev_getD l d hj]
 have hj2:j<l.reverse.length:=by rw [List.length_reverse];exact hj
 rw [List.take_add_one,List.getElem?_eq_getElem hj2,List.getD_eq_getElem?_getD,List.getElem?_eq_getElem hj2];rfl
theorem rev_len {α:Type} (l:List α) {j:Nat} (hj:j≤l.length):(l.reverse.take j).length=j:=by
 rw [List.length_take,List.length_reverse];omega
theorem mapRev_succ {α β:Type} (f:α→β) (l:List α) (d:α) {j:Nat} (hj:j<l.length):(l.map f).reverse.take (j+1)=(l.map f).reverse.take j++[f (l.getD (l.length-1-j) d)]:=by
 have hj2:j<(l.map f).reverse.length:=by rw [List.length_reverse,List.length_map];exact hj
 rw [List.take_add_one,List.getElem?_eq_getElem hj2]
 congr 1
 show [_]=_
 rw [List.getElem_reverse,List.getElem_map,List.getD_eq_getElem?_getD,List.getElem?_eq_getElem om]
 simp
theorem mapRev_len {α β:Type} (f:α→β) (l:List α) {j:Nat} (hj:j≤l.length):((l.map f).reverse.take j).length=j:=by
 rw [List.length_take,List.length_reverse,List.length_map];omega
theorem getD_in {α:Type} (l:List α) (d:α) {q:Nat} (h:q<l.length):l.getD q d∈l:=by
 rw [List.getD_eq_getElem?_getD,List.getElem?_eq_getElem h];exact List.getElem_mem _
theorem stepQ {n j:Nat} (h:j<n):∃q,q=n-1-j∧q<n∧(n:Int)-(j:Int)-1=(q:Int)∧decide ((q:Int)≥0)=true∧decide (q≥0)=true:=
 ⟨_,rfl,by omega,by omega,decide_eq_true om,decide_eq_true om⟩
theorem stepE (n:Nat):(n:Int)-(n:Int)-1= -1:=by omega
theorem rev_le {α:Type} (l:List α):l.reverse.length≤l.length:=Nat.le_of_eq List.length_reverse
theorem mapRev_le {α β:Type} (f:α→β) (l:List α):(l.map f).reverse.length≤l.length:=by rw [List.length_reverse,List.length_map];exact Nat.le_refl _
theorem turnG_free {x:GtD} (h:freeK x.kind):turnG x=⟨x.name,x.kind,x.k,x.inputs.reverse,x.dorm⟩:=by
 unfold turnG turnI
 rw [if_pos h]
theorem turnG_8 {x:GtD} (h:x.kind=8) {a:BS} {l:List BS} (hi:x.inputs=a::l):turnG x=⟨x.name,x.kind,x.k,a::l.reverse,x.dorm⟩:=by
 unfold turnG turnI freeK
 rw [if_neg om,if_pos h,hi]
 rfl
theorem turnG_no {x:GtD} (h:¬freeK x.kind) (h8:x.kind≠8):turnG x=x:=by
 unfold turnG turnI
 rw [if_neg h,if_neg h8]
end Go.PN
namespace Go.Proofs.YtpcpaekpnfkhhaaGreatDoor
open Go.AI Go.PN
attribute [local irreducible] aw Fa Fh DrK
theorem turned_fa (t:Bool) (l:List BS) (hl:l.length≤1048576):Fa Tryz.prog 62 [.c (strs t l)] (.c (strs true l.reverse)):=by
 have nL:l.length≤1099511627776:=by omega
 refine fa_of_body Tryz.func62 rfl rfl (by simp [Tryz.ntmps62]) fun C hC=> ?_
 simp only [initS,Nat.reduceAdd]
 refine zA o0 ?_
 refine aw_lp (fun z:Nat×Option Nat=>[(0,.c (strs t l)),(3,.c (gs z.2 1 z.1)),(4,.c (.int .i64 ((l.length:Int)-(z.1:Int)-1)))]) (fun z=>gh z.2 9 (z.1*1) (strsF (l.reverse.take z.1))) (fun z=>z.1≤l.length∧(z.2=none→z.1=0)) (fun z=>l.length-z.1) (0,none) eB zZ ⟨Nat.zero_le _,fun _=>rfl⟩ ?_
 rintro ⟨j,og⟩ ⟨hj,hog⟩
 dsimp only at hj hog⊢
 by_cases hjn:j<l.length
 ·obtain⟨q,hq,hql,hi3⟩:=stepQ hjn
  have hT:=rev_succ l [] hjn
  have hTl:=rev_len l (Nat.le_of_lt hjn)
  rw [←hq] at hT
  refine zA hi3 ?_
  refine aw_push (pre:=[]) rfl rfl rfl rfl rfl rfl rfl (zE hi3) (zE hi3) (by rfl) om om (zE hi3) om (by exact hog) (zE hi3) (by rfl) (by rfl) qb qc om (by exact strs_push hTl (l.getD q [])) fun gq hn_gq=> ?_
  replace hn_gq:=Heap.ne_of hn_gq
  first|dsimp only [Heap.ne,gh] at hn_gq|dsimp only [Heap.ne] at hn_gq|skip
  have J1:=oj hi3 hn_gq
  refine yS J1 ?_
  rw [←hT]
  refine zA J1 ?_
  exact aw_stop ⟨(j+1,some gq),by dsimp only;omega,(zB J1),zZ,by dsimp only;omega,fun e=>by cases e⟩
 ·obtain rfl:j=l.length:=by omega
  have hi3:=stepE l.length
  have hTe:l.reverse.take l.length=l.reverse:=List.take_of_length_le (by simp)
  rw [hTe]
  refine zA hi3 ?_
  refine aw_perm (h':=gh og 9 (l.length*1) (strsF l.reverse)++[]) (by rw [List.append_nil]) ?_
  refine aw_frzGT (t:=2) (s:=1) (f:=strsF l.reverse) (f':=strsF l.reverse) hog (show l.length=l.reverse.length by rw [List.length_reverse]) (zE hi3) (fun g _=>hC g) (fun i _=>rfl) (zE hi3) ?_
  refine yS hi3 ?_
  refine yT hC hi3 ?_
  exact .one (.c ler_strs)
theorem turnedG_fa (L:List GtD) (hO:∀g∈L,GtN g) (hl:L.length≤1048576):Fa Tryz.prog 61 [.c (gts true L)] (.c (gts true (turnL L))):=by
 have nL:L.length≤1099511627776:=by omega
 refine fa_of_body Tryz.func61 rfl rfl (by simp [Tryz.ntmps61]) fun C hC=> ?_
 simp only [initS,Nat.reduceAdd]
 refine zA o0 ?_
 refine aw_lp (fun z:Nat×Option Nat=>[(0,.c (gts true L)),(3,.c (gs z.2 7 z.1)),(4,.c (.int .i64 ((L.length:Int)-(z.1:Int)-1)))]) (fun z=>gh z.2 140 (z.1*7) (gtsF ((L.map turnG).reverse.take z.1))) (fun z=>z.1≤L.length∧(z.2=none→z.1=0)) (fun z=>L.length-z.1) (0,none) eB zZ ⟨Nat.zero_le _,fun _=>rfl⟩ ?_
 rintro ⟨j,og⟩ ⟨hj,hog⟩
 dsimp only at hj hog⊢
 by_cases hjn:j<L.length
 ·obtain⟨q,hq,hql,hi3⟩:=stepQ hjn
  have hT:=mapRev_succ turnG L gt0 hjn
  have hTl:=mapRev_len turnG L (Nat.le_of_lt hjn)
  rw [←hq] at hT
  have hx:=hO (L.getD q gt0) (getD_in L gt0 hql)
  generalize hv:L.getD q gt0=x at*
  obtain⟨hd,hi1,hi2,hi4⟩:=hx
  refine zA (oj hi3 hv) ?_
  refine yA (oj hi3 hv) fun g5 hn_g5=>?_
  by_cases hfree:freeK x.kind
  ·have hN:=turnG_free hfree
   rw [hN] at hT
   clear hN
   have hc:=turned_fa true x.inputs om
   obtain⟨nm,kd,kk,inp,dm⟩:=x
   dsimp only at*
   rcases hfree with e|e|e|e
   all_goals
    have b0:(kd==0)=_:=congrArg (·==0) e
    have b1:(kd==1)=_:=congrArg (·==1) e
    have b2:(kd==2)=_:=congrArg (·==2) e
    have b4:(kd==4)=_:=congrArg (·==4) e
    refine zA1 (oj hi3 (oj hv (oj hn_g5 (oj b0 (oj b1 (oj b2 b4)))))) hc ?_
    refine aw_push (pre:=[(g5,.cells 140 7 (ofL (gtc ⟨nm,kd,kk,inp.reverse,dm⟩)))]) rfl rfl rfl rfl rfl rfl rfl (zE (oj hi3 (oj hv (oj hn_g5 (oj b0 (oj b1 (oj b2 b4))))))) (zE (oj hi3 (oj hv (oj hn_g5 (oj b0 (oj b1 (oj b2 b4))))))) (by rfl) om om (zE (oj hi3 (oj hv (oj hn_g5 (oj b0 (oj b1 (oj b2 b4))))))) om (by exact hog) (zE (oj hi3 (oj hv (oj hn_g5 (oj b0 (oj b1 (oj b2 b4))))))) (by rfl) (by rfl) qb qc om (by exact gts_push hTl ⟨nm,kd,kk,inp.reverse,dm⟩) fun gq hn_gq=> ?_
    replace hn_gq:=Heap.ne_of hn_gq
    first|dsimp only [Heap.ne,gh] at hn_gq|dsimp only [Heap.ne] at hn_gq|skip
    have J1:=oj hi3 (oj hv (oj hn_g5 (oj b0 (oj b1 (oj b2 (oj b4 hn_gq))))))
    refine yS J1 ?_
    refine zA J1 ?_
    rw [←hT]
    refine aw_weak (h':=gh (some gq) 140 ((j+1)*7) (gtsF ((L.map turnG).reverse.take (j+1)))) (Sl.le_refl _) (.cons _ (List.Sublist.refl _)) ?_
    exact aw_stop ⟨(j+1,some gq),by dsimp only;omega,(zB J1),zZ,by dsimp only;omega,fun e=>by cases e⟩
  ·by_cases h8:x.kind=8
   ·obtain⟨nm,kd,kk,inp,dm⟩:=x
    dsimp only at*
    subst h8
    cases inp with
    |nil=>exact absurd hi1 (by simp)
    |cons a inp=>
     have hN:=turnG_8 (x:=⟨nm,8,kk,a::inp,dm⟩) rfl rfl
     dsimp only at hN
     rw [hN] at hT
     clear hN
     have hi5:1≤inp.length:=by have:=hi4 rfl;simpa using this
     have hi6:inp.length≤15:=by simpa using hi2
     refine zA (oj hi3 (oj hv hn_g5)) ?_
     refine aw_cw [(g5,.cells 140 7 (ofL (gtc ⟨nm,8,kk,a::inp,dm⟩)))] [(0,0),(1,0),(2,0),(3,0),(5,0),(6,0),(7,0),(8,0),(4,1),(9,1),(10,0),(11,2)] ty_mixed (by kernel_rfl) qa ?_
     have J2:=oj hi3 (oj hv hn_g5)
     refine yG J2 ?_
     have hrl:inp.reverse.length=inp.length:=List.length_reverse
     refine cw_callq (args:=[.c (strs true inp)]) rfl (turned_fa true inp om) rfl rfl rfl (fun _ _=>by
      refine yS J2 ?_
      exact .c (.row (fun h=>h) fun i _=>by
       rw [strsF_0,show(a::inp).getD (1+i) []=inp.getD i [] from by rw [Nat.add_comm];rfl]
       exact .refl _)) ?_
     refine ySG J2 ?_
     refine cw_buildSlice (xs:=[.tmp 33]) (cells:=[.str (sB a)]) rfl rfl rfl rfl (zE J2) (by refine yS J2 ?_;rfl) rfl om om qd rfl (by intro z hz;simp only [List.mem_singleton] at hz;subst hz;simp [Op.operands]) qa (fun g34 hn_g34=> ?_) (.inr ⟨rfl,rfl⟩)
     refine ySG J2 ?_
     refine cw_appendO (size:=1) (n:=1) (k:=inp.reverse.length) (m:=1*1) (g:=g34) (f:=ofL [.str (sB a)]) (f2:=strsF inp.reverse) (cx:=strs true inp.reverse) (h2:=(g5,.cells 140 7 (ofL (gtc ⟨nm,8,kk,a::inp,dm⟩)))::gh og 140 (j*7) (gtsF ((L.map turnG).reverse.take j))) rfl rfl rfl rfl (by exact tya_e_92) (by exact tya_z_9) rfl om (zE J2) (by simp [Heap.get]) om (zE J2)
      .row (fun i _=>strsF_solid _ i) om qc om (by simp [Heap.del]) qa (fun g39 hn_g39=> ?_) (.inr ⟨rfl,rfl⟩)
     have r1:g39≠g5:=fun e=>hn_g39 (by subst e;simp [Heap.keys])
     have r2:=eq_false r1
     have r3:=eq_false r1.symm
     have J3:=oj hi3 (oj hv (oj hn_g5 (oj r2 r3)))
     refine ySG J3 ?_
     refine cw_store (FP':=[]) rfl rfl rfl rfl rfl (zE J3) (zE J3) (zE J3) (zE J3) (fun _ e=>by cases e) rfl rfl (show 4≤7 from by omega) rfl has0_nil ?_
     refine yS J3 ?_
     refine wc2 ?_
     refine aw_conv1 (f':=strsF (a::inp.reverse)) (fun i hi=>by
      match i with
      |0=>rw [strsF_0];rfl
      |i+1=>rw [strsF_0];unfold appF;rw [if_neg om,strsF_0];rfl) ?_
     have hln:(a::inp.reverse).length=1+inp.reverse.length:=by rw [List.length_cons,Nat.add_comm]
     refine aw_perm (h':=(g5,.cells 140 7 (ofL (gtcS ⟨nm,8,kk,a::inp,dm⟩ (.osl g39 1 0 (1+inp.reverse.length)))))::(gh (some g39) 9 ((1+inp.reverse.length)*1) (strsF (a::inp.reverse))++gh og 140 (j*7) (gtsF ((L.map turnG).reverse.take j)))) (by rw [Nat.mul_one];exact List.Perm.swap _ _ _) ?_
     refine aw_frzG (og:=some g39) (s:=1) (n:=1+inp.reverse.length) (j0:=3) (m:=7) (f:=ofL (gtcS ⟨nm,8,kk,a::inp,dm⟩ (.osl g39 1 0 (1+inp.reverse.length)))) (f':=ofL (gtc ⟨nm,8,kk,a::inp.reverse,dm⟩)) (fp:=strsF (a::inp.reverse)) rfl (by show CV.row true 1 _ _=CV.row true 1 _ _;rw [hln]) (fun i hi h3=>by match i,hi,h3 with|0,_,_=>rfl|1,_,_=>rfl|2,_,_=>rfl|3,_,h=>exact absurd rfl h|4,_,_=>rfl|5,_,_=>rfl|6,_,_=>rfl) (fun e=>by cases e) (fun g _=>hC g) ?_
     refine yS J3 ?_
     refine zA J3 ?_
     refine aw_push (pre:=[(g5,.cells 140 7 (ofL (gtc ⟨nm,8,kk,a::inp.reverse,dm⟩)))]) rfl rfl rfl rfl rfl rfl rfl (zE J3) (zE J3) (by rfl) om om (zE J3) om (by exact hog) (zE J3) (by rfl) (by rfl) qb qc om (by exact gts_push hTl ⟨nm,8,kk,a::inp.reverse,dm⟩) fun gq hn_gq=> ?_
     replace hn_gq:=Heap.ne_of hn_gq
     first|dsimp only [Heap.ne,gh] at hn_gq|dsimp only [Heap.ne] at hn_gq|skip
     have J4:=oj hi3 (oj hv (oj hn_g5 (oj r2 (oj r3 hn_gq))))
     refine yS J4 ?_
     refine zA J4 ?_
     rw [←hT]
     refine aw_weak (h':=gh (some gq) 140 ((j+1)*7) (gtsF ((L.map turnG).reverse.take (j+1)))) (Sl.le_refl _) (.cons _ (List.Sublist.refl _)) ?_
     exact aw_stop ⟨(j+1,some gq),by dsimp only;omega,(zB J4),zZ,by dsimp only;omega,fun e=>by cases e⟩
   ·have hN:=turnG_no hfree h8
    rw [hN] at hT
    clear hN
    obtain⟨nm,kd,kk,inp,dm⟩:=x
    dsimp only at*
    have b0:(kd==0)=false:=by unfold freeK at hfree;simp only [beq_eq_false_iff_ne];omega
    have b1:(kd==1)=false:=by unfold freeK at hfree;simp only [beq_eq_false_iff_ne];omega
    have b2:(kd==2)=false:=by unfold freeK at hfree;simp only [beq_eq_false_iff_ne];omega
    have b4:(kd==4)=false:=by unfold freeK at hfree;simp only [beq_eq_false_iff_ne];omega
    have b8:(kd==8)=false:=by simp only [beq_eq_false_iff_ne];omega
    refine zA (oj hi3 (oj hv (oj hn_g5 (oj b0 (oj b1 (oj b2 (oj b4 b8))))))) ?_
    refine aw_push (pre:=[(g5,.cells 140 7 (ofL (gtc ⟨nm,kd,kk,inp,dm⟩)))]) rfl rfl rfl rfl rfl rfl rfl (zE (oj hi3 (oj hv (oj hn_g5 (oj b0 (oj b1 (oj b2 (oj b4 b8)))))))) (zE (oj hi3 (oj hv (oj hn_g5 (oj b0 (oj b1 (oj b2 (oj b4 b8)))))))) (by rfl) om om (zE (oj hi3 (oj hv (oj hn_g5 (oj b0 (oj b1 (oj b2 (oj b4 b8)))))))) om (by exact hog) (zE (oj hi3 (oj hv (oj hn_g5 (oj b0 (oj b1 (oj b2 (oj b4 b8)))))))) (by rfl) (by rfl) qb qc om (by exact gts_push hTl ⟨nm,kd,kk,inp,dm⟩) fun gq hn_gq=> ?_
    replace hn_gq:=Heap.ne_of hn_gq
    first|dsimp only [Heap.ne,gh] at hn_gq|dsimp only [Heap.ne] at hn_gq|skip
    have J5:=oj hi3 (oj hv (oj hn_g5 (oj b0 (oj b1 (oj b2 (oj b4 (oj b8 hn_gq)))))))
    refine yS J5 ?_
    refine zA J5 ?_
    rw [←hT]
    refine aw_weak (h':=gh (some gq) 140 ((j+1)*7) (gtsF ((L.map turnG).reverse.take (j+1)))) (Sl.le_refl _) (.cons _ (List.Sublist.refl _)) ?_
    exact aw_stop ⟨(j+1,some gq),by dsimp only;omega,(zB J5),zZ,by dsimp only;omega,fun e=>by cases e⟩
 ·obtain rfl:j=L.length:=by omega
  have hi3:=stepE L.length
  have hTe:(L.map turnG).reverse.take L.length=turnL L:=List.take_of_length_le (by simp)
  have hln:(turnL L).length=L.length:=by unfold turnL;rw [List.length_reverse,List.length_map]
  rw [hTe]
  refine zA hi3 ?_
  refine aw_perm (h':=gh og 140 (L.length*7) (gtsF (turnL L))++[]) (by rw [List.append_nil]) ?_
  refine aw_frzGT (t:=2) (s:=7) (f:=gtsF (turnL L)) (f':=gtsF (turnL L)) hog hln.symm (zE hi3) (fun g _=>hC g) (fun i _=>rfl) (zE hi3) ?_
  refine yS hi3 ?_
  refine yT hC hi3 ?_
  exact .one (.c ler_gts)
end Go.Proofs.YtpcpaekpnfkhhaaGreatDoor
namespace Go.Proofs.YtpcpaekpnfkhhaaGreatDoor
open Go.AI Go.PN
theorem has02 {a b:Nat×AObj} {h:Heap} (h1:a∈h:=by simp) (h2:b∈h:=by simp):Has0 [a,b] h:=has0_cons h1 (has0_cons h2 has0_nil)
attribute [local irreducible] aw Fa Fh DrK
theorem turnM_fa (m:MdD) (hg:Go.PN.Good m) (hs:MdN m):Fa Tryz.prog 19 [.agg (mdc true m)] (.agg (mdc true (turnM m))):=by
 have nE:m.events.length≤1099511627776:=Nat.le_trans hg.evl (by decide)
 have nH:m.houses.length≤1099511627776:=Nat.le_trans hg.hsl (by decide)
 have nP:m.pages.length≤1099511627776:=Nat.le_trans hg.pgl (by decide)
 have nR:m.groups.length≤1099511627776:=Nat.le_trans hg.grl (by decide)
 have nS:m.phases.length≤1099511627776:=Nat.le_trans hg.phl (by decide)
 have hlg:=hs.gtl
 have f2:=turnedG_fa m.gates hs.gt om
 obtain⟨RE,hRE⟩:∃c:CV,c=.row true 11 m.events.length (evsF m.events.reverse):=⟨_,rfl⟩
 obtain⟨RH,hRH⟩:∃c:CV,c=.row true 2 m.houses.length (hssF m.houses.reverse):=⟨_,rfl⟩
 obtain⟨RP,hRP⟩:∃c:CV,c=.row true 3 m.pages.length (pgsF (m.pages.map turnP).reverse):=⟨_,rfl⟩
 obtain⟨RR,hRR⟩:∃c:CV,c=.row true 4 m.groups.length (grsF (m.groups.map turnR).reverse):=⟨_,rfl⟩
 obtain⟨RS,hRS⟩:∃c:CV,c=.row true 3 m.phases.length (phsF (m.phases.map turnH)):=⟨_,rfl⟩
 refine fa_of_body Tryz.func19 rfl rfl (by simp [Tryz.ntmps19]) fun C hC=> ?_
 simp only [initS,Nat.reduceAdd]
 refine xG ?_
 refine xB fun g1 hn_g1=>?_
 refine yA hn_g1 fun g2 hn_g2=>?_
 refine zA (oj hn_g1 hn_g2) ?_
 refine aw_cw [mZ g2,mM g1 m] [(0,0),(1,0),(2,0),(3,0),(4,0),(5,0),(6,0),(7,0),(8,1),(9,2)] ty_mixed (by kernel_rfl) has02 ?_
 have J1:=oj hn_g1 hn_g2
 refine yG J1 ?_
 refine cw_callq rfl f2 rfl rfl rfl (fun _ _=>(zL J1)) ?_
 refine ySG J1 ?_
 refine cw_alloc rfl rfl rfl rfl (zE J1) has02 (fun g3 hn_g3=> ?_) (hm:=.inr ⟨rfl,rfl⟩)
 refine ySG J1 ?_
 refine cw_store (FP':=[]) rfl rfl rfl rfl rfl (zE J1) (zE J1) (zE J1) (zE J1) (fun _ e=>by cases e) rfl rfl (show 8≤8 from by omega) rfl has0_nil ?_
 refine ySG J1 ?_
 replace hn_g3:=Heap.ne_of hn_g3
 simp only [Heap.ne] at hn_g3
 obtain⟨RG,hRG⟩:∃c:CV,c=gts true (turnL m.gates):=⟨_,rfl⟩
 simp only [←hRG]
 have F:=oj hn_g1 (oj hn_g2 hn_g3)
 refine yS F ?_
 refine zA F ?_
 refine aw_lp (fun z:Nat×Option Nat=>[(1,.c (.optr g1 0)),(2,.c (.optr g2 0)),(3,.c (.optr g3 0)),(4,.c (.int .i64 ((m.events.length:Int)-(z.1:Int)-1)))]) (fun z=>mD g3 m (gs z.2 11 z.1) .nils RG .nils .nils .nils::mZ g2::mM g1 m::gh z.2 54 (z.1*11) (evsF (m.events.reverse.take z.1))) (fun z=>z.1≤m.events.length∧(z.2=none→z.1=0)) (fun z=>m.events.length-z.1) (0,none) (zB F) zZ ⟨Nat.zero_le _,fun _=>rfl⟩ ?_
 rintro ⟨j,og⟩ ⟨hj,hog⟩
 dsimp only at hj hog⊢
 by_cases hjn:j<m.events.length
 ·obtain⟨q,hq,hql,hi3⟩:=stepQ hjn
  have hm:=getD_in m.events ev0 hql
  have hT:=rev_succ m.events ev0 hjn
  have hTl:=rev_len m.events (Nat.le_of_lt hjn)
  rw [←hq] at hT
  clear hm
  generalize hv:m.events.getD q ev0=x at*
  have hcl:=hg.evl
  refine zA (oj F (oj hi3 hv)) ?_
  refine aw_cw [mD g3 m (gs og 11 j) .nils RG .nils .nils .nils,mM g1 m] [(0,0),(1,0),(2,0),(3,0),(4,0),(5,0),(6,0),(7,1),(8,1),(9,0),(10,2)] ty_mixed (by kernel_rfl) has02 ?_
  have J2:=oj F (oj hi3 hv)
  refine yG J2 ?_
  refine cw_buildSlice (xs:=[.tmp 35]) (cells:=evc x) rfl rfl rfl rfl (zE J2) (by refine yS J2 ?_;rfl) rfl om om qd rfl (by simp [Op.operands]) has02 (fun g36 hn_g36=> ?_) (hm:=.inr ⟨rfl,rfl⟩)
  refine yS J2 ?_
  refine cw_push (pre:=[mD g3 m (gs og 11 j) .nils RG .nils .nils .nils,mZ g2,mM g1 m]) (og:=og) (n:=j) (s:=30) (d1:=36) (gt:=g36) (v:=.agg (evc x)) rfl rfl rfl rfl (zE J2) (zE J2) (by rfl) om om (zE J2) (zE J2) hog (by rfl) (by rfl) (by simp only [Nat.mul_one,List.cons_append,List.nil_append];rfl) qc om (evs_push hTl x) (has0_skip has02) (fun gb hn_gb=> ?_) (hm:=.inr ⟨rfl,rfl⟩)
  replace hn_g36:=Heap.ne_of hn_g36
  simp only [Heap.ne,List.cons_append,List.nil_append] at hn_g36
  rw [←hT]
  have J3:=oj F (oj hi3 (oj hv hn_g36))
  refine ySG J3 ?_
  refine cw_store (FP':=[]) rfl rfl rfl rfl rfl (zE J3) (zE J3) (zE J3) (zE J3) (fun _ e=>by cases e) rfl rfl (show 3≤8 from by omega) rfl has0_nil ?_
  refine ySG J3 ?_
  refine zA J3 ?_
  exact aw_stop ⟨(j+1,some gb),by dsimp only;omega,(zB J3),List.sublist_cons_self _ _,by dsimp only;omega,fun e=>by cases e⟩
 ·obtain rfl:j=m.events.length:=by omega
  have hi3:=stepE m.events.length
  rw [List.take_of_length_le (rev_le m.events)]
  refine zA (oj F hi3) ?_
  refine aw_perm (h':=mD g3 m (gs og 11 m.events.length) .nils RG .nils .nils .nils::(gh og 54 (m.events.length*11) (evsF m.events.reverse)++[mZ g2,mM g1 m])) (.cons _ (List.perm_append_comm (l₁:=[_,_]))) ?_
  refine aw_frzG (j0:=2) (m:=8) (f:=(ofL (mdN m (gs og 11 m.events.length) .nils RG .nils .nils .nils))) (f':=(ofL (mdN m RE .nils RG .nils .nils .nils))) (fp:=evsF m.events.reverse) rfl hRE (fun i hi h3=>by match i,hi,h3 with|0,_,_=>rfl|1,_,_=>rfl|2,_,h=>exact absurd rfl h|3,_,_=>rfl|4,_,_=>rfl|5,_,_=>rfl|6,_,_=>rfl|7,_,_=>rfl) hog (fun g _=>hC g) ?_
  refine yS (oj F hi3) ?_
  refine zA (oj F hi3) ?_
  refine aw_lp (fun z:Nat×Option Nat=>[(1,.c (.optr g1 0)),(2,.c (.optr g2 0)),(3,.c (.optr g3 0)),(5,.c (.int .i64 ((m.houses.length:Int)-(z.1:Int)-1)))]) (fun z=>mD g3 m RE (gs z.2 2 z.1) RG .nils .nils .nils::mZ g2::mM g1 m::gh z.2 105 (z.1*2) (hssF (m.houses.reverse.take z.1))) (fun z=>z.1≤m.houses.length∧(z.2=none→z.1=0)) (fun z=>m.houses.length-z.1) (0,none) (zB F) zZ ⟨Nat.zero_le _,fun _=>rfl⟩ ?_
  rintro ⟨j,og⟩ ⟨hj,hog⟩
  dsimp only at hj hog⊢
  by_cases hjn:j<m.houses.length
  ·obtain⟨q,hq,hql,hi3⟩:=stepQ hjn
   have hm:=getD_in m.houses hs0 hql
   have hT:=rev_succ m.houses hs0 hjn
   have hTl:=rev_len m.houses (Nat.le_of_lt hjn)
   rw [←hq] at hT
   clear hm
   generalize hv:m.houses.getD q hs0=x at*
   have hcl:=hg.hsl
   refine zA (oj F (oj hi3 hv)) ?_
   refine aw_cw [mD g3 m RE (gs og 2 j) RG .nils .nils .nils,mM g1 m] [(0,0),(1,0),(2,0),(3,0),(4,0),(5,0),(6,0),(7,1),(8,1),(9,0),(10,2)] ty_mixed (by kernel_rfl) has02 ?_
   have J4:=oj F (oj hi3 hv)
   refine yG J4 ?_
   refine cw_buildSlice (xs:=[.tmp 53]) (cells:=hsc x) rfl rfl rfl rfl (zE J4) (by refine yS J4 ?_;rfl) rfl om om qd rfl (by simp [Op.operands]) has02 (fun g54 hn_g54=> ?_) (hm:=.inr ⟨rfl,rfl⟩)
   refine yS J4 ?_
   refine cw_push (pre:=[mD g3 m RE (gs og 2 j) RG .nils .nils .nils,mZ g2,mM g1 m]) (og:=og) (n:=j) (s:=48) (d1:=54) (gt:=g54) (v:=.agg (hsc x)) rfl rfl rfl rfl (zE J4) (zE J4) (by rfl) om om (zE J4) (zE J4) hog (by rfl) (by rfl) (by simp only [Nat.mul_one,List.cons_append,List.nil_append];rfl) qc om (hss_push hTl x) (has0_skip has02) (fun gb hn_gb=> ?_) (hm:=.inr ⟨rfl,rfl⟩)
   replace hn_g54:=Heap.ne_of hn_g54
   simp only [Heap.ne,List.cons_append,List.nil_append] at hn_g54
   rw [←hT]
   have J5:=oj F (oj hi3 (oj hv hn_g54))
   refine ySG J5 ?_
   refine cw_store (FP':=[]) rfl rfl rfl rfl rfl (zE J5) (zE J5) (zE J5) (zE J5) (fun _ e=>by cases e) rfl rfl (show 4≤8 from by omega) rfl has0_nil ?_
   refine ySG J5 ?_
   refine zA J5 ?_
   exact aw_stop ⟨(j+1,some gb),by dsimp only;omega,(zB J5),List.sublist_cons_self _ _,by dsimp only;omega,fun e=>by cases e⟩
  ·obtain rfl:j=m.houses.length:=by omega
   have hi3:=stepE m.houses.length
   rw [List.take_of_length_le (rev_le m.houses)]
   refine zA (oj F hi3) ?_
   refine aw_perm (h':=mD g3 m RE (gs og 2 m.houses.length) RG .nils .nils .nils::(gh og 105 (m.houses.length*2) (hssF m.houses.reverse)++[mZ g2,mM g1 m])) (.cons _ (List.perm_append_comm (l₁:=[_,_]))) ?_
   refine aw_frzG (j0:=3) (m:=8) (f:=(ofL (mdN m RE (gs og 2 m.houses.length) RG .nils .nils .nils))) (f':=(ofL (mdN m RE RH RG .nils .nils .nils))) (fp:=hssF m.houses.reverse) rfl hRH (fun i hi h3=>by match i,hi,h3 with|0,_,_=>rfl|1,_,_=>rfl|2,_,_=>rfl|3,_,h=>exact absurd rfl h|4,_,_=>rfl|5,_,_=>rfl|6,_,_=>rfl|7,_,_=>rfl) hog (fun g _=>hC g) ?_
   refine yS (oj F hi3) ?_
   refine zA (oj F hi3) ?_
   refine aw_lp (fun z:Nat×Option Nat=>[(1,.c (.optr g1 0)),(2,.c (.optr g2 0)),(3,.c (.optr g3 0)),(6,.c (.int .i64 ((m.pages.length:Int)-(z.1:Int)-1)))]) (fun z=>mD g3 m RE RH RG (gs z.2 3 z.1) .nils .nils::mZ g2::mM g1 m::gh z.2 91 (z.1*3) (pgsF ((m.pages.map turnP).reverse.take z.1))) (fun z=>z.1≤m.pages.length∧(z.2=none→z.1=0)) (fun z=>m.pages.length-z.1) (0,none) (zB F) zZ ⟨Nat.zero_le _,fun _=>rfl⟩ ?_
   rintro ⟨j,og⟩ ⟨hj,hog⟩
   dsimp only at hj hog⊢
   by_cases hjn:j<m.pages.length
   ·obtain⟨q,hq,hql,hi3⟩:=stepQ hjn
    have hm:=getD_in m.pages pg0 hql
    have hT:=mapRev_succ turnP m.pages pg0 hjn
    have hTl:=mapRev_len turnP m.pages (Nat.le_of_lt hjn)
    rw [←hq] at hT
    have hx:=hs.pg _ hm
    have hcl:=hg.pgl
    clear hm
    generalize hv:m.pages.getD q pg0=x at*
    have c1:=turnedG_fa x.gates hx.2 (by have:=hx.1;omega)
    refine zA (oj F (oj hi3 hv)) ?_
    refine aw_cw [mD g3 m RE RH RG (gs og 3 j) .nils .nils,mM g1 m] [(0,0),(1,0),(2,0),(3,0),(4,0),(5,0),(6,0),(7,0),(8,0),(9,0),(10,0),(11,0),(12,0),(13,0),(14,0),(15,0),(16,0),(17,0),(18,0),(19,0),(20,0),(21,0),(22,1),(23,1),(24,0),(25,2)] ty_mixed (by kernel_rfl) has02 ?_
    have J6:=oj F (oj hi3 hv)
    refine yG J6 ?_
    refine cw_callq rfl c1 rfl rfl rfl (fun _ _=>(zL J6)) ?_
    refine ySG J6 ?_
    refine cw_buildSlice (xs:=[.tmp 86]) (cells:=pgc (turnP x)) rfl rfl rfl rfl (zE J6) (by refine yS J6 ?_;rfl) rfl om om qd rfl (by simp [Op.operands]) has02 (fun g87 hn_g87=> ?_) (hm:=.inr ⟨rfl,rfl⟩)
    refine yS J6 ?_
    refine cw_push (pre:=[mD g3 m RE RH RG (gs og 3 j) .nils .nils,mZ g2,mM g1 m]) (og:=og) (n:=j) (s:=66) (d1:=87) (gt:=g87) (v:=.agg (pgc (turnP x))) rfl rfl rfl rfl (zE J6) (zE J6) (by rfl) om om (zE J6) (zE J6) hog (by rfl) (by rfl) (by simp only [Nat.mul_one,List.cons_append,List.nil_append];rfl) qc om (pgs_push hTl (turnP x)) (has0_skip has02) (fun gb hn_gb=> ?_) (hm:=.inr ⟨rfl,rfl⟩)
    replace hn_g87:=Heap.ne_of hn_g87
    simp only [Heap.ne,List.cons_append,List.nil_append] at hn_g87
    rw [←hT]
    have J7:=oj F (oj hi3 (oj hv hn_g87))
    refine ySG J7 ?_
    refine cw_store (FP':=[]) rfl rfl rfl rfl rfl (zE J7) (zE J7) (zE J7) (zE J7) (fun _ e=>by cases e) rfl rfl (show 6≤8 from by omega) rfl has0_nil ?_
    refine ySG J7 ?_
    refine zA J7 ?_
    exact aw_stop ⟨(j+1,some gb),by dsimp only;omega,(zB J7),List.sublist_cons_self _ _,by dsimp only;omega,fun e=>by cases e⟩
   ·obtain rfl:j=m.pages.length:=by omega
    have hi3:=stepE m.pages.length
    rw [List.take_of_length_le (mapRev_le turnP m.pages)]
    refine zA (oj F hi3) ?_
    refine aw_perm (h':=mD g3 m RE RH RG (gs og 3 m.pages.length) .nils .nils::(gh og 91 (m.pages.length*3) (pgsF (m.pages.map turnP).reverse)++[mZ g2,mM g1 m])) (.cons _ (List.perm_append_comm (l₁:=[_,_]))) ?_
    refine aw_frzG (j0:=5) (m:=8) (f:=(ofL (mdN m RE RH RG (gs og 3 m.pages.length) .nils .nils))) (f':=(ofL (mdN m RE RH RG RP .nils .nils))) (fp:=pgsF (m.pages.map turnP).reverse) rfl hRP (fun i hi h3=>by match i,hi,h3 with|0,_,_=>rfl|1,_,_=>rfl|2,_,_=>rfl|3,_,_=>rfl|4,_,_=>rfl|5,_,h=>exact absurd rfl h|6,_,_=>rfl|7,_,_=>rfl) hog (fun g _=>hC g) ?_
    refine yS (oj F hi3) ?_
    refine zA (oj F hi3) ?_
    refine aw_lp (fun z:Nat×Option Nat=>[(1,.c (.optr g1 0)),(2,.c (.optr g2 0)),(3,.c (.optr g3 0)),(7,.c (.int .i64 ((m.groups.length:Int)-(z.1:Int)-1)))]) (fun z=>mD g3 m RE RH RG RP (gs z.2 4 z.1) .nils::mZ g2::mM g1 m::gh z.2 95 (z.1*4) (grsF ((m.groups.map turnR).reverse.take z.1))) (fun z=>z.1≤m.groups.length∧(z.2=none→z.1=0)) (fun z=>m.groups.length-z.1) (0,none) (zB F) zZ ⟨Nat.zero_le _,fun _=>rfl⟩ ?_
    rintro ⟨j,og⟩ ⟨hj,hog⟩
    dsimp only at hj hog⊢
    by_cases hjn:j<m.groups.length
    ·obtain⟨q,hq,hql,hi3⟩:=stepQ hjn
     have hm:=getD_in m.groups gr0 hql
     have hT:=mapRev_succ turnR m.groups gr0 hjn
     have hTl:=mapRev_len turnR m.groups (Nat.le_of_lt hjn)
     rw [←hq] at hT
     have hx:=(hs.gr _ hm).1
     have hcl:=hg.grl
     clear hm
     generalize hv:m.groups.getD q gr0=x at*
     have c1:=turned_fa true x.members om
     refine zA (oj F (oj hi3 hv)) ?_
     refine yA (oj F (oj hi3 hv)) fun g8 hn_g8=>?_
     obtain⟨nm,kd,mb,fc⟩:=x
     dsimp only at*
     refine zA1 (oj F (oj hi3 (oj hv hn_g8))) c1 ?_
     refine aw_push (pre:=[(g8,.cells 95 4 (ofL (grc (turnR ⟨nm,kd,mb,fc⟩)))),mD g3 m RE RH RG RP (gs og 4 j) .nils,mZ g2,mM g1 m]) rfl rfl rfl rfl rfl rfl rfl (zE (oj F (oj hi3 (oj hv hn_g8)))) (zE (oj F (oj hi3 (oj hv hn_g8)))) (by rfl) om om (zE (oj F (oj hi3 (oj hv hn_g8)))) om (by exact hog) (zE (oj F (oj hi3 (oj hv hn_g8)))) (by rfl) (by rfl) qb qc om (by exact grs_push hTl (turnR ⟨nm,kd,mb,fc⟩)) fun gq hn_gq=> ?_
     replace hn_gq:=Heap.ne_of hn_gq
     first|dsimp only [Heap.ne,gh] at hn_gq|dsimp only [Heap.ne] at hn_gq|skip
     have J8:=oj F (oj hi3 (oj hv (oj hn_g8 hn_gq)))
     refine yS J8 ?_
     rw [←hT]
     refine zA J8 ?_
     exact aw_stop ⟨(j+1,some gq),by dsimp only;omega,(zB J8),List.sublist_cons_self _ _,by dsimp only;omega,fun e=>by cases e⟩
    ·obtain rfl:j=m.groups.length:=by omega
     have hi3:=stepE m.groups.length
     rw [List.take_of_length_le (mapRev_le turnR m.groups)]
     refine zA (oj F hi3) ?_
     refine aw_perm (h':=mD g3 m RE RH RG RP (gs og 4 m.groups.length) .nils::(gh og 95 (m.groups.length*4) (grsF (m.groups.map turnR).reverse)++[mZ g2,mM g1 m])) (.cons _ (List.perm_append_comm (l₁:=[_,_]))) ?_
     refine aw_frzG (j0:=6) (m:=8) (f:=(ofL (mdN m RE RH RG RP (gs og 4 m.groups.length) .nils))) (f':=(ofL (mdN m RE RH RG RP RR .nils))) (fp:=grsF (m.groups.map turnR).reverse) rfl hRR (fun i hi h3=>by match i,hi,h3 with|0,_,_=>rfl|1,_,_=>rfl|2,_,_=>rfl|3,_,_=>rfl|4,_,_=>rfl|5,_,_=>rfl|6,_,h=>exact absurd rfl h|7,_,_=>rfl) hog (fun g _=>hC g) ?_
     refine yS (oj F hi3) ?_
     refine zA (oj F hi3) ?_
     refine aw_lp (fun z:Nat×Option Nat=>[(1,.c (.optr g1 0)),(2,.c (.optr g2 0)),(3,.c (.optr g3 0)),(114,.c (phs true m.phases)),(115,.c (.int .i64 m.phases.length)),(116,.c (.int .i64 z.1))]) (fun z=>mD g3 m RE RH RG RP RR (gs z.2 3 z.1)::mZ g2::mM g1 m::gh z.2 98 (z.1*3) (phsF ((m.phases.map turnH).take z.1))) (fun z=>z.1≤m.phases.length∧(z.2=none→z.1=0)) (fun z=>m.phases.length-z.1) (0,none) (zB F) zZ ⟨Nat.zero_le _,fun _=>rfl⟩ ?_
     rintro ⟨j,og⟩ ⟨hj,hog⟩
     dsimp only at hj hog⊢
     by_cases hjn:j<m.phases.length
     ·have d1:decide (j<m.phases.length)=true:=decide_eq_true hjn
      have hm:=getD_in m.phases ph0 hjn
      have hx:=hs.ph _ hm
      have hT:=mapTake_succ turnH m.phases ph0 hjn
      have hTl:=mapTake_len turnH m.phases (Nat.le_of_lt hjn)
      have hphl:=hg.phl
      clear hm
      generalize hv:m.phases.getD j ph0=x at*
      obtain⟨hx1,hx3⟩:=hx
      have nV:x.values.length≤1099511627776:=by omega
      obtain⟨HG,hHG⟩:∃HG:Heap,HG=gh og 98 (j*3) (phsF ((m.phases.map turnH).take j)):=⟨_,rfl⟩
      rw [←hHG]
      refine zA (oj F (oj d1 hv)) ?_
      refine yA (oj F (oj d1 hv)) fun g10 hn_g10=>?_
      refine zA (oj F (oj d1 (oj hv hn_g10))) ?_
      refine yA (oj F (oj d1 (oj hv hn_g10))) fun g11 hn_g11=>?_
      refine zA (oj F (oj d1 (oj hv (oj hn_g10 hn_g11)))) ?_
      refine aw_lp (fun z:Nat×Option Nat=>[(1,.c (.optr g1 0)),(2,.c (.optr g2 0)),(3,.c (.optr g3 0)),(10,.c (.optr g10 0)),(11,.c (.optr g11 0)),(114,.c (phs true m.phases)),(115,.c (.int .i64 m.phases.length)),(116,.c (.int .i64 j)),(12,.c (.int .i64 ((x.values.length:Int)-(z.1:Int)-1)))]) (fun z=>(g11,.cells 98 3 (ofL [.str (sB x.name),.str (sB x.top),gs z.2 4 z.1]))::(g10,.cells 98 3 (ofL (phc x)))::mD g3 m RE RH RG RP RR (gs og 3 j)::mZ g2::mM g1 m::(HG++gh z.2 100 (z.1*4) (vlsF (x.values.reverse.take z.1)))) (fun z=>z.1≤x.values.length∧(z.2=none→z.1=0)) (fun z=>x.values.length-z.1) (0,none) (zB (oj F (oj d1 (oj hv (oj hn_g10 hn_g11))))) (by show List.Sublist ((g11,.cells 98 3 (ofL [.str (sB x.name),.str (sB x.top),.nils]))::(g10,.cells 98 3 (ofL (phc x)))::mD g3 m RE RH RG RP RR (gs og 3 j)::mZ g2::mM g1 m::(HG++[])) _;rw [List.append_nil];exact List.Sublist.refl _) ⟨Nat.zero_le _,fun _=>rfl⟩ ?_
      rintro ⟨k,ok⟩ ⟨hk,hok⟩
      dsimp only at hk hok⊢
      by_cases hkn:k<x.values.length
      ·obtain⟨q,hq,hql,hi3⟩:=stepQ hkn
       have hU:=rev_succ x.values vl0 hkn
       have hUl:=rev_len x.values (Nat.le_of_lt hkn)
       rw [←hq] at hU
       generalize hv3:x.values.getD q vl0=v at*
       refine zA (oj F (oj d1 (oj hv (oj hn_g10 (oj hn_g11 (oj hi3 hv3)))))) ?_
       refine aw_cw [(g11,.cells 98 3 (ofL [.str (sB x.name),.str (sB x.top),gs ok 4 k])),(g10,.cells 98 3 (ofL (phc x)))] [(0,0),(1,0),(2,0),(3,0),(4,0),(5,0),(6,0),(7,1),(8,1),(9,0),(10,2)] ty_mixed (by kernel_rfl) has02 ?_
       have J9:=oj F (oj d1 (oj hv (oj hn_g10 (oj hn_g11 (oj hi3 hv3)))))
       refine yG J9 ?_
       refine cw_buildSlice (xs:=[.tmp 139]) (cells:=vlc v) rfl rfl rfl rfl (zE J9) (by refine yS J9 ?_;rfl) rfl om om qd rfl (by simp [Op.operands]) has02 (fun g140 hn_g140=> ?_) (hm:=.inr ⟨rfl,rfl⟩)
       refine yS J9 ?_
       refine cw_push (pre:=[(g11,.cells 98 3 (ofL [.str (sB x.name),.str (sB x.top),gs ok 4 k])),(g10,.cells 98 3 (ofL (phc x))),mD g3 m RE RH RG RP RR (gs og 3 j),mZ g2,mM g1 m]++HG) (og:=ok) (n:=k) (s:=134) (d1:=140) (gt:=g140) (v:=.agg (vlc v)) rfl rfl rfl rfl (zE J9) (zE J9) (by rfl) om om (zE J9) (zE J9) hok (by rfl) (by rfl) (by simp only [Nat.mul_one,List.cons_append,List.nil_append];rfl) qc om (vls_push hUl v) (has0_skip has02) (fun gb hn_gb=> ?_) (hm:=.inr ⟨rfl,rfl⟩)
       replace hn_g140:=Heap.ne_of hn_g140
       simp only [Heap.ne,List.cons_append,List.nil_append] at hn_g140
       rw [←hU]
       simp only [List.cons_append,List.nil_append]
       have J10:=oj F (oj d1 (oj hv (oj hn_g10 (oj hn_g11 (oj hi3 (oj hv3 hn_g140))))))
       refine ySG J10 ?_
       refine cw_store (FP':=[]) rfl rfl rfl rfl rfl (zE J10) (zE J10) (zE J10) (zE J10) (fun _ e=>by cases e) rfl rfl (show 3≤3 from by omega) rfl has0_nil ?_
       refine ySG J10 ?_
       refine zA J10 ?_
       exact aw_stop ⟨(k+1,some gb),by dsimp only;omega,(zB J10),List.sublist_cons_self _ _,by dsimp only;omega,fun e=>by cases e⟩
      ·obtain rfl:k=x.values.length:=by omega
       have hi3:=stepE x.values.length
       have hvl:x.values.reverse.length=x.values.length:=List.length_reverse
       rw [List.take_of_length_le (Nat.le_of_eq hvl)]
       refine aw_perm (h':=(g11,.cells 98 3 (ofL [.str (sB x.name),.str (sB x.top),gs ok 4 x.values.length]))::(gh ok 100 (x.values.length*4) (vlsF x.values.reverse)++((g10,.cells 98 3 (ofL (phc x)))::mD g3 m RE RH RG RP RR (gs og 3 j)::mZ g2::mM g1 m::HG))) (.cons _ (List.perm_append_comm (l₁:=(g10,.cells 98 3 (ofL (phc x)))::mD g3 m RE RH RG RP RR (gs og 3 j)::mZ g2::mM g1 m::HG))) ?_
       refine aw_frzG (j0:=2) (m:=3) (f:=ofL [.str (sB x.name),.str (sB x.top),gs ok 4 x.values.length]) (f':=ofL (phc (turnH x))) (fp:=vlsF x.values.reverse) rfl (by show CV.row true 4 x.values.reverse.length _=CV.row true 4 _ _;rw [hvl];rfl) (fun i hi h3=>by match i,hi,h3 with|0,_,_=>rfl|1,_,_=>rfl|2,_,h=>exact absurd rfl h) hok (fun g _=>hC g) ?_
       rw [hHG]
       have J11:=oj F (oj d1 (oj hv (oj hn_g10 (oj hn_g11 hi3))))
       refine yS J11 ?_
       refine zA J11 ?_
       refine aw_push (pre:=[(g11,.cells 98 3 (ofL (phc (turnH x)))),(g10,.cells 98 3 (ofL (phc x))),mD g3 m RE RH RG RP RR (gs og 3 j),mZ g2,mM g1 m]) rfl rfl rfl rfl rfl rfl rfl (zE J11) (zE J11) (by rfl) om om (zE J11) om (by exact hog) (zE J11) (by rfl) (by rfl) qb qc om (by exact phs_push hTl (turnH x)) fun gq hn_gq=> ?_
       replace hn_gq:=Heap.ne_of hn_gq
       first|dsimp only [Heap.ne,gh] at hn_gq|dsimp only [Heap.ne] at hn_gq|skip
       have J12:=oj F (oj d1 (oj hv (oj hn_g10 (oj hn_g11 (oj hi3 hn_gq)))))
       refine yS J12 ?_
       rw [←hT]
       refine zA J12 ?_
       exact aw_stop ⟨(j+1,some gq),by dsimp only;omega,(zB J12),(.cons _ (List.sublist_cons_self _ _)),by dsimp only;omega,fun e=>by cases e⟩
     ·have d1:decide (j<m.phases.length)=false:=decide_eq_false hjn
      obtain rfl:j=m.phases.length:=by omega
      rw [List.take_of_length_le (show(m.phases.map turnH).length≤m.phases.length by rw [List.length_map];exact Nat.le_refl _)]
      refine aw_perm (h':=mD g3 m RE RH RG RP RR (gs og 3 m.phases.length)::(gh og 98 (m.phases.length*3) (phsF (m.phases.map turnH))++[mZ g2,mM g1 m])) (.cons _ (List.perm_append_comm (l₁:=[_,_]))) ?_
      refine aw_frzG (j0:=7) (m:=8) (f:=(ofL (mdN m RE RH RG RP RR (gs og 3 m.phases.length)))) (f':=(ofL (mdN m RE RH RG RP RR RS))) (fp:=phsF (m.phases.map turnH)) rfl hRS (fun i hi h3=>by match i,hi,h3 with|0,_,_=>rfl|1,_,_=>rfl|2,_,_=>rfl|3,_,_=>rfl|4,_,_=>rfl|5,_,_=>rfl|6,_,_=>rfl|7,_,h=>exact absurd rfl h) hog (fun g _=>hC g) ?_
      refine yS F ?_
      have ze:RE=evs true m.events.reverse:=by rw [hRE];show _=CV.row true _ _ _;rw [List.length_reverse]
      have zh:RH=hss true m.houses.reverse:=by rw [hRH];show _=CV.row true _ _ _;rw [List.length_reverse]
      have zp:RP=pgs true (m.pages.map turnP).reverse:=by rw [hRP];show _=CV.row true _ _ _;rw [List.length_reverse,List.length_map]
      have zr:RR=grs true (m.groups.map turnR).reverse:=by rw [hRR];show _=CV.row true _ _ _;rw [List.length_reverse,List.length_map]
      have zs:RS=phs true (m.phases.map turnH):=by rw [hRS];show _=CV.row true _ _ _;rw [List.length_map]
      rw [ze,zh,zp,zr,zs,hRG]
      refine zA (oj F d1) ?_
      refine yT hC (oj F d1) ?_
      exact .one (.agg (lerl_md (x:=turnM m)))
end Go.Proofs.YtpcpaekpnfkhhaaGreatDoor
