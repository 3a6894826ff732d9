/- Parts of one proof, laid by a program. -/
import Derived.Test.YtpcpaekpnfkhhaaGreatDoorM00
import Derived.Test.YtpcpaekpnfkhhaaGreatDoorM11
import Derived.Laws.IdiomRangeMap
import Derived.Deep.Draws
set_option linter.unusedSimpArgs false
set_option linter.unusedVariables false
set_option maxRecDepth 100000
set_option maxHeartbeats 12800000
namespace Go.AI
theorem POk.buildZ {P:Program} {h:Heap} {ρ:Operand→AV} {t:TypeId} {vs:List Value} (hz:zeroL P t=some vs) (hfl:(tFlds P t).isSome=true):POk P h ρ (.build t #[]) (.agg (vs.map CV.raw)):=by
 intro S w e hS ho _
 obtain⟨fl,hfl⟩:=Option.isSome_iff_exists.1 hfl
 obtain⟨fs,hu,hrun⟩:=tFlds_run hfl
 obtain⟨i,zv,hi,hzv,rfl⟩:=zeroL_spec hz
 refine⟨.agg zv.cells,fun o hop=> ?_,zv.cells.toList,by simp,rawL_rep _ _ _⟩
 simp only [execOp,hop,Instr.build,Sem.run_bind,zeroValue,typeInfo,run_program,hi,hzv,Result.andThen_ok,Sem.run_pure,run_underlying hu,hrun w]
 rw [show(Array.map (fun x:Nat×Operand=>(x.fst,e x.snd)) #[]).toList=[] from by simp]
 simp [Instr.fill,Sem.run_pure]
section
variable {E : Env} {K : List It} {l : List Oper} {FP FP' : Heap} {σ σ' : Sl} {h : Heap} {o : Oper} {i m : Nat} {cs : List (Nat × Nat)}
theorem cw_pokP {r:AV} (ho:l[i]?=some o) (hp:∀ρ:Operand→AV,(∀x∈o.op.operands,ρ x=ev σ x)→POk E.P h ρ o.op r) (hw:wantA l σ o=some true) (hd:dstOk E.N o.dst=true) (hFP:Has0 FP' h) (k:CW E l K FP' cs (σ.setO o.dst r) h) (hm:m=2∨m=1∧FP'=FP:=by first|exact .inl rfl|exact .inr ⟨rfl,rfl⟩):CW E l K FP ((i,m)::cs) σ h:=by
 refine .pin ho hm (R:=fun x h2=>x=r∧h2=h) (fun σ' K hs=> ?_) ?_ ?_
 ·exact aw_pok (hp (ev σ') fun x hx=>ev_same hx hs) ((want_same hs).trans hw) hd (aw_ops_nil (aw_stop ⟨r,⟨rfl,rfl⟩,rfl⟩))
 ·rintro _ _ ⟨_,rfl⟩;exact hFP
 ·rintro _ _ ⟨rfl,rfl⟩;exact k
end
end Go.AI
namespace Go.Proofs.YtpcpaekpnfkhhaaGreatDoor
open Go.AI Go.PN
theorem strs_app3 (a b c:List BS) (j:Nat) (hj:j<a.length+b.length+c.length):appF (appF (strsF a) (a.length*1) (strsF b)) ((a.length+b.length)*1) (strsF c) j=strsF (a++b++c) j:=by
 have h2:=strs_app (a++b) c j (by rw [List.length_append];omega)
 rw [List.length_append] at h2
 rw [←h2]
 by_cases h:j<(a.length+b.length)*1
 ·have h1:=strs_app a b j h
  show(if j<(a.length+b.length)*1 then appF (strsF a) (a.length*1) (strsF b) j else _)=(if j<(a.length+b.length)*1 then strsF (a++b) j else _)
  rw [if_pos h,if_pos h]
  exact h1
 ·unfold appF
  rw [if_neg h,if_neg h]
theorem le_own {g n:Nat} {ty:TypeId} {l:List BS} {f:Nat→CV} {h:Heap} (hg:h.get g=some (.cells ty n f)) (hn:n=l.length) (hf:∀j,j<n→f j=strsF l j):LeC h (.osl g 1 0 n) (strs false l):=by
 subst hn
 exact .osl hg om (fun j hj=>by rw [Nat.zero_add,hf j om];exact .refl _)
attribute [local irreducible] aw Fa Fh DrK
set_option pp.maxSteps 40000 in
set_option pp.deepTerms true in
theorem ptext_fa (m:MdD) (ho:MdO m) (hP:mcC m=0→MdP m):Fa Tryz.prog 36 [.agg (mdc true m)] (.tup [.c (.str (sB (if mcC m≠0 then([],mcC m) else textR m).1)),.c (errA (if mcC m≠0 then([],mcC m) else textR m).2)]):=by
 have f1:=check_fa m ho
 by_cases hc:mcC m=0
 ·rw [if_neg (fun h=>h hc)]
  rw [hc] at f1
  have e0:errA 0=.nilI:=rfl
  rw [e0] at f1
  have p:=hP hc
  have hGood:=mcC_good hc
  have hlong:=lo_end ho hGood
  have h0l:(lineW [kModel,m.name]).length≤10000000000:=by have a:=evTo_le m 0;have b:=p.len;unfold evTo at a;simp only [List.length_append] at a;omega
  have nR:m.groups.length≤1099511627776:=Nat.le_trans ho.gr.1 (by decide)
  have nS:m.phases.length≤1099511627776:=Nat.le_trans ho.ph.1 (by decide)
  have nP:m.pages.length≤1099511627776:=Nat.le_trans ho.pg.1 (by decide)
  have nG:m.gates.length≤1099511627776:=Nat.le_trans ho.gt.1 (by decide)
  have nH:m.houses.length≤1099511627776:=Nat.le_trans ho.hs.1 (by decide)
  have nE:m.events.length≤1099511627776:=Nat.le_trans ho.ev.1 (by decide)
  refine fa_of_body Tryz.func36 rfl rfl (by simp [Tryz.ntmps36]) fun C hC=> ?_
  simp only [initS,Nat.reduceAdd]
  refine xG ?_
  refine xB fun g1 hn_g1=>?_
  refine yG hn_g1 ?_
  refine yC hn_g1 (f1) ?_
  refine yG hn_g1 ?_
  refine yN hn_g1 ?_
  repeat first|apply wa1|apply wa3|apply wa4|apply wa6
  refine aw_pok (POk.buildZ (vs:=[.pointer none,.slice none 0 0,.bool false]) (by kernel_rfl) (by kernel_rfl)) rfl rfl ?_
  refine yS hn_g1 ?_
  refine aw_conv (t:=31) (v:=.agg [.raw (.pointer none),.raw (.slice none 0 0),.bool false]) (fun S w u h=>by obtain⟨us,e,hL⟩:=h;exact⟨us,e,by match us,hL with|[_,_,_],h=>exact h⟩) rfl ?_
  refine yS hn_g1 ?_
  refine yB hn_g1 fun g5 hn_g5=>?_
  refine(?_:aw _ _ _ [bldG 146 [.bool false] g5 (.raw (.pointer none)) (gsR none 0),(g1,.cells 29 8 (ofL (mdc true m)))])
  have J1:=oj hn_g1 hn_g5
  refine yG J1 ?_
  refine aw_buildSlice (xs:=[.const (.string (sB kModel)),.tmp 35]) (cells:=[.str (sB kModel),.str (sB m.name)]) rfl rfl rfl (zE J1) (by refine yS J1 ?_;rfl) rfl om om (by intro z hz;simp only [List.mem_cons,List.not_mem_nil,or_false] at hz;rcases hz with rfl|rfl<;>exact⟨rfl,rfl,rfl⟩) rfl fun g36 hn_g36=> ?_
  refine yS J1 ?_
  refine aw_callq (line_fa false [kModel,m.name] (by rw [←lineW_len];omega)) rfl rfl rfl (by refine yS J1 ?_;exact .c (le_own (n:=2) (ty:=9) (f:=ofL [.str (sB kModel),.str (sB m.name)]) (by simp [Heap.get]) rfl (fun q hq=>by match q,hq with|0,_=>rw [strsF_0];rfl|1,_=>rw [strsF_0];rfl))) ?_
  refine aw_weak (Sl.le_refl _) (List.sublist_cons_self _ _) ?_
  refine yS J1 ?_
  refine aw_callh (hc:=bdH 146 [.bool false] g5 (.raw (.pointer none)) none []) (hr:=[(g1,.cells 29 8 (ofL (mdc true m)))]) (put_fh false g5 _ none [] (lineW [kModel,m.name]) ⟨.inl rfl,fun _=>rfl⟩ (by rw [List.length_nil];omega)) rfl rfl rfl (.refl _) (zL J1) ?_
  rintro _ _ ⟨og,hog,rfl,rfl⟩ _
  refine aw_perm (List.perm_append_comm (l₂:=[_])) ?_
  rw [show []++lineW [kModel,m.name]++[10]=evTo m 0 from by simp [evTo]] at hog⊢
  refine(?_:aw _ _ _ ((g1,.cells 29 8 (ofL (mdc true m)))::bdH 146 [.bool (evLoTo m 0)] g5 (.optr g5 0) og (evTo m 0)))
  refine ySG J1 ?_
  refine aw_lp (fun z:Nat×Option Nat=>[(1,.c (.optr g1 0)),(5,.c (.optr g5 0)),(40,.c (evs true m.events)),(41,.c (.int .i64 m.events.length)),(42,.c (.int .i64 z.1))]) (fun z=>(g1,.cells 29 8 (ofL (mdc true m)))::bdH 146 [.bool (evLoTo m z.1)] g5 (.optr g5 0) z.2 (evTo m z.1)) (fun z=>z.1≤m.events.length∧BdOk (.optr g5 0) g5 z.2 (evTo m z.1)) (fun z=>m.events.length-z.1) (0,og) (zB J1) zZ ⟨Nat.zero_le _,hog⟩ ?_
  rintro ⟨j,og1⟩ ⟨hj,hog1⟩
  dsimp only at hj hog1⊢
  by_cases hjn:j<m.events.length
  ·have d1:decide (j<m.events.length)=true:=decide_eq_true hjn
   have hx:m.events.getD j ev0∈m.events:=by rw [List.getD_eq_getElem?_getD,List.getElem?_eq_getElem hjn];exact List.getElem_mem _
   obtain⟨x1,x2,x3,x4,x5⟩:=p.ev _ hx
   generalize hv:m.events.getD j ev0=x at*
   refine zA (oj hn_g1 (oj hn_g5 (oj d1 hv))) ?_
   refine yA (oj hn_g1 (oj hn_g5 (oj d1 hv))) fun g7 hn_g7=>?_
   refine zA (oj hn_g1 (oj hn_g5 (oj d1 (oj hv hn_g7)))) ?_
   have hs:=evTo_succ m j hjn
   have hls:=evLoTo_succ m j hjn
   rw [hv] at hs hls
   have hb:=evTo_le m (j+1)
   have hb2:=p.len
   have hlen:(evTo m (j+1)).length=(evTo m j).length+(lineW (evW x)).length+1:=by rw [hs];simp;omega
   have hlw:(lineW (evW x)).length=(evW x).length+sumW (evW x) (evW x).length:=lineW_len _ _
   have he:=pevent_fh (evLoTo m j) g5 (.optr g5 0) (gsR og1 (evTo m j).length) x x1 x2 x3 x4 x5 om
   refine aw_callh (hc:=[bldG 146 [.bool (evLoTo m j)] g5 (.optr g5 0) (gsR og1 (evTo m j).length)]) (hr:=(g7,.cells 54 11 (ofL (evc x)))::(g1,.cells 29 8 (ofL (mdc true m)))::gh og1 5 (evTo m j).length (byF (evTo m j))) he rfl rfl rfl (List.perm_middle (l₁:=[_,_])) (zL (oj hn_g1 (oj hn_g5 (oj d1 (oj hv hn_g7))))) ?_
   rintro _ _ ⟨rfl,rfl⟩ _
   have J2:=oj hn_g1 (oj hn_g5 (oj d1 (oj hv hn_g7)))
   refine yS J2 ?_
   refine aw_callh (hc:=bdH 146 [.bool (evLo (evLoTo m j) x 4)] g5 (.optr g5 0) og1 (evTo m j)) (hr:=[(g7,.cells 54 11 (ofL (evc x))),(g1,.cells 29 8 (ofL (mdc true m)))]) (put_fh _ g5 _ og1 (evTo m j) (lineW (evW x)) hog1 om) rfl rfl rfl (List.Perm.cons _ (List.perm_append_comm (l₁:=[_,_]))) (zL J2) ?_
   rintro _ _ ⟨og2,hog2,rfl,rfl⟩ _
   rw [←hs] at hog2⊢
   rw [←hls]
   refine aw_perm (List.perm_append_comm (l₂:=[_,_])) ?_
   refine aw_weak (Sl.le_refl _) (List.sublist_cons_self _ _) ?_
   refine ySG J2 ?_
   exact aw_stop ⟨(j+1,og2),by dsimp only;omega,(zB J2),zZ,by dsimp only;omega,hog2⟩
  have d1:decide (j<m.events.length)=false:=decide_eq_false hjn
  obtain rfl:j=m.events.length:=by omega
  rw [show evTo m m.events.length=hsTo m 0 from by simp [hsTo]] at hog1⊢
  generalize evLoTo m m.events.length=lo1 at*
  refine zA (oj hn_g1 (oj hn_g5 d1)) ?_
  refine aw_lp (fun z:Nat×Option Nat=>[(1,.c (.optr g1 0)),(5,.c (.optr g5 0)),(53,.c (hss true m.houses)),(54,.c (.int .i64 m.houses.length)),(55,.c (.int .i64 z.1))]) (fun z=>(g1,.cells 29 8 (ofL (mdc true m)))::bdH 146 [.bool lo1] g5 (.optr g5 0) z.2 (hsTo m z.1)) (fun z=>z.1≤m.houses.length∧BdOk (.optr g5 0) g5 z.2 (hsTo m z.1)) (fun z=>m.houses.length-z.1) (0,og1) (zB (oj hn_g1 (oj hn_g5 d1))) zZ ⟨Nat.zero_le _,hog1⟩ ?_
  rintro ⟨j,og⟩ ⟨hj,hog⟩
  dsimp only at hj hog⊢
  by_cases hjn:j<m.houses.length
  ·have d1:decide (j<m.houses.length)=true:=decide_eq_true hjn
   have hs:=hsTo_succ m j hjn
   have hbb:=hsTo_le m (j+1)
   have hb2:=p.len
   generalize hv:m.houses.getD j hs0=x at*
   obtain⟨w,hw⟩:∃w,w=if x.on then kOn else kOff:=⟨_,rfl⟩
   have hs2:hsTo m (j+1)=hsTo m j++lineW [kHouse,x.name,w]++[10]:=by rw [hs,hw,List.append_assoc];rfl
   have hlen:(hsTo m (j+1)).length=(hsTo m j).length+(lineW [kHouse,x.name,w]).length+1:=by rw [hs2];simp only [List.length_append,List.length_cons,List.length_nil]
   refine zA (oj hn_g1 (oj hn_g5 (oj d1 (oj d1 hv)))) ?_
   refine yA (oj hn_g1 (oj hn_g5 (oj d1 (oj d1 hv)))) fun g9 hn_g9=>?_
   all_goals try(have Z:=(oj hn_g1 (oj hn_g5 (oj d1 (oj d1 (oj hv hn_g9)))));(repeat' first|refine zV Z ?_|refine zH Z (fun hb=>?_) fun hb=>?_|fail);all_goals clear Z)
   ·have hwo:w=kOn:=by rw [hw,hb];rfl
    subst hwo
    refine aw_buildSlice (xs:=[.const (.string (sB kHouse)),.tmp 63,.tmp 64]) (cells:=[.str (sB kHouse),.str (sB x.name),.str (sB kOn)]) rfl rfl rfl (zE (oj hn_g1 (oj hn_g5 (oj d1 (oj d1 (oj hv hn_g9)))))) (by refine yS (oj hn_g1 (oj hn_g5 (oj d1 (oj d1 (oj hv hn_g9))))) ?_;rfl) rfl om om (by intro z hz;simp only [List.mem_cons,List.not_mem_nil,or_false] at hz;rcases hz with rfl|rfl|rfl<;>exact⟨rfl,rfl,rfl⟩) rfl fun g65 hn_g65=> ?_
    have J3:=oj hn_g1 (oj hn_g5 (oj d1 (oj d1 (oj hv hn_g9))))
    refine yS J3 ?_
    refine aw_callq (line_fa false [kHouse,x.name,kOn] (by rw [←lineW_len];omega)) rfl rfl rfl (by refine yS J3 ?_;exact .c (le_own (n:=3) (ty:=9) (f:=ofL [.str (sB kHouse),.str (sB x.name),.str (sB kOn)]) (by simp [Heap.get]) rfl (fun q hq=>by match q,hq with|0,_=>rw [strsF_0];rfl|1,_=>rw [strsF_0];rfl|2,_=>rw [strsF_0];rfl))) ?_
    refine aw_weak (Sl.le_refl _) (.cons _ (List.sublist_cons_self _ _)) ?_
    refine yS J3 ?_
    refine aw_callh (hc:=bdH 146 [.bool lo1] g5 (.optr g5 0) og (hsTo m j)) (hr:=[(g1,.cells 29 8 (ofL (mdc true m)))]) (put_fh lo1 g5 _ og (hsTo m j) (lineW [kHouse,x.name,kOn]) hog om) rfl rfl rfl (List.perm_append_comm (l₁:=[_])) (zL J3) ?_
    rintro _ _ ⟨og2,hog2,rfl,rfl⟩ _
    rw [←hs2] at hog2⊢
    refine aw_perm (List.perm_append_comm (l₂:=[_])) ?_
    refine ySG J3 ?_
    exact aw_stop ⟨(j+1,og2),by dsimp only;omega,(zB J3),zZ,by dsimp only;omega,hog2⟩
   ·have hwo:w=kOff:=by rw [hw,hb];rfl
    subst hwo
    refine aw_buildSlice (xs:=[.const (.string (sB kHouse)),.tmp 63,.tmp 64]) (cells:=[.str (sB kHouse),.str (sB x.name),.str (sB kOff)]) rfl rfl rfl (zE (oj hn_g1 (oj hn_g5 (oj d1 (oj d1 (oj hv hn_g9)))))) (by refine yS (oj hn_g1 (oj hn_g5 (oj d1 (oj d1 (oj hv hn_g9))))) ?_;rfl) rfl om om (by intro z hz;simp only [List.mem_cons,List.not_mem_nil,or_false] at hz;rcases hz with rfl|rfl|rfl<;>exact⟨rfl,rfl,rfl⟩) rfl fun g65 hn_g65=> ?_
    have J4:=oj hn_g1 (oj hn_g5 (oj d1 (oj d1 (oj hv hn_g9))))
    refine yS J4 ?_
    refine aw_callq (line_fa false [kHouse,x.name,kOff] (by rw [←lineW_len];omega)) rfl rfl rfl (by refine yS J4 ?_;exact .c (le_own (n:=3) (ty:=9) (f:=ofL [.str (sB kHouse),.str (sB x.name),.str (sB kOff)]) (by simp [Heap.get]) rfl (fun q hq=>by match q,hq with|0,_=>rw [strsF_0];rfl|1,_=>rw [strsF_0];rfl|2,_=>rw [strsF_0];rfl))) ?_
    refine aw_weak (Sl.le_refl _) (.cons _ (List.sublist_cons_self _ _)) ?_
    refine yS J4 ?_
    refine aw_callh (hc:=bdH 146 [.bool lo1] g5 (.optr g5 0) og (hsTo m j)) (hr:=[(g1,.cells 29 8 (ofL (mdc true m)))]) (put_fh lo1 g5 _ og (hsTo m j) (lineW [kHouse,x.name,kOff]) hog om) rfl rfl rfl (List.perm_append_comm (l₁:=[_])) (zL J4) ?_
    rintro _ _ ⟨og2,hog2,rfl,rfl⟩ _
    rw [←hs2] at hog2⊢
    refine aw_perm (List.perm_append_comm (l₂:=[_])) ?_
    refine ySG J4 ?_
    exact aw_stop ⟨(j+1,og2),by dsimp only;omega,(zB J4),zZ,by dsimp only;omega,hog2⟩
  have d1:decide (j<m.houses.length)=false:=decide_eq_false hjn
  obtain rfl:j=m.houses.length:=by omega
  rw [show hsTo m m.houses.length=gtTo m 0 from by simp [gtTo]] at hog⊢
  rw [show lo1=gtLoTo lo1 m.gates 0 from by simp [gtLoTo]]
  refine zA (oj hn_g1 (oj hn_g5 (oj d1 d1))) ?_
  refine aw_lp (fun z:Nat×Option Nat=>[(1,.c (.optr g1 0)),(5,.c (.optr g5 0)),(70,.c (gts true m.gates)),(71,.c (.int .i64 m.gates.length)),(72,.c (.int .i64 z.1))]) (fun z=>(g1,.cells 29 8 (ofL (mdc true m)))::bdH 146 [.bool (gtLoTo lo1 m.gates z.1)] g5 (.optr g5 0) z.2 (gtTo m z.1)) (fun z=>z.1≤m.gates.length∧BdOk (.optr g5 0) g5 z.2 (gtTo m z.1)) (fun z=>m.gates.length-z.1) (0,og) (zB (oj hn_g1 (oj hn_g5 (oj d1 d1)))) zZ ⟨Nat.zero_le _,hog⟩ ?_
  rintro ⟨j,og⟩ ⟨hj,hog⟩
  dsimp only at hj hog⊢
  by_cases hjn:j<m.gates.length
  ·have d1:decide (j<m.gates.length)=true:=decide_eq_true hjn
   have hx:m.gates.getD j gt0∈m.gates:=by rw [List.getD_eq_getElem?_getD,List.getElem?_eq_getElem hjn];exact List.getElem_mem _
   obtain⟨x1,x2,x3,x4⟩:=p.gt _ hx
   have hs:=gtTo_succ m j hjn
   have hls:=gtLoTo_succ lo1 m.gates j hjn
   have hbb:=gtTo_le m (j+1)
   have hb2:=p.len
   generalize hv:m.gates.getD j gt0=x at*
   have hlen:(gtTo m (j+1)).length=(gtTo m j).length+(gateX x).length+1:=by rw [hs];simp only [List.length_append,List.length_cons,List.length_nil]
   have hlw:(gateX x).length=(gateW x).length+sumW (gateW x) (gateW x).length:=lineW_len _ _
   have he:=pgate_fh (gtLoTo lo1 m.gates j) g5 (.optr g5 0) (gsR og (gtTo m j).length) x x1 x2 x3 x4 om
   refine zA (oj hn_g1 (oj hn_g5 (oj d1 (oj d1 (oj d1 hv))))) ?_
   refine yA (oj hn_g1 (oj hn_g5 (oj d1 (oj d1 (oj d1 hv))))) fun g12 hn_g12=>?_
   refine zA (oj hn_g1 (oj hn_g5 (oj d1 (oj d1 (oj d1 (oj hv hn_g12)))))) ?_
   refine aw_callh (hc:=[bldG 146 [.bool (gtLoTo lo1 m.gates j)] g5 (.optr g5 0) (gsR og (gtTo m j).length)]) (hr:=(g12,.cells 140 7 (ofL (gtc x)))::(g1,.cells 29 8 (ofL (mdc true m)))::gh og 5 (gtTo m j).length (byF (gtTo m j))) he rfl rfl rfl (List.perm_middle (l₁:=[_,_])) (zL (oj hn_g1 (oj hn_g5 (oj d1 (oj d1 (oj d1 (oj hv hn_g12))))))) ?_
   rintro _ _ ⟨rfl,rfl⟩ _
   rw [←hls]
   have J5:=oj hn_g1 (oj hn_g5 (oj d1 (oj d1 (oj d1 (oj hv hn_g12)))))
   refine yS J5 ?_
   refine aw_callh (hc:=bdH 146 [.bool (gtLoTo lo1 m.gates (j+1))] g5 (.optr g5 0) og (gtTo m j)) (hr:=[(g12,.cells 140 7 (ofL (gtc x))),(g1,.cells 29 8 (ofL (mdc true m)))]) (put_fh _ g5 _ og (gtTo m j) (gateX x) hog om) rfl rfl rfl (List.Perm.cons _ (List.perm_append_comm (l₁:=[_,_]))) (zL J5) ?_
   rintro _ _ ⟨og2,hog2,rfl,rfl⟩ _
   rw [←hs] at hog2⊢
   refine aw_perm (List.perm_append_comm (l₂:=[_,_])) ?_
   refine aw_weak (Sl.le_refl _) (List.sublist_cons_self _ _) ?_
   refine ySG J5 ?_
   exact aw_stop ⟨(j+1,og2),by dsimp only;omega,(zB J5),zZ,by dsimp only;omega,hog2⟩
  have d1:decide (j<m.gates.length)=false:=decide_eq_false hjn
  obtain rfl:j=m.gates.length:=by omega
  rw [show gtTo m m.gates.length=pgTo m 0 from by simp [pgTo]] at hog⊢
  generalize gtLoTo lo1 m.gates m.gates.length=lo2 at*
  rw [show lo2=pgLoTo lo2 m.pages 0 from by simp [pgLoTo]]
  refine zA (oj hn_g1 (oj hn_g5 (oj d1 (oj d1 d1)))) ?_
  refine aw_lp (fun z:Nat×Option Nat=>[(1,.c (.optr g1 0)),(5,.c (.optr g5 0)),(83,.c (pgs true m.pages)),(84,.c (.int .i64 m.pages.length)),(85,.c (.int .i64 z.1))]) (fun z=>(g1,.cells 29 8 (ofL (mdc true m)))::bdH 146 [.bool (pgLoTo lo2 m.pages z.1)] g5 (.optr g5 0) z.2 (pgTo m z.1)) (fun z=>z.1≤m.pages.length∧BdOk (.optr g5 0) g5 z.2 (pgTo m z.1)) (fun z=>m.pages.length-z.1) (0,og) (zB (oj hn_g1 (oj hn_g5 (oj d1 (oj d1 d1))))) zZ ⟨Nat.zero_le _,hog⟩ ?_
  rintro ⟨j,og⟩ ⟨hj,hog⟩
  dsimp only at hj hog⊢
  by_cases hjn:j<m.pages.length
  ·have d1:decide (j<m.pages.length)=true:=decide_eq_true hjn
   have hx:m.pages.getD j pg0∈m.pages:=by rw [List.getD_eq_getElem?_getD,List.getElem?_eq_getElem hjn];exact List.getElem_mem _
   have hpg:=p.pg _ hx
   have nXG:(m.pages.getD j pg0).gates.length≤1099511627776:=Nat.le_trans (ho.pg.2 _ hx).2.2.1 (by decide)
   have hs:=pgTo_succ m j hjn
   have hls:=pgLoTo_succ lo2 m.pages j hjn
   have hbb:=pgTo_le m (j+1)
   have hb2:=p.len
   generalize hv:m.pages.getD j pg0=x at*
   have hxl:(pgX x).length≤10000000000:=by rw [hs,List.length_append] at hbb;omega
   have hnl:x.name.length+x.top.length≤10000000000:=by unfold pgX headX at hxl;simp only [List.length_append,List.length_cons] at hxl;omega
   refine zA (oj hn_g1 (oj hn_g5 (oj d1 (oj d1 (oj d1 (oj d1 hv)))))) ?_
   refine yA (oj hn_g1 (oj hn_g5 (oj d1 (oj d1 (oj d1 (oj d1 hv)))))) fun g14 hn_g14=>?_
   refine zA (oj hn_g1 (oj hn_g5 (oj d1 (oj d1 (oj d1 (oj d1 (oj hv hn_g14))))))) ?_
   refine aw_pok (POk.addStr (a:=sB ([112,97,103,101,32]++(x.name++[32,116,111,112,32]))) (b:=sB x.top) (by show List.length _+List.length _≤_;simp only [List.length_append,List.length_cons,List.length_nil];omega) (zE (oj hn_g1 (oj hn_g5 (oj d1 (oj d1 (oj d1 (oj d1 (oj hv hn_g14)))))))) (zE (oj hn_g1 (oj hn_g5 (oj d1 (oj d1 (oj d1 (oj d1 (oj hv hn_g14))))))))) rfl rfl ?_
   rw [sb_app]
   have J6:=oj hn_g1 (oj hn_g5 (oj d1 (oj d1 (oj d1 (oj d1 (oj hv hn_g14))))))
   refine ySG J6 ?_
   refine aw_pok (POk.addStr (a:=sB (([112,97,103,101,32]++(x.name++[32,116,111,112,32]))++x.top)) (b:=sB [32,123]) (by show List.length _+List.length _≤_;simp only [List.length_append,List.length_cons,List.length_nil];omega) (zE J6) (zE J6)) rfl rfl ?_
   rw [sb_app]
   refine yS J6 ?_
   refine aw_conv (t:=97) (v:=.c (.str (sB (hdrT kPage x.name x.top)))) (fun S w u h=>(show u=.string _ from h).trans (by simp [hdrT])) rfl ?_
   refine yS J6 ?_
   have hin0:pgIn (pgTo m j) x 0=pgTo m j++hdrT kPage x.name x.top++[10]:=by unfold pgIn;rw [←hdrT_x];simp
   have hinl:∀k,(pgIn (pgTo m j) x k).length≤10000000000:=fun k=>by have a:=pgIn_le (pgTo m j) x k;rw [←hs] at a;omega
   have hin1:(pgTo m j).length+(hdrT kPage x.name x.top).length+1≤10000000000:=by have a:=hinl 0;rw [hin0] at a;simp only [List.length_append,List.length_cons,List.length_nil] at a;omega
   refine aw_callh (hc:=bdH 146 [.bool (pgLoTo lo2 m.pages j)] g5 (.optr g5 0) og (pgTo m j)) (hr:=[(g14,.cells 91 3 (ofL (pgc x))),(g1,.cells 29 8 (ofL (mdc true m)))]) (put_fh _ g5 _ og (pgTo m j) (hdrT kPage x.name x.top) hog om) rfl rfl rfl (List.perm_append_comm (l₁:=[_,_])) (zL J6) ?_
   rintro _ _ ⟨og2,hog2,rfl,rfl⟩ _
   rw [←hin0] at hog2⊢
   refine aw_perm (List.perm_append_comm (l₂:=[_,_])) ?_
   generalize hlo:pgLoTo lo2 m.pages j=lo3 at*
   have e3:gtLoTo lo3 x.gates 0=lo3:=by simp [gtLoTo]
   refine(?_:aw _ _ _ ((g14,.cells 91 3 (ofL (pgc x)))::(g1,.cells 29 8 (ofL (mdc true m)))::bdH 146 [.bool lo3] g5 (.optr g5 0) og2 (pgIn (pgTo m j) x 0)))
   refine ySG J6 ?_
   refine aw_lp (fun z:Nat×Option Nat=>[(1,.c (.optr g1 0)),(5,.c (.optr g5 0)),(83,.c (pgs true m.pages)),(84,.c (.int .i64 m.pages.length)),(85,.c (.int .i64 j)),(100,.c (gts true x.gates)),(101,.c (.int .i64 x.gates.length)),(102,.c (.int .i64 z.1))]) (fun z=>(g1,.cells 29 8 (ofL (mdc true m)))::bdH 146 [.bool (gtLoTo lo3 x.gates z.1)] g5 (.optr g5 0) z.2 (pgIn (pgTo m j) x z.1)) (fun z=>z.1≤x.gates.length∧BdOk (.optr g5 0) g5 z.2 (pgIn (pgTo m j) x z.1)) (fun z=>x.gates.length-z.1) (0,og2) (zB J6) (by dsimp only;rw [e3];exact List.sublist_cons_self _ _) ⟨Nat.zero_le _,hog2⟩ ?_
   rintro ⟨k,og3⟩ ⟨hk,hog3⟩
   dsimp only at hk hog3⊢
   by_cases hkn:k<x.gates.length
   ·have d2:decide (k<x.gates.length)=true:=decide_eq_true hkn
    have hy:x.gates.getD k gt0∈x.gates:=by rw [List.getD_eq_getElem?_getD,List.getElem?_eq_getElem hkn];exact List.getElem_mem _
    obtain⟨x1,x2,x3,x4⟩:=hpg _ hy
    have hs3:=pgIn_succ (pgTo m j) x k hkn
    have hls3:=gtLoTo_succ lo3 x.gates k hkn
    have hb3:=hinl (k+1)
    generalize hv3:x.gates.getD k gt0=v at*
    have hlen:(pgIn (pgTo m j) x (k+1)).length=(pgIn (pgTo m j) x k).length+([32,32]++gateX v).length+1:=by rw [hs3];simp only [List.length_append,List.length_cons,List.length_nil]
    have hg2:([32,32]++gateX v).length=(gateX v).length+2:=by simp
    have hlw:(gateX v).length=(gateW v).length+sumW (gateW v) (gateW v).length:=lineW_len _ _
    have he:=pgate_fh (gtLoTo lo3 x.gates k) g5 (.optr g5 0) (gsR og3 (pgIn (pgTo m j) x k).length) v x1 x2 x3 x4 om
    refine zA (oj hn_g1 (oj hn_g5 (oj d1 (oj d1 (oj d1 (oj d1 (oj hv (oj hn_g14 (oj d2 hv3))))))))) ?_
    refine yA (oj hn_g1 (oj hn_g5 (oj d1 (oj d1 (oj d1 (oj d1 (oj hv (oj hn_g14 (oj d2 hv3))))))))) fun g16 hn_g16=>?_
    refine zA (oj hn_g1 (oj hn_g5 (oj d1 (oj d1 (oj d1 (oj d1 (oj hv (oj hn_g14 (oj d2 (oj hv3 hn_g16)))))))))) ?_
    refine aw_callh (hc:=[bldG 146 [.bool (gtLoTo lo3 x.gates k)] g5 (.optr g5 0) (gsR og3 (pgIn (pgTo m j) x k).length)]) (hr:=(g16,.cells 140 7 (ofL (gtc v)))::(g1,.cells 29 8 (ofL (mdc true m)))::gh og3 5 (pgIn (pgTo m j) x k).length (byF (pgIn (pgTo m j) x k))) he rfl rfl rfl (List.perm_middle (l₁:=[_,_])) (zL (oj hn_g1 (oj hn_g5 (oj d1 (oj d1 (oj d1 (oj d1 (oj hv (oj hn_g14 (oj d2 (oj hv3 hn_g16))))))))))) ?_
    rintro _ _ ⟨rfl,rfl⟩ _
    rw [←hls3]
    have J7:=oj hn_g1 (oj hn_g5 (oj d1 (oj d1 (oj d1 (oj d1 (oj hv (oj hn_g14 (oj d2 (oj hv3 hn_g16)))))))))
    refine ySG J7 ?_
    refine aw_callh (hc:=bdH 146 [.bool (gtLoTo lo3 x.gates (k+1))] g5 (.optr g5 0) og3 (pgIn (pgTo m j) x k)) (hr:=[(g16,.cells 140 7 (ofL (gtc v))),(g1,.cells 29 8 (ofL (mdc true m)))]) (put_fh _ g5 _ og3 (pgIn (pgTo m j) x k) ([32,32]++gateX v) hog3 om) rfl rfl rfl (List.Perm.cons _ (List.perm_append_comm (l₁:=[_,_]))) (zL J7) ?_
    rintro _ _ ⟨og4,hog4,rfl,rfl⟩ _
    rw [←hs3] at hog4⊢
    refine aw_perm (List.perm_append_comm (l₂:=[_,_])) ?_
    refine aw_weak (Sl.le_refl _) (List.sublist_cons_self _ _) ?_
    refine ySG J7 ?_
    exact aw_stop ⟨(k+1,og4),by dsimp only;omega,(zB J7),zZ,by dsimp only;omega,hog4⟩
   ·have d2:decide (k<x.gates.length)=false:=decide_eq_false hkn
    obtain rfl:k=x.gates.length:=by omega
    have hend:=pgIn_end (pgTo m j) x
    rw [←hs] at hend
    have hbf:(pgTo m (j+1)).length≤10000000000:=by omega
    have hbe:(pgIn (pgTo m j) x x.gates.length).length+[(125:UInt8)].length+1≤10000000000:=by rw [←hend] at hbf;simp only [List.length_append,List.length_cons,List.length_nil] at hbf⊢;omega
    refine zA (oj hn_g1 (oj hn_g5 (oj d1 (oj d1 (oj d1 (oj d1 (oj hv (oj hn_g14 d2)))))))) ?_
    refine aw_callh (hc:=bdH 146 [.bool (gtLoTo lo3 x.gates x.gates.length)] g5 (.optr g5 0) og3 (pgIn (pgTo m j) x x.gates.length)) (hr:=[(g1,.cells 29 8 (ofL (mdc true m)))]) (put_fh _ g5 _ og3 (pgIn (pgTo m j) x x.gates.length) [125] hog3 om) rfl rfl rfl (List.perm_append_comm (l₁:=[_])) (zL (oj hn_g1 (oj hn_g5 (oj d1 (oj d1 (oj d1 (oj d1 (oj hv (oj hn_g14 d2))))))))) ?_
    rintro _ _ ⟨og4,hog4,rfl,rfl⟩ _
    rw [hend] at hog4⊢
    rw [←hls]
    refine aw_perm (List.perm_append_comm (l₂:=[_])) ?_
    have J8:=oj hn_g1 (oj hn_g5 (oj d1 (oj d1 (oj d1 (oj d1 (oj hv (oj hn_g14 d2)))))))
    refine ySG J8 ?_
    exact aw_stop ⟨(j+1,og4),by dsimp only;omega,(zB J8),zZ,by dsimp only;omega,hog4⟩
  have d1:decide (j<m.pages.length)=false:=decide_eq_false hjn
  obtain rfl:j=m.pages.length:=by omega
  rw [show pgTo m m.pages.length=grTo m 0 from by simp [grTo]] at hog⊢
  generalize pgLoTo lo2 m.pages m.pages.length=lo4 at*
  rw [show lo4=grLoTo lo4 m.groups 0 from by simp [grLoTo]]
  refine zA (oj hn_g1 (oj hn_g5 (oj d1 (oj d1 (oj d1 d1))))) ?_
  refine aw_lp (fun z:Nat×Option Nat=>[(1,.c (.optr g1 0)),(5,.c (.optr g5 0)),(117,.c (grs true m.groups)),(118,.c (.int .i64 m.groups.length)),(119,.c (.int .i64 z.1))]) (fun z=>(g1,.cells 29 8 (ofL (mdc true m)))::bdH 146 [.bool (grLoTo lo4 m.groups z.1)] g5 (.optr g5 0) z.2 (grTo m z.1)) (fun z=>z.1≤m.groups.length∧BdOk (.optr g5 0) g5 z.2 (grTo m z.1)) (fun z=>m.groups.length-z.1) (0,og) (zB (oj hn_g1 (oj hn_g5 (oj d1 (oj d1 (oj d1 d1)))))) zZ ⟨Nat.zero_le _,hog⟩ ?_
  rintro ⟨j,og⟩ ⟨hj,hog⟩
  dsimp only at hj hog⊢
  by_cases hjn:j<m.groups.length
  ·have d1:decide (j<m.groups.length)=true:=decide_eq_true hjn
   have hx:m.groups.getD j gr0∈m.groups:=by rw [List.getD_eq_getElem?_getD,List.getElem?_eq_getElem hjn];exact List.getElem_mem _
   have hx0:=hx
   obtain⟨q,hq,hqk⟩:=p.gk _ hx
   have hfw:=p.gr _ hx
   have hxO:=ho.gr.2 _ hx
   have hs:=grTo_succ m j hjn
   have hls:=grLoTo_succ lo4 m.groups j hjn
   have hbb:=grTo_le m (j+1)
   have hb2:=p.len
   generalize hv:m.groups.getD j gr0=x at*
   generalize hlo:grLoTo lo4 m.groups j=lo5 at*
   have nF:x.factors.length≤1099511627776:=Nat.le_trans hxO.2.2.2.1 (by decide)
   have nF2:x.factors.length≤1048576:=hxO.2.2.2.1
   have nM:x.members.length≤1048576:=hxO.2.1
   refine zA (oj hn_g1 (oj hn_g5 (oj d1 (oj d1 (oj d1 (oj d1 (oj d1 (oj hv hqk)))))))) ?_
   refine yA (oj hn_g1 (oj hn_g5 (oj d1 (oj d1 (oj d1 (oj d1 (oj d1 (oj hv hqk)))))))) fun g18 hn_g18=>?_
   refine zA (oj hn_g1 (oj hn_g5 (oj d1 (oj d1 (oj d1 (oj d1 (oj d1 (oj hv (oj hqk hn_g18))))))))) ?_
   refine aw_cw [(g18,.cells 95 4 (ofL [.str (sB x.name),.int .i64 q,strs true x.members,rats true x.factors]))] [(0,0),(1,0),(3,0),(4,0),(2,1),(5,0),(6,1),(7,1),(8,0)] ty_mixed (by kernel_rfl) qa ?_
   have J9:=oj hn_g1 (oj hn_g5 (oj d1 (oj d1 (oj d1 (oj d1 (oj d1 (oj hv (oj hqk hn_g18))))))))
   refine yG J9 ?_
   refine cw_buildSlice (xs:=[.const (.string (sB kBeta)),.const (.string (sB kGreek))]) (cells:=[.str (sB kBeta),.str (sB kGreek)]) rfl rfl rfl rfl (zE J9) (by refine yS J9 ?_;rfl) rfl om om (by intro z hz;simp only [List.mem_cons,List.not_mem_nil,or_false] at hz;rcases hz with rfl|rfl<;>exact⟨rfl,rfl,rfl⟩) rfl (by intro z hz;simp only [List.mem_cons,List.not_mem_nil,or_false] at hz;rcases hz with rfl|rfl<;>simp [Op.operands]) qa (fun g125 hn_g125=> ?_) (.inr ⟨rfl,rfl⟩)
   refine ySG J9 ?_
   obtain⟨w,hw⟩:∃w:BS,w=if x.kind=1 then kGreek else kBeta:=⟨_,rfl⟩
   have hwq:ofL [CV.str (sB kBeta),.str (sB kGreek)] q=.str (sB w):=by
    rw [hw,hqk]
    match q,hq with
    |0,_=>rfl
    |1,_=>rfl
   refine cw_pokP (r:=.c (.str (sB w))) rfl (fun ρ hρ=> ?_) rfl rfl qa ?_ (.inr ⟨rfl,rfl⟩)
   ·have hl:=POk.loadO (P:=Tryz.prog) (h:=(g125,AObj.cells 9 (2*1) (ofL [CV.str (sB kBeta),.str (sB kGreek)]))::(g18,.cells 95 4 (ofL [.str (sB x.name),.int .i64 q,strs true x.members,rats true x.factors]))::(g1,.cells 29 8 (ofL (mdc true m)))::bdH 146 [.bool lo5] g5 (.optr g5 0) og (grTo m j)) (ρ:=ρ) (t:=9) (a:=.tmp 128) (n:=1) (m:=2) (ag:=false) (g:=g125) (off:=q) (ty:=9) (f:=ofL [CV.str (sB kBeta),.str (sB kGreek)]) (by kernel_rfl) (fun _=>rfl) ((hρ _ (by simp [Op.operands])).trans (zE (oj hn_g1 (oj hn_g5 (oj d1 (oj d1 (oj d1 (oj d1 (oj d1 (oj hv (oj hqk hn_g18))))))))))) (by simp [Heap.get]) om
    rw [if_neg (by simp),hwq] at hl
    exact hl
   have J10:=oj hn_g1 (oj hn_g5 (oj d1 (oj d1 (oj d1 (oj d1 (oj d1 (oj hv (oj hqk hn_g18))))))))
   refine ySG J10 ?_
   refine cw_buildSlice (xs:=[.const (.string (sB kGroup)),.tmp 124,.tmp 129]) (cells:=[.str (sB kGroup),.str (sB x.name),.str (sB w)]) rfl rfl rfl rfl (zE J10) (by refine yS J10 ?_;rfl) rfl om om (by intro z hz;simp only [List.mem_cons,List.not_mem_nil,or_false] at hz;rcases hz with rfl|rfl|rfl<;>exact⟨rfl,rfl,rfl⟩) rfl (by intro z hz;simp only [List.mem_cons,List.not_mem_nil,or_false] at hz;rcases hz with rfl|rfl|rfl<;>simp [Op.operands]) qa (fun g130 hn_g130=> ?_) (.inr ⟨rfl,rfl⟩)
   refine ySG J10 ?_
   refine aw_weak (h':=(g130,.cells 9 (3*1) (ofL [.str (sB kGroup),.str (sB x.name),.str (sB w)]))::(g18,.cells 95 4 (ofL [.str (sB x.name),.int .i64 q,strs true x.members,rats true x.factors]))::(g1,.cells 29 8 (ofL (mdc true m)))::bdH 146 [.bool lo5] g5 (.optr g5 0) og (grTo m j)) (Sl.le_refl _) (.cons_cons _ (.cons _ (List.Sublist.refl _))) ?_
   replace hn_g130:=Heap.ne_of hn_g130
   dsimp only [Heap.ne] at hn_g130
   have hW0:grWL x 0=[kGroup,x.name,w]:=by rw [hw];rfl
   refine aw_conv1 (f':=strsF (grWL x 0)) (fun i hi=>by rw [hW0];match i,hi with|0,_=>rw [strsF_0];rfl|1,_=>rw [strsF_0];rfl|2,_=>rw [strsF_0];rfl) ?_
   have hlw:(lineW (grW x)).length=(grW x).length+sumW (grW x) (grW x).length:=lineW_len _ _
   have hgl:(grTo m (j+1)).length=(grTo m j).length+(lineW (grW x)).length+1:=by rw [hs];simp only [List.length_append,List.length_cons,List.length_nil]
   refine zA (oj hn_g1 (oj hn_g5 (oj d1 (oj d1 (oj d1 (oj d1 (oj d1 (oj hv (oj hqk (oj hn_g18 hn_g130)))))))))) ?_
   refine aw_lp (fun z:Nat×Nat=>[(1,.c (.optr g1 0)),(5,.c (.optr g5 0)),(18,.c (.optr g18 0)),(19,.c (.osl z.2 1 0 (grWL x z.1).length)),(117,.c (grs true m.groups)),(118,.c (.int .i64 m.groups.length)),(119,.c (.int .i64 j)),(132,.c (rats true x.factors)),(133,.c (.int .i64 x.factors.length)),(134,.c (.int .i64 z.1))]) (fun z=>(z.2,.cells 9 (grWL x z.1).length (strsF (grWL x z.1)))::(g18,.cells 95 4 (ofL [.str (sB x.name),.int .i64 q,strs true x.members,rats true x.factors]))::(g1,.cells 29 8 (ofL (mdc true m)))::bdH 146 [.bool (grLo lo5 x z.1)] g5 (.optr g5 0) og (grTo m j)) (fun z=>z.1≤x.factors.length) (fun z=>x.factors.length-z.1) (0,g130) (zB (oj hn_g1 (oj hn_g5 (oj d1 (oj d1 (oj d1 (oj d1 (oj d1 (oj hv (oj hqk (oj hn_g18 hn_g130))))))))))) (by dsimp only;rw [show grLo lo5 x 0=lo5 from by simp [grLo],show(grWL x 0).length=3 from rfl];exact List.Sublist.refl _) (Nat.zero_le _) ?_
   rintro ⟨k,gW⟩ hk
   dsimp only at hk⊢
   have hWl:=grWL_len x k hk
   by_cases hkn:k<x.factors.length
   ·have d2:decide (k<x.factors.length)=true:=decide_eq_true hkn
    have hy:x.factors.getD k rd0∈x.factors:=by rw [List.getD_eq_getElem?_getD,List.getElem?_eq_getElem hkn];exact List.getElem_mem _
    have hwy:=hfw _ hy
    have hs3:=grWL_succ x k hkn
    have hls3:=grLo_succ lo5 x k hkn
    generalize hv3:x.factors.getD k rd0=r at*
    generalize hlo6:grLo lo5 x k=lo6 at*
    refine zA (oj hn_g1 (oj hn_g5 (oj d1 (oj d1 (oj d1 (oj d1 (oj d1 (oj hv (oj hqk (oj hn_g18 (oj hn_g130 (oj d2 hv3)))))))))))) ?_
    refine yA (oj hn_g1 (oj hn_g5 (oj d1 (oj d1 (oj d1 (oj d1 (oj d1 (oj hv (oj hqk (oj hn_g18 (oj hn_g130 (oj d2 hv3)))))))))))) fun g21 hn_g21=>?_
    refine zA (oj hn_g1 (oj hn_g5 (oj d1 (oj d1 (oj d1 (oj d1 (oj d1 (oj hv (oj hqk (oj hn_g18 (oj hn_g130 (oj d2 (oj hv3 hn_g21))))))))))))) ?_
    refine aw_callh (hc:=[bldG 146 [.bool lo6] g5 (.optr g5 0) (gsR og (grTo m j).length)]) (hr:=(g21,.cells 52 3 (ofL (rdc r)))::(gW,.cells 9 (grWL x k).length (strsF (grWL x k)))::(g18,.cells 95 4 (ofL [.str (sB x.name),.int .i64 q,strs true x.members,rats true x.factors]))::(g1,.cells 29 8 (ofL (mdc true m)))::gh og 5 (grTo m j).length (byF (grTo m j))) (pnumber_fh lo6 g5 (.optr g5 0) (gsR og (grTo m j).length) r hwy) rfl rfl rfl (List.perm_middle (l₁:=[_,_,_,_])) (zL (oj hn_g1 (oj hn_g5 (oj d1 (oj d1 (oj d1 (oj d1 (oj d1 (oj hv (oj hqk (oj hn_g18 (oj hn_g130 (oj d2 (oj hv3 hn_g21)))))))))))))) ?_
    rintro _ _ ⟨rfl,rfl⟩ _
    rw [←hls3]
    refine aw_perm (h':=(gW,.cells 9 (grWL x k).length (strsF (grWL x k)))::(g21,.cells 52 3 (ofL (rdc r)))::(g18,.cells 95 4 (ofL [.str (sB x.name),.int .i64 q,strs true x.members,rats true x.factors]))::(g1,.cells 29 8 (ofL (mdc true m)))::bdH 146 [.bool (grLo lo5 x (k+1))] g5 (.optr g5 0) og (grTo m j)) ((List.perm_middle (l₁:=[_,_,_,_])).symm.trans (List.Perm.swap _ _ _)) ?_
    have J11:=oj hn_g1 (oj hn_g5 (oj d1 (oj d1 (oj d1 (oj d1 (oj d1 (oj hv (oj hqk (oj hn_g18 (oj hn_g130 (oj d2 (oj hv3 hn_g21))))))))))))
    refine ySG J11 ?_
    refine aw_buildSlice (xs:=[.tmp 141]) (cells:=[.str (sB (rtxt r))]) rfl rfl rfl (zE J11) (by refine yS J11 ?_;rfl) rfl om om qd rfl fun g142 hn_g142=> ?_
    have hne:(g142=gW)=False:=eq_false fun e=>hn_g142 (by subst e;simp [Heap.keys])
    refine yS J11 ?_
    refine aw_append (size:=1) (g:=gW) (n:=(grWL x k).length) (m:=(grWL x k).length) (k:=1) (f:=strsF (grWL x k)) (f2:=strsF [rtxt r]) (cx:=.osl g142 1 0 1) (h2:=(g142,.cells 9 (1*1) (ofL [.str (sB (rtxt r))]))::(g21,.cells 52 3 (ofL (rdc r)))::(g18,.cells 95 4 (ofL [.str (sB x.name),.int .i64 q,strs true x.members,rats true x.factors]))::(g1,.cells 29 8 (ofL (mdc true m)))::bdH 146 [.bool (grLo lo5 x (k+1))] g5 (.optr g5 0) og (grTo m j)) rfl rfl rfl (by exact tya_e_92) (by exact tya_z_9) rfl om (zE J11) (by simp [Heap.get,hne]) om (zE J11)
     (.osl (m:=1) (ty:=9) (f':=ofL [.str (sB (rtxt r))]) (by simp [Heap.get]) om (fun i hi=>by match i,hi with|0,_=>rw [strsF_0];rfl)) (fun i _=>strsF_solid _ i) om qc om (by simp [Heap.del,hne]) fun g143 hn_g143=> ?_
    refine ySG J11 ?_
    refine aw_weak (h':=(g143,.cells 9 ((grWL x k).length+1) (appF (strsF (grWL x k)) (grWL x k).length (strsF [rtxt r])))::(g18,.cells 95 4 (ofL [.str (sB x.name),.int .i64 q,strs true x.members,rats true x.factors]))::(g1,.cells 29 8 (ofL (mdc true m)))::bdH 146 [.bool (grLo lo5 x (k+1))] g5 (.optr g5 0) og (grTo m j)) (Sl.le_refl _) (.cons_cons _ (.cons _ (.cons _ (List.Sublist.refl _)))) ?_
    refine aw_conv1 (f':=strsF (grWL x (k+1))) (fun i hi=>by rw [hs3];have:=strs_app (grWL x k) [rtxt r] i (by simpa using hi);simpa using this) ?_
    rw [show(grWL x k).length+1=(grWL x (k+1)).length from by rw [hs3];simp]
    exact aw_stop ⟨(k+1,g143),by dsimp only;omega,(zB J11),zZ,by dsimp only;omega⟩
   ·have d2:decide (k<x.factors.length)=false:=decide_eq_false hkn
    obtain rfl:k=x.factors.length:=by omega
    have hwe:=grWL_end x
    have hmem:0<x.members.length:=by
     have:=(hGood.gr x hx0).2.2.1.1
     omega
    refine zA (oj hn_g1 (oj hn_g5 (oj d1 (oj d1 (oj d1 (oj d1 (oj d1 (oj hv (oj hqk (oj hn_g18 (oj hn_g130 d2))))))))))) ?_
    refine aw_cw [(g18,.cells 95 4 (ofL [.str (sB x.name),.int .i64 q,strs true x.members,rats true x.factors]))] [(0,0),(1,0),(4,0),(5,0),(2,1),(3,1),(6,1),(7,1),(8,2)] ty_mixed (by kernel_rfl) qa ?_
    have J12:=oj hn_g1 (oj hn_g5 (oj d1 (oj d1 (oj d1 (oj d1 (oj d1 (oj hv (oj hqk (oj hn_g18 (oj hn_g130 d2))))))))))
    refine yG J12 ?_
    refine cw_buildSlice (xs:=[.const (.string (sB kColon))]) (cells:=[.str (sB kColon)]) rfl rfl rfl rfl (zE J12) (by refine yS J12 ?_;rfl) rfl om om (by intro z hz;simp only [List.mem_singleton] at hz;subst hz;exact⟨rfl,rfl,rfl⟩) rfl (by intro z hz;simp only [List.mem_singleton] at hz;subst hz;simp [Op.operands]) qa (fun g147 hn_g147=> ?_) (.inr ⟨rfl,rfl⟩)
    have hne:(g147=gW)=False:=eq_false fun e=>hn_g147 (by subst e;simp [Heap.keys])
    refine ySG J12 ?_
    refine cw_appendO (size:=1) (n:=(grWL x x.factors.length).length) (k:=1) (m:=(grWL x x.factors.length).length) (g:=gW) (f:=strsF (grWL x x.factors.length)) (f2:=strsF [kColon]) (cx:=.osl g147 1 0 1) (h2:=(g147,.cells 9 (1*1) (ofL [.str (sB kColon)]))::(g18,.cells 95 4 (ofL [.str (sB x.name),.int .i64 q,strs true x.members,rats true x.factors]))::(g1,.cells 29 8 (ofL (mdc true m)))::bdH 146 [.bool (grLo lo5 x x.factors.length)] g5 (.optr g5 0) og (grTo m j)) rfl rfl rfl rfl (by exact tya_e_92) (by exact tya_z_9) rfl om (zE J12) (by simp [Heap.get,hne]) om (zE J12)
     (.osl (m:=1) (ty:=9) (f':=ofL [.str (sB kColon)]) (by simp [Heap.get]) om (fun i hi=>by match i,hi with|0,_=>rw [strsF_0];rfl)) (fun i _=>strsF_solid _ i) om qc om (by simp [Heap.del,hne]) qa (fun g148 hn_g148=> ?_) (.inr ⟨rfl,rfl⟩)
    refine ySG J12 ?_
    refine cw_appendO (size:=1) (n:=(grWL x x.factors.length).length+1) (k:=x.members.length) (m:=((grWL x x.factors.length).length+1)*1) (g:=g148) (f:=appF (strsF (grWL x x.factors.length)) ((grWL x x.factors.length).length*1) (strsF [kColon])) (f2:=strsF x.members) (cx:=strs true x.members) (h2:=(g147,.cells 9 (1*1) (ofL [.str (sB kColon)]))::(g18,.cells 95 4 (ofL [.str (sB x.name),.int .i64 q,strs true x.members,rats true x.factors]))::(g1,.cells 29 8 (ofL (mdc true m)))::bdH 146 [.bool (grLo lo5 x x.factors.length)] g5 (.optr g5 0) og (grTo m j)) rfl rfl rfl rfl (by exact tya_e_92) (by exact tya_z_9) rfl om (zE J12) (by simp [Heap.get]) om (zE J12)
     .row (fun i _=>strsF_solid _ i) hmem qc om (by simp [Heap.del]) qa (fun g151 hn_g151=> ?_) (.inr ⟨rfl,rfl⟩)
    refine ySG J12 ?_
    have hWn:(grWL x x.factors.length).length+1+x.members.length=(grW x).length:=by rw [←hwe,List.length_append,List.length_append];rfl
    refine cw_callqP (args:=[.c (strs false (grW x))]) rfl (line_fa false (grW x) (by rw [←hlw];omega)) rfl rfl rfl (by refine yS J12 ?_;exact .c (by
     rw [hWn]
     refine le_own (n:=(grW x).length) (ty:=9) (f:=appF (appF (strsF (grWL x x.factors.length)) ((grWL x x.factors.length).length*1) (strsF [kColon])) (((grWL x x.factors.length).length+1)*1) (strsF x.members)) (by simp [Heap.get,hWn]) rfl (fun i hi=>by rw [←hwe];exact strs_app3 (grWL x x.factors.length) [kColon] x.members i (by rw [←hWn] at hi;exact hi)))) qa ?_ (.inr ⟨rfl,rfl⟩)
    refine ySG J12 ?_
    refine cw_callh (FP':=[]) (hc:=bdH 146 [.bool (grLo lo5 x x.factors.length)] g5 (.optr g5 0) og (grTo m j)) (hr:=[(g151,.cells 9 ((grWL x x.factors.length).length+1+x.members.length) (appF (appF (strsF (grWL x x.factors.length)) (grWL x x.factors.length).length (strsF [kColon])) ((grWL x x.factors.length).length+1) (strsF x.members))),(g147,.cells 9 (1*1) (ofL [.str (sB kColon)])),(g18,.cells 95 4 (ofL [.str (sB x.name),.int .i64 q,strs true x.members,rats true x.factors])),(g1,.cells 29 8 (ofL (mdc true m)))]) rfl (put_fh _ g5 _ og (grTo m j) (lineW (grW x)) hog om) rfl rfl rfl (List.perm_append_comm (l₁:=[_,_,_,_])) (zL J12) (fun _ _ _=>has0_nil) ?_
    rintro _ _ ⟨og2,hog2,rfl,rfl⟩ _
    rw [←hs] at hog2⊢
    refine ySG J12 ?_
    refine aw_weak (h':=bdH 146 [.bool (grLo lo5 x x.factors.length)] g5 (.optr g5 0) og2 (grTo m (j+1))++[(g1,.cells 29 8 (ofL (mdc true m)))]) (Sl.le_refl _) (List.Sublist.append_left (.cons _ (.cons _ (.cons _ (List.Sublist.refl _)))) _) ?_
    refine aw_perm (List.perm_append_comm (l₂:=[_])) ?_
    rw [←hls]
    exact aw_stop ⟨(j+1,og2),by dsimp only;omega,(zB J12),zZ,by dsimp only;omega,hog2⟩
  ·have d1:decide (j<m.groups.length)=false:=decide_eq_false hjn
   obtain rfl:j=m.groups.length:=by omega
   rw [show grTo m m.groups.length=phTo m 0 from by simp [phTo]] at hog⊢
   generalize grLoTo lo4 m.groups m.groups.length=lo7 at*
   rw [show lo7=phLoTo lo7 m.phases 0 from by simp [phLoTo]]
   refine zA (oj hn_g1 (oj hn_g5 (oj d1 (oj d1 (oj d1 (oj d1 d1)))))) ?_
   refine aw_lp (fun z:Nat×Option Nat=>[(1,.c (.optr g1 0)),(5,.c (.optr g5 0)),(156,.c (phs true m.phases)),(157,.c (.int .i64 m.phases.length)),(158,.c (.int .i64 z.1))]) (fun z=>(g1,.cells 29 8 (ofL (mdc true m)))::bdH 146 [.bool (phLoTo lo7 m.phases z.1)] g5 (.optr g5 0) z.2 (phTo m z.1)) (fun z=>z.1≤m.phases.length∧BdOk (.optr g5 0) g5 z.2 (phTo m z.1)) (fun z=>m.phases.length-z.1) (0,og) (zB (oj hn_g1 (oj hn_g5 (oj d1 (oj d1 (oj d1 (oj d1 d1))))))) zZ ⟨Nat.zero_le _,hog⟩ ?_
   rintro ⟨j,og⟩ ⟨hj,hog⟩
   dsimp only at hj hog⊢
   by_cases hjn:j<m.phases.length
   ·have d1:decide (j<m.phases.length)=true:=decide_eq_true hjn
    have hx:m.phases.getD j ph0∈m.phases:=by rw [List.getD_eq_getElem?_getD,List.getElem?_eq_getElem hjn];exact List.getElem_mem _
    have hvw:=p.ph _ hx
    have nV:(m.phases.getD j ph0).values.length≤1099511627776:=Nat.le_trans (ho.ph.2 _ hx).2.2.1 (by decide)
    have hs:=phTo_succ m j hjn
    have hls:=phLoTo_succ lo7 m.phases j hjn
    have hbb:=phTo_le m (j+1)
    have hb2:=p.len
    generalize hv:m.phases.getD j ph0=x at*
    have hxl:(phX x).length≤10000000000:=by rw [hs,List.length_append] at hbb;omega
    have hnl:x.name.length+x.top.length≤10000000000:=by unfold phX headX at hxl;simp only [List.length_append,List.length_cons] at hxl;omega
    refine zA (oj hn_g1 (oj hn_g5 (oj d1 (oj d1 (oj d1 (oj d1 (oj d1 (oj d1 hv)))))))) ?_
    refine yA (oj hn_g1 (oj hn_g5 (oj d1 (oj d1 (oj d1 (oj d1 (oj d1 (oj d1 hv)))))))) fun g23 hn_g23=>?_
    refine zA (oj hn_g1 (oj hn_g5 (oj d1 (oj d1 (oj d1 (oj d1 (oj d1 (oj d1 (oj hv hn_g23))))))))) ?_
    refine aw_pok (POk.addStr (a:=sB ([112,104,97,115,101,32]++(x.name++[32,116,111,112,32]))) (b:=sB x.top) (by show List.length _+List.length _≤_;simp only [List.length_append,List.length_cons,List.length_nil];omega) (zE (oj hn_g1 (oj hn_g5 (oj d1 (oj d1 (oj d1 (oj d1 (oj d1 (oj d1 (oj hv hn_g23)))))))))) (zE (oj hn_g1 (oj hn_g5 (oj d1 (oj d1 (oj d1 (oj d1 (oj d1 (oj d1 (oj hv hn_g23))))))))))) rfl rfl ?_
    rw [sb_app]
    have J13:=oj hn_g1 (oj hn_g5 (oj d1 (oj d1 (oj d1 (oj d1 (oj d1 (oj d1 (oj hv hn_g23))))))))
    refine ySG J13 ?_
    refine aw_pok (POk.addStr (a:=sB (([112,104,97,115,101,32]++(x.name++[32,116,111,112,32]))++x.top)) (b:=sB [32,123]) (by show List.length _+List.length _≤_;simp only [List.length_append,List.length_cons,List.length_nil];omega) (zE J13) (zE J13)) rfl rfl ?_
    rw [sb_app]
    refine yS J13 ?_
    refine aw_conv (t:=170) (v:=.c (.str (sB (hdrT kPhase x.name x.top)))) (fun S w u h=>(show u=.string _ from h).trans (by simp [hdrT])) rfl ?_
    refine yS J13 ?_
    have hin0:phIn (phTo m j) x 0=phTo m j++hdrT kPhase x.name x.top++[10]:=by unfold phIn;rw [←hdrT_x];simp
    have hinl:∀k,(phIn (phTo m j) x k).length≤10000000000:=fun k=>by have a:=phIn_le (phTo m j) x k;rw [←hs] at a;omega
    have hin1:(phTo m j).length+(hdrT kPhase x.name x.top).length+1≤10000000000:=by have a:=hinl 0;rw [hin0] at a;simp only [List.length_append,List.length_cons,List.length_nil] at a;omega
    refine aw_callh (hc:=bdH 146 [.bool (phLoTo lo7 m.phases j)] g5 (.optr g5 0) og (phTo m j)) (hr:=[(g23,.cells 98 3 (ofL (phc x))),(g1,.cells 29 8 (ofL (mdc true m)))]) (put_fh _ g5 _ og (phTo m j) (hdrT kPhase x.name x.top) hog om) rfl rfl rfl (List.perm_append_comm (l₁:=[_,_])) (zL J13) ?_
    rintro _ _ ⟨og2,hog2,rfl,rfl⟩ _
    rw [←hin0] at hog2⊢
    refine aw_perm (List.perm_append_comm (l₂:=[_,_])) ?_
    generalize hlo:phLoTo lo7 m.phases j=lo3 at*
    have e3:vlLo lo3 x.values 0=lo3:=by simp [vlLo]
    refine(?_:aw _ _ _ ((g23,.cells 98 3 (ofL (phc x)))::(g1,.cells 29 8 (ofL (mdc true m)))::bdH 146 [.bool lo3] g5 (.optr g5 0) og2 (phIn (phTo m j) x 0)))
    refine ySG J13 ?_
    refine aw_lp (fun z:Nat×Option Nat=>[(1,.c (.optr g1 0)),(5,.c (.optr g5 0)),(156,.c (phs true m.phases)),(157,.c (.int .i64 m.phases.length)),(158,.c (.int .i64 j)),(173,.c (vls true x.values)),(174,.c (.int .i64 x.values.length)),(175,.c (.int .i64 z.1))]) (fun z=>(g1,.cells 29 8 (ofL (mdc true m)))::bdH 146 [.bool (vlLo lo3 x.values z.1)] g5 (.optr g5 0) z.2 (phIn (phTo m j) x z.1)) (fun z=>z.1≤x.values.length∧BdOk (.optr g5 0) g5 z.2 (phIn (phTo m j) x z.1)) (fun z=>x.values.length-z.1) (0,og2) (zB J13) (by dsimp only;rw [e3];exact List.sublist_cons_self _ _) ⟨Nat.zero_le _,hog2⟩ ?_
    rintro ⟨k,og3⟩ ⟨hk,hog3⟩
    dsimp only at hk hog3⊢
    by_cases hkn:k<x.values.length
    ·have d2:decide (k<x.values.length)=true:=decide_eq_true hkn
     have hy:x.values.getD k vl0∈x.values:=by rw [List.getD_eq_getElem?_getD,List.getElem?_eq_getElem hkn];exact List.getElem_mem _
     have x1:=hvw _ hy
     have hs3:=phIn_succ (phTo m j) x k hkn
     have hls3:=vlLo_succ lo3 x.values k hkn
     have hb3:=hinl (k+1)
     generalize hv3:x.values.getD k vl0=v at*
     generalize hlo6:vlLo lo3 x.values k=lo6 at*
     have hlen:(phIn (phTo m j) x (k+1)).length=(phIn (phTo m j) x k).length+([32,32]++lineW [v.event,rtxt v.p]).length+1:=by rw [hs3];simp only [List.length_append,List.length_cons,List.length_nil]
     have hg2:([32,32]++lineW [v.event,rtxt v.p]).length=(lineW [v.event,rtxt v.p]).length+2:=by simp
     have hlw:(lineW [v.event,rtxt v.p]).length=([v.event,rtxt v.p]:List BS).length+sumW [v.event,rtxt v.p] ([v.event,rtxt v.p]:List BS).length:=lineW_len _ _
     refine zA (oj hn_g1 (oj hn_g5 (oj d1 (oj d1 (oj d1 (oj d1 (oj d1 (oj d1 (oj hv (oj hn_g23 (oj d2 hv3))))))))))) ?_
     refine yA (oj hn_g1 (oj hn_g5 (oj d1 (oj d1 (oj d1 (oj d1 (oj d1 (oj d1 (oj hv (oj hn_g23 (oj d2 hv3))))))))))) fun g25 hn_g25=>?_
     refine zA (oj hn_g1 (oj hn_g5 (oj d1 (oj d1 (oj d1 (oj d1 (oj d1 (oj d1 (oj hv (oj hn_g23 (oj d2 (oj hv3 hn_g25)))))))))))) ?_
     refine aw_cw [(g25,.cells 100 4 (ofL (vlc v)))] [(0,0),(1,0),(2,0),(3,0),(4,0),(5,0),(6,1),(7,1),(8,1),(9,0),(10,2)] ty_mixed (by kernel_rfl) qa ?_
     have J14:=oj hn_g1 (oj hn_g5 (oj d1 (oj d1 (oj d1 (oj d1 (oj d1 (oj d1 (oj hv (oj hn_g23 (oj d2 (oj hv3 hn_g25)))))))))))
     refine yG J14 ?_
     refine cw_callh (hc:=[bldG 146 [.bool lo6] g5 (.optr g5 0) (gsR og3 (phIn (phTo m j) x k).length)]) (hr:=(g25,.cells 100 4 (ofL (vlc v)))::(g1,.cells 29 8 (ofL (mdc true m)))::gh og3 5 (phIn (phTo m j) x k).length (byF (phIn (phTo m j) x k))) rfl (pnumber_fh lo6 g5 (.optr g5 0) (gsR og3 (phIn (phTo m j) x k).length) v.p x1) rfl rfl rfl (List.perm_middle (l₁:=[_,_])) (zL J14) (fun _ _ hq=>by obtain⟨_,rfl⟩:=hq;exact has0_cons (by simp) has0_nil) ?_ (hm:=.inr ⟨rfl,rfl⟩)
     rintro _ _ ⟨rfl,rfl⟩ _
     rw [←hls3]
     refine ySG J14 ?_
     refine cw_buildSlice (xs:=[.tmp 181,.tmp 185]) (cells:=[.str (sB v.event),.str (sB (rtxt v.p))]) rfl rfl rfl rfl (zE J14) (by refine yS J14 ?_;rfl) rfl om om (by intro z hz;simp only [List.mem_cons,List.not_mem_nil,or_false] at hz;rcases hz with rfl|rfl<;>exact⟨rfl,rfl,rfl⟩) rfl (by intro z hz;simp only [List.mem_cons,List.not_mem_nil,or_false] at hz;rcases hz with rfl|rfl<;>simp [Op.operands]) qa (fun g186 hn_g186=> ?_) (.inr ⟨rfl,rfl⟩)
     refine ySG J14 ?_
     refine cw_callqP (args:=[.c (strs false [v.event,rtxt v.p])]) rfl (line_fa false [v.event,rtxt v.p] (by rw [←hlw];omega)) rfl rfl rfl (by refine yS J14 ?_;exact .c (le_own (n:=2) (ty:=9) (f:=ofL [.str (sB v.event),.str (sB (rtxt v.p))]) (by simp [Heap.get]) rfl (fun i hi=>by match i,hi with|0,_=>rw [strsF_0];rfl|1,_=>rw [strsF_0];rfl))) qa ?_ (.inr ⟨rfl,rfl⟩)
     refine ySG J14 ?_
     refine cw_callh (FP':=[]) (hc:=bdH 146 [.bool (vlLo lo3 x.values (k+1))] g5 (.optr g5 0) og3 (phIn (phTo m j) x k)) (hr:=[(g186,.cells 9 (2*1) (ofL [.str (sB v.event),.str (sB (rtxt v.p))])),(g25,.cells 100 4 (ofL (vlc v))),(g1,.cells 29 8 (ofL (mdc true m)))]) rfl (put_fh _ g5 _ og3 (phIn (phTo m j) x k) ([32,32]++lineW [v.event,rtxt v.p]) hog3 om) rfl rfl rfl (by
      refine((List.Perm.cons _ (List.perm_middle (l₁:=[_,_]).symm)).trans ?_)
      exact List.perm_append_comm (l₁:=[_,_,_])) (zL J14) (fun _ _ _=>has0_nil) ?_
     rintro _ _ ⟨og4,hog4,rfl,rfl⟩ _
     rw [←hs3] at hog4⊢
     refine ySG J14 ?_
     refine aw_weak (h':=bdH 146 [.bool (vlLo lo3 x.values (k+1))] g5 (.optr g5 0) og4 (phIn (phTo m j) x (k+1))++[(g1,.cells 29 8 (ofL (mdc true m)))]) (Sl.le_refl _) (List.Sublist.append_left (.cons _ (.cons _ (List.Sublist.refl _))) _) ?_
     refine aw_perm (List.perm_append_comm (l₂:=[_])) ?_
     exact aw_stop ⟨(k+1,og4),by dsimp only;omega,(zB J14),zZ,by dsimp only;omega,hog4⟩
    ·have d2:decide (k<x.values.length)=false:=decide_eq_false hkn
     obtain rfl:k=x.values.length:=by omega
     have hend:=phIn_end (phTo m j) x
     rw [←hs] at hend
     have hbf:(phTo m (j+1)).length≤10000000000:=by omega
     have hbe:(phIn (phTo m j) x x.values.length).length+[(125:UInt8)].length+1≤10000000000:=by rw [←hend] at hbf;simp only [List.length_append,List.length_cons,List.length_nil] at hbf⊢;omega
     refine zA (oj hn_g1 (oj hn_g5 (oj d1 (oj d1 (oj d1 (oj d1 (oj d1 (oj d1 (oj hv (oj hn_g23 d2)))))))))) ?_
     refine aw_callh (hc:=bdH 146 [.bool (vlLo lo3 x.values x.values.length)] g5 (.optr g5 0) og3 (phIn (phTo m j) x x.values.length)) (hr:=[(g1,.cells 29 8 (ofL (mdc true m)))]) (put_fh _ g5 _ og3 (phIn (phTo m j) x x.values.length) [125] hog3 om) rfl rfl rfl (List.perm_append_comm (l₁:=[_])) (zL (oj hn_g1 (oj hn_g5 (oj d1 (oj d1 (oj d1 (oj d1 (oj d1 (oj d1 (oj hv (oj hn_g23 d2))))))))))) ?_
     rintro _ _ ⟨og4,hog4,rfl,rfl⟩ _
     rw [hend] at hog4⊢
     rw [←hls]
     refine aw_perm (List.perm_append_comm (l₂:=[_])) ?_
     have J15:=oj hn_g1 (oj hn_g5 (oj d1 (oj d1 (oj d1 (oj d1 (oj d1 (oj d1 (oj hv (oj hn_g23 d2)))))))))
     refine ySG J15 ?_
     exact aw_stop ⟨(j+1,og4),by dsimp only;omega,(zB J15),zZ,by dsimp only;omega,hog4⟩
   ·have d1:decide (j<m.phases.length)=false:=decide_eq_false hjn
    obtain rfl:j=m.phases.length:=by omega
    have hend:=phTo_end m
    have hb2:=p.len
    have hbe:(phTo m m.phases.length).length+(lineW [kTop,m.top]).length+1≤10000000000:=by rw [←hend] at hb2;simp only [List.length_append,List.length_cons,List.length_nil] at hb2⊢;omega
    refine zA (oj hn_g1 (oj hn_g5 (oj d1 (oj d1 (oj d1 (oj d1 (oj d1 d1))))))) ?_
    refine aw_buildSlice (xs:=[.const (.string (sB kTop)),.tmp 196]) (cells:=[.str (sB kTop),.str (sB m.top)]) rfl rfl rfl (zE (oj hn_g1 (oj hn_g5 (oj d1 (oj d1 (oj d1 (oj d1 (oj d1 d1)))))))) (by refine yS (oj hn_g1 (oj hn_g5 (oj d1 (oj d1 (oj d1 (oj d1 (oj d1 d1))))))) ?_;rfl) rfl om om (by intro z hz;simp only [List.mem_cons,List.not_mem_nil,or_false] at hz;rcases hz with rfl|rfl<;>exact⟨rfl,rfl,rfl⟩) rfl fun g197 hn_g197=> ?_
    have J16:=oj hn_g1 (oj hn_g5 (oj d1 (oj d1 (oj d1 (oj d1 (oj d1 d1))))))
    refine yS J16 ?_
    refine aw_callq (line_fa false [kTop,m.top] (by rw [←lineW_len];omega)) rfl rfl rfl (by refine yS J16 ?_;exact .c (le_own (n:=2) (ty:=9) (f:=ofL [.str (sB kTop),.str (sB m.top)]) (by simp [Heap.get]) rfl (fun q hq=>by match q,hq with|0,_=>rw [strsF_0];rfl|1,_=>rw [strsF_0];rfl))) ?_
    refine aw_weak (Sl.le_refl _) (.cons _ (.cons _ (List.Sublist.refl _))) ?_
    refine yS J16 ?_
    refine aw_callh (hc:=bdH 146 [.bool (phLoTo lo7 m.phases m.phases.length)] g5 (.optr g5 0) og (phTo m m.phases.length)) (hr:=[]) (put_fh _ g5 _ og (phTo m m.phases.length) (lineW [kTop,m.top]) hog om) rfl rfl rfl (by rw [List.append_nil]) (zL J16) ?_
    rintro _ _ ⟨og2,hog2,rfl,rfl⟩ _
    rw [hend] at hog2⊢
    rw [List.append_nil]
    rw [hlong]
    have hog0:og2=none→textX m=[]:=fun e=>List.length_eq_zero_iff.1 (hog2.2 e)
    by_cases hL:longX m=true
    ·have hR:textR m=([],4):=by unfold textR;rw [if_pos (.inl hL)]
     rw [hR,hL]
     refine zA J16 ?_
     refine yT hC J16 ?_
     exact .tup ⟨.c (.str _),.c (ler_errN rfl om),trivial⟩
    ·have hL':longX m=false:=by simpa using hL
     rw [hL']
     refine zA J16 ?_
     refine aw_callh (hc:=bdH 146 [.bool false] g5 (.optr g5 0) og2 (textX m)) (hr:=[]) (lenG_fh g5 _ og2 (textX m) hog2.2) rfl rfl rfl (by rw [List.append_nil]) (zL J16) ?_
     rintro _ _ ⟨rfl,rfl⟩ _
     rw [List.append_nil]
     refine yS J16 ?_
     by_cases hl:(textX m).length>65536
     ·have hR:textR m=([],4):=by unfold textR;rw [if_pos (.inr hl)]
      have d3:decide (((textX m).length:Int)>65536)=true:=decide_eq_true om
      rw [hR]
      refine zA (oj hn_g1 (oj hn_g5 (oj d1 (oj d1 (oj d1 (oj d1 (oj d1 (oj d1 d3)))))))) ?_
      refine yT hC (oj hn_g1 (oj hn_g5 (oj d1 (oj d1 (oj d1 (oj d1 (oj d1 (oj d1 d3)))))))) ?_
      exact .tup ⟨.c (.str _),.c (ler_errN rfl om),trivial⟩
     ·have hR:textR m=(textX m,0):=by unfold textR;rw [if_neg (by rw [hL'];simpa using hl)]
      have d3:decide (((textX m).length:Int)>65536)=false:=decide_eq_false om
      rw [hR]
      refine zA (oj hn_g1 (oj hn_g5 (oj d1 (oj d1 (oj d1 (oj d1 (oj d1 (oj d1 d3)))))))) ?_
      have hne:textX m≠[]:=by unfold textX lineW;simp
      refine aw_callh (hc:=bdH 146 [.bool false] g5 (.optr g5 0) og2 (textX m)) (hr:=[]) (bstrG_fh g5 _ og2 (textX m) hog0 (fun e=>absurd e hne) om) rfl rfl rfl (by rw [List.append_nil]) (zL (oj hn_g1 (oj hn_g5 (oj d1 (oj d1 (oj d1 (oj d1 (oj d1 (oj d1 d3))))))))) ?_
      rintro _ _ ⟨rfl,rfl⟩ _
      have J17:=oj hn_g1 (oj hn_g5 (oj d1 (oj d1 (oj d1 (oj d1 (oj d1 (oj d1 d3)))))))
      refine yS J17 ?_
      refine zA J17 ?_
      refine yT hC J17 ?_
      exact .tup ⟨.c (.str _),.c (ler_err0 rfl),trivial⟩
 ·rw [if_pos hc]
  have hc':(!decide (mcC m=0))=true:=by rw [decide_eq_false hc];rfl
  refine fa_of_body Tryz.func36 rfl rfl (by simp [Tryz.ntmps36]) fun C hC=> ?_
  simp only [initS,Nat.reduceAdd]
  refine xG ?_
  refine xB fun g1 hn_g1=>?_
  refine zA1 (oj hn_g1 hc') f1 ?_
  refine yT hC (oj hn_g1 hc') ?_
  exact .tup ⟨.c (.str _),.c ler_err,trivial⟩
end Go.Proofs.YtpcpaekpnfkhhaaGreatDoor
namespace Go.PN
open Go.AI
variable {α : Type}
theorem flat_le {l:List α} {f:α→BS} {c:Nat} (h:∀x∈l,(f x).length≤c):(l.flatMap f).length≤l.length*c:=by
 induction l with
 |nil=>simp
 |cons x l ih=>
  rw [List.flatMap_cons,List.length_append,List.length_cons,Nat.succ_mul]
  have h1:=h x List.mem_cons_self
  have h2:=ih fun y hy=>h y (List.mem_cons_of_mem _ hy)
  omega
theorem flat_le2 {β:Type} {l:List α} {f:α→BS} {g:α→List β} {c d:Nat} (h:∀x∈l,(f x).length≤c+d*(g x).length):(l.flatMap f).length≤l.length*c+d*(l.flatMap g).length:=by
 induction l with
 |nil=>simp
 |cons x l ih=>
  rw [List.flatMap_cons,List.length_append,List.length_cons,Nat.succ_mul,List.flatMap_cons,List.length_append,Nat.mul_add]
  have h1:=h x List.mem_cons_self
  have h2:=ih fun y hy=>h y (List.mem_cons_of_mem _ hy)
  omega
theorem nodupLe [DecidableEq α]:∀{l m:List α},l.Nodup→(∀x∈l,x∈m)→l.length≤m.length
 |[],_,_,_=>Nat.zero_le _
 |x::l,m,hn,h=>by
  have hx:=h x List.mem_cons_self
  obtain⟨h1,h2⟩:=List.nodup_cons.1 hn
  have h3:=nodupLe (l:=l) (m:=m.erase x) h2 fun y hy=>(List.mem_erase_of_ne (fun e=>h1 (by rw [←e];exact hy))).2 (h y (List.mem_cons_of_mem _ hy))
  rw [List.length_erase_of_mem hx] at h3
  have:=List.length_pos_of_mem hx
  rw [List.length_cons]
  omega
def lenW (l:List BS):Nat:=(l.flatMap fun w=>0::w).length
theorem lenW_cons (w:BS) (l:List BS):lenW (w::l)=w.length+1+lenW l:=by
 unfold lenW;rw [List.flatMap_cons,List.length_append,List.length_cons]
theorem lenW_nil:lenW []=0:=rfl
theorem lenW_app (a b:List BS):lenW (a++b)=lenW a+lenW b:=by
 unfold lenW;rw [List.flatMap_append,List.length_append]
theorem lenW_le {l:List BS} {c:Nat} (h:∀w∈l,w.length≤c):lenW l≤l.length*(c+1):=
 flat_le fun w hw=>by have:=h w hw;rw [List.length_cons];omega
theorem line_len (w:BS) (l:List BS):(lineW (w::l)).length=lenW (w::l):=by
 rw [lenW_cons]
 show(w++l.flatMap (fun y=>32::y)++[59]).length=_
 rw [List.length_append,List.length_append]
 have:(l.flatMap fun y=>(32::y:BS)).length=lenW l:=by
  unfold lenW
  induction l with
  |nil=>rfl
  |cons x l ih=>rw [List.flatMap_cons,List.flatMap_cons,List.length_append,List.length_append,ih];simp
 rw [this,List.length_singleton]
 omega
theorem nm24 {s:BS} (h:nameOk s=true):s.length≤24:=by
 unfold nameOk at h
 simp only [Bool.and_eq_true,decide_eq_true_eq] at h
 exact h.1.1.2
theorem short_r {r:RD} (h:longR r=false):(rtxt r).length≤100:=by
 unfold longR at h
 have:=of_decide_eq_false h
 omega
theorem part_le {w:BS} {r:RD} (h:(rtxt r).length≤100):lenW (partW w r)≤w.length+102:=by
 unfold partW
 split
 ·rw [lenW_nil];omega
 ·rw [lenW_cons,lenW_cons,lenW_nil];omega
theorem ev_le {x:EvD} (h:EvA x) (hl:longE x=false):(evX x).length≤368:=by
 obtain⟨h0,_,_,_,h4,h5⟩:=h
 unfold longE at hl
 simp only [Bool.or_eq_false_iff] at hl
 obtain⟨⟨l1,l2⟩,l3⟩:=hl
 have a1:=part_le (w:=kP) (short_r l1)
 have a2:=part_le (w:=kFail) (short_r l2)
 have a3:=part_le (w:=kRepair) (short_r l3)
 have a4:lenW (partW kCost (rd (x.cost:Rat)))≤16:=by
  have hl:=decB_len 9 x.cost.natAbs (by show x.cost.natAbs<10000000000;omega)
  unfold partW
  split
  ·rw [lenW_nil];omega
  ·rename_i e
   have hz:x.cost≠0:=fun z=>e ((sign_int x.cost).2 z)
   rw [lenW_cons,lenW_cons,lenW_nil,rtxt_int om]
   show 4+1+_≤16
   omega
 have a5:=nm24 h0
 unfold evX
 rw [List.length_append]
 unfold evW
 rw [line_len,lenW_cons,lenW_cons,lenW_app,lenW_app,lenW_app]
 show 5+1+_+1≤368
 have e1:kP.length=1:=rfl
 have e2:kFail.length=4:=rfl
 have e3:kRepair.length=6:=rfl
 omega
theorem in_le {m:MdD} (hg:Good m) {L:List GtD} (hL:GsA m L) {i:BS} (h:InN m L i):i.length≤25:=by
 rcases h with ⟨_,h⟩|⟨_,h|h|h⟩
 ·obtain⟨p,hp,e⟩:=List.mem_map.1 h
  have:=nm24 (hg.pg p hp).1
  rw [e,List.length_drop] at this
  omega
 ·obtain⟨p,hp,rfl⟩:=List.mem_map.1 h
  have:=nm24 (hg.ev p hp).1
  omega
 ·obtain⟨p,hp,rfl⟩:=List.mem_map.1 h
  have:=nm24 (hg.hs p hp).1
  omega
 ·obtain⟨p,hp,rfl⟩:=List.mem_map.1 h
  have:=nm24 (hL.2 p hp).1
  omega
theorem shp_le {x:GtD} (h:shpC x=0):0≤x.kind∧x.kind≤8∧x.inputs.length≤16∧(x.kind=7→2≤x.inputs.length)∧(x.kind=2→1≤x.k∧x.k≤x.inputs.length):=by
 unfold shpC at h
 split at h
 ·cases h
 ·rename_i h1
  split at h
  ·cases h
  ·rename_i h2
   split at h
   ·cases h
   ·rename_i h3
    have hi:inpB x.kind x.inputs.length=true:=by simpa using h2
    unfold inpB at hi
    refine⟨by omega,by omega,?_,fun e=> ?_,fun e=> ?_⟩
    ·split at hi
     ·have:x.inputs.length=1:=by simpa using hi
      omega
     ·split at hi
      ·have:x.inputs.length=2:=by simpa using hi
       omega
      ·split at hi<;>(simp only [Bool.and_eq_true,decide_eq_true_eq] at hi;omega)
    ·rw [if_neg om,if_neg om,if_pos om] at hi
     simp only [Bool.and_eq_true,decide_eq_true_eq] at hi
     omega
    ·have:¬(x.k<1∨x.k>x.inputs.length):=fun z=>h3 ⟨e,z⟩
     omega
theorem kind_le {k:Int} (h0:0≤k) (h1:k≤8):(kindW k).length≤7:=by
 have:k=0∨k=1∨k=2∨k=3∨k=4∨k=5∨k=6∨k=7∨k=8:=by omega
 rcases this with rfl|rfl|rfl|rfl|rfl|rfl|rfl|rfl|rfl<;>decide
theorem gt_le {m:MdD} (hg:Good m) {L:List GtD} (hL:GsA m L) {ind:BS} (hi:ind.length≤2) {x:GtD} (hx:x∈L) (hl:longR x.dorm=false):(gtX ind x).length≤460+51*(spOf x).length:=by
 obtain⟨a1,_,_,a4,a5,_,_⟩:=hL.2 x hx
 obtain⟨s1,s2,s3,s4,s5⟩:=shp_le a4
 have b1:=nm24 a1
 have b2:=kind_le s1 s2
 have b3:lenW x.inputs≤x.inputs.length*26:=lenW_le fun w hw=>in_le hg hL (a5 w hw)
 have b4:x.inputs.length*26≤16*26:=Nat.mul_le_mul_right _ s3
 have b5:lenW (if x.kind=2 then [itoaB x.k] else if x.kind=7 then [rtxt x.dorm] else [])≤3+51*(spOf x).length:=by
  split
  ·rename_i e
   obtain⟨k1,k2⟩:=s5 e
   have hd:=decB_len 1 x.k.natAbs (by show x.k.natAbs<100;omega)
   rw [lenW_cons,lenW_nil]
   unfold itoaB
   rw [if_neg om]
   omega
  ·split
   ·rename_i e
    have hd:=short_r hl
    have h2:=s4 e
    have h3:(spOf x).length=x.inputs.length:=by unfold spOf;rw [if_pos e]
    rw [lenW_cons,lenW_nil,h3]
    omega
   ·rw [lenW_nil];omega
 unfold gtX gateX gateW
 rw [List.length_append,List.length_append,line_len,lenW_cons,lenW_cons,lenW_cons,lenW_app]
 have e1:kGate.length=4:=rfl
 rw [List.length_singleton]
 omega
theorem hs_le {m:MdD} (hg:Good m) {x:HsD} (hx:x∈m.houses):(hsX x).length≤36:=by
 have b1:=nm24 (hg.hs x hx).1
 unfold hsX
 rw [List.length_append,line_len,lenW_cons,lenW_cons,lenW_cons,lenW_nil,List.length_singleton]
 have e1:kHouse.length=5:=rfl
 have e2:(if x.on then kOn else kOff).length≤3:=by split<;>decide
 omega
theorem headX_len {k n t:BS}:(headX k n t).length=k.length+n.length+t.length+9:=by
 unfold headX
 simp only [List.length_append,List.length_cons,List.length_nil]
 have e1:kTop.length=3:=rfl
 omega
theorem gr_le {m:MdD} (hg:Good m) {x:GrD} (hx:x∈m.groups) (hl:x.factors.any longR=false):(grX x).length≤345+25*x.members.length:=by
 obtain⟨a1,a2,⟨a3,a4,a5⟩,a6,_⟩:=hg.gr x hx
 have b1:=nm24 a1
 have b2:lenW x.members≤x.members.length*25:=lenW_le fun w hw=>by
  obtain⟨p,hp,rfl⟩:=List.mem_map.1 (a6 w hw)
  exact nm24 (hg.ev p hp).1
 have b3:lenW (x.factors.map rtxt)≤(x.factors.map rtxt).length*101:=lenW_le fun w hw=>by
  obtain⟨r,hr,rfl⟩:=List.mem_map.1 hw
  exact short_r (by simpa using (List.any_eq_false.1 hl r hr))
 rw [List.length_map] at b3
 have b4:x.factors.length≤3:=by split at a4<;>split at a5<;>omega
 have b5:x.factors.length*101≤3*101:=Nat.mul_le_mul_right _ b4
 unfold grX grW
 rw [List.length_append,line_len,lenW_cons,lenW_cons,lenW_cons,lenW_app,lenW_cons]
 have e4:([10]:BS).length=1:=rfl
 have e1:kGroup.length=5:=rfl
 have e2:(if x.kind=1 then kGreek else kBeta).length≤5:=by split<;>decide
 have e3:kColon.length=1:=rfl
 omega
theorem vl_le {m:MdD} (hg:Good m) {v:VlD} (hv:v.event∈evN m) (hl:longR v.p=false):(vlX v).length≤129:=by
 obtain⟨p,hp,e⟩:=List.mem_map.1 hv
 have b1:=nm24 (hg.ev p hp).1
 rw [e] at b1
 have b2:=short_r hl
 unfold vlX
 rw [List.length_append,List.length_append,line_len,lenW_cons,lenW_cons,lenW_nil,List.length_singleton]
 simp only [List.length_cons,List.length_nil]
 omega
theorem ph_le {m:MdD} (hg:Good m) {x:PhD} (hx:x∈m.phases) (hl:(x.values.any fun v=>longR v.p)=false):(phX x).length≤3161:=by
 obtain⟨a1,a2,a3,a4⟩:=hg.ph x hx
 have b1:=nm24 a1
 have b2:=in_le hg hg.gt a2
 have b3:x.values.length≤24:=by
  have:=nodupLe a4 (m:=evN m) fun n hn=>by
   obtain⟨v,hv,rfl⟩:=List.mem_map.1 hn
   exact(a3 v hv).1
  rw [List.length_map,List.length_map] at this
  have:=hg.evl
  omega
 have b4:(x.values.flatMap vlX).length≤x.values.length*129:=flat_le fun v hv=>vl_le hg (a3 v hv).1 (by simpa using (List.any_eq_false.1 hl v hv))
 have b5:x.values.length*129≤24*129:=Nat.mul_le_mul_right _ b3
 unfold phX
 rw [List.length_append,List.length_append,headX_len]
 have e1:kPhase.length=5:=rfl
 simp only [List.length_cons,List.length_nil]
 omega
theorem text_len_le {m:MdD} (hg:Good m) (hl:longX m=false):(textX m).length≤63100:=by
 unfold longX at hl
 simp only [Bool.or_eq_false_iff] at hl
 obtain⟨⟨⟨⟨l1,l2⟩,l3⟩,l4⟩,l5⟩:=hl
 have c1:(m.events.flatMap evX).length≤m.events.length*368:=flat_le fun x hx=>ev_le (hg.ev x hx) (by simpa using (List.any_eq_false.1 l1 x hx))
 have c2:(m.houses.flatMap hsX).length≤m.houses.length*36:=flat_le fun x hx=>hs_le hg hx
 have c3:(m.gates.flatMap (gtX [])).length≤m.gates.length*460+51*(m.gates.flatMap spOf).length:=flat_le2 fun x hx=>gt_le hg hg.gt (by simp) hx (by simpa using (List.any_eq_false.1 l2 x hx))
 have c4:∀l:List PgD,(∀x∈l,x∈m.pages)→(l.flatMap pgX).length≤l.length*69+(l.map fun p=>p.gates.length).sum*460+51*((l.flatMap PgD.gates).flatMap spOf).length:=by
  intro l
  induction l with
  |nil=>intro _;simp
  |cons x l ih=>
   intro h
   have i1:=ih fun y hy=>h y (List.mem_cons_of_mem _ hy)
   have hx:=h x List.mem_cons_self
   obtain⟨p1,p2,p3⟩:=hg.pg x hx
   have q1:=nm24 p1
   have q2:x.top.length≤24:=by
    rcases p3 with p3|p3
    ·obtain⟨y,hy,e⟩:=List.mem_map.1 p3
     rw [←e];exact nm24 (p2.2 y hy).1
    ·obtain⟨y,hy,e⟩:=List.mem_map.1 p3
     rw [←e];exact nm24 (hg.ev y hy).1
   have q3:(x.gates.flatMap (gtX [32,32])).length≤x.gates.length*460+51*(x.gates.flatMap spOf).length:=flat_le2 fun g hgx=>gt_le hg p2 (by simp) hgx (by
    have:=List.any_eq_false.1 l3 x hx
    have h2:longG x.gates=false:=by simpa using this
    simpa using (List.any_eq_false.1 h2 g hgx))
   have e1:kPage.length=4:=rfl
   rw [List.flatMap_cons,List.length_append,List.flatMap_cons,List.flatMap_append,List.length_append,List.map_cons,List.sum_cons,List.length_cons]
   unfold pgX
   rw [List.length_append,List.length_append,headX_len]
   simp only [List.length_cons,List.length_nil]
   unfold pgX at i1
   omega
 have c4:=c4 m.pages fun _ h=>h
 have c5:(m.groups.flatMap grX).length≤m.groups.length*345+25*(m.groups.flatMap GrD.members).length:=flat_le2 fun x hx=>gr_le hg hx (by simpa using (List.any_eq_false.1 l4 x hx))
 have c6:(m.phases.flatMap phX).length≤m.phases.length*3161:=flat_le fun x hx=>ph_le hg hx (by simpa using (List.any_eq_false.1 l5 x hx))
 have s1:((m.gates++m.pages.flatMap PgD.gates).flatMap spOf).length≤(evN m).length:=nodupLe hg.sp fun n hn=>by
  obtain⟨g,hgm,hn⟩:=List.mem_flatMap.1 hn
  have k:g.kind=7∧n∈g.inputs:=by
   unfold spOf at hn
   split at hn
   ·exact⟨‹_›,hn⟩
   ·cases hn
  rcases List.mem_append.1 hgm with h|h
  ·exact(hg.gt.2 g h).2.2.2.2.2.1 k.1 n k.2
  ·obtain⟨p,hp,hpg⟩:=List.mem_flatMap.1 h
   exact((hg.pg p hp).2.1.2 g hpg).2.2.2.2.2.1 k.1 n k.2
 have s2:(m.groups.flatMap GrD.members).length≤(evN m).length:=nodupLe hg.grm fun n hn=>by
  obtain⟨x,hx,hn⟩:=List.mem_flatMap.1 hn
  exact(hg.gr x hx).2.2.2.1 n hn
 rw [List.flatMap_append,List.length_append,List.length_map] at s1
 rw [List.length_map] at s2
 have k1:=hg.evl
 have k2:=hg.hsl
 have k3:=hg.pgl
 have k4:=hg.gtl
 unfold gtN at k4
 have k5:=hg.grl
 have k6:=hg.phl
 have k7:=nm24 hg.nm
 have k8:=in_le hg hg.gt hg.tp
 unfold textX
 simp only [List.length_append,List.length_cons,List.length_nil]
 rw [line_len,line_len,lenW_cons,lenW_cons,lenW_cons,lenW_cons,lenW_nil]
 have e1:kModel.length=5:=rfl
 have e2:kTop.length=3:=rfl
 omega
end Go.PN
namespace Go.PN
open Go.AI
theorem text_inj {a b:MdD} (ha:MdO a) (ca:mcC a=0) (la:longX a=false) (hb:MdO b) (cb:mcC b=0) (lb:longX b=false) (h:textX a=textX b):a=b:=by
 have h1:=text_back ha ca la (Nat.le_trans (text_len_le (mcC_good ca) la) (by decide))
 have h2:=text_back hb cb lb (Nat.le_trans (text_len_le (mcC_good cb) lb) (by decide))
 rw [h,h2] at h1
 exact(Prod.mk.inj h1).1.symm
def setC (m:MdD) (c:Int):MdD:=match m.events with
 |[]=>m
 |x::l=>⟨m.name,m.top,⟨x.name,x.p,x.fail,x.rep,c⟩::l,m.houses,m.gates,m.pages,m.groups,m.phases⟩
theorem setC_good {m:MdD} (hg:Good m) {c:Int} (h0:0≤c) (h1:c≤1073741824):Good (setC m c):=by
 obtain⟨nm,tp,ev,hs,gs,ps,rs,fs⟩:=m
 cases ev with
 |nil=>exact hg
 |cons x l=>
  obtain⟨g1,g2,g3,g4,g5,g6,g7,g8,g9,g10,g11,g12,g13,g14,g15,g16,g17,g18,g19,g20,g21⟩:=hg
  refine⟨g1,g2,fun y hy=> ?_,g4,g5,g6,g7,g8,g9,g10,g11,g12,g13,g14,g15,g16,g17,g18,g19,g20,g21⟩
  rcases List.mem_cons.1 hy with rfl|hy
  ·obtain⟨e1,e2,e3,e4,_⟩:=g3 x List.mem_cons_self
   exact⟨e1,e2,e3,e4,h0,h1⟩
  ·exact g3 y (List.mem_cons_of_mem _ hy)
theorem setC_cyc (m:MdD) (c:Int):cycB (setC m c)=cycB m:=by
 obtain⟨nm,tp,ev,hs,gs,ps,rs,fs⟩:=m
 cases ev with
 |nil=>rfl
 |cons x l=>
  have he:∀n,evI (setC ⟨nm,tp,x::l,hs,gs,ps,rs,fs⟩ c) n=evI ⟨nm,tp,x::l,hs,gs,ps,rs,fs⟩ n:=fun n=>by
   unfold evI setC fidx
   rfl
  have hr:resP (setC ⟨nm,tp,x::l,hs,gs,ps,rs,fs⟩ c)=resP ⟨nm,tp,x::l,hs,gs,ps,rs,fs⟩:=by
   funext k n
   unfold resP resK resN
   simp only [he]
   rfl
  have hs2:sucT (setC ⟨nm,tp,x::l,hs,gs,ps,rs,fs⟩ c)=sucT ⟨nm,tp,x::l,hs,gs,ps,rs,fs⟩:=by
   funext t
   unfold sucT
   rw [hr]
   rfl
  have hk:∀k,gtsK (setC ⟨nm,tp,x::l,hs,gs,ps,rs,fs⟩ c) k=gtsK ⟨nm,tp,x::l,hs,gs,ps,rs,fs⟩ k:=fun k=>by cases k<;>rfl
  have hf:∀n k,nodesF (setC ⟨nm,tp,x::l,hs,gs,ps,rs,fs⟩ c) k n=nodesF ⟨nm,tp,x::l,hs,gs,ps,rs,fs⟩ k n:=by
   intro n
   induction n with
   |zero=>intro k;rfl
   |succ n ih=>intro k;unfold nodesF nodesK;rw [hk,ih]
  have hn:nodesT (setC ⟨nm,tp,x::l,hs,gs,ps,rs,fs⟩ c)=nodesT ⟨nm,tp,x::l,hs,gs,ps,rs,fs⟩:=hf _ 0
  unfold cycB walkT
  rw [hs2,hn]
theorem setC_mcC {m:MdD} (h:mcC m=0) {c:Int} (h0:0≤c) (h1:c≤1073741824):mcC (setC m c)=0:=by
 have a:=(orC_0.1 (show orC (mcode0 m) (if cycB m then 14 else 0)=0 from h)).2
 show orC (mcode0 (setC m c)) (if cycB (setC m c) then 14 else 0)=0
 rw [setC_cyc]
 exact orC_0.2 ⟨(good_iff _).2 (setC_good (mcC_good h) h0 h1),a⟩
theorem setC_long (m:MdD) (c:Int):longX (setC m c)=longX m:=by
 obtain⟨nm,tp,ev,hs,gs,ps,rs,fs⟩:=m
 cases ev with
 |nil=>rfl
 |cons x l=>rfl
theorem setC_norm {m:MdD} (hg:Good m) {x:EvD} {l:List EvD} (he:m.events=x::l) {c:Int} (h:normM m=normM (setC m c)):x.cost=c:=by
 obtain⟨nm,tp,ev,hs,gs,ps,rs,fs⟩:=m
 dsimp only at he
 subst he
 have h2:sortK EvD.name (x::l)=sortK EvD.name (⟨x.name,x.p,x.fail,x.rep,c⟩::l):=congrArg MdD.events h
 have p1:=(sortK_perm EvD.name (x::l)).symm.trans (h2▸sortK_perm EvD.name (⟨x.name,x.p,x.fail,x.rep,c⟩::l))
 have m1:=p1.mem_iff.1 List.mem_cons_self
 rcases List.mem_cons.1 m1 with e|e
 ·exact congrArg EvD.cost e
 ·have hn:=hg.evn
  exact absurd (List.mem_map.2 ⟨x,e,rfl⟩) (List.nodup_cons.1 hn).1
theorem any_map_eq {α β:Type} {l:List α} {f:α→β} {p:β→Bool} {q:α→Bool} (h:∀x∈l,p (f x)=q x):(l.map f).any p=l.any q:=by
 induction l with
 |nil=>rfl
 |cons x l ih=>
  rw [List.map_cons,List.any_cons,List.any_cons,h x List.mem_cons_self,ih fun y hy=>h y (List.mem_cons_of_mem _ hy)]
theorem longG_re {L L':List GtD} (h:ReL L L'):longG L'=longG L:=by
 obtain⟨f,f1,f2⟩:=h
 unfold longG
 rw [f2.any_eq]
 exact any_map_eq fun x hx=>by rw [(f1 x hx).dm]
theorem longX_re {m m':MdD} (h:ReM m m'):longX m'=longX m:=by
 obtain⟨hp,p1,p2⟩:=h.pg
 obtain⟨hr,r1,r2⟩:=h.gr
 obtain⟨hh,q1,q2⟩:=h.ph
 unfold longX
 have z1:((m.pages.map hp).any fun p=>longG p.gates)=m.pages.any fun p=>longG p.gates:=any_map_eq fun x hx=>longG_re (p1 x hx).gt
 have z2:((m.groups.map hr).any fun x=>x.factors.any longR)=m.groups.any fun x=>x.factors.any longR:=any_map_eq fun x hx=>by rw [(r1 x hx).fa]
 have z3:((m.phases.map hh).any fun x=>x.values.any fun v=>longR v.p)=m.phases.any fun x=>x.values.any fun v=>longR v.p:=any_map_eq fun x hx=>(q1 x hx).vl.any_eq
 rw [h.ev.any_eq,longG_re h.gt,p2.any_eq,r2.any_eq,q2,z1,z2,z3]
def cntR (m:MdD):BS×Int:=if mcC m≠0 then([],mcC m) else textR (normM m)
theorem cntR_0 {m:MdD} (ho:MdO m) (h:(cntR m).2=0):mcC m=0∧longX m=false∧cntR m=(textX (normM m),0):=by
 unfold cntR at h⊢
 by_cases h0:mcC m=0
 ·rw [if_neg (fun z=>z h0)] at h⊢
  unfold textR at h⊢
  by_cases hx:longX (normM m)=true∨(textX (normM m)).length>65536
  ·rw [if_pos hx] at h;cases h
  ·rw [if_neg hx]
   refine⟨h0,?_,rfl⟩
   rw [←longX_re (normM_r m)]
   exact Bool.of_not_eq_true fun e=>hx (.inl e)
 ·rw [if_pos h0] at h;exact absurd h h0
theorem cntR_ok {m:MdD} (h0:mcC m=0) (hl:longX m=false):cntR m=(textX (normM m),0):=by
 unfold cntR textR
 have hg:=good_of (normM_r m) (mcC_good h0)
 have e:longX (normM m)=false:=by rw [longX_re (normM_r m)];exact hl
 have:=text_len_le hg e
 rw [if_neg (fun z=>z h0),if_neg]
 rintro (z|z)
 ·rw [e] at z;cases z
 ·omega
theorem cnt_same {a b:MdD} (ha:MdO a) (hb:MdO b) (ea:(cntR a).2=0) (eb:(cntR b).2=0):(cntR a).1=(cntR b).1↔normM a=normM b:=by
 obtain⟨a1,a2,a3⟩:=cntR_0 ha ea
 obtain⟨b1,b2,b3⟩:=cntR_0 hb eb
 rw [a3,b3]
 refine⟨fun h=>text_inj (mdO_re (normM_r a) ha) (mcC_of (normM_r a) a1) ?_ (mdO_re (normM_r b) hb) (mcC_of (normM_r b) b1) ?_ h,fun h=>by rw [h]⟩
 ·rw [longX_re (normM_r a)];exact a2
 ·rw [longX_re (normM_r b)];exact b2
theorem cnt_turn {m:MdD} (ho:MdO m) (h:(cntR m).2=0):cntR (turnM m)=cntR m:=by
 obtain⟨a1,a2,a3⟩:=cntR_0 ho h
 rw [cntR_ok (mcC_of (turnM_r m) a1) (by rw [longX_re (turnM_r m)];exact a2),norm_turn (mcC_good a1),a3]
theorem cnt_setC {m:MdD} (ho:MdO m) (h:(cntR m).2=0) {c:Int} (h0:0≤c) (h1:c≤1073741824):(cntR (setC m c)).2=0:=by
 obtain⟨a1,a2,a3⟩:=cntR_0 ho h
 rw [cntR_ok (setC_mcC a1 h0 h1) (by rw [setC_long];exact a2)]
end Go.PN
namespace Go.PN
open Go.AI
noncomputable def dgZ (h b:Int):Int:=wrapZ .u64 (xorZ .u64 h b*1099511628211)
noncomputable def digN (l:BS):Nat→Int
 |0=>14695981039346656037
 |n+1=>dgZ (digN l n) (bAt l n)
noncomputable def digP (l:BS):Int:=digN l l.length
def sameE (a b:MdD):Int:=if(cntR a).2≠0 then(cntR a).2 else(cntR b).2
def sameC (a b:MdD):Bool:=decide ((cntR a).2=0)&&(decide ((cntR b).2=0)&&((cntR a).1==(cntR b).1))
end Go.PN
namespace Go.Proofs.YtpcpaekpnfkhhaaGreatDoor
open Go.AI Go.PN
attribute [local irreducible] aw Fa Fh DrK
theorem ctext_fa (m:MdD) (ho:MdO m):Fa Tryz.prog 10 [.agg (mdc true m)] (.tup [.c (.str (sB (cntR m).1)),.c (errA (cntR m).2)]):=by
 have f1:=pnorm_fa m ho
 by_cases hc:mcC m=0
 ·have hoN:=mdO_re (normM_r m) ho
  have hcN:=mcC_of (normM_r m) hc
  have f2:=ptext_fa (normM m) hoN (fun h=>mdP_of hoN h)
  rw [if_neg (fun h=>h hcN)] at f2
  have e:cntR m=textR (normM m):=if_neg (fun h=>h hc)
  have e0:errA 0=.nilI:=if_pos rfl
  rw [if_pos hc,hc,e0] at f1
  rw [e]
  clear hoN hcN e
  generalize textR (normM m)=R at*
  obtain⟨t,c⟩:=R
  dsimp only at*
  generalize normM m=n at*
  refine fa_of_body Tryz.func10 rfl rfl (by simp [Tryz.ntmps10]) fun C hC=> ?_
  simp only [initS,Nat.reduceAdd]
  repeat' first|refine zV o0 ?_|refine zH o0 (fun hb=>?_) fun hb=>?_|fail
  refine xB fun g1 hn_g1=>?_
  repeat' first|refine zV hn_g1 ?_|(refine yC2 hn_g1 (f1) ?_)|(refine yD2 hn_g1 (f1) ?_)|refine zH hn_g1 (fun hb=>?_) fun hb=>?_|fail
  refine yA hn_g1 fun g2 hn_g2=>?_
  all_goals try(have Z:=(oj hn_g1 hn_g2);(repeat' first|refine zV Z ?_|(refine yC2 Z (f1) ?_)|(refine yD2 Z (f1) ?_)|(refine yC2 Z (f2) ?_)|(refine yD2 Z (f2) ?_)|refine zH Z (fun hb=>?_) fun hb=>?_|fail);all_goals clear Z)
  refine yT hC (oj hn_g1 hn_g2) ?_
  exact .tup ⟨.c (.str _),.c ler_err,trivial⟩
 ·have e:cntR m=([],mcC m):=if_pos hc
  have hc':(!decide (mcC m=0))=true:=by rw [decide_eq_false hc];rfl
  rw [if_neg hc] at f1
  rw [e]
  refine fa_of_body Tryz.func10 rfl rfl (by simp [Tryz.ntmps10]) fun C hC=> ?_
  simp only [initS,Nat.reduceAdd]
  repeat' first|refine zV o0 ?_|refine zH o0 (fun hb=>?_) fun hb=>?_|fail
  refine xB fun g1 hn_g1=>?_
  all_goals try(have Z:=(oj hn_g1 hc');(repeat' first|refine zV Z ?_|(refine yC2 Z (f1) ?_)|(refine yD2 Z (f1) ?_)|refine zH Z (fun hb=>?_) fun hb=>?_|fail);all_goals clear Z)
  refine yA (oj hn_g1 hc') fun g2 hn_g2=>?_
  all_goals try(have Z:=(oj hn_g1 (oj hc' hn_g2));(repeat' first|refine zV Z ?_|(refine yC2 Z (f1) ?_)|(refine yD2 Z (f1) ?_)|refine zH Z (fun hb=>?_) fun hb=>?_|fail);all_goals clear Z)
  refine yT hC (oj hn_g1 (oj hc' hn_g2)) ?_
  exact .tup ⟨.c (.str _),.c ler_err,trivial⟩
theorem digest_fa (l:BS) (hl:l.length≤1099511627776):Fa Tryz.prog 13 [.c (.str (sB l))] (.c (.int .u64 (digP l))):=by
 refine fa_of_body Tryz.func13 rfl rfl (by simp [Tryz.ntmps13]) fun C hC=> ?_
 simp only [initS,Nat.reduceAdd]
 repeat' first|refine zV o0 ?_|refine zH o0 (fun hb=>?_) fun hb=>?_|fail
 refine aw_lp (fun i:Nat=>[(0,.c (.str (sB l))),(3,.c (.int .u64 (digN l i))),(6,.c (.int .i64 l.length)),(7,.c (.int .i64 i))]) (fun _=>[]) (fun i=>i≤l.length) (fun i=>l.length-i) 0 eB zZ (Nat.zero_le _) ?_
 rintro i hi
 have b1:=bAt_lt l i
 repeat' first|refine zV o0 ?_|refine zH o0 (fun hb=>?_) fun hb=>?_|fail
 ·(refine aw_2q false rfl (fun R hR=> ?_);simp only [go_sem];(with_reducible refine hR _ _ ?_ ?_);(focus (((try simp only [inRange])<;>and_intros<;>first|exact True.intro|omega|trivial);done));clear hR R)
  repeat' first|refine zV o0 ?_|refine zH o0 (fun hb=>?_) fun hb=>?_|fail
  exact aw_stop ⟨i+1,by omega,eB,zZ,by omega⟩
 ·have e:i=l.length:=by omega
  subst e
  refine xT hC ?_
  exact .one (.c (.int _ _))
theorem csame_fa (a b:MdD) (ha:MdO a) (hb:MdO b):Fa Tryz.prog 16 [.agg (mdc true a),.agg (mdc true b)] (.tup [.c (.bool (sameC a b)),.c (errA (sameE a b))]):=by
 have f1:=ctext_fa a ha
 have f2:=ctext_fa b hb
 have e0:errA 0=.nilI:=if_pos rfl
 unfold sameC sameE
 generalize cntR a=A at*
 generalize cntR b=B at*
 obtain⟨s,c⟩:=A
 obtain⟨t,d⟩:=B
 dsimp only at*
 by_cases hc:c=0
 ·subst hc
  by_cases hd:d=0
  ·subst hd
   rw [e0] at f1 f2
   refine fa_of_body Tryz.func16 rfl rfl (by simp [Tryz.ntmps16]) fun C hC=> ?_
   simp only [initS,Nat.reduceAdd]
   repeat' first|refine zV o0 ?_|refine zH o0 (fun hb=>?_) fun hb=>?_|fail
   refine xB fun g1 hn_g1=>?_
   refine yB hn_g1 fun g2 hn_g2=>?_
   all_goals try(have Z:=(oj hn_g1 hn_g2);(repeat' first|refine zV Z ?_|(refine yC2 Z (f1) ?_)|(refine yD2 Z (f1) ?_)|(refine yC2 Z (f2) ?_)|(refine yD2 Z (f2) ?_)|refine zH Z (fun hb=>?_) fun hb=>?_|fail);all_goals clear Z)
   refine yT hC (oj hn_g1 hn_g2) ?_
   exact .tup ⟨.c (ler_bool (by simp)),.c (by rw [if_neg (fun h=>h rfl),e0];exact .nilI),trivial⟩
  ·have hd':(!decide (d=0))=true:=by rw [decide_eq_false hd];rfl
   rw [e0] at f1
   refine fa_of_body Tryz.func16 rfl rfl (by simp [Tryz.ntmps16]) fun C hC=> ?_
   simp only [initS,Nat.reduceAdd]
   repeat' first|refine zV o0 ?_|refine zH o0 (fun hb=>?_) fun hb=>?_|fail
   refine xB fun g1 hn_g1=>?_
   refine yB hn_g1 fun g2 hn_g2=>?_
   all_goals try(have Z:=(oj hn_g1 (oj hn_g2 hd'));(repeat' first|refine zV Z ?_|(refine yC2 Z (f1) ?_)|(refine yD2 Z (f1) ?_)|(refine yC2 Z (f2) ?_)|(refine yD2 Z (f2) ?_)|refine zH Z (fun hb=>?_) fun hb=>?_|fail);all_goals clear Z)
   refine yT hC (oj hn_g1 (oj hn_g2 hd')) ?_
   exact .tup ⟨.c (ler_bool (by simp [hd])),.c (by rw [if_neg (fun h=>h rfl)];exact ler_err),trivial⟩
 ·have hc':(!decide (c=0))=true:=by rw [decide_eq_false hc];rfl
  refine fa_of_body Tryz.func16 rfl rfl (by simp [Tryz.ntmps16]) fun C hC=> ?_
  simp only [initS,Nat.reduceAdd]
  repeat' first|refine zV o0 ?_|refine zH o0 (fun hb=>?_) fun hb=>?_|fail
  refine xB fun g1 hn_g1=>?_
  refine yB hn_g1 fun g2 hn_g2=>?_
  all_goals try(have Z:=(oj hn_g1 (oj hn_g2 hc'));(repeat' first|refine zV Z ?_|(refine yC2 Z (f1) ?_)|(refine yD2 Z (f1) ?_)|(refine yC2 Z (f2) ?_)|(refine yD2 Z (f2) ?_)|refine zH Z (fun hb=>?_) fun hb=>?_|fail);all_goals clear Z)
  refine yT hC (oj hn_g1 (oj hn_g2 hc')) ?_
  exact .tup ⟨.c (ler_bool (by simp [hc])),.c (by rw [if_pos hc];exact ler_err),trivial⟩
end Go.Proofs.YtpcpaekpnfkhhaaGreatDoor
namespace Go.AI
open Go.PN
section
variable {P : Program} {h : Heap} {ρ : Operand → AV}
def isStg (P:Program) (t:TypeId):Bool:=match P.underlying t with
 |some .string=>true
 |_=>false
theorem isStg_spec {t:TypeId} (h:isStg P t=true):P.underlying t=some .string:=by
 unfold isStg at h
 split at h
 ·assumption
 ·cases h
def isBl (P:Program) (t:TypeId):Bool:=match P.underlying t with
 |some .bool=>true
 |_=>false
theorem isBl_spec {t:TypeId} (h:isBl P t=true):P.underlying t=some .bool:=by
 unfold isBl at h
 split at h
 ·assumption
 ·cases h
def tSB (P:Program) (t:TypeId):Bool:= !P.stoodInHeld t&& !P.eqGuardType P.depth t&&isStr P t&&(match (P.fieldsOf t).toList with
 |[f,g]=>f.name != "_" &&g.name != "_" &&f.offset==0&&g.offset==1&&isStg P f.type&&isBl P g.type
 |_=>false)
theorem tSB_run {t:TypeId} (ht:tSB P t=true) (a c:BS) (b d:Bool) (w:World):(Op.equalIn 10000 t (.agg #[.string (sB a),.bool b]) (.agg #[.string (sB c),.bool d])).run P w=.ok (decide (a=c∧b=d)) w∧P.eqGuardType P.depth t=false:=by
 unfold tSB at ht
 simp only [Bool.and_eq_true,Bool.not_eq_true'] at ht
 obtain⟨⟨⟨h1,h2⟩,h4⟩,h3⟩:=ht
 refine⟨?_,h2⟩
 have hu:=isStr_spec h4
 rw [show(10000:Nat)=9999+1 from rfl,run_equalIn_agg w 9999 t _ _ hu h1]
 split at h3
 ·rename_i f g hfg
  rw [hfg]
  simp only [Bool.and_eq_true,bne_iff_ne,ne_eq,beq_iff_eq] at h3
  obtain⟨⟨⟨⟨⟨n1,n2⟩,o1⟩,o2⟩,u1⟩,u2⟩:=h3
  have u1:=isStg_spec u1
  have u2:=isBl_spec u2
  have g1:(isAgg f.type).run P w=.ok false w:=by simp [isAgg,run_underlying u1]
  have g2:(isAgg g.type).run P w=.ok false w:=by simp [isAgg,run_underlying u2]
  have p1:∀s x,(part f.type #[.string s,.bool x] f.offset).run P w=.ok (.string s) w:=fun s x=>by
   unfold part
   simp only [Sem.run_bind,g1,Result.andThen_ok,Bool.false_eq_true,if_false,o1]
   rfl
  have p2:∀s x,(part g.type #[.string s,.bool x] g.offset).run P w=.ok (.bool x) w:=fun s x=>by
   unfold part
   simp only [Sem.run_bind,g2,Result.andThen_ok,Bool.false_eq_true,if_false,o2]
   rfl
  have e1:(Op.equalIn 9999 f.type (.string (sB a)) (.string (sB c))).run P w=.ok ((sB a).toList==(sB c).toList) w:=run_equalIn_string w 9998 f.type _ _ u1
  have e2:(Op.equalIn 9999 g.type (.bool b) (.bool d)).run P w=.ok (b==d) w:=run_equalIn_bool' w 9998 g.type _ _ u2
  have hs:((sB a).toList==(sB c).toList)=decide (a=c):=by
   have:=sb_strEq a c
   unfold strEq at this
   rw [show sB a=⟨a.toArray⟩ from rfl,show sB c=⟨c.toArray⟩ from rfl,this,Bool.eq_iff_iff];simp
  simp only [Op.eqFields,n1,n2,not_false_eq_true,if_true,Sem.run_bind,p1,p2,e1,e2,Result.andThen_ok,hs,ne_eq]
  by_cases hac:a=c
  ·subst hac
   by_cases hbd:b=d
   ·subst hbd;simp [p2,e2]
   ·have:(b==d)=false:=by simpa using hbd
    simp [p2,e2,hbd,this]
  ·simp [hac]
 ·cases h3
theorem POk.neqSB {t t':TypeId} {x y:Operand} {a c:BS} {b d:Bool} (hx:ρ x=.agg [.str (sB a),.bool b]) (hy:ρ y=.agg [.str (sB c),.bool d]) (ht:tSB P t=true):POk P h ρ (.binOp .neq t x y t') (.c (.bool (!decide (a=c∧b=d)))):=fun S w e _ ho _=>by
 have h1:=ho x (by simp [Op.operands])
 have h2:=ho y (by simp [Op.operands])
 rw [hx] at h1
 rw [hy] at h2
 obtain⟨us,hu,hru⟩:=h1
 obtain⟨vs,hv,hrv⟩:=h2
 obtain⟨r1,r2⟩:=tSB_run ht a c b d w
 have k1:us=[.string (sB a),.bool b]:=by
  match us,hru with
  |[p,q],⟨q1,q2,_⟩=>rw [show p=_ from q1,show q=_ from q2]
 have k2:vs=[.string (sB c),.bool d]:=by
  match vs,hrv with
  |[p,q],⟨q1,q2,_⟩=>rw [show p=_ from q1,show q=_ from q2]
 subst k1 k2
 refine⟨.bool (!decide (a=c∧b=d)),fun o hop=>exec_bin hop ?_ ?_,rfl⟩
 ·rw [hu,hv];exact run_eqGuard_agg w _ _ _ _ _ _ r2
 ·rw [hu,hv,run_neq_struct,r1];rfl
end
end Go.AI
namespace Go.AI
open Go.PN
section
variable {P : Program}
def tSS (P:Program) (t:TypeId):Bool:= !P.stoodInHeld t&& !P.eqGuardType P.depth t&&isStr P t&&(match (P.fieldsOf t).toList with
 |[f,g]=>f.name != "_" &&g.name != "_" &&f.offset==0&&g.offset==1&&isStg P f.type&&isStg P g.type
 |_=>false)
theorem part_str0 {t:TypeId} (u:P.underlying t=some .string) (s x:ByteArray) (w:World):(part t #[.string s,.string x] 0).run P w=.ok (.string s) w:=by
 have g1:(isAgg t).run P w=.ok false w:=by simp [isAgg,run_underlying u]
 unfold part
 simp only [Sem.run_bind,g1,Result.andThen_ok,Bool.false_eq_true,if_false]
 rfl
theorem part_str1 {t:TypeId} (u:P.underlying t=some .string) (s x:ByteArray) (w:World):(part t #[.string s,.string x] 1).run P w=.ok (.string x) w:=by
 have g1:(isAgg t).run P w=.ok false w:=by simp [isAgg,run_underlying u]
 unfold part
 simp only [Sem.run_bind,g1,Result.andThen_ok,Bool.false_eq_true,if_false]
 rfl
theorem tSS_spec {t:TypeId} (ht:tSS P t=true):P.stoodInHeld t=false∧P.eqGuardType P.depth t=false∧P.underlying t=some (.struct (P.fieldsOf t))∧∃f g,(P.fieldsOf t).toList=[f,g]∧f.name≠ "_" ∧g.name≠ "_" ∧f.offset=0∧g.offset=1∧P.underlying f.type=some .string∧P.underlying g.type=some .string:=by
 unfold tSS at ht
 simp only [Bool.and_eq_true,Bool.not_eq_true'] at ht
 obtain⟨⟨⟨h1,h2⟩,h4⟩,h3⟩:=ht
 refine⟨h1,h2,isStr_spec h4,?_⟩
 split at h3
 ·rename_i f g hfg
  simp only [Bool.and_eq_true,bne_iff_ne,ne_eq,beq_iff_eq] at h3
  obtain⟨⟨⟨⟨⟨n1,n2⟩,o1⟩,o2⟩,u1⟩,u2⟩:=h3
  exact⟨f,g,hfg,n1,n2,o1,o2,isStg_spec u1,isStg_spec u2⟩
 ·cases h3
theorem sb_list (a c:BS):((sB a).toList==(sB c).toList)=decide (a=c):=by
 have:=sb_strEq a c
 unfold strEq at this
 rw [show sB a=⟨a.toArray⟩ from rfl,show sB c=⟨c.toArray⟩ from rfl,this,Bool.eq_iff_iff];simp
theorem tSS_run {t:TypeId} (ht:tSS P t=true) (a c b d:BS) (w:World):(Op.equalIn 10000 t (.agg #[.string (sB a),.string (sB b)]) (.agg #[.string (sB c),.string (sB d)])).run P w=.ok (decide (a=c∧b=d)) w:=by
 obtain⟨h1,_,hu,f,g,hfg,n1,n2,o1,o2,u1,u2⟩:=tSS_spec ht
 rw [show(10000:Nat)=9999+1 from rfl,run_equalIn_agg w 9999 t _ _ hu h1,hfg]
 have e1:(Op.equalIn 9999 f.type (.string (sB a)) (.string (sB c))).run P w=.ok ((sB a).toList==(sB c).toList) w:=run_equalIn_string w 9998 f.type _ _ u1
 have e2:(Op.equalIn 9999 g.type (.string (sB b)) (.string (sB d))).run P w=.ok ((sB b).toList==(sB d).toList) w:=run_equalIn_string w 9998 g.type _ _ u2
 simp only [Op.eqFields,n1,n2,not_false_eq_true,if_true,Sem.run_bind,o1,o2,part_str0 u1,part_str1 u2,e1,e2,Result.andThen_ok,sb_list,ne_eq]
 by_cases hac:a=c
 ·subst hac
  by_cases hbd:b=d
  ·subst hbd;simp [part_str1 u2,e2,sb_list]
  ·have e3:(decide (b=d))=false:=decide_eq_false hbd
   simp [part_str1 u2,e2,sb_list,hbd]
 ·simp [hac]
def keySS (p:BS×BS):Value:=.agg #[.string (sB p.1),.string (sB p.2)]
theorem keySS_ok {kt:TypeId} (ht:tSS P kt=true):KeyOk P kt keySS:=by
 obtain⟨h1,h2,hu,f,g,hfg,n1,n2,o1,o2,u1,u2⟩:=tSS_spec ht
 have heq:∀(a b:BS×BS) (w:World),(Op.equal kt (keySS a) (keySS b)).run P w=.ok (decide (a=b)) w:=fun a b w=>by
  have:=tSS_run ht a.1 b.1 a.2 b.2 w
  unfold Op.equal Op.maxDepth keySS
  rw [this]
  congr 1
  rw [Bool.eq_iff_iff];simp [Prod.ext_iff]
 refine⟨fun b a w=> ?_,fun a ks es w h=> ?_⟩
 ·unfold keySS
  rw [show(10000:Nat)=9999+1 from rfl,Instr.checkKey]
  simp only [Sem.run_bind,run_underlying hu,Result.andThen_ok]
  rw [←Array.forIn_toList,hfg]
  have c0:∀(n:Nat) (t:TypeId) (s:ByteArray),P.underlying t=some .string→(Instr.checkKey b (n+1) t (.string s)).run P w=.ok () w:=fun n t s u=>by simp [Instr.checkKey,run_underlying u]
  have c1:=c0 9998 f.type (sB a.1) u1
  have c2:=c0 9998 g.type (sB a.2) u2
  simp only [List.forIn_cons,List.forIn_nil,n1,n2,not_false_eq_true,if_true,ne_eq,o1,o2,Sem.run_bind,part_str0 u1,part_str1 u2,Result.andThen_ok,Sem.run_pure,c1,c2]
 ·unfold Instr.findKey
  simp only [Sem.run_bind,run_underlying hu,Result.andThen_ok]
  cases es with
  |nil=>
   cases ks with
   |nil=>simp [Instr.findNow,fAsk]
   |cons k ks=>simp at h
  |cons e es=>
   have hn:Instr.findNow (.struct (P.fieldsOf kt)) (keySS a) (e::es) 0=none:=by
    simp [Instr.findNow,Instr.sameNow]
   rw [hn]
   exact run_findAsking heq a ks (e::es) 0 w h
end
end Go.AI
namespace Go.AI
section
variable {E : Env} {K : List It} {σ σ' : Sl} {h : Heap} {all rest : List Oper} {o : Oper}
theorem lenMap_run {P:Program} {α:Type} {Kf:α→Value} {t kt et:TypeId} {kv:List (α×Value)} {x:Operand} {e:Operand→Value} {g:Nat} {w:World} {es:Array MapEntry} {c:Nat} (hop:o.op=.call {callee:=.builtin .len,args:= #[x],argTypes:= #[t]}) (ht:tMap P t=some (kt,et)) (hx:e x=.map (some g)) (hb:w.heap[g]?=some (.map es c))
  (hes:es.toList.map (fun e=>(e.key,e.val))=kv.map (fun p=>(Kf p.1,p.2))):(execOp e o).run P w=.ok (.value (.int .i64 (kv.length:Int))) w:=by
 have hl:es.size=kv.length:=by
  have:=congrArg List.length hes
  simpa using this
 simp [execOp,hop,resolve,invoke,Go.builtin,Builtin.len_,hx,run_underlying (tMap_spec ht),runGet hb,goInt,hl]
end
end Go.AI
namespace Go.AI
open Go.PN
def MapO {α:Type} (K:α→Value) (kv:List (α×Value)) (o:Obj):Prop:=∃es c,o=.map es c∧es.toList.map (fun e=>(e.key,e.val))=kv.map (fun p=>(K p.1,p.2))∧(es.toList.map (·.born)).Nodup∧∀e∈es.toList,e.born<c
def MapB {α:Type} (K:α→Value) (kb:List (α×Value×Nat)) (c:Nat) (o:Obj):Prop:=∃es,o=.map es c∧es.toList.map (fun e=>(e.key,e.val,e.born))=kb.map (fun p=>(K p.1,p.2.1,p.2.2))
theorem MapO.I {α:Type} {K:α→Value} {kv:List (α×Value)} {o:Obj} (h:MapO K kv o):MapI K kv o:=by
 obtain⟨es,c,h1,h2,_⟩:=h
 exact⟨es,c,h1,h2⟩
theorem stamps {α:Type} {K:α→Value}:∀{kv:List (α×Value)} {es:List MapEntry},es.map (fun e=>(e.key,e.val))=kv.map (fun p=>(K p.1,p.2))→∃kb:List (α×Value×Nat),kb.map (fun p=>(p.1,p.2.1))=kv∧es.map (fun e=>(e.key,e.val,e.born))=kb.map (fun p=>(K p.1,p.2.1,p.2.2))
 |[],[],_=>⟨[],rfl,rfl⟩
 |[],_::_,h=>by cases h
 |_::_,[],h=>by cases h
 |p::kv,e::es,h=>by
  simp only [List.map_cons,List.cons.injEq,Prod.mk.injEq] at h
  obtain⟨kb,h1,h2⟩:=stamps (kv:=kv) (es:=es) h.2
  refine⟨(p.1,p.2,e.born)::kb,by rw [List.map_cons,h1],?_⟩
  rw [List.map_cons,List.map_cons,h2,h.1.1,h.1.2]
theorem MapO.B {α:Type} {K:α→Value} {kv:List (α×Value)} {o:Obj} (h:MapO K kv o):∃kb c,MapB K kb c o∧kb.map (fun p=>(p.1,p.2.1))=kv∧(kb.map (·.2.2)).Nodup∧∀p∈kb,p.2.2<c:=by
 obtain⟨es,c,h1,h2,h3,h4⟩:=h
 obtain⟨kb,e1,e2⟩:=stamps h2
 have e3:es.toList.map (·.born)=kb.map (·.2.2):=by
  have:=congrArg (List.map fun x:Value×Value×Nat=>x.2.2) e2
  rw [List.map_map,List.map_map] at this
  exact this
 refine⟨kb,c,⟨es,h1,e2⟩,e1,by rw [←e3];exact h3,fun p hp=> ?_⟩
 have hm:p.2.2∈es.toList.map (·.born):=by rw [e3];exact List.mem_map.2 ⟨p,hp,rfl⟩
 obtain⟨e,he,e4⟩:=List.mem_map.1 hm
 have:=h4 e he
 omega
def tZS (P:Program) (t:TypeId):Bool:=match (P.info? t).bind (·.zero) with
 |some (.string s)=>s.size==0
 |_=>false
theorem tZS_run {P:Program} {t:TypeId} (h:tZS P t=true) (w:World):(zeroValue t).run P w=.ok (.string (sB [])) w:=by
 unfold tZS at h
 cases hi:P.info? t with
 |none=>simp [hi] at h
 |some i=>
  cases hz:i.zero with
  |none=>simp [hi,hz] at h
  |some v=>
   simp only [hi,hz,Option.bind_some] at h
   split at h
   ·rename_i s he
    injection he with he
    subst he
    have e:s=sB []:=by
     have h0:s.size=0:=beq_iff_eq.1 h
     obtain⟨d⟩:=s
     have:d= #[]:=Array.eq_empty_of_size_eq_zero h0
     rw [this]
    subst e
    simp [zeroValue,typeInfo,hi,hz]
   ·cases h
section
variable {E : Env} {K : List It} {σ σ' : Sl} {h : Heap} {all rest : List Oper} {o : Oper}
theorem aw_makeMapO {α:Type} (Kf:α→Value) {t:TypeId} (hop:o.op=.makeMap t none) (hw:wantA all σ o=some true) (hd:dstOk E.N o.dst=true)
  (k:∀g,g∉h.keys→aw E (.ops all rest::K) (σ.setO o.dst (.c (.raw (.map (some g))))) ((g,.gen (MapO Kf []))::h)):aw E (.ops all (o::rest)::K) σ h:=by
 refine aw_new (r:=fun g=>.c (.raw (.map (some g)))) (ob:=.gen (MapO Kf [])) hw hd (fun a w s=> ?_) k
 refine⟨.map (some w.heap.size),w.alloc (.map #[] 0),?_,Fr.alloc _ _ _,by simp,⟨_,heap_alloc_new w _, #[],0,rfl,rfl,List.nodup_nil,fun e he=>by simp at he⟩,rfl⟩
 simp only [execOp,hop]
 rfl
theorem lookup2_run {P:Program} {α:Type} [DecidableEq α] {Kf:α→Value} {t kt et g:TypeId} {kv:List (α×Value)} {x ky:Operand} {e:Operand→Value} {a:α} {z:Value} {w:World} {o:Oper} {es:Array MapEntry} {c:Nat} (hop:o.op=.lookup t x ky true)
  (ht:tMap P t=some (kt,et)) (hK:KeyOk P kt Kf) (hz:∀w,(zeroValue et).run P w=.ok z w) (hx:e x=.map (some g)) (hk:e ky=Kf a) (hb:w.heap[g]?=some (.map es c)) (hes:es.toList.map (fun e=>(e.key,e.val))=kv.map (fun p=>(Kf p.1,p.2))):
  (execOp e o).run P w=.ok (.value (.tuple #[(kvGet a kv).getD z,.bool (kvGet a kv).isSome])) w:=by
 have hkeys:es.toList.map (·.key)=(kv.map (·.1)).map Kf:=by
  have:=congrArg (List.map Prod.fst) hes
  rw [List.map_map,List.map_map] at this
  rw [List.map_map]
  exact this
 have hfind:=hK.find a (kv.map (·.1)) es.toList w hkeys
 have hget:=fAsk_get (K:=Kf) a kv es.toList 0 hes
 have hlk:(Instr.lookup t (e x) (e ky) true).run P w=.ok (.tuple #[(kvGet a kv).getD z,.bool (kvGet a kv).isSome]) w:=by
  rw [hx,hk]
  unfold Instr.lookup
  simp only [Sem.run_bind,run_underlying (tMap_spec ht),Result.andThen_ok,runGet hb,Sem.run_pure,hK.check,hfind]
  rw [←hget]
  cases hf:fAsk a (kv.map (·.1)) es.toList 0 with
  |none=>simp [hz]
  |some p=>obtain⟨i,v⟩:=p;simp
 simp only [execOp,hop,Sem.run_bind,hlk,Result.andThen_ok]
 rfl
theorem POk.lookupO {P:Program} {h:Heap} {ρ:Operand→AV} {α:Type} [DecidableEq α] {Kf:α→Value} {t kt et g:TypeId} {kv:List (α×Value)} {x ky:Operand} {ck:AV} {a:α} {z:Value}
  (ht:tMap P t=some (kt,et)) (hK:KeyOk P kt Kf) (hz:∀w,(zeroValue et).run P w=.ok z w) (hx:ρ x=.c (.raw (.map (some g)))) (hg:h.get g=some (.gen (MapO Kf kv))) (hk:ρ ky=ck) (hka:∀S w v,Rep S w ck v→v=Kf a):
  POk P h ρ (.lookup t x ky true) (.tup [.c (cstC ((kvGet a kv).getD z)),.c (.bool (kvGet a kv).isSome)]):=fun S w e _ ho hh=>by
 have h1:e x=.map (some g):=by have:=ho x (by simp [Op.operands]);rw [hx] at this;exact this
 have h2:e ky=Kf a:=by have:=ho ky (by simp [Op.operands]);rw [hk] at this;exact hka _ _ _ this
 obtain⟨ob,hb,hO⟩:=hh g _ (Heap.get_mem hg)
 obtain⟨es,c,rfl,hes⟩:=MapO.I hO
 exact⟨_,fun o hop=>lookup2_run hop ht hK hz h1 h2 hb hes,⟨[_,_],rfl,cstC_rep _ _ _,rfl,trivial⟩⟩
theorem POk.lenO {P:Program} {h:Heap} {ρ:Operand→AV} {α:Type} {Kf:α→Value} {t kt et g:TypeId} {kv:List (α×Value)} {x:Operand} (ht:tMap P t=some (kt,et)) (hx:ρ x=.c (.raw (.map (some g)))) (hg:h.get g=some (.gen (MapO Kf kv))):
  POk P h ρ (.call {callee:=.builtin .len,args:= #[x],argTypes:= #[t]}) (.c (.int .i64 (kv.length:Int))):=fun S w e _ ho hh=>by
 have h1:e x=.map (some g):=by have:=ho x (by simp [Op.operands,Call.operands]);rw [hx] at this;exact this
 obtain⟨ob,hb,hO⟩:=hh g _ (Heap.get_mem hg)
 obtain⟨es,c,rfl,hes⟩:=MapO.I hO
 exact⟨_,fun o hop=>lenMap_run hop ht h1 hb hes,rfl⟩
theorem keySS_rep (t q:BS):∀S w v,Rep S w (.agg [.str (sB t),.str (sB q)]) v→v=keySS (t,q):=fun S w v hr=>by
 obtain⟨us,rfl,hl⟩:=hr
 match us,hl with
 |[a,b],hl=>
  have h1:a=.string (sB t):=hl.1
  have h2:b=.string (sB q):=hl.2.1
  rw [h1,h2];rfl
 |[],hl=>exact hl.elim
 |[_],hl=>exact hl.2.elim
 |_::_::_::_,hl=>exact hl.2.2.elim
theorem str_repV (l:BS):∀S w v,Rep S w (.c (.str (sB l))) v→v=Value.string (sB l):=fun _ _ _ h=>h
theorem sameB_str (n:Nat) (a:ByteArray):Instr.sameBits n (.string a) (.string a)=true:=by
 have h:(a==a)=true:=by rw [sb_of a,sb_beq];exact decide_eq_true rfl
 cases n<;>(unfold Instr.sameBits;exact h)
theorem keySS_bits (p:BS×BS):Instr.sameBits 10000 (keySS p) (keySS p)=true:=by
 show Instr.sameBits (9999+1) (.agg #[.string (sB p.1),.string (sB p.2)]) (.agg #[.string (sB p.1),.string (sB p.2)])=true
 unfold Instr.sameBits
 simp [sameB_str]
def kvPut {α:Type} [DecidableEq α] (a:α) (v:Value) (kv:List (α×Value)):List (α×Value):=if(kvGet a kv).isSome then kvSet a v kv else kv++[(a,v)]
theorem aw_mapPutO {α:Type} [DecidableEq α] {Kf:α→Value} {t kt et g:TypeId} {kv:List (α×Value)} {x ky vl:Operand} {ck cv:AV} {a:α} {v:Value} (hop:o.op=.mapUpdate t x ky vl) (hdn:o.dst=none) (hw:wantA all σ o=some true)
  (ht:tMap E.P t=some (kt,et)) (hK:KeyOk E.P kt Kf) (hsb:Instr.sameBits 10000 (Kf a) (Kf a)=true) (hx:ev σ x=.c (.raw (.map (some g)))) (hg:h.get g=some (.gen (MapO Kf kv))) (hk:ev σ ky=ck) (hka:∀S w u,Rep S w ck u→u=Kf a) (hv:ev σ vl=cv) (hva:∀S w u,Rep S w cv u→u=v)
  {h':Heap} (hh:h.set g (.gen (MapO Kf (kvPut a v kv)))=h') (k:aw E (.ops all rest::K) σ h'):aw E (.ops all (o::rest)::K) σ h:=by
 subst hh
 refine aw_step hw (fun ac w s=> ?_) k
 have h1:=ev_rep s x
 rw [hx] at h1
 have h1':ac.eval x=.map (some g):=h1
 have h2:=ev_rep s ky
 rw [hk] at h2
 have h2':=hka _ _ _ h2
 have h3:=ev_rep s vl
 rw [hv] at h3
 have h3':=hva _ _ _ h3
 obtain⟨ob,hb,es,c,rfl,hes,hnd,hlt⟩:=s.heap g _ (Heap.get_mem hg)
 have hkeys:es.toList.map (·.key)=(kv.map (·.1)).map Kf:=by
  have:=congrArg (List.map Prod.fst) hes
  rw [List.map_map,List.map_map] at this
  rw [List.map_map]
  exact this
 have hfind:=hK.find a (kv.map (·.1)) es.toList w hkeys
 have hget:=fAsk_get (K:=Kf) a kv es.toList 0 hes
 have hgl:g<w.heap.size:=(Array.getElem?_eq_some_iff.1 hb).1
 have hfr:∀(es':Array MapEntry) (c':Nat),Fr (fun b=>b=g) w {w with heap:=w.heap.setIfInBounds g (.map es' c')}:=fun es' c'=>by
  refine⟨rfl,rfl,rfl,by simp,Nat.le_refl _,fun b _ hne=> ?_,fun g' m hh=> ?_⟩
  ·dsimp only;rw [Array.getElem?_setIfInBounds_ne (fun e=>hne e.symm)]
  ·obtain⟨cs,ty,⟨fr,hc⟩,hs⟩:=hh
   refine⟨cs,ty,⟨fr,?_⟩,hs⟩
   have hne:g'≠g:=fun e=>by rw [e,hb] at hc;cases hc
   dsimp only
   rw [Array.getElem?_setIfInBounds_ne (fun e=>hne e.symm)];exact hc
 cases hf:fAsk a (kv.map (·.1)) es.toList 0 with
 |none=>
  have hnew:kvGet a kv=none:=by rw [hf] at hget;exact hget.symm
  have hrun:(Instr.mapUpdate t (ac.eval x) (ac.eval ky) (ac.eval vl)).run E.P w=.ok () {w with heap:=w.heap.setIfInBounds g (.map (es.push {key:=Kf a,val:=v,born:=c}) (c+1))}:=by
   rw [h1',h2',h3']
   unfold Instr.mapUpdate
   simp only [Sem.run_bind,run_underlying (tMap_spec ht),Result.andThen_ok,runGet hb,hK.check,hfind,hf,runSet _ hb]
  refine⟨undef,{w with heap:=w.heap.setIfInBounds g (.map (es.push {key:=Kf a,val:=v,born:=c}) (c+1))},.inr ⟨?_,rfl⟩,?_⟩
  ·simp only [execOp,hop,Sem.run_bind,hrun,Result.andThen_ok]
   rfl
  ·rw [hdn]
   refine s.setObj hg (hfr _ _) ⟨_,by dsimp only;rw [Array.getElem?_setIfInBounds_self_of_lt hgl],_,_,rfl,?_,?_,?_⟩
   ·unfold kvPut
    rw [hnew]
    simp only [Array.toList_push,List.map_append,List.map_cons,List.map_nil,hes,Option.isSome_none,Bool.false_eq_true,if_false]
   ·simp only [Array.toList_push,List.map_append,List.map_cons,List.map_nil]
    refine List.nodup_append.2 ⟨hnd,List.nodup_cons.2 ⟨List.not_mem_nil,List.nodup_nil⟩,fun b hb c' hc' e=> ?_⟩
    obtain⟨x',hx',e'⟩:=List.mem_map.1 hb
    have:=hlt x' hx'
    rw [List.mem_singleton] at hc'
    omega
   ·intro e he
    rw [Array.toList_push,List.mem_append,List.mem_singleton] at he
    rcases he with he|rfl
    ·have:=hlt e he;omega
    ·exact Nat.lt_succ_self c
 |some p=>
  obtain⟨i,y⟩:=p
  have hold:(kvGet a kv).isSome=true:=by rw [←hget,hf];rfl
  obtain⟨j,hj,hkj,hmod⟩:=modSpec (K:=Kf) a v kv es.toList 0 i y hes hf
  rw [Nat.zero_add] at hj
  subst hj
  have hki:((es[i]?).map (·.key)).getD (Kf a)=Kf a:=by
   rw [←Array.getElem?_toList,hkj];rfl
  have hrun:(Instr.mapUpdate t (ac.eval x) (ac.eval ky) (ac.eval vl)).run E.P w=.ok () {w with heap:=w.heap.setIfInBounds g (.map (es.modify i fun e=>{e with key:=Kf a,val:=v}) c)}:=by
   rw [h1',h2',h3']
   unfold Instr.mapUpdate
   simp only [Sem.run_bind,run_underlying (tMap_spec ht),Result.andThen_ok,runGet hb,hK.check,hfind,hf,hki]
   unfold Instr.keyThatStays
   rw [if_pos hsb]
   simp only [Sem.run_pure,Result.andThen_ok,runSet _ hb]
  have hborn:(es.modify i fun e=>{e with key:=Kf a,val:=v}).toList.map (·.born)=es.toList.map (·.born):=by
   rw [Array.toList_modify]
   apply List.ext_getElem?
   intro n
   rw [List.getElem?_map,List.getElem?_map,List.getElem?_modify]
   cases es.toList[n]? with
   |none=>rfl
   |some q=>simp only [Option.map_some];split<;>rfl
  refine⟨undef,{w with heap:=w.heap.setIfInBounds g (.map (es.modify i fun e=>{e with key:=Kf a,val:=v}) c)},.inr ⟨?_,rfl⟩,?_⟩
  ·simp only [execOp,hop,Sem.run_bind,hrun,Result.andThen_ok]
   rfl
  ·rw [hdn]
   refine s.setObj hg (hfr _ _) ⟨_,by dsimp only;rw [Array.getElem?_setIfInBounds_self_of_lt hgl],_,_,rfl,?_,?_,?_⟩
   ·unfold kvPut
    rw [if_pos hold,Array.toList_modify]
    exact hmod
   ·rw [hborn];exact hnd
   ·intro e he
    have hm:e.born∈es.toList.map (·.born):=hborn▸List.mem_map.2 ⟨e,he,rfl⟩
    obtain⟨e',he',e2⟩:=List.mem_map.1 hm
    rw [←e2]
    exact hlt e' he'
end
end Go.AI
namespace Go.AI
open Go.PN
def delB {α:Type} [DecidableEq α] (a:α):List (α×Value×Nat)→List (α×Value×Nat)
 |[]=>[]
 |p::kb=>if a=p.1 then kb else p::delB a kb
end Go.AI
namespace Go.PN
open Go.AI
abbrev EnD:=BS×BS×BS
def kvOf (es:List EnD):List ((BS×BS)×Value):=es.map fun e=>((e.1,e.2.1),Value.string (sB e.2.2))
def getS (t q:BS):List EnD→Option BS
 |[]=>none
 |e::es=>if(t,q)=(e.1,e.2.1) then some e.2.2 else getS t q es
def setS (t q r:BS):List EnD→List EnD
 |[]=>[]
 |e::es=>if(t,q)=(e.1,e.2.1) then(e.1,e.2.1,r)::es else e::setS t q r es
def putS (t q r:BS) (es:List EnD):List EnD:=if(getS t q es).isSome then setS t q r es else es++[(t,q,r)]
theorem kv_get (t q:BS):∀es:List EnD,kvGet (t,q) (kvOf es)=(getS t q es).map fun r=>Value.string (sB r)
 |[]=>rfl
 |e::es=>by
  show(if(t,q)=(e.1,e.2.1) then some (Value.string (sB e.2.2)) else kvGet (t,q) (kvOf es))=_
  rw [getS,kv_get t q es]
  split<;>rfl
theorem kv_set (t q r:BS):∀es:List EnD,kvSet (t,q) (Value.string (sB r)) (kvOf es)=kvOf (setS t q r es)
 |[]=>rfl
 |e::es=>by
  show(if(t,q)=(e.1,e.2.1) then((e.1,e.2.1),Value.string (sB r))::kvOf es else((e.1,e.2.1),Value.string (sB e.2.2))::kvSet (t,q) (Value.string (sB r)) (kvOf es))=_
  rw [setS,kv_set t q r es]
  split<;>rfl
theorem kv_put (t q r:BS) (es:List EnD):kvPut (t,q) (Value.string (sB r)) (kvOf es)=kvOf (putS t q r es):=by
 unfold kvPut putS
 rw [kv_get,kv_set]
 cases getS t q es with
 |none=>simp [kvOf]
 |some x=>rfl
theorem kv_len (es:List EnD):(kvOf es).length=es.length:=by unfold kvOf;simp
def KeyN (es:List EnD):Prop:=(es.map fun e=>(e.1,e.2.1)).Nodup
theorem get_mem {t q r:BS}:∀{es:List EnD},KeyN es→(t,q,r)∈es→getS t q es=some r
 |e::es,hn,h=>by
  rw [getS]
  have hn':=List.nodup_cons.1 (show((e.1,e.2.1)::es.map fun e=>(e.1,e.2.1)).Nodup from hn)
  rcases List.mem_cons.1 h with rfl|h
  ·rw [if_pos rfl]
  ·rw [if_neg]
   ·exact get_mem hn'.2 h
   ·intro e'
    exact hn'.1 (e'▸List.mem_map.2 ⟨_,h,rfl⟩)
abbrev KB:=List ((BS×BS)×Value×Nat)
structure DropI (t:BS) (kb0 kb:KB) (seen:List Nat) (n:Nat):Prop where
 sub:kb.Sublist kb0
 stay:∀p∈kb0,p.1.1≠t→p∈kb
 gone:∀p∈kb,p.1.1=t→p.2.2∉seen
 len:n+kb.length=kb0.length
 nodup:seen.Nodup
 from':∀x∈seen,x∈kb0.map (·.2.2)
theorem DropI.zero (t:BS) (kb:KB):DropI t kb kb [] 0:=⟨List.Sublist.refl _,fun _ h _=>h,fun _ _ _=>List.not_mem_nil,Nat.zero_add _,List.nodup_nil,fun _ h=>by cases h⟩
theorem stamp_eq {kb:KB} (hn:(kb.map (·.2.2)).Nodup):∀{p q},p∈kb→q∈kb→p.2.2=q.2.2→p=q:=by
 induction kb with
 |nil=>intro p q hp;cases hp
 |cons x kb ih=>
  intro p q hp hq e
  have hn':=List.nodup_cons.1 (show(x.2.2::kb.map (·.2.2)).Nodup from hn)
  rcases List.mem_cons.1 hp with h1|h1<;>rcases List.mem_cons.1 hq with h2|h2
  ·rw [h1,h2]
  ·exact absurd (List.mem_map.2 ⟨q,h2,by rw [←e,h1]⟩) hn'.1
  ·exact absurd (List.mem_map.2 ⟨p,h1,by rw [e,h2]⟩) hn'.1
  ·exact ih hn'.2 h1 h2 e
theorem delB_sub (a:BS×BS):∀kb:KB,(delB a kb).Sublist kb
 |[]=>List.Sublist.refl _
 |p::kb=>by
  rw [delB]
  split
  ·exact List.sublist_cons_self _ _
  ·exact(delB_sub a kb).cons_cons _
theorem delB_mem (a:BS×BS):∀{kb:KB} {p},p∈kb→p.1≠a→p∈delB a kb
 |q::kb,p,hp,hne=>by
  rw [delB]
  rcases List.mem_cons.1 hp with rfl|hp
  ·rw [if_neg (fun e=>hne e.symm)];exact List.mem_cons_self
  ·split
   ·exact hp
   ·exact List.mem_cons_of_mem _ (delB_mem a hp hne)
theorem delB_not {a:BS×BS}:∀{kb:KB},(kb.map (·.1)).Nodup→∀p∈delB a kb,p.1≠a
 |[],_,p,hp=>by cases hp
 |q::kb,hn,p,hp=>by
  have hn':=List.nodup_cons.1 (show(q.1::kb.map (·.1)).Nodup from hn)
  rw [delB] at hp
  split at hp
  ·rename_i ha
   intro e
   exact hn'.1 (ha▸e▸List.mem_map.2 ⟨p,hp,rfl⟩)
  ·rename_i ha
   rcases List.mem_cons.1 hp with rfl|hp
   ·exact fun e=>ha e.symm
   ·exact delB_not hn'.2 p hp
theorem delB_len {a:BS×BS}:∀{kb:KB},a∈kb.map (·.1)→(delB a kb).length+1=kb.length
 |q::kb,h=>by
  rw [delB]
  split
  ·rfl
  ·rename_i ha
   rcases List.mem_cons.1 (show a∈q.1::kb.map (·.1) from h) with e|h
   ·exact absurd e ha
   ·have:=delB_len h
    simp only [List.length_cons]
    omega
theorem nodup_snoc {α:Type} {l:List α} {x:α} (h:l.Nodup) (hx:x∉l):(l++[x]).Nodup:=List.nodup_append.2 ⟨h,List.nodup_cons.2 ⟨List.not_mem_nil,List.nodup_nil⟩,fun a ha b hb e=>by
 rw [List.mem_singleton] at hb
 exact hx (hb▸e▸ha)⟩
theorem DropI.del {t:BS} {kb0 kb:KB} {seen:List Nat} {n:Nat} (h:DropI t kb0 kb seen n) (hs:(kb0.map (·.2.2)).Nodup) (hk:(kb0.map (·.1)).Nodup) {p:(BS×BS)×Value×Nat} (hp:p∈kb) (hns:p.2.2∉seen) (ht:p.1.1=t):DropI t kb0 (delB p.1 kb) (seen++[p.2.2]) (n+1):=by
 have hkb:(kb.map (·.1)).Nodup:=hk.sublist (h.sub.map _)
 refine⟨(delB_sub _ _).trans h.sub,fun q hq hq1=>delB_mem _ (h.stay q hq hq1) (fun e=>hq1 (e▸ht)),fun q hq hq1 hm=> ?_,?_,nodup_snoc h.nodup hns,fun x hx=> ?_⟩
 ·have hq2:=(delB_sub p.1 kb).subset hq
  rcases List.mem_append.1 hm with hm|hm
  ·exact h.gone q hq2 hq1 hm
  ·rw [List.mem_singleton] at hm
   have:=stamp_eq hs (h.sub.subset hq2) (h.sub.subset hp) hm
   exact delB_not hkb q hq (this▸rfl)
 ·have:=delB_len (a:=p.1) (kb:=kb) (List.mem_map.2 ⟨p,hp,rfl⟩)
  have:=h.len
  omega
 ·rcases List.mem_append.1 hx with hx|hx
  ·exact h.from' x hx
  ·rw [List.mem_singleton] at hx
   exact hx▸List.mem_map.2 ⟨p,h.sub.subset hp,rfl⟩
theorem DropI.keep {t:BS} {kb0 kb:KB} {seen:List Nat} {n:Nat} (h:DropI t kb0 kb seen n) (hs:(kb0.map (·.2.2)).Nodup) {p:(BS×BS)×Value×Nat} (hp:p∈kb) (hns:p.2.2∉seen) (ht:p.1.1≠t):DropI t kb0 kb (seen++[p.2.2]) n:=by
 refine⟨h.sub,h.stay,fun q hq hq1 hm=> ?_,h.len,nodup_snoc h.nodup hns,fun x hx=> ?_⟩
 ·rcases List.mem_append.1 hm with hm|hm
  ·exact h.gone q hq hq1 hm
  ·rw [List.mem_singleton] at hm
   have:=stamp_eq hs (h.sub.subset hq) (h.sub.subset hp) hm
   exact ht (this▸hq1)
 ·rcases List.mem_append.1 hx with hx|hx
  ·exact h.from' x hx
  ·rw [List.mem_singleton] at hx
   exact hx▸List.mem_map.2 ⟨p,h.sub.subset hp,rfl⟩
theorem DropI.fin {t:BS} {kb0 kb:KB} {seen:List Nat} {n:Nat} (h:DropI t kb0 kb seen n) (hs:(kb0.map (·.2.2)).Nodup) (ha:∀p∈kb,p.2.2∈seen):kb=kb0.filter fun p=>p.1.1≠t:=by
 have h1:∀p∈kb,p.1.1≠t:=fun p hp e=>h.gone p hp e (ha p hp)
 have h2:kb.Sublist (kb0.filter fun p=>p.1.1≠t):=by
  have:=h.sub.filter fun p=>decide (p.1.1≠t)
  rwa [List.filter_eq_self.2 (fun p hp=>by simpa using h1 p hp)] at this
 have hle:(kb0.filter fun p=>p.1.1≠t).length≤kb.length:=by
  have e1:((kb0.filter fun p=>p.1.1≠t).map (·.2.2)).length≤(kb.map (·.2.2)).length:=nodup_len (hs.sublist ((List.filter_sublist).map _)) fun x hx=>by
   obtain⟨p,hp,e⟩:=List.mem_map.1 hx
   have hp':=List.mem_filter.1 hp
   exact List.mem_map.2 ⟨p,h.stay p hp'.1 (by simpa using hp'.2),e⟩
  simpa using e1
 exact h2.eq_of_length_le hle
end Go.PN
