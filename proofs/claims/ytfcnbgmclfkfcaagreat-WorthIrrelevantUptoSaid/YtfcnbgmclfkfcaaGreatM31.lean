/- Parts of one proof, laid by a program. -/
import Derived.Test.YtfcnbgmclfkfcaaGreatM00
import Derived.Test.YtfcnbgmclfkfcaaGreatM30
set_option linter.unusedSimpArgs false
set_option linter.unusedVariables false
namespace Go.Proofs.YtfcnbgmclfkfcaaGreat
open Go.AI Go.PN
def allT (c k s:Nat):Bool:=(List.range k).all fun m=> !c.testBit m||s.testBit m
theorem allT_succ (c k s:Nat):allT c (k+1) s=(allT c k s&&(!c.testBit k||s.testBit k)):=by
 unfold allT
 rw [List.range_succ,List.all_append]
 simp
theorem allT_full {c n:Nat} (hc:c<2^n) (s:Nat):allT c n s=subT c s:=by
 rw [Bool.eq_iff_iff,subT_iff]
 unfold allT
 rw [List.all_eq_true]
 constructor
 ·intro h j hj
  have hjn:j<n:=by
   refine Classical.byContradiction fun hn=> ?_
   rw [Nat.testBit_lt_two_pow (Nat.lt_of_lt_of_le hc (Nat.pow_le_pow_right om om))] at hj
   cases hj
  have:=h j (List.mem_range.2 hjn)
  rw [hj] at this
  simpa using this
 ·intro h m hm
  cases hb:c.testBit m with
  |false=>rfl
  |true=>rw [h m hb];rfl
theorem cutsI_take {l:List Nat} {j:Nat} (hj:j<l.length) (i s:Nat):failsB (cutsI (l.take (j+1)) i) s=(failsB (cutsI (l.take j) i) s||((l.getD j 0).testBit i&&subT (l.getD j 0) s)):=by
 unfold cutsI failsB
 rw [ltake hj,List.filter_append,List.any_append]
 cases h:(l.getD j 0).testBit i
 ·rw [List.filter_cons_of_neg (by rw [h];simp)];simp
 ·rw [List.filter_cons_of_pos (by exact h)];simp
theorem prT_wF {ns:List DN} {r:Int} {l:List Nat} {p:List RD} {i n:Nat} (hn:n=p.length) (h:∀s,evalD ns s r=failsB (cutsI l i) s):prT p n ns r=wF l p i:=by
 subst hn
 unfold prT wF
 refine ex_congr _ _ _ fun s _=> ?_
 unfold indQ evB
 simp only [h s]
abbrev exG:FM:=⟨3,[⟨2,0,[1,2]⟩,⟨3,0,[0,3]⟩],4⟩
abbrev exGT:List Bool:=[false,true,false,true,false,true,true,true]
abbrev exGQ:List Rat:=[1/4,1/2,1/2]
abbrev exGP:List RD:=exGQ.map rd
theorem exG_code:fcode exG=0:=by decide+kernel
theorem exG_coh:cohTo exG exG.nodes.length=true:=by decide+kernel
theorem exGT_eq:formTo exG 8=exGT:=by decide+kernel
theorem exG_pc:pcode exGP 3=0:=pcode_rd rfl (by decide+kernel)
theorem exG_ok:WOk exG exGP:=⟨exG_code,exG_coh,exG_pc⟩
theorem exGP_wf:∀r∈exGP,r.wf 4:=by
 intro r hr
 obtain⟨q,hq,rfl⟩:=List.mem_map.1 hr
 refine rd_wf (fits_mono (L:=1) ?_ om)
 simp only [List.mem_cons,List.not_mem_nil,or_false] at hq
 rcases hq with rfl|rfl|rfl<;>exact⟨by decide+kernel,by decide+kernel⟩
theorem exG_argsOk:ArgsOk exG:=fun x hx=>by
 simp at hx
 rcases hx with rfl|rfl<;>decide
theorem exG_v (qs:List Rat) (h:qs.length=3):wV exG (qs.map rd)=smQ qs exGT 8:=by
 rw [←top_wV,List.length_map,h,exGT_eq,sumQ_rd]
theorem exG_set (i:Nat) (a:Rat):wV exG (exGP.set i (rd a))=smQ (exGQ.set i a) exGT 8:=by
 rw [show exGP=exGQ.map rd from rfl,←List.map_set]
 exact exG_v _ (by rw [List.length_set];rfl)
theorem exG_top:wV exG exGP=7/16:=by
 rw [show exGP=exGQ.map rd from rfl,exG_v _ rfl]
 decide+kernel
theorem exG_red:wV exG exGP/wV exG (exGP.set 1 rd0)=7/4:=by
 rw [show rd0=rd 0 from rd0_rd,exG_set,exG_top]
 decide+kernel
theorem exG_ach:achL exG exGP=[rd (16/7),rd (10/7),rd (10/7)]:=by
 have e0:wV exG (exGP.set 0 (rd 1))/wV exG exGP=16/7:=by rw [exG_set,exG_top];decide+kernel
 have e1:wV exG (exGP.set 1 (rd 1))/wV exG exGP=10/7:=by rw [exG_set,exG_top];decide+kernel
 have e2:wV exG (exGP.set 2 (rd 1))/wV exG exGP=10/7:=by rw [exG_set,exG_top];decide+kernel
 show [rd (wV exG (exGP.set 0 (rd 1))/wV exG exGP),rd (wV exG (exGP.set 1 (rd 1))/wV exG exGP),rd (wV exG (exGP.set 2 (rd 1))/wV exG exGP)]=_
 rw [e0,e1,e2]
theorem exG_cuts:cutsF exG=[1,6]:=by
 unfold cutsF
 show sortN (solN (formTo exG 8) 8)=_
 rw [exGT_eq]
 decide+kernel
theorem exG_wF (i:Nat):wF [1,6] exGP i=smQ exGQ (cutT [1,6] i 3) 8:=by
 rw [←cut_sum,show exGP=exGQ.map rd from rfl,List.length_map,sumQ_rd]
 rfl
theorem exG_fus:fusL exG exGP=[rd (4/7),rd (4/7),rd (4/7)]:=by
 unfold fusL
 rw [exG_cuts]
 have e0:wF [1,6] exGP 0/wV exG exGP=4/7:=by rw [exG_wF,exG_top];decide+kernel
 have e1:wF [1,6] exGP 1/wV exG exGP=4/7:=by rw [exG_wF,exG_top];decide+kernel
 have e2:wF [1,6] exGP 2/wV exG exGP=4/7:=by rw [exG_wF,exG_top];decide+kernel
 show [rd (wF [1,6] exGP 0/wV exG exGP),rd (wF [1,6] exGP 1/wV exG exGP),rd (wF [1,6] exGP 2/wV exG exGP)]=_
 rw [e0,e1,e2]
end Go.Proofs.YtfcnbgmclfkfcaaGreat
namespace Go.PN
open Go.AI
theorem bitA (c k:Nat) (hc:c<9223372036854775808) (hk:k≤64):andZ .i64 (shrZ .i64 (c:Int) (k:Int)) 1=((c/2^k%2:Nat):Int):=by
 rw [shrZ_nat c k hk]
 exact and_one_nat _ (Nat.lt_of_le_of_lt (Nat.div_le_self _ _) hc)
theorem bitA1 (c k:Nat) (hc:c<9223372036854775808) (hk:k≤64):(andZ .i64 (shrZ .i64 (c:Int) (k:Int)) 1==1)=c.testBit k:=by
 rw [bitA c k hc hk]
 exact bit_eq c k
theorem bitA0 (c k:Nat) (hc:c<9223372036854775808) (hk:k≤64):(andZ .i64 (shrZ .i64 (c:Int) (k:Int)) 1==0)= !c.testBit k:=by
 rw [bitA c k hc hk,←bit_eq c k]
 rcases Nat.mod_two_eq_zero_or_one (c/2^k) with h|h<;>rw [h]<;>rfl
end Go.PN
namespace Go.Proofs.YtfcnbgmclfkfcaaGreat
open Go.AI Go.PN
attribute [local irreducible] aw Fa Fh DrK
structure WFn (f:FM) (p:List RD):Prop where
 c:fcode f=0
 l:(p.length:Int)=f.vars
 h6:p.length≤6
 w:∀r∈p,r.wf 4
theorem WFn.set {f:FM} {p:List RD} (h:WFn f p) (i:Nat) {q:RD} (hq:q.wf 4):WFn f (p.set i q):=⟨h.c,by rw [List.length_set];exact h.l,by rw [List.length_set];exact h.h6,wf_set h.w i hq⟩
end Go.Proofs.YtfcnbgmclfkfcaaGreat
namespace Go.Proofs.YtfcnbgmclfkfcaaGreat
open Go.AI Go.PN
attribute [local irreducible] aw Fa Fh DrK
theorem cutsF_le {f:FM} (h:f.vars≤6):(cutsF f).length≤64∧∀x∈cutsF f,x<64:=by
 have hp:2^f.vars.toNat≤2^6:=Nat.pow_le_pow_right om om
 unfold cutsF
 refine⟨?_,fun x hx=> ?_⟩
 ·exact Nat.le_trans (sortN_len _) (Nat.le_trans (sol_len_le _ _) om)
 ·have:=sol_ltN (sort_mem.1 hx)
  omega
end Go.Proofs.YtfcnbgmclfkfcaaGreat
namespace Go.AI
def MapV {α:Type} (K:α→Value) (ks:List α) (us:List Value) (o:Obj):Prop:=∃es c,o=.map es c∧es.toList.map (·.key)=ks.map K∧es.toList.map (·.val)=us
def vGet {α:Type} [DecidableEq α] (a:α):List (α×AV)→Option AV
 |[]=>none
 |p::kv=>if a=p.1 then some p.2 else vGet a kv
theorem fAsk_v {α:Type} [DecidableEq α] {S:Bool→Nat→Prop} {w:World} (a:α):∀(kv:List (α×AV)) (es:List MapEntry) (us:List Value) (i:Nat),es.map (·.val)=us→es.length=kv.length→RepT S w (kv.map (·.2)) us→
  match vGet a kv with
  |none=>fAsk a (kv.map (·.1)) es i=none
  |some x=>∃j v,fAsk a (kv.map (·.1)) es i=some (j,v)∧Rep0 S w x v
 |[],[],us,i,h,_,hr=>rfl
 |p::kv,e::es,u::us,i,h,hl,hr=>by
  simp only [List.map_cons,List.cons.injEq] at h
  simp only [List.map_cons,fAsk,vGet]
  by_cases ha:a=p.1
  ·rw [if_pos ha,if_pos ha]
   exact⟨i,e.val,rfl,by rw [h.1];exact hr.1⟩
  ·rw [if_neg ha,if_neg ha]
   exact fAsk_v a kv es us (i+1) h.2 (by simpa using hl) hr.2
 |p::kv,e::es,[],i,h,_,hr=>by simp at h
 |[],e::es,us,i,h,hl,hr=>by simp at hl
 |p::kv,[],us,i,h,hl,hr=>by simp at hl
theorem RepT.snoc {S:Bool→Nat→Prop} {w:World} {x:AV} {u:Value} (hx:Rep0 S w x u):∀{xs:List AV} {us:List Value},RepT S w xs us→RepT S w (xs++[x]) (us++[u])
 |[],[],_=>⟨hx,trivial⟩
 |_::_,_::_,hr=>⟨hr.1,RepT.snoc hx hr.2⟩
 |[],_::_,hr=>hr.elim
 |_::_,[],hr=>hr.elim
theorem RepT.length {S:Bool→Nat→Prop} {w:World}:∀{xs:List AV} {us:List Value},RepT S w xs us→us.length=xs.length
 |[],[],_=>rfl
 |_::_,_::_,hr=>by simp [RepT.length hr.2]
 |[],_::_,hr=>hr.elim
 |_::_,[],hr=>hr.elim
def tupB:AV→Bool
 |.tup _=>true
 |_=>false
theorem rep_of0 {S:Bool→Nat→Prop} {w:World} {x:AV} {v:Value} (hx:tupB x=false):Rep S w x v→Rep0 S w x v:=by
 cases x with
 |c x=>exact id
 |agg cs=>exact id
 |tup xs=>cases hx
section
variable {P : Program}
variable {E : Env} {K : List It} {σ σ' : Sl} {h : Heap} {all rest : List Oper} {o : Oper}
theorem aw_mapV {α:Type} {Kf:α→Value} {g:Nat} {h:Heap} (k:aw E K σ ((g,.vals (MapV Kf []) [])::h)):aw E K σ ((g,.gen (MapI Kf []))::h):=fun a w s=>by
 refine k a w ⟨s.size,s.defers,s.slots,fun g' o' hm=> ?_,s.nodup,s.keys,s.frame⟩
 rcases List.mem_cons.1 hm with e|hm
 ·injection e with e1 e2
  subst e1 e2
  obtain⟨o,hb,es,c,rfl,hes⟩:=s.heap _ _ (List.mem_cons_self ..)
  have hn:es.toList=[]:=by simpa using hes
  exact⟨_,[],hb,trivial,es,c,rfl,by rw [hn];rfl,by rw [hn];rfl⟩
 ·exact s.heap g' o' (List.mem_cons_of_mem _ hm)
def ZeroA (P:Program) (t:TypeId) (z:List CV):Prop:=∃us:List Value,(∀w,(zeroValue t).run P w=.ok (.agg us.toArray) w)∧∀S w,RepL S w z us
def vAns (x:Option AV) (z:List CV):AV:=.tup [x.getD (.agg z),.c (.bool x.isSome)]
theorem lookupV_run {w:World} {N:Nat} {C:Ctx} {ac:Act} {α:Type} [DecidableEq α] {Kf:α→Value} {t kt et g:TypeId} {kv:List (α×AV)} {a:α} {z:List CV} (s:St N C σ h ac w)
 (ht:tMap P t=some (kt,et)) (hK:KeyOk P kt Kf) (hz:ZeroA P et z) (hg:h.get g=some (.vals (MapV Kf (kv.map (·.1))) (kv.map (·.2)))):
 ∃us:List Value,(Instr.lookup t (.map (some g)) (Kf a) true).run P w=.ok (.tuple us.toArray) w∧RepT (Stab C h w) w [(vGet a kv).getD (.agg z),.c (.bool (vGet a kv).isSome)] us:=by
 obtain⟨ob,us,hb,hu,es,c,rfl,hk,hv⟩:=s.heap g _ (Heap.get_mem hg)
 have hlen:es.toList.length=kv.length:=by
  have:=congrArg List.length hk
  simpa using this
 have hfind:=hK.find a (kv.map (·.1)) es.toList w hk
 have hask:=fAsk_v (S:=Stab C h w) (w:=w) a kv es.toList us 0 hv hlen hu
 obtain⟨zs,hz1,hz2⟩:=hz
 cases hg2:vGet a kv with
 |none=>
  rw [hg2] at hask
  refine⟨[.agg zs.toArray,.bool false],?_,⟨⟨zs,rfl,hz2 _ _⟩,rfl,trivial⟩⟩
  unfold Instr.lookup
  simp only [Sem.run_bind,run_underlying (tMap_spec ht),Result.andThen_ok,runGet hb,Sem.run_pure,hK.check,hfind,hask]
  simp [hz1]
 |some x=>
  rw [hg2] at hask
  obtain⟨j,v,hj,hx⟩:=hask
  refine⟨[v,.bool true],?_,⟨hx,rfl,trivial⟩⟩
  unfold Instr.lookup
  simp only [Sem.run_bind,run_underlying (tMap_spec ht),Result.andThen_ok,runGet hb,Sem.run_pure,hK.check,hfind,hj]
  simp
theorem aw_lookupV {α:Type} [DecidableEq α] {Kf:α→Value} {t kt et g:TypeId} {kv:List (α×AV)} {x ky:Operand} {ck:AV} {a:α} {z:List CV} (hop:o.op=.lookup t x ky true) (hw:wantA all σ o=some true) (hd:dstOk E.N o.dst=true)
 (ht:tMap E.P t=some (kt,et)) (hK:KeyOk E.P kt Kf) (hz:ZeroA E.P et z) (hx:ev σ x=.c (.raw (.map (some g)))) (hg:h.get g=some (.vals (MapV Kf (kv.map (·.1))) (kv.map (·.2)))) (hk:ev σ ky=ck) (hka:∀S w v,Rep S w ck v→v=Kf a)
 (k:aw E (.ops all rest::K) (σ.setO o.dst (vAns (vGet a kv) z)) h):aw E (.ops all (o::rest)::K) σ h:=by
 refine aw_step hw (fun ac w s=> ?_) k
 have h1:=ev_rep s x
 rw [hx] at h1
 have h1':ac.eval x=.map (some g):=h1
 have h2:=ev_rep s ky
 rw [hk] at h2
 have h2':=hka _ _ _ h2
 obtain⟨us,hr,hu⟩:=lookupV_run (a:=a) s ht hK hz hg
 refine⟨.tuple us.toArray,w,.inl ?_,s.put hd ⟨us,rfl,hu⟩⟩
 simp only [execOp,hop,Sem.run_bind,h1',h2',hr,Result.andThen_ok]
 rfl
theorem aw_mapNewV {α:Type} [DecidableEq α] {Kf:α→Value} {t kt et g:TypeId} {kv:List (α×AV)} {x ky vl:Operand} {ck cv:AV} {a:α} (hop:o.op=.mapUpdate t x ky vl) (hdn:o.dst=none) (hw:wantA all σ o=some true)
 (ht:tMap E.P t=some (kt,et)) (hK:KeyOk E.P kt Kf) (hx:ev σ x=.c (.raw (.map (some g)))) (hg:h.get g=some (.vals (MapV Kf (kv.map (·.1))) (kv.map (·.2)))) (hk:ev σ ky=ck) (hka:∀S w u,Rep S w ck u→u=Kf a) (hv:ev σ vl=cv) (hvt:tupB cv=false)
 (hnew:vGet a kv=none) {h':Heap} (hh:h.set g (.vals (MapV Kf ((kv++[(a,cv)]).map (·.1))) ((kv++[(a,cv)]).map (·.2)))=h') (k:aw E (.ops all rest::K) σ h'):aw E (.ops all (o::rest)::K) σ h:=by
 subst hh
 refine aw_step hw (fun ac w s=> ?_) k
 have h1:=ev_rep s x
 rw [hx] at h1
 have h1':ac.eval x=.map (some g):=h1
 have h2:=ev_rep s ky
 rw [hk] at h2
 have h2':=hka _ _ _ h2
 have h3:=ev_rep s vl
 rw [hv] at h3
 have h3':=rep_of0 hvt h3
 obtain⟨v,hvv⟩:∃v,ac.eval vl=v:=⟨_,rfl⟩
 rw [hvv] at h3'
 obtain⟨ob,us,hb,hu,es,c,rfl,hks,hvs⟩:=s.heap g _ (Heap.get_mem hg)
 have hlen:es.toList.length=kv.length:=by
  have:=congrArg List.length hks
  simpa using this
 have hfind:=hK.find a (kv.map (·.1)) es.toList w hks
 have hask:=fAsk_v (S:=Stab E.C h w) (w:=w) a kv es.toList us 0 hvs hlen hu
 rw [hnew] at hask
 have hgl:g<w.heap.size:=(Array.getElem?_eq_some_iff.1 hb).1
 let w':World:={w with heap:=w.heap.setIfInBounds g (.map (es.push {key:=Kf a,val:=v,born:=c}) (c+1))}
 have hrun:(Instr.mapUpdate t (ac.eval x) (ac.eval ky) (ac.eval vl)).run E.P w=.ok () w':=by
  rw [h1',h2',hvv]
  unfold Instr.mapUpdate
  simp only [Sem.run_bind,run_underlying (tMap_spec ht),Result.andThen_ok,runGet hb,hK.check,hfind,hask,runSet _ hb]
  rfl
 have hfr:Fr (fun b=>b=g) w w':=by
  refine⟨rfl,rfl,rfl,by simp [w'],Nat.le_refl _,fun b _ hne=> ?_,fun g' m hh=> ?_⟩
  ·simp only [w'];rw [Array.getElem?_setIfInBounds_ne (fun e=>hne e.symm)]
  ·obtain⟨cs,ty,⟨fr,hc⟩,hs⟩:=hh
   refine⟨cs,ty,⟨fr,?_⟩,hs⟩
   have hne:g'≠g:=fun e=>by rw [e,hb] at hc;cases hc
   simp only [w']
   rw [Array.getElem?_setIfInBounds_ne (fun e=>hne e.symm)];exact hc
 refine⟨undef,w',.inr ⟨?_,rfl⟩,?_⟩
 ·simp only [execOp,hop,Sem.run_bind,hrun,Result.andThen_ok]
  rfl
 ·rw [hdn]
  have hgm:g∈h.keys:=List.mem_map.2 ⟨_,Heap.get_mem hg,rfl⟩
  have hkk:=Heap.keys_set h g (.vals (MapV Kf ((kv++[(a,cv)]).map (·.1))) ((kv++[(a,cv)]).map (·.2)))
  have kp:Keeps (Stab E.C h w) (Stab E.C (h.set g (.vals (MapV Kf ((kv++[(a,cv)]).map (·.1))) ((kv++[(a,cv)]).map (·.2)))) w') w w':=
   ⟨fun t b hb=>⟨hb.1,Nat.lt_of_lt_of_le hb.2.1 hfr.size,by rw [hkk];exact hb.2.2⟩,fun t b hb=>hfr.block b hb.2.1 (fun e=>hb.2.2 (e▸hgm)),hfr.has⟩
  refine s.setObj hg hfr ⟨_,us++[v],by simp only [w'];rw [Array.getElem?_setIfInBounds_self_of_lt hgl],?_,_,_,rfl,?_,?_⟩
  ·have q:=RepT.keep kp (RepT.snoc h3' hu)
   have e:kv.map (·.2)++[cv]=(kv++[(a,cv)]).map (·.2):=by simp
   rw [e] at q
   exact q
  ·simp only [Array.toList_push,List.map_append,List.map_cons,List.map_nil,hks]
  ·simp only [Array.toList_push,List.map_append,List.map_cons,List.map_nil,hvs]
theorem aw_insNewV {α:Type} [DecidableEq α] {Kf:α→Value} {t kt et g:TypeId} {kv:List (α×AV)} {x ky vl:Operand} {ck cv:AV} {a:α} (hop:o.op=.insert t x ky vl) (hdn:o.dst=none) (hw:wantA all σ o=some true)
 (ht:tMap E.P t=some (kt,et)) (hK:KeyOk E.P kt Kf) (hx:ev σ x=.c (.raw (.map (some g)))) (hg:h.get g=some (.vals (MapV Kf (kv.map (·.1))) (kv.map (·.2)))) (hk:ev σ ky=ck) (hka:∀S w u,Rep S w ck u→u=Kf a) (hv:ev σ vl=cv) (hvt:tupB cv=false)
 (hnew:vGet a kv=none) {h':Heap} (hh:h.set g (.vals (MapV Kf ((kv++[(a,cv)]).map (·.1))) ((kv++[(a,cv)]).map (·.2)))=h') (k:aw E (.ops all rest::K) σ h'):aw E (.ops all (o::rest)::K) σ h:=by
 subst hh
 refine aw_step hw (fun ac w s=> ?_) k
 have h1:=ev_rep s x
 rw [hx] at h1
 have h1':ac.eval x=.map (some g):=h1
 have h2:=ev_rep s ky
 rw [hk] at h2
 have h2':=hka _ _ _ h2
 have h3:=ev_rep s vl
 rw [hv] at h3
 have h3':=rep_of0 hvt h3
 obtain⟨v,hvv⟩:∃v,ac.eval vl=v:=⟨_,rfl⟩
 rw [hvv] at h3'
 obtain⟨ob,us,hb,hu,es,c,rfl,hks,hvs⟩:=s.heap g _ (Heap.get_mem hg)
 have hlen:es.toList.length=kv.length:=by
  have:=congrArg List.length hks
  simpa using this
 have hfind:=hK.find a (kv.map (·.1)) es.toList w hks
 have hask:=fAsk_v (S:=Stab E.C h w) (w:=w) a kv es.toList us 0 hvs hlen hu
 rw [hnew] at hask
 have hgl:g<w.heap.size:=(Array.getElem?_eq_some_iff.1 hb).1
 let w':World:={w with heap:=w.heap.setIfInBounds g (.map (es.push {key:=Kf a,val:=v,born:=c}) (c+1))}
 have hrun:(Instr.mapUpdate t (ac.eval x) (ac.eval ky) (ac.eval vl)).run E.P w=.ok () w':=by
  rw [h1',h2',hvv]
  unfold Instr.mapUpdate
  simp only [Sem.run_bind,run_underlying (tMap_spec ht),Result.andThen_ok,runGet hb,hK.check,hfind,hask,runSet _ hb]
  rfl
 have hfr:Fr (fun b=>b=g) w w':=by
  refine⟨rfl,rfl,rfl,by simp [w'],Nat.le_refl _,fun b _ hne=> ?_,fun g' m hh=> ?_⟩
  ·simp only [w'];rw [Array.getElem?_setIfInBounds_ne (fun e=>hne e.symm)]
  ·obtain⟨cs,ty,⟨fr,hc⟩,hs⟩:=hh
   refine⟨cs,ty,⟨fr,?_⟩,hs⟩
   have hne:g'≠g:=fun e=>by rw [e,hb] at hc;cases hc
   simp only [w']
   rw [Array.getElem?_setIfInBounds_ne (fun e=>hne e.symm)];exact hc
 refine⟨undef,w',.inr ⟨?_,rfl⟩,?_⟩
 ·simp only [execOp,hop,Sem.run_bind,hrun,Result.andThen_ok]
  rfl
 ·rw [hdn]
  have hgm:g∈h.keys:=List.mem_map.2 ⟨_,Heap.get_mem hg,rfl⟩
  have hkk:=Heap.keys_set h g (.vals (MapV Kf ((kv++[(a,cv)]).map (·.1))) ((kv++[(a,cv)]).map (·.2)))
  have kp:Keeps (Stab E.C h w) (Stab E.C (h.set g (.vals (MapV Kf ((kv++[(a,cv)]).map (·.1))) ((kv++[(a,cv)]).map (·.2)))) w') w w':=
   ⟨fun t b hb=>⟨hb.1,Nat.lt_of_lt_of_le hb.2.1 hfr.size,by rw [hkk];exact hb.2.2⟩,fun t b hb=>hfr.block b hb.2.1 (fun e=>hb.2.2 (e▸hgm)),hfr.has⟩
  refine s.setObj hg hfr ⟨_,us++[v],by simp only [w'];rw [Array.getElem?_setIfInBounds_self_of_lt hgl],?_,_,_,rfl,?_,?_⟩
  ·have q:=RepT.keep kp (RepT.snoc h3' hu)
   have e:kv.map (·.2)++[cv]=(kv++[(a,cv)]).map (·.2):=by simp
   rw [e] at q
   exact q
  ·simp only [Array.toList_push,List.map_append,List.map_cons,List.map_nil,hks]
  ·simp only [Array.toList_push,List.map_append,List.map_cons,List.map_nil,hvs]
end
end Go.AI
namespace Go.AI
section
variable {E : Env} {K : List It} {σ : Sl} {h : Heap}
theorem aw_convV {g:Nat} {R:List Value→Obj→Prop} {xs xs':List AV} (hx:∀S w us,RepT S w xs us→RepT S w xs' us) (k:aw E K σ ((g,.vals R xs')::h)):aw E K σ ((g,.vals R xs)::h):=fun a w s=>by
 refine k a w ⟨s.size,s.defers,s.slots,fun g' o' hm=> ?_,s.nodup,s.keys,s.frame⟩
 rcases List.mem_cons.1 hm with e|hm
 ·injection e with e1 e2
  subst e1 e2
  obtain⟨o,us,hb,hu,hR⟩:=s.heap _ _ (List.mem_cons_self ..)
  exact⟨o,us,hb,hx _ _ _ hu,hR⟩
 ·exact s.heap g' o' (List.mem_cons_of_mem _ hm)
end
end Go.AI
namespace Go.Proofs.YtfcnbgmclfkfcaaGreat
open Go.AI Go.PN
def prL (dl:List (Int×Rat)):List (Int×AV):=dl.map fun z=>(z.1,.agg (rdc (rd z.2)))
def prGet (r:Int):List (Int×Rat)→Option Rat
 |[]=>none
 |z::dl=>if r=z.1 then some z.2 else prGet r dl
theorem pr_get (r:Int):∀dl,vGet r (prL dl)=(prGet r dl).map fun q=>.agg (rdc (rd q))
 |[]=>rfl
 |z::dl=>by
  show vGet r ((z.1,_)::prL dl)=_
  rw [vGet,prGet]
  split
  ·rfl
  ·exact pr_get r dl
theorem pr_mem {r:Int} {x:Rat}:∀{dl:List (Int×Rat)},prGet r dl=some x→(r,x)∈dl
 |[],h=>by cases h
 |z::dl,h=>by
  rw [prGet] at h
  split at h
  ·rename_i e
   injection h with h
   subst e h
   exact List.mem_cons_self ..
  ·exact List.mem_cons_of_mem _ (pr_mem h)
theorem pr_none {r:Int}:∀{dl:List (Int×Rat)},prGet r dl=none→∀z∈dl,z.1≠r
 |[],_,z,hz=>absurd hz List.not_mem_nil
 |y::dl,h,z,hz=>by
  rw [prGet] at h
  split at h
  ·cases h
  ·rename_i e
   rcases List.mem_cons.1 hz with rfl|hz
   ·exact fun e'=>e e'.symm
   ·exact pr_none h z hz
theorem pr_none' {r:Int}:∀{dl:List (Int×Rat)},(∀z∈dl,z.1≠r)→prGet r dl=none
 |[],_=>rfl
 |y::dl,h=>by
  rw [prGet,if_neg (fun e=>h y (List.mem_cons_self ..) e.symm)]
  exact pr_none' fun z hz=>h z (List.mem_cons_of_mem _ hz)
theorem pr_app {r:Int}:∀{dl zs:List (Int×Rat)},prGet r dl≠none→prGet r (dl++zs)≠none
 |[],_,h=>absurd rfl h
 |y::dl,zs,h=>by
  rw [List.cons_append,prGet]
  rw [prGet] at h
  split
  ·simp
  ·rename_i hne
   rw [if_neg hne] at h
   exact pr_app h
theorem prL_push (dl:List (Int×Rat)) (r:Int) (q:Rat):prL dl++[(r,.agg (rdc (rd q)))]=prL (dl++[(r,q)]):=by simp [prL]
structure PrOk (ps:List RD) (n:Nat) (ns:List DN) (dl:List (Int×Rat)):Prop where
 sem:∀z∈dl,z.2=prT ps n ns z.1
 low:∀q:Int,0≤q→q<2→prGet q dl≠none
attribute [local irreducible] aw Fa Fh DrK
@[go_sem] theorem ty_s_fr:tSz Tryz.prog 48=some (false,1):=by kernel_rfl
@[go_sem] theorem ty_z_fr:tZero Tryz.prog 48=some [.raw .nilFunc]:=by kernel_rfl
theorem ty_rz:ZeroA Tryz.prog 30 [.bool false,.nils,.nils]:=
 ⟨[.bool false,.slice none 0 0,.slice none 0 0],Tryz.zeroValue30,fun _ _=>⟨rfl,⟨none,rfl⟩,⟨none,rfl⟩,trivial⟩⟩
abbrev C5 (g1 g2 g3 g4 g5 gd gT:Nat) (ps:List RD) (dl:List (Int×Rat)):Heap:=
 [(g1,.cells 142 1 (ofL [.raw (.map (some gd))])),(g2,.cells 88 1 (ofL [.optr gT 0])),(g3,.cells 25 1 (ofL [rats false ps])),(g4,.cells 30 3 (ofL (rdc (rd 1)))),(g5,.cells 48 1 (ofL [fnC 112 [g1,g2,g3,g4,g5]])),(gd,.vals (MapV keyI ((prL dl).map (·.1))) ((prL dl).map (·.2)))]
set_option maxRecDepth 100000 in
set_option maxHeartbeats 6400000 in
theorem pwalk_fh (g1 g2 g3 g4 g5 gd gT gU gM:Nat) {o pl:List Int} (ho:OdOk o pl) (h6:o.length≤6) {og:Option Nat} {ns:List DN} {mm:Mem3} (hs:TS o og ns mm) (hn:ns.length≤1000000000) (ps:List RD) (hw:∀x∈ps,x.wf 4) (hpl:ps.length=o.length):∀(k:Nat) (r:Int) (dl:List (Int×Rat)),r.toNat<k→RefOk ns r→PrOk ps o.length ns dl→
 Fh Tryz.prog 112 (C5 g1 g2 g3 g4 g5 gd gT ps dl++THp gT gU gM og o pl ns mm) ([.c (.int .i64 r)]++[g1,g2,g3,g4,g5].map fun g=>.c (.optr g 0)) (fun x h=>∃dl',PrOk ps o.length ns dl'∧(∀z∈dl',z∈dl∨z.1≤r)∧x=.agg (rdc (rd (prT ps o.length ns r)))∧h=C5 g1 g2 g3 g4 g5 gd gT ps dl'++THp gT gU gM og o pl ns mm):=by
 intro k
 induction k with
 |zero=>intro r dl hk;omega
 |succ k ih=>
  intro r dl hk hr hc
  simp only [List.cons_append,List.nil_append,List.map_cons,List.map_nil]
  refine fh_of_body Tryz.func112 rfl rfl (by simp [Tryz.ntmps112]) fun C hC=> ?_
  simp only [initS,Nat.reduceAdd]
  simp only [C5,THp,TH,List.cons_append,List.nil_append]
  refine aw_nd fun hnd=> ?_
  simp only [Heap.keys,List.map_cons] at hnd
  replace hnd:=ndP_of hnd
  dsimp only [ndP,neA] at hnd
  refine yG hnd ?_
  refine yA hnd fun g7 hn_g7=>?_
  have J1:=oj hnd hn_g7
  refine yG J1 ?_
  refine aw_lookupV (a:=r) (kv:=prL dl) (Kf:=keyI) (kt:=3) (et:=30) (z:=[.bool false,.nils,.nils]) rfl rfl rfl (by kernel_rfl) ty_ki ty_rz (zE J1) (zE J1) (zE J1) keyI_rep ?_
  refine yS J1 ?_
  rw [pr_get]
  cases hf:prGet r dl with
  |some x=>
   have hx:x=prT ps o.length ns r:=hc.sem _ (pr_mem hf)
   subst hx
   try simp only [vAns,Option.map_some,Option.getD_some,Option.isSome_some,cstC]
   refine yG J1 ?_
   refine yA J1 fun g8 hn_g8=>?_
   have J2:=oj hnd (oj hn_g7 hn_g8)
   refine yGWSGNG J2 ?_
   refine yW J2 ?_
   refine ySG J2 ?_
   refine aw_rethw (h':=C5 g1 g2 g3 g4 g5 gd gT ps dl++THp gT gU gM og o pl ns mm) rfl (List.Sublist.cons _ (List.Sublist.cons _ (List.Sublist.refl _))) (fun R hR=> ?_)
   simp only [go_sem,hnd,hn_g7,hn_g8]
   refine hR _ rfl ?_
   exact⟨dl,hc,fun z hz=>.inl hz,rfl,rfl⟩
  |none=>
   try simp only [vAns,Option.map_none,Option.getD_none,Option.isSome_none,cstC]
   refine yG (oj hnd hn_g7) ?_
   refine yA (oj hnd hn_g7) fun g8 hn_g8=>?_
   have J3:=oj hnd (oj hn_g7 hn_g8)
   refine yGWSG J3 ?_
   refine yP J3 ?_
   have h2:2≤r:=by
    refine Classical.byContradiction fun h=> ?_
    exact hc.low r hr.1 om hf
   obtain⟨g,rfl⟩:∃g,og=some g:=by
    cases og with
    |none=>have:=hs.og rfl;unfold RefOk at hr;omega
    |some g=>exact⟨g,rfl⟩
   simp only [gh,List.map_cons,List.map_nil,neA,ndP] at hnd
   dsimp only [gh,Heap.ne] at hn_g7 hn_g8
   simp only [gs,gh]
   have hi:(r-2).toNat<ns.length:=by unfold RefOk at hr;omega
   obtain⟨w0,w1,w2,w3,w4,w5⟩:=(hs.tab _ hi).nk
   obtain⟨kl,kh⟩:=kids_ref hs.tab hi
   have hpn:=prT_node (ps:=ps) hs.tab hi
   rw [show(2:Int)+(((r-2).toNat:Nat):Int)=r from by omega] at hpn
   have fl:=fits_mono (prT_fits (L:=4) om hw hs.tab _ _ (Nat.le_refl _) kl) (Bl46 (by have:=lv3_nonneg ho.mem hs.tab kl;omega))
   have fh:=fits_mono (prT_fits (L:=4) om hw hs.tab _ _ (Nat.le_refl _) kh) (Bl46 (by have:=lv3_nonneg ho.mem hs.tab kh;omega))
   generalize hx0:ns.getD (r-2).toNat dn0=nd at*
   have wq:=getD_wf hw nd.v.toNat
   have hq0:prP ps nd.v.toNat=(ps.getD nd.v.toNat rd0).q:=rfl
   rw [hq0] at hpn
   have v1:nd.v<ps.length:=by omega
   generalize hq1:ps.getD nd.v.toNat rd0=q at*
   have fq:=RD.fits wq om
   have f1:=fits_sub fits_one fq
   have f2:=fits_mul f1 fl
   have f3:=fits_mul fq fh
   generalize hX:prT ps o.length ns r=X at*
   generalize hXL:prT ps o.length ns nd.lo=XL at*
   generalize hXH:prT ps o.length ns nd.hi=XH at*
   have J4:=oj hnd (oj hn_g7 (oj hn_g8 (oj hx0 hq1)))
   refine yG J4 ?_
   refine yA J4 fun g10 hn_g10=>?_
   have J5:=oj hnd (oj hn_g7 (oj hn_g8 (oj hx0 (oj hq1 hn_g10))))
   refine yGWSG J5 ?_
   refine yA J5 fun g11 hn_g11=>?_
   have J6:=oj hnd (oj hn_g7 (oj hn_g8 (oj hx0 (oj hq1 (oj hn_g10 hn_g11)))))
   refine yGWSG J6 ?_
   refine aw_cw ([(g11,.cells 30 3 (ofL (rdc q))),(g10,.cells 145 3 (ofL [.int .i64 nd.v,.int .i64 nd.lo,.int .i64 nd.hi])),(g4,.cells 30 3 (ofL (rdc (rd 1)))),(g5,.cells 48 1 (ofL [fnC 112 [g1,g2,g3,g4,g5]]))]) [(0,0),(1,0),(2,0),(3,0),(4,0),(5,0),(8,0),(9,0),(10,0),(11,0),(6,1),(7,0),(12,1),(13,0),(14,0),(15,2)] ty_mixed (by kernel_rfl) eI ?_
   refine yG J6 ?_
   refine cw_callq rfl (rsub_fa (rd 1) q (rd_wf (fits_mono fits_one om)) (wf_mono wq om)) rfl rfl rfl (fun _ _=>(zL J6)) ?_
   rw [rd_q]
   refine ySG J6 ?_
   refine cw_callhv (gs:=[g1,g2,g3,g4,g5]) rfl (ih nd.lo dl om kl hc) rfl rfl rfl (zE J6) (List.perm_append_comm (l₁:=[(g11,_),(g10,_),(g8,_),(g7,_)])) (zL J6) (by
    rintro _ _ ⟨_,_,_,rfl,rfl⟩;simp only [C5,THp,TH,gs,gh,List.append_assoc,List.cons_append,List.nil_append];exact eI) ?_ (hm:=.inr ⟨rfl,rfl⟩)
   rintro _ _ ⟨dl1,c1,n1,rfl,rfl⟩ _
   rw [hXL]
   refine cw_perm List.perm_append_comm ?_
   simp only [C5,THp,TH,gs,gh,List.cons_append,List.nil_append]
   refine ySG J6 ?_
   refine cw_callq rfl (rmul_fa (rd (1-q.q)) (rd XL) (rd_wf (fits_mono f1 om)) (rd_wf (fits_mono fl om))) rfl rfl rfl (fun _ _=>(zL J6)) ?_
   rw [rd_q,rd_q]
   refine ySG J6 ?_
   refine cw_callhv (gs:=[g1,g2,g3,g4,g5]) rfl (ih nd.hi dl1 om kh c1) rfl rfl rfl (zE J6) (List.perm_append_comm (l₁:=[(g11,_),(g10,_),(g8,_),(g7,_)])) (zL J6) (by
    rintro _ _ ⟨_,_,_,rfl,rfl⟩;simp only [C5,THp,TH,gs,gh,List.append_assoc,List.cons_append,List.nil_append];exact eI) ?_ (hm:=.inr ⟨rfl,rfl⟩)
   rintro _ _ ⟨dl2,c2,n2,rfl,rfl⟩ _
   rw [hXH]
   refine cw_perm List.perm_append_comm ?_
   have hb:∀z∈dl2,z∈dl∨z.1<r:=fun z hz=>by
    rcases n2 z hz with h|h
    ·rcases n1 z h with h|h
     ·exact .inl h
     ·exact .inr om
    ·exact .inr om
   have hnew:∀z∈dl2,z.1≠r:=fun z hz=>by
    rcases hb z hz with h|h
    ·exact pr_none hf z h
    ·omega
   simp only [C5,THp,TH,gs,gh,List.cons_append,List.nil_append]
   refine ySG J6 ?_
   refine cw_callq rfl (rmul_fa q (rd XH) (wf_mono wq om) (rd_wf (fits_mono fh om))) rfl rfl rfl (fun _ _=>(zL J6)) ?_
   rw [rd_q]
   refine ySG J6 ?_
   refine cw_callq rfl (radd_fa (rd ((1-q.q)*XL)) (rd (q.q*XH)) (rd_wf (fits_mono f2 om)) (rd_wf (fits_mono f3 om))) rfl rfl rfl (fun _ _=>(zL J6)) ?_
   rw [rd_q,rd_q,←hpn]
   refine ySG J6 ?_
   refine cw_store (FP':=[]) rfl rfl rfl rfl rfl (zE J6) (zE J6) (zE J6) (zE J6) (fun _ e=>by cases e) rfl rfl (Nat.le_refl 3) rfl has0_nil ?_
   refine ySG J6 ?_
   refine aw_mapNewV (a:=r) (kv:=prL dl2) (Kf:=keyI) rfl rfl rfl (kt:=3) (et:=30) (by kernel_rfl) ty_ki (zE J6) (zE J6) (zE J6) keyI_rep (cv:=.agg (rdc (rd X))) (zE J6) rfl (by rw [pr_get,pr_none' hnew];rfl) (zE J6) ?_
   rw [prL_push]
   refine ySGWSG J6 ?_
   refine aw_rethw (h':=C5 g1 g2 g3 g4 g5 gd gT ps (dl2++[(r,X)])++THp gT gU gM (some g) o pl ns mm) rfl (List.Sublist.cons _ (List.Sublist.cons _ (List.Sublist.cons _ (List.Sublist.cons _ (List.Sublist.refl _))))) (fun R hR=> ?_)
   simp only [go_sem,hnd,hn_g7,hn_g8,hx0,hq1,hn_g10,hn_g11]
   refine hR _ rfl ?_
   clear hR R
   refine⟨dl2++[(r,X)],⟨fun z hz=> ?_,fun q q0 q1=>pr_app (c2.low q q0 q1)⟩,fun z hz=> ?_,rfl,rfl⟩
   ·rcases List.mem_append.1 hz with hz|hz
    ·exact c2.sem z hz
    ·rw [List.mem_singleton] at hz;subst hz;exact hX.symm
   ·rcases List.mem_append.1 hz with hz|hz
    ·rcases hb z hz with h|h
     ·exact .inl h
     ·exact .inr om
    ·rw [List.mem_singleton] at hz;subst hz;exact .inr (Int.le_refl _)
set_option maxRecDepth 100000 in
set_option maxHeartbeats 3200000 in
theorem prob_fh (gT gU gM:Nat) {o pl:List Int} (ho:OdOk o pl) (h6:o.length≤6) {og:Option Nat} {ns:List DN} {mm:Mem3} (hs:TS o og ns mm) (hn:ns.length≤1000000000) (ps:List RD) (hw:∀x∈ps,x.wf 4) (hpl:ps.length=o.length) {r:Int} (hr:RefOk ns r):
 Fh Tryz.prog 64 (THp gT gU gM og o pl ns mm) [.c (.optr gT 0),.c (.int .i64 r),.c (rats false ps)] (fun x h=>x=.agg (rdc (rd (prT ps o.length ns r)))∧h=THp gT gU gM og o pl ns mm):=by
 refine fh_of_body Tryz.func64 rfl rfl (by simp [Tryz.ntmps64]) fun C hC=> ?_
 simp only [initS,Nat.reduceAdd]
 refine xG ?_
 refine xB fun g3 hn_g3=>?_
 refine yG hn_g3 ?_
 refine yB hn_g3 fun g5 hn_g5=>?_
 refine yG (oj hn_g3 hn_g5) ?_
 refine yA (oj hn_g3 hn_g5) fun g6 hn_g6=>?_
 have J1:=oj hn_g3 (oj hn_g5 hn_g6)
 refine yG J1 ?_
 refine yC J1 (rof_fa 1 ?_ ?_) ?_
 ·omega
 ·omega
 rw [cast1]
 refine yG J1 ?_
 refine yA J1 fun g7 hn_g7=>?_
 have J2:=oj hn_g3 (oj hn_g5 (oj hn_g6 hn_g7))
 refine yGWSG J2 ?_
 refine aw_makeMap (Kf:=keyI) rfl rfl rfl fun gd hn_gd=> ?_
 replace hn_gd:=Heap.ne_of hn_gd
 dsimp only [Heap.ne,gh] at hn_gd
 refine aw_mapV ?_
 have J3:=oj hn_g3 (oj hn_g5 (oj hn_g6 (oj hn_g7 hn_gd)))
 refine ySG J3 ?_
 refine aw_insNewV (a:=0) (kv:=[]) (Kf:=keyI) rfl rfl rfl (kt:=3) (et:=30) (by kernel_rfl) ty_ki (zE J3) (zE J3) (zE J3) keyI_rep (cv:=.agg [.bool false,.nils,.nils]) (zE J3) rfl rfl (zE J3) ?_
 refine ySG J3 ?_
 refine aw_insNewV (a:=1) (kv:=[(0,.agg [.bool false,.nils,.nils])]) (Kf:=keyI) rfl rfl rfl (kt:=3) (et:=30) (by kernel_rfl) ty_ki (zE J3) (zE J3) (zE J3) keyI_rep (cv:=.agg (rdc (rd 1))) (zE J3) rfl rfl (zE J3) ?_
 refine aw_convV (xs':=(prL [(0,0),(1,1)]).map (·.2)) ?_ ?_
 ·intro S w us h
  match us,h with
  |[a,b],h=>
   obtain⟨⟨vs,rfl,hv⟩,hb,_⟩:=h
   refine⟨⟨vs,rfl,?_⟩,hb,trivial⟩
   match vs,hv with
   |[x,y,z],hv=>
    obtain⟨h1,⟨A,h2⟩,⟨B,h3⟩,_⟩:=hv
    rw [show rd 0=⟨false,[],[]⟩ from rd_zero]
    exact⟨h1,⟨A,0,h2,Nat.le_refl _,fun h=>by simp at h⟩,⟨B,0,h3,Nat.le_refl _,fun h=>by simp at h⟩,trivial⟩
 refine ySG J3 ?_
 refine yA J3 fun g8 hn_g8=>?_
 have J4:=oj hn_g3 (oj hn_g5 (oj hn_g6 (oj hn_g7 (oj hn_gd hn_g8))))
 refine yGWSG J4 ?_
 refine yA J4 fun g9 hn_g9=>?_
 have J5:=oj hn_g3 (oj hn_g5 (oj hn_g6 (oj hn_g7 (oj hn_gd (oj hn_g8 hn_g9)))))
 refine yG J5 ?_
 refine aw_makeFunc (gs:=[g8,g3,g5,g7,g9]) rfl rfl rfl (zE J5) ?_
 refine ySGWSG J5 ?_
 refine aw_callhv (gs:=[g8,g3,g5,g7,g9]) (hr:=[(g6,.cells 30 3 (ofL [.bool false,.nils,.nils]))]) (pwalk_fh g8 g3 g5 g7 g9 gd gT gU gM ho h6 hs hn ps hw hpl (r.toNat+1) r [(0,0),(1,1)] om hr ⟨fun z hz=> ?_,fun q q0 q1=> ?_⟩) rfl rfl rfl (zE J5) ?hp (zL J5) ?_
 ·simp only [List.mem_cons,List.not_mem_nil,or_false] at hz
  rcases hz with rfl|rfl
  ·show(0:Rat)=prT ps o.length ns 0
   rw [prT_leaf om om];rfl
  ·show(1:Rat)=prT ps o.length ns 1
   rw [prT_leaf om om];rfl
 ·obtain rfl|rfl:q=0∨q=1:=by omega
  ·simp [prGet]
  ·simp [prGet]
 ·refine List.Perm.trans (l₂:=(C5 g8 g3 g5 g7 g9 gd gT ps [(0,0),(1,1)]++[(g6,.cells 30 3 (ofL [.bool false,.nils,.nils]))])++THp gT gU gM og o pl ns mm) ?_ ?_
  ·exact(permL [(g9,_),(g8,_),(gd,_),(g7,_),(g6,_),(g5,_),(g3,_)] [0,1,2,3,4,5,6] [1,6,5,3,0,2,4] (by decide)).append_right (THp gT gU gM og o pl ns mm)
  ·rw [List.append_assoc,List.append_assoc]
   exact List.Perm.append_left _ List.perm_append_comm
 rintro _ _ ⟨dl',_,_,rfl,rfl⟩ _
 refine aw_perm List.perm_append_comm ?_
 simp only [List.cons_append,List.nil_append]
 refine ySGWSG J5 ?_
 refine aw_rethw (h':=THp gT gU gM og o pl ns mm) rfl (List.Sublist.cons _ (List.sublist_append_right (C5 g8 g3 g5 g7 g9 gd gT ps dl') _)) (fun R hR=> ?_)
 simp only [go_sem,hn_g3,hn_g5,hn_g6,hn_g7,hn_gd,hn_g8,hn_g9]
 refine hR _ rfl ?_
 exact⟨rfl,rfl⟩
end Go.Proofs.YtfcnbgmclfkfcaaGreat
