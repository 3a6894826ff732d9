/- Parts of one proof, laid by a program. -/
import Derived.Test.YtnmeahogifekdaaGreatDoorM00
import Derived.Test.YtnmeahogifekdaaGreatDoorM12
set_option linter.unusedSimpArgs false
set_option linter.unusedVariables false
set_option maxRecDepth 100000
set_option maxHeartbeats 12800000
namespace Go.PN
open Go.AI
variable {α β σ : Type}
theorem orC_ne {a b:Int} (h:a≠0):orC a b=a:=if_neg h
theorem orC_z {a b:Int} (h:a=0):orC a b=b:=if_pos h
theorem orC_assoc (a b c:Int):orC (orC a b) c=orC a (orC b c):=by
 by_cases h:a=0
 ·rw [orC_z h,orC_z h]
 ·rw [orC_ne h,orC_ne h,orC_ne h]
theorem frsN_z {f:Nat→σ→Int×σ} {n i:Nat} {s:σ} (h:(f i s).1=0):frsN f (n+1) i s=frsN f n (i+1) (f i s).2:=if_pos h
theorem frsN_ne {f:Nat→σ→Int×σ} {n i:Nat} {s:σ} (h:(f i s).1≠0):frsN f (n+1) i s=f i s:=if_neg h
def mcC (m:MdD):Int:=orC (mcode0 m) (if cycB m then 14 else 0)
abbrev gtN1 (m:MdD):Int:=(frsN (fun k (_:Unit)=>(gtsC m k,())) (m.pages.length+1) 0 ()).1
abbrev inN1 (m:MdD):Int:=(frsN (inP m) (m.pages.length+1) 0 []).1
theorem mcC_eq (m:MdD):mcC m=orC (if nameOk m.name then 0 else 5) (orC (evhC m) (orC (pgsC m) (orC (gtN1 m) (orC (inN1 m) (orC (if isInp m 0 m.top then 0 else 5) (orC (grsC m) (orC (phsC m) (if cycB m then 14 else 0)))))))):=by
 unfold mcC mcode0
 simp only [orC_assoc]
theorem frsS_size {f:Nat→α→List β→Int×List β} {c:Nat}:∀(l:List α) (i:Nat) (s:List β),(∀i x s,x∈l→(f i x s).2.length≤s.length+c)→(frsS f l i s).2.length≤s.length+c*l.length
 |[],_,s,_=>Nat.le_refl _
 |x::l,i,s,h=>by
  have h1:=h i x s List.mem_cons_self
  have h2:=frsS_size l (i+1) (f i x s).2 fun i y s hy=>h i y s (List.mem_cons_of_mem _ hy)
  rw [List.length_cons,Nat.mul_add]
  unfold frsS
  split
  ·omega
  ·omega
theorem inI_size (m:MdD) (k:Nat) (x:GtD) (j:Nat) (i:BS) (sp:List BS):(inI m k x j i sp).2.length≤sp.length+1:=by
 unfold inI
 repeat' split
 all_goals first|exact Nat.le_succ _|(rw [List.length_append];exact Nat.le_refl _)
theorem inP_size {m:MdD} {k:Nat} (hI:∀x∈gtsK m k,x.inputs.length≤16) (sp:List BS):(inP m k sp).2.length≤sp.length+16*(gtsK m k).length:=by
 have:=frsS_size (f:=inG m k) (c:=16) (gtsK m k) 0 sp fun i x s hx=>by
  have h1:=frsS_size (f:=inI m k x) (c:=1) x.inputs 0 s fun j n s _=>inI_size m k x j n s
  have h2:=hI x hx
  show(frsS (inI m k x) x.inputs 0 s).2.length≤_
  omega
 unfold inP
 split<;>exact this
theorem inp_16 {m:MdD} (h:gtN1 m=0) {k:Nat} (hk:k≤m.pages.length):∀x∈gtsK m k,x.inputs.length≤16:=fun x hx=>by
 obtain⟨_,hg⟩:=frsN_0 h k om
 rw [Nat.zero_add] at hg
 obtain⟨i,hi,rfl⟩:=List.getElem_of_mem hx
 have:=frst_0 gt0 (show frst (gtC m k) (gtsK m k) 0=0 from hg) i hi
 rw [List.getD_eq_getElem?_getD,List.getElem?_eq_getElem hi] at this
 simp only [Option.getD_some] at this
 generalize (gtsK m k)[i]=x at*
 unfold gtC at this
 split at this
 ·cases this
 split at this
 ·cases this
 unfold shpC at this
 split at this
 ·cases this
 split at this
 ·cases this
 rename_i hb
 unfold inpB at hb
 repeat' split at hb
 all_goals simp at hb<;>omega
end Go.PN
namespace Go.Proofs.YtnmeahogifekdaaGreatDoor
open Go.AI Go.PN
attribute [local irreducible] aw Fa Fh DrK
theorem check_fa (m:MdD) (ho:MdO m):Fa Tryz.prog 9 [.agg (mdc true m)] (.c (errA (mcC m))):=by
 have hm:=ho.ok
 have hw2:=ho.wf2
 have hpl:=hw2.pl
 have fn:Fa Tryz.prog 20 [.c (.str (sB m.name))] (.c (.bool (nameOk m.name))):=tname_fa m.name ho.wf.nm
 have f1:=checkEvents_fa m hm ho.wf
 have f2:=checkPages_fa m hm hw2
 rw [mcC_eq]
 refine fa_of_body Tryz.func9 rfl rfl (by simp [Tryz.ntmps9]) fun C hC=> ?_
 simp only [initS,Nat.reduceAdd]
 repeat' first|refine zV o0 ?_|refine zH o0 (fun hb=>?_) fun hb=>?_|fail
 refine xB fun g1 hn_g1=>?_
 repeat' first|refine zV hn_g1 ?_|(refine yC2 hn_g1 (fn) ?_)|(refine yD2 hn_g1 (fn) ?_)|(refine yC2 hn_g1 (f1) ?_)|(refine yD2 hn_g1 (f1) ?_)|(refine yC2 hn_g1 (f2) ?_)|(refine yD2 hn_g1 (f2) ?_)|refine zH hn_g1 (fun hb=>?_) fun hb=>?_|fail
 ·refine yT hC hn_g1 ?_
  rw [show nameOk m.name=false from by simpa using hb,orC_ne (by decide)]
  exact .one (.c (ler_errE rfl (by decide)))
 ·rename_i h1
  rw [if_pos (by simpa using h1),orC_z rfl,orC_ne (by simpa using hb)]
  refine yT hC hn_g1 ?_
  exact .one (.c ler_err)
 ·rename_i h1 h2
  rw [if_pos (by simpa using h1),orC_z rfl,orC_z (by simpa using h2),orC_ne (by simpa using hb)]
  refine yT hC hn_g1 ?_
  exact .one (.c ler_err)
 rename_i h1 h2
 have h3:pgsC m=0:=by simpa using hb
 rw [if_pos (by simpa using h1),orC_z rfl,orC_z (by simpa using h2),orC_z h3]
 clear fn f1 f2
 generalize hG:gtN1 m=G
 refine aw_lp (fun k:Nat=>[(1,.c (.optr g1 0)),(2,.c .nilI),(5,.c (.int .i64 ((k:Int)-1)))]) (fun _=>[(g1,.cells 29 8 (ofL (mdc true m)))]) (fun k=>k≤m.pages.length+1∧(frsN (fun k (_:Unit)=>(gtsC m k,())) (m.pages.length+1-k) k ()).1=G) (fun k=>m.pages.length+1-k) 0 (zB hn_g1) zZ ⟨Nat.zero_le _,hG⟩ ?_
 rintro k ⟨hk,hlp⟩
 repeat' first|refine zV hn_g1 ?_|refine zH hn_g1 (fun hb=>?_) fun hb=>?_|fail
 ·have hk':k≤m.pages.length:=by omega
  have f1:=checkGates_fa m k hk' hm hw2
  rw [show m.pages.length+1-k=(m.pages.length+1-(k+1))+1 from by omega] at hlp
  repeat' first|refine zV hn_g1 ?_|(refine yC2 hn_g1 (f1) ?_)|(refine yD2 hn_g1 (f1) ?_)|refine zH hn_g1 (fun hb=>?_) fun hb=>?_|fail
  ·have hb2:gtsC m k≠0:=by simpa using hb
   rw [frsN_ne (f:=fun k (_:Unit)=>(gtsC m k,())) hb2] at hlp
   have hlp:gtsC m k=G:=hlp
   subst hlp
   rw [orC_ne hb2]
   refine yT hC hn_g1 ?_
   exact .one (.c ler_err)
  ·rw [frsN_z (f:=fun k (_:Unit)=>(gtsC m k,())) (by simpa using hb)] at hlp
   refine aw_stop ⟨k+1,?_⟩
   and_intros
   all_goals first|rfl|exact List.Sublist.refl _|exact True.intro|exact hlp|exact c_int om|omega
 have hk1:k=m.pages.length+1:=by omega
 subst hk1
 rw [Nat.sub_self] at hlp
 have hG0:G=0:=hlp.symm
 subst hG0
 rw [orC_z rfl]
 have hI:=fun k hk=>inp_16 hG (k:=k) hk
 have hp8:m.pages.length≤8:=by
  unfold pgsC at h3
  split at h3
  ·cases h3
  ·omega
 have hIi:∀k,k≤m.pages.length→∀i,((gtsK m k).getD i gt0).inputs.length≤16:=fun k hk i=>getD_all (P:=fun x:GtD=>x.inputs.length≤16) (hI k hk) (Nat.zero_le _) i
 have hsz:=fun k hk sp=>inP_size (hI k hk) sp
 have hgl:=fun k=>gtsK_len hw2 k
 clear hlp
 generalize hN:inN1 m=N
 repeat' first|refine zV hn_g1 ?_|refine zH hn_g1 (fun hb=>?_) fun hb=>?_|fail
 refine aw_lp (fun x:Nat×List BS×Option Nat=>[(1,.c (.optr g1 0)),(2,.c .nilI),(7,.c (gs x.2.2 1 x.2.1.length)),(8,.c (.int .i64 ((x.1:Int)-1)))]) (fun x=>gh x.2.2 9 x.2.1.length (strsF x.2.1)++[(g1,.cells 29 8 (ofL (mdc true m)))]) (fun x=>x.1≤m.pages.length+1∧(x.2.2=none→x.2.1.length=0)∧x.2.1.length≤16777216*x.1∧(frsN (inP m) (m.pages.length+1-x.1) x.1 x.2.1).1=N) (fun x=>m.pages.length+1-x.1) (0,[],none) (zB hn_g1) zZ ⟨Nat.zero_le _,fun _=>rfl,Nat.zero_le _,hN⟩ ?_
 rintro ⟨k,sp,og⟩ ⟨hk,hog,hsp,hlp⟩
 dsimp only at hk hog hsp hlp⊢
 refine aw_nd fun hnd=> ?_
 have hgn:∀g,og=some g→(g=g1)=False:=fun g e=>by
  subst e
  simp only [gh,Heap.keys,List.map_append,List.map_cons,List.map_nil,List.cons_append,List.nil_append] at hnd
  exact eq_false fun e=>(List.nodup_cons.1 hnd).1 (by rw [e];exact List.mem_cons_self)
 refine aw_perm List.perm_append_comm ?_
 clear hnd
 simp only [List.cons_append,List.nil_append]
 repeat' first|refine zV hn_g1 ?_|refine zH hn_g1 (fun hb=>?_) fun hb=>?_|fail
 ·have hk':k≤m.pages.length:=by omega
  have hsz':=hsz k hk' sp
  have hgk:=hgl k
  rw [show m.pages.length+1-k=(m.pages.length+1-(k+1))+1 from by omega] at hlp
  refine aw_callh (hc:=gh og 9 sp.length (strsF sp)) (hr:=[(g1,.cells 29 8 (ofL (mdc true m)))]) (checkInputs_fh m k sp og hk' hm hw2 (hIi k hk') (fun i j=>ho.inl k i j) hog om) rfl rfl rfl (List.perm_append_comm (l₁:=[(g1,_)])) (zL hn_g1) ?_
  rintro _ _ (⟨q1,rfl,rfl⟩|⟨q1,og2,q2,rfl,rfl⟩) _
  ·rw [frsN_ne (f:=inP m) q1] at hlp
   subst hlp
   simp only [List.nil_append]
   rw [orC_ne q1]
   refine yS hn_g1 ?_
   repeat' first|refine zV hn_g1 ?_|refine zH hn_g1 (fun hb=>?_) fun hb=>?_|fail
   ·refine yT hC hn_g1 ?_
    exact .one (.c ler_err)
   ·exfalso;simp_all
  ·rw [frsN_z (f:=inP m) q1] at hlp
   refine yS hn_g1 ?_
   repeat' first|refine zV hn_g1 ?_|refine zH hn_g1 (fun hb=>?_) fun hb=>?_|fail
   refine aw_stop ⟨(k+1,(inP m k sp).2,og2),?_⟩
   and_intros
   all_goals first|rfl|exact List.Sublist.refl _|exact True.intro|exact q2|exact hlp|exact c_int om|(dsimp only;omega)
 all_goals
  have hk1:k=m.pages.length+1:=by omega
  subst hk1
  rw [Nat.sub_self] at hlp
  have hN0:N=0:=hlp.symm
  subst hN0
  rw [orC_z rfl]
 have f3:=isInput_fa m 0 m.top (Nat.zero_le _) hm (Nat.le_trans (hgl 0) (by decide)) (Nat.le_trans ho.tp (by decide))
 rw [show((0:Nat):Int)-1= -1 from rfl] at f3
 have f4:=checkGroups_fa m hm ho.wf4
 have f5:=checkPhases_fa m hm hw2 ho.wf3
 clear hlp hsp hog hgn
 repeat' first|refine zV hn_g1 ?_|(refine yC2 hn_g1 (f3) ?_)|(refine yD2 hn_g1 (f3) ?_)|(refine yC2 hn_g1 (f4) ?_)|(refine yD2 hn_g1 (f4) ?_)|(refine yC2 hn_g1 (f5) ?_)|(refine yD2 hn_g1 (f5) ?_)|refine zH hn_g1 (fun hb=>?_) fun hb=>?_|fail
 ·refine yT hC hn_g1 ?_
  rw [show isInp m 0 m.top=false from by simpa using hb,if_neg (by decide),orC_ne (by decide)]
  exact .one (.c (ler_errE rfl (by decide)))
 ·rename_i h4
  rw [if_pos (by simpa using h4),orC_z rfl,orC_ne (by simpa using hb)]
  refine yT hC hn_g1 ?_
  exact .one (.c ler_err)
 ·rename_i h4 h5
  rw [if_pos (by simpa using h4),orC_z rfl,orC_z (by simpa using h5),orC_ne (by simpa using hb)]
  refine yT hC hn_g1 ?_
  exact .one (.c ler_err)
 rename_i h4 h5
 have e0:mcode0 m=0:=by
  unfold mcode0
  rw [if_pos (by simpa using h1),orC_z rfl,orC_z (by simpa using h2),orC_z h3,orC_z hG,orC_z hN,if_pos (by simpa using h4),orC_z rfl,orC_z (by simpa using h5)]
  simpa using hb
 rw [if_pos (by simpa using h4),orC_z rfl,orC_z (by simpa using h5),orC_z (by simpa using hb)]
 have f6:=cyclic_fa m (ho.cy e0)
 repeat' first|refine zV hn_g1 ?_|(refine yC2 hn_g1 (f6) ?_)|(refine yD2 hn_g1 (f6) ?_)|refine zH hn_g1 (fun hb=>?_) fun hb=>?_|fail
 ·refine yT hC hn_g1 ?_
  rw [if_pos hb]
  exact .one (.c (ler_errE rfl (by decide)))
 ·refine yT hC hn_g1 ?_
  rw [if_neg (by simpa using hb)]
  exact .one (.c (ler_err0 rfl))
end Go.Proofs.YtnmeahogifekdaaGreatDoor
namespace Go.PN
open Go.AI
theorem mcC_good {m:MdD} (h:mcC m=0):Good m:=(good_iff m).1 (orC_0.1 (show orC (mcode0 m) (if cycB m then 14 else 0)=0 from h)).1
theorem rtxt_0:rtxt rd0=[48]:=by
 have e1:RD.ps rd0=false:=by decide
 have e2:RD.pn rd0=0:=by decide
 have e3:RD.pd rd0=1:=by decide
 unfold rtxt
 rw [e1,e2,e3,if_neg (by simp),if_pos rfl,txtN_dec,decB_lt (by decide)];rfl
theorem zero_rd {r:RD} (h:zeroB r=true):r=rd0:=by
 obtain⟨a,b,c⟩:=r
 unfold zeroB at h
 simp only [Bool.and_eq_true,Bool.not_eq_true',beq_iff_eq,List.length_eq_zero_iff] at h
 obtain⟨⟨h1,h2⟩,h3⟩:=h
 subst h1 h2 h3
 rfl
theorem good_in {m:MdD} (h:Good m) {L:List GtD} (hL:GsA m L) {i:BS} (hi:InN m L i):InpOk i:=by
 have he:∀n,n∈evN m→nameOk n=true:=fun n hn=>by
  obtain⟨x,hx,rfl⟩:=List.mem_map.1 hn
  exact(h.ev x hx).1
 rcases hi with ⟨⟨h1,h2⟩,h3⟩|⟨_,h3|h3|h3⟩
 ·obtain⟨x,hx,e⟩:=List.mem_map.1 h3
  exact .inl ⟨h2,by rw [←e];exact(h.pg x hx).1,h1⟩
 ·exact .inr (he i h3)
 ·obtain⟨x,hx,rfl⟩:=List.mem_map.1 h3
  exact .inr (h.hs x hx).1
 ·obtain⟨x,hx,rfl⟩:=List.mem_map.1 h3
  exact .inr (hL.2 x hx).1
end Go.PN
namespace Go.PN
open Go.AI
theorem joinW_len1 (x:BS) (l:List BS):(joinW (x::l)).length+1=(x::l).length+sumW (x::l) (x::l).length:=by
 have h:=catW_len x l l.length (Nat.le_refl _)
 have e:catW x l l.length=joinW (x::l):=by unfold catW;rw [List.take_length];rfl
 rw [e] at h
 have a2:sumW (x::l) (x::l).length=x.length+sumW l l.length:=by unfold sumW;rw [List.take_length,List.take_length];rfl
 rw [h,a2,List.length_cons];omega
theorem lineW_len (x:BS) (l:List BS):(lineW (x::l)).length=(x::l).length+sumW (x::l) (x::l).length:=by
 rw [←joinW_len1];unfold lineW;simp
theorem take_flat_le {α:Type} (l:List α) (f:α→BS) (j:Nat):((l.take j).flatMap f).length≤(l.flatMap f).length:=by
 conv=>rhs;rw [←List.take_append_drop j l,List.flatMap_append,List.length_append]
 omega
def evTo (m:MdD) (j:Nat):BS:=lineW [kModel,m.name]++[10]++(m.events.take j).flatMap evX
def evLoTo (m:MdD) (j:Nat):Bool:=(m.events.take j).any fun x=>evLo false x 4
structure MdP (m:MdD):Prop where
 ev:∀x∈m.events,x.p.wf 100000∧x.fail.wf 100000∧x.rep.wf 100000∧ -9223372036854775808≤x.cost∧x.cost<9223372036854775808
 gt:∀g∈m.gates,-9223372036854775808≤g.kind∧g.kind<9223372036854775808∧(g.kind=2→0≤g.k∧g.k<100)∧g.dorm.wf 100000
 pg:∀p∈m.pages,∀g∈p.gates,-9223372036854775808≤g.kind∧g.kind<9223372036854775808∧(g.kind=2→0≤g.k∧g.k<100)∧g.dorm.wf 100000
 gr:∀x∈m.groups,∀r∈x.factors,r.wf 100000
 gk:∀x∈m.groups,∃q:Nat,q<2∧x.kind=(q:Int)
 ph:∀x∈m.phases,∀v∈x.values,v.p.wf 100000
 len:(textX m).length≤10000000000
def hsTo (m:MdD) (j:Nat):BS:=evTo m m.events.length++(m.houses.take j).flatMap hsX
theorem hsTo_succ (m:MdD) (j:Nat) (hj:j<m.houses.length):hsTo m (j+1)=hsTo m j++hsX (m.houses.getD j hs0):=by
 unfold hsTo
 rw [List.take_add_one,List.getElem?_eq_getElem hj,List.getD_eq_getElem?_getD,List.getElem?_eq_getElem hj,List.flatMap_append]
 simp
def gtTo (m:MdD) (j:Nat):BS:=hsTo m m.houses.length++(m.gates.take j).flatMap (gtX [])
def gtLoTo (lo:Bool) (l:List GtD) (j:Nat):Bool:=lo||(l.take j).any fun g=>decide (g.kind=7)&&longR g.dorm
theorem gtTo_succ (m:MdD) (j:Nat) (hj:j<m.gates.length):gtTo m (j+1)=gtTo m j++gateX (m.gates.getD j gt0)++[10]:=by
 unfold gtTo
 rw [List.take_add_one,List.getElem?_eq_getElem hj,List.getD_eq_getElem?_getD,List.getElem?_eq_getElem hj,List.flatMap_append]
 simp [gtX]
theorem gtLoTo_succ (lo:Bool) (l:List GtD) (j:Nat) (hj:j<l.length):gtLoTo lo l (j+1)=(gtLoTo lo l j||(decide ((l.getD j gt0).kind=7)&&longR (l.getD j gt0).dorm)):=by
 unfold gtLoTo
 rw [List.take_add_one,List.getElem?_eq_getElem hj,List.getD_eq_getElem?_getD,List.getElem?_eq_getElem hj,List.any_append,←Bool.or_assoc]
 simp
def pgTo (m:MdD) (j:Nat):BS:=gtTo m m.gates.length++(m.pages.take j).flatMap pgX
def pgLoTo (lo:Bool) (l:List PgD) (j:Nat):Bool:=lo||(l.take j).any fun p=>p.gates.any fun g=>decide (g.kind=7)&&longR g.dorm
theorem pgTo_succ (m:MdD) (j:Nat) (hj:j<m.pages.length):pgTo m (j+1)=pgTo m j++pgX (m.pages.getD j pg0):=by
 unfold pgTo
 rw [List.take_add_one,List.getElem?_eq_getElem hj,List.getD_eq_getElem?_getD,List.getElem?_eq_getElem hj,List.flatMap_append]
 simp
theorem pgLoTo_succ (lo:Bool) (l:List PgD) (j:Nat) (hj:j<l.length):pgLoTo lo l (j+1)=gtLoTo (pgLoTo lo l j) (l.getD j pg0).gates (l.getD j pg0).gates.length:=by
 unfold pgLoTo gtLoTo
 rw [List.take_add_one,List.getElem?_eq_getElem hj,List.getD_eq_getElem?_getD,List.getElem?_eq_getElem hj,List.any_append,←Bool.or_assoc,List.take_length]
 simp
def hdrT (k name top:BS):BS:=k++32::(name++32::(kTop++32::(top++[32,123])))
theorem hdrT_x (k name top:BS):hdrT k name top++[10]=headX k name top:=by simp [hdrT,headX]
def pgIn (B:BS) (x:PgD) (k:Nat):BS:=B++headX kPage x.name x.top++(x.gates.take k).flatMap (gtX [32,32])
theorem pgIn_succ (B:BS) (x:PgD) (k:Nat) (hk:k<x.gates.length):pgIn B x (k+1)=pgIn B x k++([32,32]++gateX (x.gates.getD k gt0))++[10]:=by
 unfold pgIn
 rw [List.take_add_one,List.getElem?_eq_getElem hk,List.getD_eq_getElem?_getD,List.getElem?_eq_getElem hk,List.flatMap_append]
 simp [gtX]
theorem pgIn_end (B:BS) (x:PgD):pgIn B x x.gates.length++[125]++[10]=B++pgX x:=by
 unfold pgIn pgX
 rw [List.take_length];simp
theorem pgIn_le (B:BS) (x:PgD) (k:Nat):(pgIn B x k).length≤(B++pgX x).length:=by
 have:=take_flat_le x.gates (gtX [32,32]) k
 unfold pgIn pgX
 simp only [List.length_append]
 omega
def grTo (m:MdD) (j:Nat):BS:=pgTo m m.pages.length++(m.groups.take j).flatMap grX
def grLoTo (lo:Bool) (l:List GrD) (j:Nat):Bool:=lo||(l.take j).any fun x=>x.factors.any longR
theorem evTo_succ (m:MdD) (j:Nat) (hj:j<m.events.length):evTo m (j+1)=evTo m j++lineW (evW (m.events.getD j ev0))++[10]:=by
 unfold evTo
 rw [List.take_add_one,List.getElem?_eq_getElem hj,List.getD_eq_getElem?_getD,List.getElem?_eq_getElem hj,List.flatMap_append]
 simp [evX]
theorem evLoTo_succ (m:MdD) (j:Nat) (hj:j<m.events.length):evLoTo m (j+1)=evLo (evLoTo m j) (m.events.getD j ev0) 4:=by
 unfold evLoTo
 rw [List.take_add_one,List.getElem?_eq_getElem hj,List.getD_eq_getElem?_getD,List.getElem?_eq_getElem hj,List.any_append]
 simp [evLo]
theorem evTo_le (m:MdD) (j:Nat):(evTo m j).length≤(textX m).length:=by
 have:=take_flat_le m.events evX j
 unfold evTo textX
 simp only [List.length_append,List.length_cons,List.length_nil]
 omega
theorem hsTo_le (m:MdD) (j:Nat):(hsTo m j).length≤(textX m).length:=by
 have:=take_flat_le m.houses hsX j
 unfold hsTo evTo textX
 simp only [List.length_append,List.length_cons,List.length_nil,List.take_length]
 omega
theorem gtTo_le (m:MdD) (j:Nat):(gtTo m j).length≤(textX m).length:=by
 have:=take_flat_le m.gates (gtX []) j
 unfold gtTo hsTo evTo textX
 simp only [List.length_append,List.length_cons,List.length_nil,List.take_length]
 omega
theorem pgTo_le (m:MdD) (j:Nat):(pgTo m j).length≤(textX m).length:=by
 have:=take_flat_le m.pages pgX j
 unfold pgTo gtTo hsTo evTo textX
 simp only [List.length_append,List.length_cons,List.length_nil,List.take_length]
 omega
def grWL (x:GrD) (k:Nat):List BS:=[kGroup,x.name,if x.kind=1 then kGreek else kBeta]++(x.factors.take k).map rtxt
def grLo (lo:Bool) (x:GrD) (k:Nat):Bool:=lo||(x.factors.take k).any longR
theorem grWL_succ (x:GrD) (k:Nat) (hk:k<x.factors.length):grWL x (k+1)=grWL x k++[rtxt (x.factors.getD k rd0)]:=by
 unfold grWL
 rw [List.take_add_one,List.getElem?_eq_getElem hk,List.getD_eq_getElem?_getD,List.getElem?_eq_getElem hk,List.map_append,←List.append_assoc]
 simp
theorem grLo_succ (lo:Bool) (x:GrD) (k:Nat) (hk:k<x.factors.length):grLo lo x (k+1)=(grLo lo x k||longR (x.factors.getD k rd0)):=by
 unfold grLo
 rw [List.take_add_one,List.getElem?_eq_getElem hk,List.getD_eq_getElem?_getD,List.getElem?_eq_getElem hk,List.any_append,←Bool.or_assoc]
 simp
theorem grWL_len (x:GrD) (k:Nat) (hk:k≤x.factors.length):(grWL x k).length=k+3:=by
 unfold grWL
 rw [List.length_append,List.length_map,List.length_take]
 simp;omega
theorem grWL_end (x:GrD):grWL x x.factors.length++[kColon]++x.members=grW x:=by
 unfold grWL grW
 rw [List.take_length];simp
theorem grTo_succ (m:MdD) (j:Nat) (hj:j<m.groups.length):grTo m (j+1)=grTo m j++lineW (grW (m.groups.getD j gr0))++[10]:=by
 unfold grTo
 rw [List.take_add_one,List.getElem?_eq_getElem hj,List.getD_eq_getElem?_getD,List.getElem?_eq_getElem hj,List.flatMap_append]
 simp [grX]
theorem grLoTo_succ (lo:Bool) (l:List GrD) (j:Nat) (hj:j<l.length):grLoTo lo l (j+1)=grLo (grLoTo lo l j) (l.getD j gr0) (l.getD j gr0).factors.length:=by
 unfold grLoTo grLo
 rw [List.take_add_one,List.getElem?_eq_getElem hj,List.getD_eq_getElem?_getD,List.getElem?_eq_getElem hj,List.any_append,←Bool.or_assoc,List.take_length]
 simp
theorem grTo_le (m:MdD) (j:Nat):(grTo m j).length≤(textX m).length:=by
 have:=take_flat_le m.groups grX j
 unfold grTo pgTo gtTo hsTo evTo textX
 simp only [List.length_append,List.length_cons,List.length_nil,List.take_length]
 omega
def phTo (m:MdD) (j:Nat):BS:=grTo m m.groups.length++(m.phases.take j).flatMap phX
def phLoTo (lo:Bool) (l:List PhD) (j:Nat):Bool:=lo||(l.take j).any fun x=>x.values.any fun v=>longR v.p
def phIn (B:BS) (x:PhD) (k:Nat):BS:=B++headX kPhase x.name x.top++(x.values.take k).flatMap vlX
def vlLo (lo:Bool) (l:List VlD) (k:Nat):Bool:=lo||(l.take k).any fun v=>longR v.p
theorem phTo_succ (m:MdD) (j:Nat) (hj:j<m.phases.length):phTo m (j+1)=phTo m j++phX (m.phases.getD j ph0):=by
 unfold phTo
 rw [List.take_add_one,List.getElem?_eq_getElem hj,List.getD_eq_getElem?_getD,List.getElem?_eq_getElem hj,List.flatMap_append]
 simp
theorem phLoTo_succ (lo:Bool) (l:List PhD) (j:Nat) (hj:j<l.length):phLoTo lo l (j+1)=vlLo (phLoTo lo l j) (l.getD j ph0).values (l.getD j ph0).values.length:=by
 unfold phLoTo vlLo
 rw [List.take_add_one,List.getElem?_eq_getElem hj,List.getD_eq_getElem?_getD,List.getElem?_eq_getElem hj,List.any_append,←Bool.or_assoc,List.take_length]
 simp
theorem vlLo_succ (lo:Bool) (l:List VlD) (k:Nat) (hk:k<l.length):vlLo lo l (k+1)=(vlLo lo l k||longR (l.getD k vl0).p):=by
 unfold vlLo
 rw [List.take_add_one,List.getElem?_eq_getElem hk,List.getD_eq_getElem?_getD,List.getElem?_eq_getElem hk,List.any_append,←Bool.or_assoc]
 simp
theorem phIn_succ (B:BS) (x:PhD) (k:Nat) (hk:k<x.values.length):phIn B x (k+1)=phIn B x k++([32,32]++lineW [(x.values.getD k vl0).event,rtxt (x.values.getD k vl0).p])++[10]:=by
 unfold phIn
 rw [List.take_add_one,List.getElem?_eq_getElem hk,List.getD_eq_getElem?_getD,List.getElem?_eq_getElem hk,List.flatMap_append]
 simp [vlX]
theorem phIn_end (B:BS) (x:PhD):phIn B x x.values.length++[125]++[10]=B++phX x:=by
 unfold phIn phX
 rw [List.take_length];simp
theorem phIn_le (B:BS) (x:PhD) (k:Nat):(phIn B x k).length≤(B++phX x).length:=by
 have:=take_flat_le x.values vlX k
 unfold phIn phX
 simp only [List.length_append]
 omega
theorem phTo_le (m:MdD) (j:Nat):(phTo m j).length≤(textX m).length:=by
 have:=take_flat_le m.phases phX j
 unfold phTo grTo pgTo gtTo hsTo evTo textX
 simp only [List.length_append,List.length_cons,List.length_nil,List.take_length]
 omega
theorem phTo_end (m:MdD):phTo m m.phases.length++lineW [kTop,m.top]++[10]=textX m:=by
 unfold phTo grTo pgTo gtTo hsTo evTo textX
 simp only [List.take_length]
 simp
theorem fl_le {α:Type} {f:α→BS} {B:Nat}:∀{l:List α} {n:Nat},l.length≤n→(∀x∈l,(f x).length≤B)→(l.flatMap f).length≤n*B
 |[],_,_,_=>Nat.zero_le _
 |x::l,n+1,hn,h=>by
  rw [List.flatMap_cons,List.length_append,Nat.add_mul]
  have h1:=fl_le (l:=l) (n:=n) (by simpa using hn) fun y hy=>h y (List.mem_cons_of_mem _ hy)
  have h2:=h x List.mem_cons_self
  omega
theorem lineW_le {l:List BS} {n B:Nat} (hn:l.length≤n) (h:∀x∈l,x.length≤B):(lineW l).length≤n*(B+1)+1:=by
 have e:(joinW l).length≤n*(B+1):=by
  match l,n,hn with
  |[],_,_=>exact Nat.zero_le _
  |x::l,n+1,hn=>
   have h1:=fl_le (f:=fun y:BS=>(32:UInt8)::y) (B:=B+1) (l:=l) (n:=n) (by simpa using hn) fun y hy=>by
    have:=h y (List.mem_cons_of_mem _ hy)
    simpa using this
   have h2:=h x List.mem_cons_self
   show(x++l.flatMap fun y:BS=>(32:UInt8)::y).length≤_
   rw [List.length_append,Nat.add_mul,Nat.one_mul]
   generalize n*(B+1)=K at*
   omega
 unfold lineW
 simpa using e
theorem rtxt_le {r:RD} (h:RdOk r):(rtxt r).length≤36004:=rtxt_len (L:=1000) (by decide) h
theorem name_le {n:BS} (h:nameOk n=true):n.length≤24:=by
 unfold nameOk at h
 simp only [Bool.and_eq_true,decide_eq_true_eq] at h
 exact h.1.1.2
theorem inp_le {i:BS} (h:InpOk i):i.length≤25:=by
 rcases h with ⟨_,h,_⟩|h
 ·have:=name_le h
  rw [List.length_drop] at this
  omega
 ·have:=name_le h;omega
theorem kindW_le (k:Int):(kindW k).length≤36004:=by
 unfold kindW
 split
 ·decide
 ·rename_i h
  obtain⟨n,rfl⟩:=Int.eq_ofNat_of_zero_le (show 0≤k by omega)
  have:n<9:=by omega
  match n,this with
  |0,_|1,_|2,_|3,_|4,_|5,_|6,_|7,_|8,_=>decide
structure ShpA (x:GtD):Prop where
 k0:0≤x.kind
 k8:x.kind≤8
 n0:0≤x.k
 n16:x.k≤16
 inp:x.inputs.length≤16
 dm:x.kind=7→x.dorm.prob=true
 d0:x.kind≠7→x.dorm=rd0
theorem shp_a {x:GtD} (h:shpC x=0):ShpA x:=by
 unfold shpC at h
 rw [ite0 (by decide),ite0 (by decide),ite0 (by decide),ite0 (by decide),ite0 (by decide),ite0 (by decide)] at h
 obtain⟨h1,h2,h3,h4,h5,h6,_⟩:=h
 have hi:x.inputs.length≤16:=by
  unfold inpB at h2
  simp only [Bool.not_eq_false] at h2
  split at h2
  ·have:=beq_iff_eq.1 h2;omega
  ·split at h2
   ·have:=beq_iff_eq.1 h2;omega
   ·split at h2
    ·simp only [Bool.and_eq_true,decide_eq_true_eq] at h2;omega
    ·simp only [Bool.and_eq_true,decide_eq_true_eq] at h2;omega
 have k0:x.kind≠2→x.k=0:=fun e=>Classical.byContradiction fun z=>h4 ⟨e,z⟩
 refine⟨by omega,by omega,?_,?_,hi,fun e=> ?_,fun e=>zero_rd (by
  by_cases z:zeroB x.dorm=true
  ·exact z
  ·exact absurd ⟨e,by simpa using z⟩ h6)⟩
 ·by_cases e:x.kind=2
  ·have:¬(x.k<1∨x.k>x.inputs.length):=fun z=>h3 ⟨e,z⟩
   omega
  ·rw [k0 e];decide
 ·by_cases e:x.kind=2
  ·have:¬(x.k<1∨x.k>x.inputs.length):=fun z=>h3 ⟨e,z⟩
   omega
  ·rw [k0 e];decide
 ·by_cases z:x.dorm.prob=true
  ·exact z
  ·exact absurd ⟨e,by simpa using z⟩ h5
theorem itoa_le {k:Int} (h0:0≤k) (h1:k≤16):(itoaB k).length≤2:=by
 unfold itoaB
 rw [if_neg om]
 exact decB_len 1 _ (by show _<100;omega)
theorem gateX_le {m:MdD} (hg:Good m) {L:List GtD} (hL:GsA m L) (ho:∀g∈L,GtO g):∀g∈L,(gateX g).length≤800000:=fun g hgm=>by
 obtain⟨a1,_,_,a4,a5,_⟩:=hL.2 g hgm
 have s:=shp_a a4
 have hw:(gateW g).length≤20:=by
  have hp:∀a b:BS,(if g.kind=2 then [a] else if g.kind=7 then [b] else []).length≤1:=fun a b=>by
   split
   ·simp
   ·split<;>simp
  have:=hp (itoaB g.k) (rtxt g.dorm)
  have:=s.inp
  unfold gateW
  simp only [List.length_cons,List.length_append]
  omega
 refine Nat.le_trans (lineW_le (B:=36004) hw fun x hx=> ?_) (by decide)
 unfold gateW at hx
 simp only [List.mem_cons,List.mem_append] at hx
 rcases hx with rfl|rfl|rfl|hx|hx
 ·decide
 ·have:=name_le a1;omega
 ·exact kindW_le _
 ·split at hx
  ·rw [List.mem_singleton] at hx
   subst hx
   have:=itoa_le s.n0 s.n16;omega
  ·split at hx
   ·rw [List.mem_singleton] at hx
    subst hx
    exact rtxt_le (ho g hgm).2.1
   ·cases hx
 ·have:=inp_le (good_in hg hL (a5 x hx));omega
theorem evW_le {x:EvD} (ha:EvA x) (ho:EvO x):(lineW (evW x)).length≤400000:=by
 have hp:∀(w:BS) (r:RD),(partW w r).length≤2:=fun w r=>by unfold partW;split<;>simp
 have hm:∀(w:BS) (r:RD),w.length≤36004→(signQ r.q≠0→(rtxt r).length≤36004)→∀y∈partW w r,y.length≤36004:=fun w r h1 h2 y hy=>by
  unfold partW at hy
  split at hy
  ·cases hy
  ·rename_i e
   simp only [List.mem_cons,List.not_mem_nil,or_false] at hy
   rcases hy with rfl|rfl
   ·exact h1
   ·exact h2 e
 obtain⟨a1,a2,a3,a4,a5,a6⟩:=ha
 obtain⟨o1,o2,o3,o4⟩:=ho
 have hw:(evW x).length≤10:=by
  have h1:=hp kP x.p
  have h2:=hp kFail x.fail
  have h3:=hp kRepair x.rep
  have h4:=hp kCost (rd (x.cost:Rat))
  unfold evW
  simp only [List.length_cons,List.length_append]
  omega
 refine Nat.le_trans (lineW_le (B:=36004) hw fun y hy=> ?_) (by decide)
 unfold evW at hy
 simp only [List.mem_cons,List.mem_append] at hy
 rcases hy with rfl|rfl|((hy|hy)|hy)|hy
 ·decide
 ·have:=name_le a1;omega
 ·exact hm kP _ (by decide) (fun _=>rtxt_le o2) y hy
 ·exact hm kFail _ (by decide) (fun _=>rtxt_le o3) y hy
 ·exact hm kRepair _ (by decide) (fun _=>rtxt_le o4) y hy
 ·refine hm kCost _ (by decide) (fun hs=> ?_) y hy
  have hc:x.cost≠0:=fun e=>hs ((sign_int x.cost).2 e)
  rw [rtxt_int om]
  have:=decB_len 9 x.cost.natAbs (by show _<10000000000;omega)
  omega
theorem rate_valid {r:RD} (h:rateB r=true):r.valid=true:=by
 unfold rateB at h
 simp only [Bool.and_eq_true] at h
 exact h.1
theorem prob_valid {r:RD} (h:r.prob=true):r.valid=true:=by
 unfold RD.prob at h
 simp only [Bool.and_eq_true] at h
 exact h.1.1
theorem long_0:longR rd0=false:=by unfold longR;rw [rtxt_0];rfl
theorem sign_long {r:RD} (hw:RdOk r) (hv:r.valid=true):(decide (signQ r.q≠0)&&longR r)=longR r:=by
 by_cases hs:signQ r.q=0
 ·have hq:r.q=0:=by
   unfold signQ at hs
   split at hs
   ·assumption
   ·split at hs<;>cases hs
  have h1:=rd_self hw hv
  rw [hq] at h1
  have h2:r=rd0:=by rw [←h1];decide+kernel
  rw [h2,long_0,Bool.and_false]
 ·rw [decide_eq_true hs,Bool.true_and]
theorem cost_long {c:Int} (h0:0≤c) (h1:c≤1073741824):(decide (signQ (rd (c:Rat)).q≠0)&&longR (rd (c:Rat)))=false:=by
 by_cases hc:c=0
 ·rw [decide_eq_false (fun h=>h ((sign_int c).2 hc))];rfl
 ·have:longR (rd (c:Rat))=false:=by
   unfold longR
   rw [rtxt_int om]
   have:=decB_len 9 c.natAbs (by show _<10000000000;omega)
   exact decide_eq_false om
  rw [this,Bool.and_false]
theorem any_cong {α:Type} {p q:α→Bool}:∀{l:List α},(∀x∈l,p x=q x)→l.any p=l.any q
 |[],_=>rfl
 |x::l,h=>by
  rw [List.any_cons,List.any_cons,h x List.mem_cons_self,any_cong fun y hy=>h y (List.mem_cons_of_mem _ hy)]
theorem gt_long {m:MdD} {L:List GtD} (hL:GsA m L):(L.any fun g=>decide (g.kind=7)&&longR g.dorm)=longG L:=by
 refine any_cong fun g hg=> ?_
 have s:=shp_a (hL.2 g hg).2.2.2.1
 by_cases h7:g.kind=7
 ·rw [decide_eq_true h7,Bool.true_and]
 ·rw [s.d0 h7,long_0,Bool.and_false]
theorem lo_end {m:MdD} (ho:MdO m) (hg:Good m):phLoTo (grLoTo (pgLoTo (gtLoTo (evLoTo m m.events.length) m.gates m.gates.length) m.pages m.pages.length) m.groups m.groups.length) m.phases m.phases.length=longX m:=by
 unfold phLoTo grLoTo pgLoTo gtLoTo evLoTo longX
 simp only [List.take_length]
 rw [gt_long hg.gt,any_cong (p:=fun p:PgD=>p.gates.any fun g=>decide (g.kind=7)&&longR g.dorm) (q:=fun p=>longG p.gates) fun p hp=>gt_long (hg.pg p hp).2.1]
 rw [any_cong (p:=fun x=>evLo false x 4) (q:=longE) fun x hx=> ?_]
 obtain⟨a1,a2,a3,a4,a5,a6⟩:=hg.ev x hx
 obtain⟨o1,o2,o3,o4⟩:=ho.ev.2 x hx
 have e:evLo false x 4=((decide (signQ x.p.q≠0)&&longR x.p)||((decide (signQ x.fail.q≠0)&&longR x.fail)||((decide (signQ x.rep.q≠0)&&longR x.rep)||((decide (signQ (rd (x.cost:Rat)).q≠0)&&longR (rd (x.cost:Rat)))||false)))):=rfl
 rw [e,sign_long o2 (prob_valid a2),sign_long o3 (rate_valid a3),sign_long o4 (rate_valid a4),cost_long a5 a6]
 unfold longE
 simp [Bool.or_assoc]
theorem ite_le {p:Prop} [Decidable p] {a b:BS} {n:Nat} (ha:a.length≤n) (hb:b.length≤n):(if p then a else b).length≤n:=by split<;>assumption
theorem pgtop_le {m:MdD} (hg:Good m) {x:PgD} (hx:x∈m.pages):x.top.length≤24:=by
 obtain⟨_,a2,a3⟩:=hg.pg x hx
 rcases a3 with a3|a3
 ·obtain⟨g,hgm,e⟩:=List.mem_map.1 a3
  rw [←e];exact name_le (a2.2 g hgm).1
 ·obtain⟨g,hgm,e⟩:=List.mem_map.1 a3
  rw [←e];exact name_le (hg.ev g hgm).1
theorem gtl_le {m:MdD} (hg:Good m):m.gates.length≤64∧∀p∈m.pages,p.gates.length≤64:=by
 have h:=hg.gtl
 unfold gtN at h
 refine⟨by omega,fun p hp=> ?_⟩
 have:p.gates.length≤(m.pages.map fun p=>p.gates.length).sum:=by
  clear h hg
  generalize m.pages=L at*
  induction L with
  |nil=>cases hp
  |cons a L ih=>
   rw [List.map_cons,List.sum_cons]
   rcases List.mem_cons.1 hp with rfl|hp
   ·omega
   ·have:=ih hp;omega
 omega
theorem ph_vl {m:MdD} (hg:Good m) {x:PhD} (hx:x∈m.phases):x.values.length≤24:=by
 obtain⟨_,_,a3,a4⟩:=hg.ph x hx
 have h1:(x.values.map VlD.event).length≤(evN m).length:=nodup_len a4 fun n hn=>by
  obtain⟨v,hv,rfl⟩:=List.mem_map.1 hn
  exact(a3 v hv).1
 rw [List.length_map,List.length_map] at h1
 have:=hg.evl
 omega
theorem text_le {m:MdD} (ho:MdO m) (hg:Good m):(textX m).length≤10000000000:=by
 have h0:(lineW [kModel,m.name]).length≤2*(24+1)+1:=lineW_le (B:=24) (by simp) fun x hx=>by
  simp only [List.mem_cons,List.not_mem_nil,or_false] at hx
  rcases hx with rfl|rfl
  ·decide
  ·exact name_le hg.nm
 have h1:(m.events.flatMap evX).length≤24*400001:=fl_le hg.evl fun x hx=>by
  have:=evW_le (hg.ev x hx) (ho.ev.2 x hx)
  unfold evX;simpa using this
 have h2:(m.houses.flatMap hsX).length≤16*100:=fl_le hg.hsl fun x hx=>by
  have:(lineW [kHouse,x.name,if x.on then kOn else kOff]).length≤3*(24+1)+1:=lineW_le (B:=24) (by simp) fun y hy=>by
   simp only [List.mem_cons,List.not_mem_nil,or_false] at hy
   rcases hy with rfl|rfl|rfl
   ·decide
   ·exact name_le (hg.hs x hx).1
   ·exact ite_le (by decide) (by decide)
  unfold hsX
  rw [List.length_append,List.length_singleton];omega
 obtain⟨g1,g2⟩:=gtl_le hg
 have hgt:∀(ind:BS) (L:List GtD),ind.length≤2→GsA m L→(∀g∈L,GtO g)→L.length≤64→(L.flatMap (gtX ind)).length≤64*800003:=fun ind L hi hL hLo hl=>fl_le hl fun g hgm=>by
  have:=gateX_le hg hL hLo g hgm
  unfold gtX
  rw [List.length_append,List.length_append,List.length_singleton];omega
 have h3:=hgt [] m.gates (by decide) hg.gt ho.gt.2 g1
 have h4:(m.pages.flatMap pgX).length≤8*60000000:=fl_le hg.pgl fun x hx=>by
  have a:=hgt [32,32] x.gates (by decide) (hg.pg x hx).2.1 (ho.pg.2 x hx).2.2.2 (g2 x hx)
  have b:=name_le (hg.pg x hx).1
  have c:=pgtop_le hg hx
  unfold pgX headX
  simp only [List.length_append,List.length_cons,List.length_nil]
  omega
 have h5:(m.groups.flatMap grX).length≤8*2000000:=fl_le hg.grl fun x hx=>by
  obtain⟨b1,b2,b3,b4,b5⟩:=hg.gr x hx
  have c1:x.members.length≤24∧x.factors.length≤24:=by
   obtain⟨d1,d2,d3⟩:=b3
   split at d2<;>(split at d3<;>omega)
  have hw:(grW x).length≤52:=by unfold grW;simp only [List.length_cons,List.length_append,List.length_map];omega
  have:=lineW_le (B:=36004) hw fun y hy=>by
   unfold grW at hy
   simp only [List.mem_cons,List.mem_append] at hy
   rcases hy with rfl|rfl|rfl|hy|rfl|hy
   ·decide
   ·have:=name_le b1;omega
   ·exact ite_le (by decide) (by decide)
   ·obtain⟨r,hr,rfl⟩:=List.mem_map.1 hy
    exact rtxt_le ((ho.gr.2 x hx).2.2.2.2 r hr)
   ·decide
   ·obtain⟨e,he,h⟩:=List.mem_map.1 (b4 y hy)
    have:=name_le (hg.ev e he).1
    rw [h] at this;omega
  unfold grX
  rw [List.length_append,List.length_singleton];omega
 have h6:(m.phases.flatMap phX).length≤6*2000000:=fl_le hg.phl fun x hx=>by
  obtain⟨b1,b2,b3,_⟩:=hg.ph x hx
  have c1:=ph_vl hg hx
  have a:(x.values.flatMap vlX).length≤24*72100:=fl_le c1 fun v hv=>by
   have:(lineW [v.event,rtxt v.p]).length≤2*(36004+1)+1:=lineW_le (B:=36004) (by simp) fun y hy=>by
    simp only [List.mem_cons,List.not_mem_nil,or_false] at hy
    rcases hy with rfl|rfl
    ·obtain⟨e,he,h⟩:=List.mem_map.1 (b3 v hv).1
     have:=name_le (hg.ev e he).1
     rw [h] at this;omega
    ·exact rtxt_le ((ho.ph.2 x hx).2.2.2 v hv).2
   unfold vlX
   simp only [List.length_append,List.length_cons,List.length_nil];omega
  have b:=name_le b1
  have c:=inp_le (good_in hg hg.gt b2)
  unfold phX headX
  simp only [List.length_append,List.length_cons,List.length_nil]
  have:kPhase.length=5:=rfl
  have:kTop.length=3:=rfl
  omega
 have h7:(lineW [kTop,m.top]).length≤2*(25+1)+1:=lineW_le (B:=25) (by simp) fun x hx=>by
  simp only [List.mem_cons,List.not_mem_nil,or_false] at hx
  rcases hx with rfl|rfl
  ·decide
  ·exact inp_le (good_in hg hg.gt hg.tp)
 unfold textX
 simp only [List.length_append,List.length_cons,List.length_nil]
 omega
theorem mdP_of {m:MdD} (ho:MdO m) (h:mcC m=0):MdP m:=by
 have hg:=mcC_good h
 have hgt:∀(L:List GtD),GsA m L→(∀g∈L,GtO g)→∀g∈L,-9223372036854775808≤g.kind∧g.kind<9223372036854775808∧(g.kind=2→0≤g.k∧g.k<100)∧g.dorm.wf 100000:=fun L hL hLo g hgm=>by
  have s:=shp_a (hL.2 g hgm).2.2.2.1
  have a1:=s.k0
  have a2:=s.k8
  have a3:=s.n0
  have a4:=s.n16
  exact⟨by omega,by omega,fun _=>⟨a3,by omega⟩,RD.wf.mono (hLo g hgm).2.1 (by decide)⟩
 refine⟨fun x hx=> ?_,hgt _ hg.gt ho.gt.2,fun p hp=>hgt _ (hg.pg p hp).2.1 (ho.pg.2 p hp).2.2.2,fun x hx r hr=>RD.wf.mono ((ho.gr.2 x hx).2.2.2.2 r hr) (by decide),fun x hx=> ?_,fun x hx v hv=>RD.wf.mono ((ho.ph.2 x hx).2.2.2 v hv).2 (by decide),text_le ho hg⟩
 ·obtain⟨_,_,_,_,a5,a6⟩:=hg.ev x hx
  obtain⟨_,o2,o3,o4⟩:=ho.ev.2 x hx
  exact⟨RD.wf.mono o2 (by decide),RD.wf.mono o3 (by decide),RD.wf.mono o4 (by decide),by omega,by omega⟩
 ·rcases(hg.gr x hx).2.1 with e|e
  ·exact⟨0,by omega,e⟩
  ·exact⟨1,by omega,e⟩
end Go.PN
namespace Go.PN
open Go.AI
variable {α β : Type}
def InpR (k:Int) (l l':List BS):Prop:=if freeK k then l'.Perm l else if k=8 then l'.take 1=l.take 1∧(l'.drop 1).Perm (l.drop 1) else l'=l
structure ReG (g g':GtD):Prop where
 nm:g'.name=g.name
 kd:g'.kind=g.kind
 k:g'.k=g.k
 dm:g'.dorm=g.dorm
 inp:InpR g.kind g.inputs g'.inputs
def ReL (L L':List GtD):Prop:=∃h:GtD→GtD,(∀g∈L,ReG g (h g))∧L'.Perm (L.map h)
structure ReP (x x':PgD):Prop where
 nm:x'.name=x.name
 tp:x'.top=x.top
 gt:ReL x.gates x'.gates
structure ReR (x x':GrD):Prop where
 nm:x'.name=x.name
 kd:x'.kind=x.kind
 fa:x'.factors=x.factors
 me:x'.members.Perm x.members
structure ReH (x x':PhD):Prop where
 nm:x'.name=x.name
 tp:x'.top=x.top
 vl:x'.values.Perm x.values
structure ReM (m m':MdD):Prop where
 nm:m'.name=m.name
 tp:m'.top=m.top
 ev:m'.events.Perm m.events
 hs:m'.houses.Perm m.houses
 gt:ReL m.gates m'.gates
 pg:∃h:PgD→PgD,(∀x∈m.pages,ReP x (h x))∧m'.pages.Perm (m.pages.map h)
 gr:∃h:GrD→GrD,(∀x∈m.groups,ReR x (h x))∧m'.groups.Perm (m.groups.map h)
 ph:∃h:PhD→PhD,(∀x∈m.phases,ReH x (h x))∧m'.phases=m.phases.map h
end Go.PN
namespace Go.PN
open Go.AI
variable {α : Type}
structure NrmS (m:MdD):Prop where
 ev:∀i,i+1<m.events.length→ltB (m.events.getD i ev0).name (m.events.getD (i+1) ev0).name=true
 hs:∀i,i+1<m.houses.length→ltB (m.houses.getD i hs0).name (m.houses.getD (i+1) hs0).name=true
 gr:∀i,i+1<m.groups.length→ltB (m.groups.getD i gr0).name (m.groups.getD (i+1) gr0).name=true
 pg:∀i,i+1<m.pages.length→ltB (m.pages.getD i pg0).name (m.pages.getD (i+1) pg0).name=true
 gt:∀k i,i+1<(gtsK m k).length→ltB ((gtsK m k).getD i gt0).name ((gtsK m k).getD (i+1) gt0).name=true
 inp:∀k,∀g∈gtsK m k,g.kind=0∨g.kind=1→∀i,i+1<g.inputs.length→ltB (g.inputs.getD (i+1) []) (g.inputs.getD i [])=false
end Go.PN
namespace Go.PN
open Go.AI
theorem shp_inp {x:GtD} (h:shpC x=0):1≤x.inputs.length∧(x.kind=8→2≤x.inputs.length):=by
 unfold shpC at h
 rw [ite0 (by decide),ite0 (by decide)] at h
 obtain⟨h1,h2,_⟩:=h
 unfold inpB at h2
 simp only [Bool.not_eq_false] at h2
 split at h2
 ·have:=beq_iff_eq.1 h2;omega
 ·split at h2
  ·have:=beq_iff_eq.1 h2;omega
  ·split at h2
   ·simp only [Bool.and_eq_true,decide_eq_true_eq] at h2;omega
   ·simp only [Bool.and_eq_true,decide_eq_true_eq] at h2;omega
theorem gtN_of {m:MdD} {L:List GtD} (hL:GsA m L) (ho:∀g∈L,GtO g):∀g∈L,GtN g:=fun g hg=>by
 have h:=(hL.2 g hg).2.2.2.1
 exact⟨(ho g hg).2.1,(shp_inp h).1,(shp_a h).inp,(shp_inp h).2⟩
theorem mdN_of {m:MdD} (ho:MdO m) (hg:Good m):MdN m:=by
 obtain⟨g1,g2⟩:=gtl_le hg
 refine⟨fun x hx=>(ho.ev.2 x hx).2,gtN_of hg.gt ho.gt.2,g1,fun p hp=>⟨g2 p hp,gtN_of (hg.pg p hp).2.1 (ho.pg.2 p hp).2.2.2⟩,fun x hx=> ?_,fun x hx=>⟨ph_vl hg hx,fun v hv=>((ho.ph.2 x hx).2.2.2 v hv).2⟩⟩
 obtain⟨b1,b2,b3,b4,b5⟩:=hg.gr x hx
 have c1:x.members.length≤24∧x.factors.length≤24:=by
  obtain⟨d1,d2,d3⟩:=b3
  split at d2<;>(split at d3<;>omega)
 exact⟨c1.1,c1.2,(ho.gr.2 x hx).2.2.2.2⟩
end Go.PN
namespace Go.Proofs.YtnmeahogifekdaaGreatDoor
open Go.AI Go.PN
attribute [local irreducible] aw Fa Fh DrK
theorem pnorm_fa (m:MdD) (ho:MdO m):Fa Tryz.prog 14 [.agg (mdc true m)] (.tup [.agg (mdc true (if mcC m=0 then normM m else md0)),.c (errA (mcC m))]):=by
 have f1:=check_fa m ho
 by_cases hc:mcC m=0
 ·rw [if_pos hc,hc]
  rw [hc] at f1
  have e0:errA 0=.nilI:=if_pos rfl
  rw [e0] at f1⊢
  have hg:=mcC_good hc
  exact pnormT_fa m hg (mdN_of ho hg) f1
 ·rw [if_neg hc]
  have hc':(!decide (mcC m=0))=true:=by rw [decide_eq_false hc];rfl
  refine fa_of_body Tryz.func14 rfl rfl (by simp [Tryz.ntmps14]) fun C hC=> ?_
  simp only [initS,Nat.reduceAdd]
  refine xG ?_
  refine xB fun g1 hn_g1=>?_
  refine yA hn_g1 fun g2 hn_g2=>?_
  all_goals try(have Z:=(oj hn_g1 (oj hn_g2 hc'));(repeat' first|refine zV Z ?_|(refine yC2 Z (f1) ?_)|(refine yD2 Z (f1) ?_)|refine zH Z (fun hb=>?_) fun hb=>?_|fail);all_goals clear Z)
  refine yT hC (oj hn_g1 (oj hn_g2 hc')) ?_
  exact .tup ⟨.agg lerl_md0,.c ler_err,trivial⟩
end Go.Proofs.YtnmeahogifekdaaGreatDoor
namespace Go.AI
theorem POk.buildZ {P:Program} {h:Heap} {ρ:Operand→AV} {t:TypeId} {vs:List Value} (hz:zeroL P t=some vs) (hfl:(tFlds P t).isSome=true):POk P h ρ (.build t #[]) (.agg (vs.map CV.raw)):=by
 intro S w e hS ho _
 obtain⟨fl,hfl⟩:=Option.isSome_iff_exists.1 hfl
 obtain⟨fs,hu,hrun⟩:=tFlds_run hfl
 obtain⟨i,zv,hi,hzv,rfl⟩:=zeroL_spec hz
 refine⟨.agg zv.cells,fun o hop=> ?_,zv.cells.toList,by simp,rawL_rep _ _ _⟩
 simp only [execOp,hop,Instr.build,Sem.run_bind,zeroValue,typeInfo,run_program,hi,hzv,Result.andThen_ok,Sem.run_pure,run_underlying hu,hrun w]
 rw [show(Array.map (fun x:Nat×Operand=>(x.fst,e x.snd)) #[]).toList=[] from by simp]
 simp [Instr.fill,Sem.run_pure]
section
variable {E : Env} {K : List It} {l : List Oper} {FP FP' : Heap} {σ σ' : Sl} {h : Heap} {o : Oper} {i m : Nat} {cs : List (Nat × Nat)}
theorem cw_pokP {r:AV} (ho:l[i]?=some o) (hp:∀ρ:Operand→AV,(∀x∈o.op.operands,ρ x=ev σ x)→POk E.P h ρ o.op r) (hw:wantA l σ o=some true) (hd:dstOk E.N o.dst=true) (hFP:Has0 FP' h) (k:CW E l K FP' cs (σ.setO o.dst r) h) (hm:m=2∨m=1∧FP'=FP:=by first|exact .inl rfl|exact .inr ⟨rfl,rfl⟩):CW E l K FP ((i,m)::cs) σ h:=by
 refine .pin ho hm (R:=fun x h2=>x=r∧h2=h) (fun σ' K hs=> ?_) ?_ ?_
 ·exact aw_pok (hp (ev σ') fun x hx=>ev_same hx hs) ((want_same hs).trans hw) hd (aw_ops_nil (aw_stop ⟨r,⟨rfl,rfl⟩,rfl⟩))
 ·rintro _ _ ⟨_,rfl⟩;exact hFP
 ·rintro _ _ ⟨rfl,rfl⟩;exact k
end
end Go.AI
namespace Go.Proofs.YtnmeahogifekdaaGreatDoor
open Go.AI Go.PN
theorem strs_app3 (a b c:List BS) (j:Nat) (hj:j<a.length+b.length+c.length):appF (appF (strsF a) (a.length*1) (strsF b)) ((a.length+b.length)*1) (strsF c) j=strsF (a++b++c) j:=by
 have h2:=strs_app (a++b) c j (by rw [List.length_append];omega)
 rw [List.length_append] at h2
 rw [←h2]
 by_cases h:j<(a.length+b.length)*1
 ·have h1:=strs_app a b j h
  show(if j<(a.length+b.length)*1 then appF (strsF a) (a.length*1) (strsF b) j else _)=(if j<(a.length+b.length)*1 then strsF (a++b) j else _)
  rw [if_pos h,if_pos h]
  exact h1
 ·unfold appF
  rw [if_neg h,if_neg h]
theorem le_own {g n:Nat} {ty:TypeId} {l:List BS} {f:Nat→CV} {h:Heap} (hg:h.get g=some (.cells ty n f)) (hn:n=l.length) (hf:∀j,j<n→f j=strsF l j):LeC h (.osl g 1 0 n) (strs false l):=by
 subst hn
 exact .osl hg om (fun j hj=>by rw [Nat.zero_add,hf j om];exact .refl _)
attribute [local irreducible] aw Fa Fh DrK
set_option pp.maxSteps 40000 in
set_option pp.deepTerms true in
theorem ptext_fa (m:MdD) (ho:MdO m) (hP:mcC m=0→MdP m):Fa Tryz.prog 10 [.agg (mdc true m)] (.tup [.c (.str (sB (if mcC m≠0 then([],mcC m) else textR m).1)),.c (errA (if mcC m≠0 then([],mcC m) else textR m).2)]):=by
 have f1:=check_fa m ho
 by_cases hc:mcC m=0
 ·rw [if_neg (fun h=>h hc)]
  rw [hc] at f1
  have e0:errA 0=.nilI:=rfl
  rw [e0] at f1
  have p:=hP hc
  have hGood:=mcC_good hc
  have hlong:=lo_end ho hGood
  have h0l:(lineW [kModel,m.name]).length≤10000000000:=by have a:=evTo_le m 0;have b:=p.len;unfold evTo at a;simp only [List.length_append] at a;omega
  have nR:m.groups.length≤1099511627776:=Nat.le_trans ho.gr.1 (by decide)
  have nS:m.phases.length≤1099511627776:=Nat.le_trans ho.ph.1 (by decide)
  have nP:m.pages.length≤1099511627776:=Nat.le_trans ho.pg.1 (by decide)
  have nG:m.gates.length≤1099511627776:=Nat.le_trans ho.gt.1 (by decide)
  have nH:m.houses.length≤1099511627776:=Nat.le_trans ho.hs.1 (by decide)
  have nE:m.events.length≤1099511627776:=Nat.le_trans ho.ev.1 (by decide)
  refine fa_of_body Tryz.func10 rfl rfl (by simp [Tryz.ntmps10]) fun C hC=> ?_
  simp only [initS,Nat.reduceAdd]
  refine xG ?_
  refine xB fun g1 hn_g1=>?_
  refine yG hn_g1 ?_
  refine yC hn_g1 (f1) ?_
  refine yG hn_g1 ?_
  refine yN hn_g1 ?_
  repeat first|apply wa1|apply wa3|apply wa4|apply wa6
  refine aw_pok (POk.buildZ (vs:=[.pointer none,.slice none 0 0,.bool false]) (by kernel_rfl) (by kernel_rfl)) rfl rfl ?_
  refine yS hn_g1 ?_
  refine aw_conv (t:=31) (v:=.agg [.raw (.pointer none),.raw (.slice none 0 0),.bool false]) (fun S w u h=>by obtain⟨us,e,hL⟩:=h;exact⟨us,e,by match us,hL with|[_,_,_],h=>exact h⟩) rfl ?_
  refine yS hn_g1 ?_
  refine yB hn_g1 fun g5 hn_g5=>?_
  refine(?_:aw _ _ _ [bldG 79 [.bool false] g5 (.raw (.pointer none)) (gsR none 0),(g1,.cells 29 8 (ofL (mdc true m)))])
  have J1:=oj hn_g1 hn_g5
  refine yG J1 ?_
  refine aw_buildSlice (xs:=[.const (.string (sB kModel)),.tmp 35]) (cells:=[.str (sB kModel),.str (sB m.name)]) rfl rfl rfl (zE J1) (by refine yS J1 ?_;rfl) rfl om om (by intro z hz;simp only [List.mem_cons,List.not_mem_nil,or_false] at hz;rcases hz with rfl|rfl<;>exact⟨rfl,rfl,rfl⟩) rfl fun g36 hn_g36=> ?_
  refine yS J1 ?_
  refine aw_callq (line_fa false [kModel,m.name] (by rw [←lineW_len];omega)) rfl rfl rfl (by refine yS J1 ?_;exact .c (le_own (n:=2) (ty:=9) (f:=ofL [.str (sB kModel),.str (sB m.name)]) (by simp [Heap.get]) rfl (fun q hq=>by match q,hq with|0,_=>rw [strsF_0];rfl|1,_=>rw [strsF_0];rfl))) ?_
  refine aw_weak (Sl.le_refl _) (List.sublist_cons_self _ _) ?_
  refine yS J1 ?_
  refine aw_callh (hc:=bdH 79 [.bool false] g5 (.raw (.pointer none)) none []) (hr:=[(g1,.cells 29 8 (ofL (mdc true m)))]) (put_fh false g5 _ none [] (lineW [kModel,m.name]) ⟨.inl rfl,fun _=>rfl⟩ (by rw [List.length_nil];omega)) rfl rfl rfl (.refl _) (zL J1) ?_
  rintro _ _ ⟨og,hog,rfl,rfl⟩ _
  refine aw_perm (List.perm_append_comm (l₂:=[_])) ?_
  rw [show []++lineW [kModel,m.name]++[10]=evTo m 0 from by simp [evTo]] at hog⊢
  refine(?_:aw _ _ _ ((g1,.cells 29 8 (ofL (mdc true m)))::bdH 79 [.bool (evLoTo m 0)] g5 (.optr g5 0) og (evTo m 0)))
  refine ySG J1 ?_
  refine aw_lp (fun z:Nat×Option Nat=>[(1,.c (.optr g1 0)),(5,.c (.optr g5 0)),(40,.c (evs true m.events)),(41,.c (.int .i64 m.events.length)),(42,.c (.int .i64 z.1))]) (fun z=>(g1,.cells 29 8 (ofL (mdc true m)))::bdH 79 [.bool (evLoTo m z.1)] g5 (.optr g5 0) z.2 (evTo m z.1)) (fun z=>z.1≤m.events.length∧BdOk (.optr g5 0) g5 z.2 (evTo m z.1)) (fun z=>m.events.length-z.1) (0,og) (zB J1) zZ ⟨Nat.zero_le _,hog⟩ ?_
  rintro ⟨j,og1⟩ ⟨hj,hog1⟩
  dsimp only at hj hog1⊢
  by_cases hjn:j<m.events.length
  ·have d1:decide (j<m.events.length)=true:=decide_eq_true hjn
   have hx:m.events.getD j ev0∈m.events:=by rw [List.getD_eq_getElem?_getD,List.getElem?_eq_getElem hjn];exact List.getElem_mem _
   obtain⟨x1,x2,x3,x4,x5⟩:=p.ev _ hx
   generalize hv:m.events.getD j ev0=x at*
   all_goals try(have Z:=(oj hn_g1 (oj hn_g5 (oj d1 hv)));(repeat' first|refine zV Z ?_|refine zH Z (fun hb=>?_) fun hb=>?_|fail);all_goals clear Z)
   refine yA (oj hn_g1 (oj hn_g5 (oj d1 hv))) fun g7 hn_g7=>?_
   all_goals try(have Z:=(oj hn_g1 (oj hn_g5 (oj d1 (oj hv hn_g7))));(repeat' first|refine zV Z ?_|refine zH Z (fun hb=>?_) fun hb=>?_|fail);all_goals clear Z)
   have hs:=evTo_succ m j hjn
   have hls:=evLoTo_succ m j hjn
   rw [hv] at hs hls
   have hb:=evTo_le m (j+1)
   have hb2:=p.len
   have hlen:(evTo m (j+1)).length=(evTo m j).length+(lineW (evW x)).length+1:=by rw [hs];simp;omega
   have hlw:(lineW (evW x)).length=(evW x).length+sumW (evW x) (evW x).length:=lineW_len _ _
   have he:=pevent_fh (evLoTo m j) g5 (.optr g5 0) (gsR og1 (evTo m j).length) x x1 x2 x3 x4 x5 om
   refine aw_callh (hc:=[bldG 79 [.bool (evLoTo m j)] g5 (.optr g5 0) (gsR og1 (evTo m j).length)]) (hr:=(g7,.cells 49 11 (ofL (evc x)))::(g1,.cells 29 8 (ofL (mdc true m)))::gh og1 5 (evTo m j).length (byF (evTo m j))) he rfl rfl rfl (List.perm_middle (l₁:=[_,_])) (zL (oj hn_g1 (oj hn_g5 (oj d1 (oj hv hn_g7))))) ?_
   rintro _ _ ⟨rfl,rfl⟩ _
   have J2:=oj hn_g1 (oj hn_g5 (oj d1 (oj hv hn_g7)))
   refine yS J2 ?_
   refine aw_callh (hc:=bdH 79 [.bool (evLo (evLoTo m j) x 4)] g5 (.optr g5 0) og1 (evTo m j)) (hr:=[(g7,.cells 49 11 (ofL (evc x))),(g1,.cells 29 8 (ofL (mdc true m)))]) (put_fh _ g5 _ og1 (evTo m j) (lineW (evW x)) hog1 om) rfl rfl rfl (List.Perm.cons _ (List.perm_append_comm (l₁:=[_,_]))) (zL J2) ?_
   rintro _ _ ⟨og2,hog2,rfl,rfl⟩ _
   rw [←hs] at hog2⊢
   rw [←hls]
   refine aw_perm (List.perm_append_comm (l₂:=[_,_])) ?_
   refine aw_weak (Sl.le_refl _) (List.sublist_cons_self _ _) ?_
   refine ySG J2 ?_
   exact aw_stop ⟨(j+1,og2),by dsimp only;omega,(zB J2),zZ,by dsimp only;omega,hog2⟩
  have d1:decide (j<m.events.length)=false:=decide_eq_false hjn
  obtain rfl:j=m.events.length:=by omega
  rw [show evTo m m.events.length=hsTo m 0 from by simp [hsTo]] at hog1⊢
  generalize evLoTo m m.events.length=lo1 at*
  all_goals try(have Z:=(oj hn_g1 (oj hn_g5 d1));(repeat' first|refine zV Z ?_|refine zH Z (fun hb=>?_) fun hb=>?_|fail);all_goals clear Z)
  refine aw_lp (fun z:Nat×Option Nat=>[(1,.c (.optr g1 0)),(5,.c (.optr g5 0)),(53,.c (hss true m.houses)),(54,.c (.int .i64 m.houses.length)),(55,.c (.int .i64 z.1))]) (fun z=>(g1,.cells 29 8 (ofL (mdc true m)))::bdH 79 [.bool lo1] g5 (.optr g5 0) z.2 (hsTo m z.1)) (fun z=>z.1≤m.houses.length∧BdOk (.optr g5 0) g5 z.2 (hsTo m z.1)) (fun z=>m.houses.length-z.1) (0,og1) (zB (oj hn_g1 (oj hn_g5 d1))) zZ ⟨Nat.zero_le _,hog1⟩ ?_
  rintro ⟨j,og⟩ ⟨hj,hog⟩
  dsimp only at hj hog⊢
  by_cases hjn:j<m.houses.length
  ·have d1:decide (j<m.houses.length)=true:=decide_eq_true hjn
   have hs:=hsTo_succ m j hjn
   have hbb:=hsTo_le m (j+1)
   have hb2:=p.len
   generalize hv:m.houses.getD j hs0=x at*
   obtain⟨w,hw⟩:∃w,w=if x.on then kOn else kOff:=⟨_,rfl⟩
   have hs2:hsTo m (j+1)=hsTo m j++lineW [kHouse,x.name,w]++[10]:=by rw [hs,hw,List.append_assoc];rfl
   have hlen:(hsTo m (j+1)).length=(hsTo m j).length+(lineW [kHouse,x.name,w]).length+1:=by rw [hs2];simp only [List.length_append,List.length_cons,List.length_nil]
   all_goals try(have Z:=(oj hn_g1 (oj hn_g5 (oj d1 (oj d1 hv))));(repeat' first|refine zV Z ?_|refine zH Z (fun hb=>?_) fun hb=>?_|fail);all_goals clear Z)
   refine yA (oj hn_g1 (oj hn_g5 (oj d1 (oj d1 hv)))) fun g9 hn_g9=>?_
   all_goals try(have Z:=(oj hn_g1 (oj hn_g5 (oj d1 (oj d1 (oj hv hn_g9)))));(repeat' first|refine zV Z ?_|refine zH Z (fun hb=>?_) fun hb=>?_|fail);all_goals clear Z)
   ·have hwo:w=kOn:=by rw [hw,hb];rfl
    subst hwo
    refine aw_buildSlice (xs:=[.const (.string (sB kHouse)),.tmp 63,.tmp 64]) (cells:=[.str (sB kHouse),.str (sB x.name),.str (sB kOn)]) rfl rfl rfl (zE (oj hn_g1 (oj hn_g5 (oj d1 (oj d1 (oj hv hn_g9)))))) (by refine yS (oj hn_g1 (oj hn_g5 (oj d1 (oj d1 (oj hv hn_g9))))) ?_;rfl) rfl om om (by intro z hz;simp only [List.mem_cons,List.not_mem_nil,or_false] at hz;rcases hz with rfl|rfl|rfl<;>exact⟨rfl,rfl,rfl⟩) rfl fun g65 hn_g65=> ?_
    have J3:=oj hn_g1 (oj hn_g5 (oj d1 (oj d1 (oj hv hn_g9))))
    refine yS J3 ?_
    refine aw_callq (line_fa false [kHouse,x.name,kOn] (by rw [←lineW_len];omega)) rfl rfl rfl (by refine yS J3 ?_;exact .c (le_own (n:=3) (ty:=9) (f:=ofL [.str (sB kHouse),.str (sB x.name),.str (sB kOn)]) (by simp [Heap.get]) rfl (fun q hq=>by match q,hq with|0,_=>rw [strsF_0];rfl|1,_=>rw [strsF_0];rfl|2,_=>rw [strsF_0];rfl))) ?_
    refine aw_weak (Sl.le_refl _) (.cons _ (List.sublist_cons_self _ _)) ?_
    refine yS J3 ?_
    refine aw_callh (hc:=bdH 79 [.bool lo1] g5 (.optr g5 0) og (hsTo m j)) (hr:=[(g1,.cells 29 8 (ofL (mdc true m)))]) (put_fh lo1 g5 _ og (hsTo m j) (lineW [kHouse,x.name,kOn]) hog om) rfl rfl rfl (List.perm_append_comm (l₁:=[_])) (zL J3) ?_
    rintro _ _ ⟨og2,hog2,rfl,rfl⟩ _
    rw [←hs2] at hog2⊢
    refine aw_perm (List.perm_append_comm (l₂:=[_])) ?_
    refine ySG J3 ?_
    exact aw_stop ⟨(j+1,og2),by dsimp only;omega,(zB J3),zZ,by dsimp only;omega,hog2⟩
   ·have hwo:w=kOff:=by rw [hw,hb];rfl
    subst hwo
    refine aw_buildSlice (xs:=[.const (.string (sB kHouse)),.tmp 63,.tmp 64]) (cells:=[.str (sB kHouse),.str (sB x.name),.str (sB kOff)]) rfl rfl rfl (zE (oj hn_g1 (oj hn_g5 (oj d1 (oj d1 (oj hv hn_g9)))))) (by refine yS (oj hn_g1 (oj hn_g5 (oj d1 (oj d1 (oj hv hn_g9))))) ?_;rfl) rfl om om (by intro z hz;simp only [List.mem_cons,List.not_mem_nil,or_false] at hz;rcases hz with rfl|rfl|rfl<;>exact⟨rfl,rfl,rfl⟩) rfl fun g65 hn_g65=> ?_
    have J4:=oj hn_g1 (oj hn_g5 (oj d1 (oj d1 (oj hv hn_g9))))
    refine yS J4 ?_
    refine aw_callq (line_fa false [kHouse,x.name,kOff] (by rw [←lineW_len];omega)) rfl rfl rfl (by refine yS J4 ?_;exact .c (le_own (n:=3) (ty:=9) (f:=ofL [.str (sB kHouse),.str (sB x.name),.str (sB kOff)]) (by simp [Heap.get]) rfl (fun q hq=>by match q,hq with|0,_=>rw [strsF_0];rfl|1,_=>rw [strsF_0];rfl|2,_=>rw [strsF_0];rfl))) ?_
    refine aw_weak (Sl.le_refl _) (.cons _ (List.sublist_cons_self _ _)) ?_
    refine yS J4 ?_
    refine aw_callh (hc:=bdH 79 [.bool lo1] g5 (.optr g5 0) og (hsTo m j)) (hr:=[(g1,.cells 29 8 (ofL (mdc true m)))]) (put_fh lo1 g5 _ og (hsTo m j) (lineW [kHouse,x.name,kOff]) hog om) rfl rfl rfl (List.perm_append_comm (l₁:=[_])) (zL J4) ?_
    rintro _ _ ⟨og2,hog2,rfl,rfl⟩ _
    rw [←hs2] at hog2⊢
    refine aw_perm (List.perm_append_comm (l₂:=[_])) ?_
    refine ySG J4 ?_
    exact aw_stop ⟨(j+1,og2),by dsimp only;omega,(zB J4),zZ,by dsimp only;omega,hog2⟩
  have d1:decide (j<m.houses.length)=false:=decide_eq_false hjn
  obtain rfl:j=m.houses.length:=by omega
  rw [show hsTo m m.houses.length=gtTo m 0 from by simp [gtTo]] at hog⊢
  rw [show lo1=gtLoTo lo1 m.gates 0 from by simp [gtLoTo]]
  all_goals try(have Z:=(oj hn_g1 (oj hn_g5 (oj d1 d1)));(repeat' first|refine zV Z ?_|refine zH Z (fun hb=>?_) fun hb=>?_|fail);all_goals clear Z)
  refine aw_lp (fun z:Nat×Option Nat=>[(1,.c (.optr g1 0)),(5,.c (.optr g5 0)),(70,.c (gts true m.gates)),(71,.c (.int .i64 m.gates.length)),(72,.c (.int .i64 z.1))]) (fun z=>(g1,.cells 29 8 (ofL (mdc true m)))::bdH 79 [.bool (gtLoTo lo1 m.gates z.1)] g5 (.optr g5 0) z.2 (gtTo m z.1)) (fun z=>z.1≤m.gates.length∧BdOk (.optr g5 0) g5 z.2 (gtTo m z.1)) (fun z=>m.gates.length-z.1) (0,og) (zB (oj hn_g1 (oj hn_g5 (oj d1 d1)))) zZ ⟨Nat.zero_le _,hog⟩ ?_
  rintro ⟨j,og⟩ ⟨hj,hog⟩
  dsimp only at hj hog⊢
  by_cases hjn:j<m.gates.length
  ·have d1:decide (j<m.gates.length)=true:=decide_eq_true hjn
   have hx:m.gates.getD j gt0∈m.gates:=by rw [List.getD_eq_getElem?_getD,List.getElem?_eq_getElem hjn];exact List.getElem_mem _
   obtain⟨x1,x2,x3,x4⟩:=p.gt _ hx
   have hs:=gtTo_succ m j hjn
   have hls:=gtLoTo_succ lo1 m.gates j hjn
   have hbb:=gtTo_le m (j+1)
   have hb2:=p.len
   generalize hv:m.gates.getD j gt0=x at*
   have hlen:(gtTo m (j+1)).length=(gtTo m j).length+(gateX x).length+1:=by rw [hs];simp only [List.length_append,List.length_cons,List.length_nil]
   have hlw:(gateX x).length=(gateW x).length+sumW (gateW x) (gateW x).length:=lineW_len _ _
   have he:=pgate_fh (gtLoTo lo1 m.gates j) g5 (.optr g5 0) (gsR og (gtTo m j).length) x x1 x2 x3 x4 om
   all_goals try(have Z:=(oj hn_g1 (oj hn_g5 (oj d1 (oj d1 (oj d1 hv)))));(repeat' first|refine zV Z ?_|refine zH Z (fun hb=>?_) fun hb=>?_|fail);all_goals clear Z)
   refine yA (oj hn_g1 (oj hn_g5 (oj d1 (oj d1 (oj d1 hv))))) fun g12 hn_g12=>?_
   all_goals try(have Z:=(oj hn_g1 (oj hn_g5 (oj d1 (oj d1 (oj d1 (oj hv hn_g12))))));(repeat' first|refine zV Z ?_|refine zH Z (fun hb=>?_) fun hb=>?_|fail);all_goals clear Z)
   refine aw_callh (hc:=[bldG 79 [.bool (gtLoTo lo1 m.gates j)] g5 (.optr g5 0) (gsR og (gtTo m j).length)]) (hr:=(g12,.cells 60 7 (ofL (gtc x)))::(g1,.cells 29 8 (ofL (mdc true m)))::gh og 5 (gtTo m j).length (byF (gtTo m j))) he rfl rfl rfl (List.perm_middle (l₁:=[_,_])) (zL (oj hn_g1 (oj hn_g5 (oj d1 (oj d1 (oj d1 (oj hv hn_g12))))))) ?_
   rintro _ _ ⟨rfl,rfl⟩ _
   rw [←hls]
   have J5:=oj hn_g1 (oj hn_g5 (oj d1 (oj d1 (oj d1 (oj hv hn_g12)))))
   refine yS J5 ?_
   refine aw_callh (hc:=bdH 79 [.bool (gtLoTo lo1 m.gates (j+1))] g5 (.optr g5 0) og (gtTo m j)) (hr:=[(g12,.cells 60 7 (ofL (gtc x))),(g1,.cells 29 8 (ofL (mdc true m)))]) (put_fh _ g5 _ og (gtTo m j) (gateX x) hog om) rfl rfl rfl (List.Perm.cons _ (List.perm_append_comm (l₁:=[_,_]))) (zL J5) ?_
   rintro _ _ ⟨og2,hog2,rfl,rfl⟩ _
   rw [←hs] at hog2⊢
   refine aw_perm (List.perm_append_comm (l₂:=[_,_])) ?_
   refine aw_weak (Sl.le_refl _) (List.sublist_cons_self _ _) ?_
   refine ySG J5 ?_
   exact aw_stop ⟨(j+1,og2),by dsimp only;omega,(zB J5),zZ,by dsimp only;omega,hog2⟩
  have d1:decide (j<m.gates.length)=false:=decide_eq_false hjn
  obtain rfl:j=m.gates.length:=by omega
  rw [show gtTo m m.gates.length=pgTo m 0 from by simp [pgTo]] at hog⊢
  generalize gtLoTo lo1 m.gates m.gates.length=lo2 at*
  rw [show lo2=pgLoTo lo2 m.pages 0 from by simp [pgLoTo]]
  all_goals try(have Z:=(oj hn_g1 (oj hn_g5 (oj d1 (oj d1 d1))));(repeat' first|refine zV Z ?_|refine zH Z (fun hb=>?_) fun hb=>?_|fail);all_goals clear Z)
  refine aw_lp (fun z:Nat×Option Nat=>[(1,.c (.optr g1 0)),(5,.c (.optr g5 0)),(83,.c (pgs true m.pages)),(84,.c (.int .i64 m.pages.length)),(85,.c (.int .i64 z.1))]) (fun z=>(g1,.cells 29 8 (ofL (mdc true m)))::bdH 79 [.bool (pgLoTo lo2 m.pages z.1)] g5 (.optr g5 0) z.2 (pgTo m z.1)) (fun z=>z.1≤m.pages.length∧BdOk (.optr g5 0) g5 z.2 (pgTo m z.1)) (fun z=>m.pages.length-z.1) (0,og) (zB (oj hn_g1 (oj hn_g5 (oj d1 (oj d1 d1))))) zZ ⟨Nat.zero_le _,hog⟩ ?_
  rintro ⟨j,og⟩ ⟨hj,hog⟩
  dsimp only at hj hog⊢
  by_cases hjn:j<m.pages.length
  ·have d1:decide (j<m.pages.length)=true:=decide_eq_true hjn
   have hx:m.pages.getD j pg0∈m.pages:=by rw [List.getD_eq_getElem?_getD,List.getElem?_eq_getElem hjn];exact List.getElem_mem _
   have hpg:=p.pg _ hx
   have nXG:(m.pages.getD j pg0).gates.length≤1099511627776:=Nat.le_trans (ho.pg.2 _ hx).2.2.1 (by decide)
   have hs:=pgTo_succ m j hjn
   have hls:=pgLoTo_succ lo2 m.pages j hjn
   have hbb:=pgTo_le m (j+1)
   have hb2:=p.len
   generalize hv:m.pages.getD j pg0=x at*
   have hxl:(pgX x).length≤10000000000:=by rw [hs,List.length_append] at hbb;omega
   have hnl:x.name.length+x.top.length≤10000000000:=by unfold pgX headX at hxl;simp only [List.length_append,List.length_cons] at hxl;omega
   all_goals try(have Z:=(oj hn_g1 (oj hn_g5 (oj d1 (oj d1 (oj d1 (oj d1 hv))))));(repeat' first|refine zV Z ?_|refine zH Z (fun hb=>?_) fun hb=>?_|fail);all_goals clear Z)
   refine yA (oj hn_g1 (oj hn_g5 (oj d1 (oj d1 (oj d1 (oj d1 hv)))))) fun g14 hn_g14=>?_
   all_goals try(have Z:=(oj hn_g1 (oj hn_g5 (oj d1 (oj d1 (oj d1 (oj d1 (oj hv hn_g14)))))));(repeat' first|refine zV Z ?_|refine zH Z (fun hb=>?_) fun hb=>?_|fail);all_goals clear Z)
   refine aw_pok (POk.addStr (a:=sB ([112,97,103,101,32]++(x.name++[32,116,111,112,32]))) (b:=sB x.top) (by show List.length _+List.length _≤_;simp only [List.length_append,List.length_cons,List.length_nil];omega) (zE (oj hn_g1 (oj hn_g5 (oj d1 (oj d1 (oj d1 (oj d1 (oj hv hn_g14)))))))) (zE (oj hn_g1 (oj hn_g5 (oj d1 (oj d1 (oj d1 (oj d1 (oj hv hn_g14))))))))) rfl rfl ?_
   rw [sb_app]
   have J6:=oj hn_g1 (oj hn_g5 (oj d1 (oj d1 (oj d1 (oj d1 (oj hv hn_g14))))))
   refine ySG J6 ?_
   refine aw_pok (POk.addStr (a:=sB (([112,97,103,101,32]++(x.name++[32,116,111,112,32]))++x.top)) (b:=sB [32,123]) (by show List.length _+List.length _≤_;simp only [List.length_append,List.length_cons,List.length_nil];omega) (zE J6) (zE J6)) rfl rfl ?_
   rw [sb_app]
   refine yS J6 ?_
   refine aw_conv (t:=97) (v:=.c (.str (sB (hdrT kPage x.name x.top)))) (fun S w u h=>(show u=.string _ from h).trans (by simp [hdrT])) rfl ?_
   refine yS J6 ?_
   have hin0:pgIn (pgTo m j) x 0=pgTo m j++hdrT kPage x.name x.top++[10]:=by unfold pgIn;rw [←hdrT_x];simp
   have hinl:∀k,(pgIn (pgTo m j) x k).length≤10000000000:=fun k=>by have a:=pgIn_le (pgTo m j) x k;rw [←hs] at a;omega
   have hin1:(pgTo m j).length+(hdrT kPage x.name x.top).length+1≤10000000000:=by have a:=hinl 0;rw [hin0] at a;simp only [List.length_append,List.length_cons,List.length_nil] at a;omega
   refine aw_callh (hc:=bdH 79 [.bool (pgLoTo lo2 m.pages j)] g5 (.optr g5 0) og (pgTo m j)) (hr:=[(g14,.cells 57 3 (ofL (pgc x))),(g1,.cells 29 8 (ofL (mdc true m)))]) (put_fh _ g5 _ og (pgTo m j) (hdrT kPage x.name x.top) hog om) rfl rfl rfl (List.perm_append_comm (l₁:=[_,_])) (zL J6) ?_
   rintro _ _ ⟨og2,hog2,rfl,rfl⟩ _
   rw [←hin0] at hog2⊢
   refine aw_perm (List.perm_append_comm (l₂:=[_,_])) ?_
   generalize hlo:pgLoTo lo2 m.pages j=lo3 at*
   have e3:gtLoTo lo3 x.gates 0=lo3:=by simp [gtLoTo]
   refine(?_:aw _ _ _ ((g14,.cells 57 3 (ofL (pgc x)))::(g1,.cells 29 8 (ofL (mdc true m)))::bdH 79 [.bool lo3] g5 (.optr g5 0) og2 (pgIn (pgTo m j) x 0)))
   refine ySG J6 ?_
   refine aw_lp (fun z:Nat×Option Nat=>[(1,.c (.optr g1 0)),(5,.c (.optr g5 0)),(83,.c (pgs true m.pages)),(84,.c (.int .i64 m.pages.length)),(85,.c (.int .i64 j)),(100,.c (gts true x.gates)),(101,.c (.int .i64 x.gates.length)),(102,.c (.int .i64 z.1))]) (fun z=>(g1,.cells 29 8 (ofL (mdc true m)))::bdH 79 [.bool (gtLoTo lo3 x.gates z.1)] g5 (.optr g5 0) z.2 (pgIn (pgTo m j) x z.1)) (fun z=>z.1≤x.gates.length∧BdOk (.optr g5 0) g5 z.2 (pgIn (pgTo m j) x z.1)) (fun z=>x.gates.length-z.1) (0,og2) (zB J6) (by dsimp only;rw [e3];exact List.sublist_cons_self _ _) ⟨Nat.zero_le _,hog2⟩ ?_
   rintro ⟨k,og3⟩ ⟨hk,hog3⟩
   dsimp only at hk hog3⊢
   by_cases hkn:k<x.gates.length
   ·have d2:decide (k<x.gates.length)=true:=decide_eq_true hkn
    have hy:x.gates.getD k gt0∈x.gates:=by rw [List.getD_eq_getElem?_getD,List.getElem?_eq_getElem hkn];exact List.getElem_mem _
    obtain⟨x1,x2,x3,x4⟩:=hpg _ hy
    have hs3:=pgIn_succ (pgTo m j) x k hkn
    have hls3:=gtLoTo_succ lo3 x.gates k hkn
    have hb3:=hinl (k+1)
    generalize hv3:x.gates.getD k gt0=v at*
    have hlen:(pgIn (pgTo m j) x (k+1)).length=(pgIn (pgTo m j) x k).length+([32,32]++gateX v).length+1:=by rw [hs3];simp only [List.length_append,List.length_cons,List.length_nil]
    have hg2:([32,32]++gateX v).length=(gateX v).length+2:=by simp
    have hlw:(gateX v).length=(gateW v).length+sumW (gateW v) (gateW v).length:=lineW_len _ _
    have he:=pgate_fh (gtLoTo lo3 x.gates k) g5 (.optr g5 0) (gsR og3 (pgIn (pgTo m j) x k).length) v x1 x2 x3 x4 om
    all_goals try(have Z:=(oj hn_g1 (oj hn_g5 (oj d1 (oj d1 (oj d1 (oj d1 (oj hv (oj hn_g14 (oj d2 hv3)))))))));(repeat' first|refine zV Z ?_|refine zH Z (fun hb=>?_) fun hb=>?_|fail);all_goals clear Z)
    refine yA (oj hn_g1 (oj hn_g5 (oj d1 (oj d1 (oj d1 (oj d1 (oj hv (oj hn_g14 (oj d2 hv3))))))))) fun g16 hn_g16=>?_
    all_goals try(have Z:=(oj hn_g1 (oj hn_g5 (oj d1 (oj d1 (oj d1 (oj d1 (oj hv (oj hn_g14 (oj d2 (oj hv3 hn_g16))))))))));(repeat' first|refine zV Z ?_|refine zH Z (fun hb=>?_) fun hb=>?_|fail);all_goals clear Z)
    refine aw_callh (hc:=[bldG 79 [.bool (gtLoTo lo3 x.gates k)] g5 (.optr g5 0) (gsR og3 (pgIn (pgTo m j) x k).length)]) (hr:=(g16,.cells 60 7 (ofL (gtc v)))::(g1,.cells 29 8 (ofL (mdc true m)))::gh og3 5 (pgIn (pgTo m j) x k).length (byF (pgIn (pgTo m j) x k))) he rfl rfl rfl (List.perm_middle (l₁:=[_,_])) (zL (oj hn_g1 (oj hn_g5 (oj d1 (oj d1 (oj d1 (oj d1 (oj hv (oj hn_g14 (oj d2 (oj hv3 hn_g16))))))))))) ?_
    rintro _ _ ⟨rfl,rfl⟩ _
    rw [←hls3]
    have J7:=oj hn_g1 (oj hn_g5 (oj d1 (oj d1 (oj d1 (oj d1 (oj hv (oj hn_g14 (oj d2 (oj hv3 hn_g16)))))))))
    refine ySG J7 ?_
    refine aw_callh (hc:=bdH 79 [.bool (gtLoTo lo3 x.gates (k+1))] g5 (.optr g5 0) og3 (pgIn (pgTo m j) x k)) (hr:=[(g16,.cells 60 7 (ofL (gtc v))),(g1,.cells 29 8 (ofL (mdc true m)))]) (put_fh _ g5 _ og3 (pgIn (pgTo m j) x k) ([32,32]++gateX v) hog3 om) rfl rfl rfl (List.Perm.cons _ (List.perm_append_comm (l₁:=[_,_]))) (zL J7) ?_
    rintro _ _ ⟨og4,hog4,rfl,rfl⟩ _
    rw [←hs3] at hog4⊢
    refine aw_perm (List.perm_append_comm (l₂:=[_,_])) ?_
    refine aw_weak (Sl.le_refl _) (List.sublist_cons_self _ _) ?_
    refine ySG J7 ?_
    exact aw_stop ⟨(k+1,og4),by dsimp only;omega,(zB J7),zZ,by dsimp only;omega,hog4⟩
   ·have d2:decide (k<x.gates.length)=false:=decide_eq_false hkn
    obtain rfl:k=x.gates.length:=by omega
    have hend:=pgIn_end (pgTo m j) x
    rw [←hs] at hend
    have hbf:(pgTo m (j+1)).length≤10000000000:=by omega
    have hbe:(pgIn (pgTo m j) x x.gates.length).length+[(125:UInt8)].length+1≤10000000000:=by rw [←hend] at hbf;simp only [List.length_append,List.length_cons,List.length_nil] at hbf⊢;omega
    all_goals try(have Z:=(oj hn_g1 (oj hn_g5 (oj d1 (oj d1 (oj d1 (oj d1 (oj hv (oj hn_g14 d2))))))));(repeat' first|refine zV Z ?_|refine zH Z (fun hb=>?_) fun hb=>?_|fail);all_goals clear Z)
    refine aw_callh (hc:=bdH 79 [.bool (gtLoTo lo3 x.gates x.gates.length)] g5 (.optr g5 0) og3 (pgIn (pgTo m j) x x.gates.length)) (hr:=[(g1,.cells 29 8 (ofL (mdc true m)))]) (put_fh _ g5 _ og3 (pgIn (pgTo m j) x x.gates.length) [125] hog3 om) rfl rfl rfl (List.perm_append_comm (l₁:=[_])) (zL (oj hn_g1 (oj hn_g5 (oj d1 (oj d1 (oj d1 (oj d1 (oj hv (oj hn_g14 d2))))))))) ?_
    rintro _ _ ⟨og4,hog4,rfl,rfl⟩ _
    rw [hend] at hog4⊢
    rw [←hls]
    refine aw_perm (List.perm_append_comm (l₂:=[_])) ?_
    have J8:=oj hn_g1 (oj hn_g5 (oj d1 (oj d1 (oj d1 (oj d1 (oj hv (oj hn_g14 d2)))))))
    refine ySG J8 ?_
    exact aw_stop ⟨(j+1,og4),by dsimp only;omega,(zB J8),zZ,by dsimp only;omega,hog4⟩
  have d1:decide (j<m.pages.length)=false:=decide_eq_false hjn
  obtain rfl:j=m.pages.length:=by omega
  rw [show pgTo m m.pages.length=grTo m 0 from by simp [grTo]] at hog⊢
  generalize pgLoTo lo2 m.pages m.pages.length=lo4 at*
  rw [show lo4=grLoTo lo4 m.groups 0 from by simp [grLoTo]]
  all_goals try(have Z:=(oj hn_g1 (oj hn_g5 (oj d1 (oj d1 (oj d1 d1)))));(repeat' first|refine zV Z ?_|refine zH Z (fun hb=>?_) fun hb=>?_|fail);all_goals clear Z)
  refine aw_lp (fun z:Nat×Option Nat=>[(1,.c (.optr g1 0)),(5,.c (.optr g5 0)),(117,.c (grs true m.groups)),(118,.c (.int .i64 m.groups.length)),(119,.c (.int .i64 z.1))]) (fun z=>(g1,.cells 29 8 (ofL (mdc true m)))::bdH 79 [.bool (grLoTo lo4 m.groups z.1)] g5 (.optr g5 0) z.2 (grTo m z.1)) (fun z=>z.1≤m.groups.length∧BdOk (.optr g5 0) g5 z.2 (grTo m z.1)) (fun z=>m.groups.length-z.1) (0,og) (zB (oj hn_g1 (oj hn_g5 (oj d1 (oj d1 (oj d1 d1)))))) zZ ⟨Nat.zero_le _,hog⟩ ?_
  rintro ⟨j,og⟩ ⟨hj,hog⟩
  dsimp only at hj hog⊢
  by_cases hjn:j<m.groups.length
  ·have d1:decide (j<m.groups.length)=true:=decide_eq_true hjn
   have hx:m.groups.getD j gr0∈m.groups:=by rw [List.getD_eq_getElem?_getD,List.getElem?_eq_getElem hjn];exact List.getElem_mem _
   have hx0:=hx
   obtain⟨q,hq,hqk⟩:=p.gk _ hx
   have hfw:=p.gr _ hx
   have hxO:=ho.gr.2 _ hx
   have hs:=grTo_succ m j hjn
   have hls:=grLoTo_succ lo4 m.groups j hjn
   have hbb:=grTo_le m (j+1)
   have hb2:=p.len
   generalize hv:m.groups.getD j gr0=x at*
   generalize hlo:grLoTo lo4 m.groups j=lo5 at*
   have nF:x.factors.length≤1099511627776:=Nat.le_trans hxO.2.2.2.1 (by decide)
   have nF2:x.factors.length≤1048576:=hxO.2.2.2.1
   have nM:x.members.length≤1048576:=hxO.2.1
   all_goals try(have Z:=(oj hn_g1 (oj hn_g5 (oj d1 (oj d1 (oj d1 (oj d1 (oj d1 (oj hv hqk))))))));(repeat' first|refine zV Z ?_|refine zH Z (fun hb=>?_) fun hb=>?_|fail);all_goals clear Z)
   refine yA (oj hn_g1 (oj hn_g5 (oj d1 (oj d1 (oj d1 (oj d1 (oj d1 (oj hv hqk)))))))) fun g18 hn_g18=>?_
   all_goals try(have Z:=(oj hn_g1 (oj hn_g5 (oj d1 (oj d1 (oj d1 (oj d1 (oj d1 (oj hv (oj hqk hn_g18)))))))));(repeat' first|refine zV Z ?_|refine zH Z (fun hb=>?_) fun hb=>?_|fail);all_goals clear Z)
   refine aw_cw [(g18,.cells 55 4 (ofL [.str (sB x.name),.int .i64 q,strs true x.members,rats true x.factors]))] [(0,0),(1,0),(3,0),(4,0),(2,1),(5,0),(6,1),(7,1),(8,0)] ty_mixed (by kernel_rfl) (has0_cons (by simp) has0_nil) ?_
   have J9:=oj hn_g1 (oj hn_g5 (oj d1 (oj d1 (oj d1 (oj d1 (oj d1 (oj hv (oj hqk hn_g18))))))))
   refine yG J9 ?_
   refine cw_buildSlice (xs:=[.const (.string (sB kBeta)),.const (.string (sB kGreek))]) (cells:=[.str (sB kBeta),.str (sB kGreek)]) rfl rfl rfl rfl (zE J9) (by refine yS J9 ?_;rfl) rfl om om (by intro z hz;simp only [List.mem_cons,List.not_mem_nil,or_false] at hz;rcases hz with rfl|rfl<;>exact⟨rfl,rfl,rfl⟩) rfl (by intro z hz;simp only [List.mem_cons,List.not_mem_nil,or_false] at hz;rcases hz with rfl|rfl<;>simp [Op.operands]) (has0_cons (by simp) has0_nil) (fun g125 hn_g125=> ?_) (.inr ⟨rfl,rfl⟩)
   refine ySG J9 ?_
   obtain⟨w,hw⟩:∃w:BS,w=if x.kind=1 then kGreek else kBeta:=⟨_,rfl⟩
   have hwq:ofL [CV.str (sB kBeta),.str (sB kGreek)] q=.str (sB w):=by
    rw [hw,hqk]
    match q,hq with
    |0,_=>rfl
    |1,_=>rfl
   refine cw_pokP (r:=.c (.str (sB w))) rfl (fun ρ hρ=> ?_) rfl rfl (has0_cons (by simp) has0_nil) ?_ (.inr ⟨rfl,rfl⟩)
   ·have hl:=POk.loadO (P:=Tryz.prog) (h:=(g125,AObj.cells 9 (2*1) (ofL [CV.str (sB kBeta),.str (sB kGreek)]))::(g18,.cells 55 4 (ofL [.str (sB x.name),.int .i64 q,strs true x.members,rats true x.factors]))::(g1,.cells 29 8 (ofL (mdc true m)))::bdH 79 [.bool lo5] g5 (.optr g5 0) og (grTo m j)) (ρ:=ρ) (t:=9) (a:=.tmp 128) (n:=1) (m:=2) (ag:=false) (g:=g125) (off:=q) (ty:=9) (f:=ofL [CV.str (sB kBeta),.str (sB kGreek)]) (by kernel_rfl) (fun _=>rfl) ((hρ _ (by simp [Op.operands])).trans (zE (oj hn_g1 (oj hn_g5 (oj d1 (oj d1 (oj d1 (oj d1 (oj d1 (oj hv (oj hqk hn_g18))))))))))) (by simp [Heap.get]) om
    rw [if_neg (by simp),hwq] at hl
    exact hl
   have J10:=oj hn_g1 (oj hn_g5 (oj d1 (oj d1 (oj d1 (oj d1 (oj d1 (oj hv (oj hqk hn_g18))))))))
   refine ySG J10 ?_
   refine cw_buildSlice (xs:=[.const (.string (sB kGroup)),.tmp 124,.tmp 129]) (cells:=[.str (sB kGroup),.str (sB x.name),.str (sB w)]) rfl rfl rfl rfl (zE J10) (by refine yS J10 ?_;rfl) rfl om om (by intro z hz;simp only [List.mem_cons,List.not_mem_nil,or_false] at hz;rcases hz with rfl|rfl|rfl<;>exact⟨rfl,rfl,rfl⟩) rfl (by intro z hz;simp only [List.mem_cons,List.not_mem_nil,or_false] at hz;rcases hz with rfl|rfl|rfl<;>simp [Op.operands]) (has0_cons (by simp) has0_nil) (fun g130 hn_g130=> ?_) (.inr ⟨rfl,rfl⟩)
   refine ySG J10 ?_
   refine aw_weak (h':=(g130,.cells 9 (3*1) (ofL [.str (sB kGroup),.str (sB x.name),.str (sB w)]))::(g18,.cells 55 4 (ofL [.str (sB x.name),.int .i64 q,strs true x.members,rats true x.factors]))::(g1,.cells 29 8 (ofL (mdc true m)))::bdH 79 [.bool lo5] g5 (.optr g5 0) og (grTo m j)) (Sl.le_refl _) (.cons_cons _ (.cons _ (List.Sublist.refl _))) ?_
   replace hn_g130:=Heap.ne_of hn_g130
   dsimp only [Heap.ne] at hn_g130
   have hW0:grWL x 0=[kGroup,x.name,w]:=by rw [hw];rfl
   refine aw_conv1 (f':=strsF (grWL x 0)) (fun i hi=>by rw [hW0];match i,hi with|0,_=>rw [strsF_0];rfl|1,_=>rw [strsF_0];rfl|2,_=>rw [strsF_0];rfl) ?_
   have hlw:(lineW (grW x)).length=(grW x).length+sumW (grW x) (grW x).length:=lineW_len _ _
   have hgl:(grTo m (j+1)).length=(grTo m j).length+(lineW (grW x)).length+1:=by rw [hs];simp only [List.length_append,List.length_cons,List.length_nil]
   all_goals try(have Z:=(oj hn_g1 (oj hn_g5 (oj d1 (oj d1 (oj d1 (oj d1 (oj d1 (oj hv (oj hqk (oj hn_g18 hn_g130))))))))));(repeat' first|refine zV Z ?_|refine zH Z (fun hb=>?_) fun hb=>?_|fail);all_goals clear Z)
   refine aw_lp (fun z:Nat×Nat=>[(1,.c (.optr g1 0)),(5,.c (.optr g5 0)),(18,.c (.optr g18 0)),(19,.c (.osl z.2 1 0 (grWL x z.1).length)),(117,.c (grs true m.groups)),(118,.c (.int .i64 m.groups.length)),(119,.c (.int .i64 j)),(132,.c (rats true x.factors)),(133,.c (.int .i64 x.factors.length)),(134,.c (.int .i64 z.1))]) (fun z=>(z.2,.cells 9 (grWL x z.1).length (strsF (grWL x z.1)))::(g18,.cells 55 4 (ofL [.str (sB x.name),.int .i64 q,strs true x.members,rats true x.factors]))::(g1,.cells 29 8 (ofL (mdc true m)))::bdH 79 [.bool (grLo lo5 x z.1)] g5 (.optr g5 0) og (grTo m j)) (fun z=>z.1≤x.factors.length) (fun z=>x.factors.length-z.1) (0,g130) (zB (oj hn_g1 (oj hn_g5 (oj d1 (oj d1 (oj d1 (oj d1 (oj d1 (oj hv (oj hqk (oj hn_g18 hn_g130))))))))))) (by dsimp only;rw [show grLo lo5 x 0=lo5 from by simp [grLo],show(grWL x 0).length=3 from rfl];exact List.Sublist.refl _) (Nat.zero_le _) ?_
   rintro ⟨k,gW⟩ hk
   dsimp only at hk⊢
   have hWl:=grWL_len x k hk
   by_cases hkn:k<x.factors.length
   ·have d2:decide (k<x.factors.length)=true:=decide_eq_true hkn
    have hy:x.factors.getD k rd0∈x.factors:=by rw [List.getD_eq_getElem?_getD,List.getElem?_eq_getElem hkn];exact List.getElem_mem _
    have hwy:=hfw _ hy
    have hs3:=grWL_succ x k hkn
    have hls3:=grLo_succ lo5 x k hkn
    generalize hv3:x.factors.getD k rd0=r at*
    generalize hlo6:grLo lo5 x k=lo6 at*
    all_goals try(have Z:=(oj hn_g1 (oj hn_g5 (oj d1 (oj d1 (oj d1 (oj d1 (oj d1 (oj hv (oj hqk (oj hn_g18 (oj hn_g130 (oj d2 hv3))))))))))));(repeat' first|refine zV Z ?_|refine zH Z (fun hb=>?_) fun hb=>?_|fail);all_goals clear Z)
    refine yA (oj hn_g1 (oj hn_g5 (oj d1 (oj d1 (oj d1 (oj d1 (oj d1 (oj hv (oj hqk (oj hn_g18 (oj hn_g130 (oj d2 hv3)))))))))))) fun g21 hn_g21=>?_
    all_goals try(have Z:=(oj hn_g1 (oj hn_g5 (oj d1 (oj d1 (oj d1 (oj d1 (oj d1 (oj hv (oj hqk (oj hn_g18 (oj hn_g130 (oj d2 (oj hv3 hn_g21)))))))))))));(repeat' first|refine zV Z ?_|refine zH Z (fun hb=>?_) fun hb=>?_|fail);all_goals clear Z)
    refine aw_callh (hc:=[bldG 79 [.bool lo6] g5 (.optr g5 0) (gsR og (grTo m j).length)]) (hr:=(g21,.cells 47 3 (ofL (rdc r)))::(gW,.cells 9 (grWL x k).length (strsF (grWL x k)))::(g18,.cells 55 4 (ofL [.str (sB x.name),.int .i64 q,strs true x.members,rats true x.factors]))::(g1,.cells 29 8 (ofL (mdc true m)))::gh og 5 (grTo m j).length (byF (grTo m j))) (pnumber_fh lo6 g5 (.optr g5 0) (gsR og (grTo m j).length) r hwy) rfl rfl rfl (List.perm_middle (l₁:=[_,_,_,_])) (zL (oj hn_g1 (oj hn_g5 (oj d1 (oj d1 (oj d1 (oj d1 (oj d1 (oj hv (oj hqk (oj hn_g18 (oj hn_g130 (oj d2 (oj hv3 hn_g21)))))))))))))) ?_
    rintro _ _ ⟨rfl,rfl⟩ _
    rw [←hls3]
    refine aw_perm (h':=(gW,.cells 9 (grWL x k).length (strsF (grWL x k)))::(g21,.cells 47 3 (ofL (rdc r)))::(g18,.cells 55 4 (ofL [.str (sB x.name),.int .i64 q,strs true x.members,rats true x.factors]))::(g1,.cells 29 8 (ofL (mdc true m)))::bdH 79 [.bool (grLo lo5 x (k+1))] g5 (.optr g5 0) og (grTo m j)) ((List.perm_middle (l₁:=[_,_,_,_])).symm.trans (List.Perm.swap _ _ _)) ?_
    have J11:=oj hn_g1 (oj hn_g5 (oj d1 (oj d1 (oj d1 (oj d1 (oj d1 (oj hv (oj hqk (oj hn_g18 (oj hn_g130 (oj d2 (oj hv3 hn_g21))))))))))))
    refine ySG J11 ?_
    refine aw_buildSlice (xs:=[.tmp 141]) (cells:=[.str (sB (rtxt r))]) rfl rfl rfl (zE J11) (by refine yS J11 ?_;rfl) rfl om om (by intro z hz;simp only [List.mem_singleton] at hz;subst hz;exact⟨rfl,rfl,rfl⟩) rfl fun g142 hn_g142=> ?_
    have hne:(g142=gW)=False:=eq_false fun e=>hn_g142 (by subst e;simp [Heap.keys])
    refine yS J11 ?_
    refine aw_append (size:=1) (g:=gW) (n:=(grWL x k).length) (m:=(grWL x k).length) (k:=1) (f:=strsF (grWL x k)) (f2:=strsF [rtxt r]) (cx:=.osl g142 1 0 1) (h2:=(g142,.cells 9 (1*1) (ofL [.str (sB (rtxt r))]))::(g21,.cells 47 3 (ofL (rdc r)))::(g18,.cells 55 4 (ofL [.str (sB x.name),.int .i64 q,strs true x.members,rats true x.factors]))::(g1,.cells 29 8 (ofL (mdc true m)))::bdH 79 [.bool (grLo lo5 x (k+1))] g5 (.optr g5 0) og (grTo m j)) rfl rfl rfl (by exact tya_e_52) (by exact tya_z_9) rfl om (zE J11) (by simp [Heap.get,hne]) om (zE J11)
     (.osl (m:=1) (ty:=9) (f':=ofL [.str (sB (rtxt r))]) (by simp [Heap.get]) om (fun i hi=>by match i,hi with|0,_=>rw [strsF_0];rfl)) (fun i _=>strsF_solid _ i) om (by unfold maxLen;omega) om (by simp [Heap.del,hne]) fun g143 hn_g143=> ?_
    refine ySG J11 ?_
    refine aw_weak (h':=(g143,.cells 9 ((grWL x k).length+1) (appF (strsF (grWL x k)) (grWL x k).length (strsF [rtxt r])))::(g18,.cells 55 4 (ofL [.str (sB x.name),.int .i64 q,strs true x.members,rats true x.factors]))::(g1,.cells 29 8 (ofL (mdc true m)))::bdH 79 [.bool (grLo lo5 x (k+1))] g5 (.optr g5 0) og (grTo m j)) (Sl.le_refl _) (.cons_cons _ (.cons _ (.cons _ (List.Sublist.refl _)))) ?_
    refine aw_conv1 (f':=strsF (grWL x (k+1))) (fun i hi=>by rw [hs3];have:=strs_app (grWL x k) [rtxt r] i (by simpa using hi);simpa using this) ?_
    rw [show(grWL x k).length+1=(grWL x (k+1)).length from by rw [hs3];simp]
    exact aw_stop ⟨(k+1,g143),by dsimp only;omega,(zB J11),zZ,by dsimp only;omega⟩
   ·have d2:decide (k<x.factors.length)=false:=decide_eq_false hkn
    obtain rfl:k=x.factors.length:=by omega
    have hwe:=grWL_end x
    have hmem:0<x.members.length:=by
     have:=(hGood.gr x hx0).2.2.1.1
     omega
    all_goals try(have Z:=(oj hn_g1 (oj hn_g5 (oj d1 (oj d1 (oj d1 (oj d1 (oj d1 (oj hv (oj hqk (oj hn_g18 (oj hn_g130 d2)))))))))));(repeat' first|refine zV Z ?_|refine zH Z (fun hb=>?_) fun hb=>?_|fail);all_goals clear Z)
    refine aw_cw [(g18,.cells 55 4 (ofL [.str (sB x.name),.int .i64 q,strs true x.members,rats true x.factors]))] [(0,0),(1,0),(4,0),(5,0),(2,1),(3,1),(6,1),(7,1),(8,2)] ty_mixed (by kernel_rfl) (has0_cons (by simp) has0_nil) ?_
    have J12:=oj hn_g1 (oj hn_g5 (oj d1 (oj d1 (oj d1 (oj d1 (oj d1 (oj hv (oj hqk (oj hn_g18 (oj hn_g130 d2))))))))))
    refine yG J12 ?_
    refine cw_buildSlice (xs:=[.const (.string (sB kColon))]) (cells:=[.str (sB kColon)]) rfl rfl rfl rfl (zE J12) (by refine yS J12 ?_;rfl) rfl om om (by intro z hz;simp only [List.mem_singleton] at hz;subst hz;exact⟨rfl,rfl,rfl⟩) rfl (by intro z hz;simp only [List.mem_singleton] at hz;subst hz;simp [Op.operands]) (has0_cons (by simp) has0_nil) (fun g147 hn_g147=> ?_) (.inr ⟨rfl,rfl⟩)
    have hne:(g147=gW)=False:=eq_false fun e=>hn_g147 (by subst e;simp [Heap.keys])
    refine ySG J12 ?_
    refine cw_appendO (size:=1) (n:=(grWL x x.factors.length).length) (k:=1) (m:=(grWL x x.factors.length).length) (g:=gW) (f:=strsF (grWL x x.factors.length)) (f2:=strsF [kColon]) (cx:=.osl g147 1 0 1) (h2:=(g147,.cells 9 (1*1) (ofL [.str (sB kColon)]))::(g18,.cells 55 4 (ofL [.str (sB x.name),.int .i64 q,strs true x.members,rats true x.factors]))::(g1,.cells 29 8 (ofL (mdc true m)))::bdH 79 [.bool (grLo lo5 x x.factors.length)] g5 (.optr g5 0) og (grTo m j)) rfl rfl rfl rfl (by exact tya_e_52) (by exact tya_z_9) rfl om (zE J12) (by simp [Heap.get,hne]) om (zE J12)
     (.osl (m:=1) (ty:=9) (f':=ofL [.str (sB kColon)]) (by simp [Heap.get]) om (fun i hi=>by match i,hi with|0,_=>rw [strsF_0];rfl)) (fun i _=>strsF_solid _ i) om (by unfold maxLen;omega) om (by simp [Heap.del,hne]) (has0_cons (by simp) has0_nil) (fun g148 hn_g148=> ?_) (.inr ⟨rfl,rfl⟩)
    refine ySG J12 ?_
    refine cw_appendO (size:=1) (n:=(grWL x x.factors.length).length+1) (k:=x.members.length) (m:=((grWL x x.factors.length).length+1)*1) (g:=g148) (f:=appF (strsF (grWL x x.factors.length)) ((grWL x x.factors.length).length*1) (strsF [kColon])) (f2:=strsF x.members) (cx:=strs true x.members) (h2:=(g147,.cells 9 (1*1) (ofL [.str (sB kColon)]))::(g18,.cells 55 4 (ofL [.str (sB x.name),.int .i64 q,strs true x.members,rats true x.factors]))::(g1,.cells 29 8 (ofL (mdc true m)))::bdH 79 [.bool (grLo lo5 x x.factors.length)] g5 (.optr g5 0) og (grTo m j)) rfl rfl rfl rfl (by exact tya_e_52) (by exact tya_z_9) rfl om (zE J12) (by simp [Heap.get]) om (zE J12)
     .row (fun i _=>strsF_solid _ i) hmem (by unfold maxLen;omega) om (by simp [Heap.del]) (has0_cons (by simp) has0_nil) (fun g151 hn_g151=> ?_) (.inr ⟨rfl,rfl⟩)
    refine ySG J12 ?_
    have hWn:(grWL x x.factors.length).length+1+x.members.length=(grW x).length:=by rw [←hwe,List.length_append,List.length_append];rfl
    refine cw_callqP (args:=[.c (strs false (grW x))]) rfl (line_fa false (grW x) (by rw [←hlw];omega)) rfl rfl rfl (by refine yS J12 ?_;exact .c (by
     rw [hWn]
     refine le_own (n:=(grW x).length) (ty:=9) (f:=appF (appF (strsF (grWL x x.factors.length)) ((grWL x x.factors.length).length*1) (strsF [kColon])) (((grWL x x.factors.length).length+1)*1) (strsF x.members)) (by simp [Heap.get,hWn]) rfl (fun i hi=>by rw [←hwe];exact strs_app3 (grWL x x.factors.length) [kColon] x.members i (by rw [←hWn] at hi;exact hi)))) (has0_cons (by simp) has0_nil) ?_ (.inr ⟨rfl,rfl⟩)
    refine ySG J12 ?_
    refine cw_callh (FP':=[]) (hc:=bdH 79 [.bool (grLo lo5 x x.factors.length)] g5 (.optr g5 0) og (grTo m j)) (hr:=[(g151,.cells 9 ((grWL x x.factors.length).length+1+x.members.length) (appF (appF (strsF (grWL x x.factors.length)) (grWL x x.factors.length).length (strsF [kColon])) ((grWL x x.factors.length).length+1) (strsF x.members))),(g147,.cells 9 (1*1) (ofL [.str (sB kColon)])),(g18,.cells 55 4 (ofL [.str (sB x.name),.int .i64 q,strs true x.members,rats true x.factors])),(g1,.cells 29 8 (ofL (mdc true m)))]) rfl (put_fh _ g5 _ og (grTo m j) (lineW (grW x)) hog om) rfl rfl rfl (List.perm_append_comm (l₁:=[_,_,_,_])) (zL J12) (fun _ _ _=>has0_nil) ?_
    rintro _ _ ⟨og2,hog2,rfl,rfl⟩ _
    rw [←hs] at hog2⊢
    refine ySG J12 ?_
    refine aw_weak (h':=bdH 79 [.bool (grLo lo5 x x.factors.length)] g5 (.optr g5 0) og2 (grTo m (j+1))++[(g1,.cells 29 8 (ofL (mdc true m)))]) (Sl.le_refl _) (List.Sublist.append_left (.cons _ (.cons _ (.cons _ (List.Sublist.refl _)))) _) ?_
    refine aw_perm (List.perm_append_comm (l₂:=[_])) ?_
    rw [←hls]
    exact aw_stop ⟨(j+1,og2),by dsimp only;omega,(zB J12),zZ,by dsimp only;omega,hog2⟩
  ·have d1:decide (j<m.groups.length)=false:=decide_eq_false hjn
   obtain rfl:j=m.groups.length:=by omega
   rw [show grTo m m.groups.length=phTo m 0 from by simp [phTo]] at hog⊢
   generalize grLoTo lo4 m.groups m.groups.length=lo7 at*
   rw [show lo7=phLoTo lo7 m.phases 0 from by simp [phLoTo]]
   all_goals try(have Z:=(oj hn_g1 (oj hn_g5 (oj d1 (oj d1 (oj d1 (oj d1 d1))))));(repeat' first|refine zV Z ?_|refine zH Z (fun hb=>?_) fun hb=>?_|fail);all_goals clear Z)
   refine aw_lp (fun z:Nat×Option Nat=>[(1,.c (.optr g1 0)),(5,.c (.optr g5 0)),(156,.c (phs true m.phases)),(157,.c (.int .i64 m.phases.length)),(158,.c (.int .i64 z.1))]) (fun z=>(g1,.cells 29 8 (ofL (mdc true m)))::bdH 79 [.bool (phLoTo lo7 m.phases z.1)] g5 (.optr g5 0) z.2 (phTo m z.1)) (fun z=>z.1≤m.phases.length∧BdOk (.optr g5 0) g5 z.2 (phTo m z.1)) (fun z=>m.phases.length-z.1) (0,og) (zB (oj hn_g1 (oj hn_g5 (oj d1 (oj d1 (oj d1 (oj d1 d1))))))) zZ ⟨Nat.zero_le _,hog⟩ ?_
   rintro ⟨j,og⟩ ⟨hj,hog⟩
   dsimp only at hj hog⊢
   by_cases hjn:j<m.phases.length
   ·have d1:decide (j<m.phases.length)=true:=decide_eq_true hjn
    have hx:m.phases.getD j ph0∈m.phases:=by rw [List.getD_eq_getElem?_getD,List.getElem?_eq_getElem hjn];exact List.getElem_mem _
    have hvw:=p.ph _ hx
    have nV:(m.phases.getD j ph0).values.length≤1099511627776:=Nat.le_trans (ho.ph.2 _ hx).2.2.1 (by decide)
    have hs:=phTo_succ m j hjn
    have hls:=phLoTo_succ lo7 m.phases j hjn
    have hbb:=phTo_le m (j+1)
    have hb2:=p.len
    generalize hv:m.phases.getD j ph0=x at*
    have hxl:(phX x).length≤10000000000:=by rw [hs,List.length_append] at hbb;omega
    have hnl:x.name.length+x.top.length≤10000000000:=by unfold phX headX at hxl;simp only [List.length_append,List.length_cons] at hxl;omega
    all_goals try(have Z:=(oj hn_g1 (oj hn_g5 (oj d1 (oj d1 (oj d1 (oj d1 (oj d1 (oj d1 hv))))))));(repeat' first|refine zV Z ?_|refine zH Z (fun hb=>?_) fun hb=>?_|fail);all_goals clear Z)
    refine yA (oj hn_g1 (oj hn_g5 (oj d1 (oj d1 (oj d1 (oj d1 (oj d1 (oj d1 hv)))))))) fun g23 hn_g23=>?_
    all_goals try(have Z:=(oj hn_g1 (oj hn_g5 (oj d1 (oj d1 (oj d1 (oj d1 (oj d1 (oj d1 (oj hv hn_g23)))))))));(repeat' first|refine zV Z ?_|refine zH Z (fun hb=>?_) fun hb=>?_|fail);all_goals clear Z)
    refine aw_pok (POk.addStr (a:=sB ([112,104,97,115,101,32]++(x.name++[32,116,111,112,32]))) (b:=sB x.top) (by show List.length _+List.length _≤_;simp only [List.length_append,List.length_cons,List.length_nil];omega) (zE (oj hn_g1 (oj hn_g5 (oj d1 (oj d1 (oj d1 (oj d1 (oj d1 (oj d1 (oj hv hn_g23)))))))))) (zE (oj hn_g1 (oj hn_g5 (oj d1 (oj d1 (oj d1 (oj d1 (oj d1 (oj d1 (oj hv hn_g23))))))))))) rfl rfl ?_
    rw [sb_app]
    have J13:=oj hn_g1 (oj hn_g5 (oj d1 (oj d1 (oj d1 (oj d1 (oj d1 (oj d1 (oj hv hn_g23))))))))
    refine ySG J13 ?_
    refine aw_pok (POk.addStr (a:=sB (([112,104,97,115,101,32]++(x.name++[32,116,111,112,32]))++x.top)) (b:=sB [32,123]) (by show List.length _+List.length _≤_;simp only [List.length_append,List.length_cons,List.length_nil];omega) (zE J13) (zE J13)) rfl rfl ?_
    rw [sb_app]
    refine yS J13 ?_
    refine aw_conv (t:=170) (v:=.c (.str (sB (hdrT kPhase x.name x.top)))) (fun S w u h=>(show u=.string _ from h).trans (by simp [hdrT])) rfl ?_
    refine yS J13 ?_
    have hin0:phIn (phTo m j) x 0=phTo m j++hdrT kPhase x.name x.top++[10]:=by unfold phIn;rw [←hdrT_x];simp
    have hinl:∀k,(phIn (phTo m j) x k).length≤10000000000:=fun k=>by have a:=phIn_le (phTo m j) x k;rw [←hs] at a;omega
    have hin1:(phTo m j).length+(hdrT kPhase x.name x.top).length+1≤10000000000:=by have a:=hinl 0;rw [hin0] at a;simp only [List.length_append,List.length_cons,List.length_nil] at a;omega
    refine aw_callh (hc:=bdH 79 [.bool (phLoTo lo7 m.phases j)] g5 (.optr g5 0) og (phTo m j)) (hr:=[(g23,.cells 66 3 (ofL (phc x))),(g1,.cells 29 8 (ofL (mdc true m)))]) (put_fh _ g5 _ og (phTo m j) (hdrT kPhase x.name x.top) hog om) rfl rfl rfl (List.perm_append_comm (l₁:=[_,_])) (zL J13) ?_
    rintro _ _ ⟨og2,hog2,rfl,rfl⟩ _
    rw [←hin0] at hog2⊢
    refine aw_perm (List.perm_append_comm (l₂:=[_,_])) ?_
    generalize hlo:phLoTo lo7 m.phases j=lo3 at*
    have e3:vlLo lo3 x.values 0=lo3:=by simp [vlLo]
    refine(?_:aw _ _ _ ((g23,.cells 66 3 (ofL (phc x)))::(g1,.cells 29 8 (ofL (mdc true m)))::bdH 79 [.bool lo3] g5 (.optr g5 0) og2 (phIn (phTo m j) x 0)))
    refine ySG J13 ?_
    refine aw_lp (fun z:Nat×Option Nat=>[(1,.c (.optr g1 0)),(5,.c (.optr g5 0)),(156,.c (phs true m.phases)),(157,.c (.int .i64 m.phases.length)),(158,.c (.int .i64 j)),(173,.c (vls true x.values)),(174,.c (.int .i64 x.values.length)),(175,.c (.int .i64 z.1))]) (fun z=>(g1,.cells 29 8 (ofL (mdc true m)))::bdH 79 [.bool (vlLo lo3 x.values z.1)] g5 (.optr g5 0) z.2 (phIn (phTo m j) x z.1)) (fun z=>z.1≤x.values.length∧BdOk (.optr g5 0) g5 z.2 (phIn (phTo m j) x z.1)) (fun z=>x.values.length-z.1) (0,og2) (zB J13) (by dsimp only;rw [e3];exact List.sublist_cons_self _ _) ⟨Nat.zero_le _,hog2⟩ ?_
    rintro ⟨k,og3⟩ ⟨hk,hog3⟩
    dsimp only at hk hog3⊢
    by_cases hkn:k<x.values.length
    ·have d2:decide (k<x.values.length)=true:=decide_eq_true hkn
     have hy:x.values.getD k vl0∈x.values:=by rw [List.getD_eq_getElem?_getD,List.getElem?_eq_getElem hkn];exact List.getElem_mem _
     have x1:=hvw _ hy
     have hs3:=phIn_succ (phTo m j) x k hkn
     have hls3:=vlLo_succ lo3 x.values k hkn
     have hb3:=hinl (k+1)
     generalize hv3:x.values.getD k vl0=v at*
     generalize hlo6:vlLo lo3 x.values k=lo6 at*
     have hlen:(phIn (phTo m j) x (k+1)).length=(phIn (phTo m j) x k).length+([32,32]++lineW [v.event,rtxt v.p]).length+1:=by rw [hs3];simp only [List.length_append,List.length_cons,List.length_nil]
     have hg2:([32,32]++lineW [v.event,rtxt v.p]).length=(lineW [v.event,rtxt v.p]).length+2:=by simp
     have hlw:(lineW [v.event,rtxt v.p]).length=([v.event,rtxt v.p]:List BS).length+sumW [v.event,rtxt v.p] ([v.event,rtxt v.p]:List BS).length:=lineW_len _ _
     all_goals try(have Z:=(oj hn_g1 (oj hn_g5 (oj d1 (oj d1 (oj d1 (oj d1 (oj d1 (oj d1 (oj hv (oj hn_g23 (oj d2 hv3)))))))))));(repeat' first|refine zV Z ?_|refine zH Z (fun hb=>?_) fun hb=>?_|fail);all_goals clear Z)
     refine yA (oj hn_g1 (oj hn_g5 (oj d1 (oj d1 (oj d1 (oj d1 (oj d1 (oj d1 (oj hv (oj hn_g23 (oj d2 hv3))))))))))) fun g25 hn_g25=>?_
     all_goals try(have Z:=(oj hn_g1 (oj hn_g5 (oj d1 (oj d1 (oj d1 (oj d1 (oj d1 (oj d1 (oj hv (oj hn_g23 (oj d2 (oj hv3 hn_g25))))))))))));(repeat' first|refine zV Z ?_|refine zH Z (fun hb=>?_) fun hb=>?_|fail);all_goals clear Z)
     refine aw_cw [(g25,.cells 68 4 (ofL (vlc v)))] [(0,0),(1,0),(2,0),(3,0),(4,0),(5,0),(6,1),(7,1),(8,1),(9,0),(10,2)] ty_mixed (by kernel_rfl) (has0_cons (by simp) has0_nil) ?_
     have J14:=oj hn_g1 (oj hn_g5 (oj d1 (oj d1 (oj d1 (oj d1 (oj d1 (oj d1 (oj hv (oj hn_g23 (oj d2 (oj hv3 hn_g25)))))))))))
     refine yG J14 ?_
     refine cw_callh (hc:=[bldG 79 [.bool lo6] g5 (.optr g5 0) (gsR og3 (phIn (phTo m j) x k).length)]) (hr:=(g25,.cells 68 4 (ofL (vlc v)))::(g1,.cells 29 8 (ofL (mdc true m)))::gh og3 5 (phIn (phTo m j) x k).length (byF (phIn (phTo m j) x k))) rfl (pnumber_fh lo6 g5 (.optr g5 0) (gsR og3 (phIn (phTo m j) x k).length) v.p x1) rfl rfl rfl (List.perm_middle (l₁:=[_,_])) (zL J14) (fun _ _ hq=>by obtain⟨_,rfl⟩:=hq;exact has0_cons (by simp) has0_nil) ?_ (hm:=.inr ⟨rfl,rfl⟩)
     rintro _ _ ⟨rfl,rfl⟩ _
     rw [←hls3]
     refine ySG J14 ?_
     refine cw_buildSlice (xs:=[.tmp 181,.tmp 185]) (cells:=[.str (sB v.event),.str (sB (rtxt v.p))]) rfl rfl rfl rfl (zE J14) (by refine yS J14 ?_;rfl) rfl om om (by intro z hz;simp only [List.mem_cons,List.not_mem_nil,or_false] at hz;rcases hz with rfl|rfl<;>exact⟨rfl,rfl,rfl⟩) rfl (by intro z hz;simp only [List.mem_cons,List.not_mem_nil,or_false] at hz;rcases hz with rfl|rfl<;>simp [Op.operands]) (has0_cons (by simp) has0_nil) (fun g186 hn_g186=> ?_) (.inr ⟨rfl,rfl⟩)
     refine ySG J14 ?_
     refine cw_callqP (args:=[.c (strs false [v.event,rtxt v.p])]) rfl (line_fa false [v.event,rtxt v.p] (by rw [←hlw];omega)) rfl rfl rfl (by refine yS J14 ?_;exact .c (le_own (n:=2) (ty:=9) (f:=ofL [.str (sB v.event),.str (sB (rtxt v.p))]) (by simp [Heap.get]) rfl (fun i hi=>by match i,hi with|0,_=>rw [strsF_0];rfl|1,_=>rw [strsF_0];rfl))) (has0_cons (by simp) has0_nil) ?_ (.inr ⟨rfl,rfl⟩)
     refine ySG J14 ?_
     refine cw_callh (FP':=[]) (hc:=bdH 79 [.bool (vlLo lo3 x.values (k+1))] g5 (.optr g5 0) og3 (phIn (phTo m j) x k)) (hr:=[(g186,.cells 9 (2*1) (ofL [.str (sB v.event),.str (sB (rtxt v.p))])),(g25,.cells 68 4 (ofL (vlc v))),(g1,.cells 29 8 (ofL (mdc true m)))]) rfl (put_fh _ g5 _ og3 (phIn (phTo m j) x k) ([32,32]++lineW [v.event,rtxt v.p]) hog3 om) rfl rfl rfl (by
      refine((List.Perm.cons _ (List.perm_middle (l₁:=[_,_]).symm)).trans ?_)
      exact List.perm_append_comm (l₁:=[_,_,_])) (zL J14) (fun _ _ _=>has0_nil) ?_
     rintro _ _ ⟨og4,hog4,rfl,rfl⟩ _
     rw [←hs3] at hog4⊢
     refine ySG J14 ?_
     refine aw_weak (h':=bdH 79 [.bool (vlLo lo3 x.values (k+1))] g5 (.optr g5 0) og4 (phIn (phTo m j) x (k+1))++[(g1,.cells 29 8 (ofL (mdc true m)))]) (Sl.le_refl _) (List.Sublist.append_left (.cons _ (.cons _ (List.Sublist.refl _))) _) ?_
     refine aw_perm (List.perm_append_comm (l₂:=[_])) ?_
     exact aw_stop ⟨(k+1,og4),by dsimp only;omega,(zB J14),zZ,by dsimp only;omega,hog4⟩
    ·have d2:decide (k<x.values.length)=false:=decide_eq_false hkn
     obtain rfl:k=x.values.length:=by omega
     have hend:=phIn_end (phTo m j) x
     rw [←hs] at hend
     have hbf:(phTo m (j+1)).length≤10000000000:=by omega
     have hbe:(phIn (phTo m j) x x.values.length).length+[(125:UInt8)].length+1≤10000000000:=by rw [←hend] at hbf;simp only [List.length_append,List.length_cons,List.length_nil] at hbf⊢;omega
     all_goals try(have Z:=(oj hn_g1 (oj hn_g5 (oj d1 (oj d1 (oj d1 (oj d1 (oj d1 (oj d1 (oj hv (oj hn_g23 d2))))))))));(repeat' first|refine zV Z ?_|refine zH Z (fun hb=>?_) fun hb=>?_|fail);all_goals clear Z)
     refine aw_callh (hc:=bdH 79 [.bool (vlLo lo3 x.values x.values.length)] g5 (.optr g5 0) og3 (phIn (phTo m j) x x.values.length)) (hr:=[(g1,.cells 29 8 (ofL (mdc true m)))]) (put_fh _ g5 _ og3 (phIn (phTo m j) x x.values.length) [125] hog3 om) rfl rfl rfl (List.perm_append_comm (l₁:=[_])) (zL (oj hn_g1 (oj hn_g5 (oj d1 (oj d1 (oj d1 (oj d1 (oj d1 (oj d1 (oj hv (oj hn_g23 d2))))))))))) ?_
     rintro _ _ ⟨og4,hog4,rfl,rfl⟩ _
     rw [hend] at hog4⊢
     rw [←hls]
     refine aw_perm (List.perm_append_comm (l₂:=[_])) ?_
     have J15:=oj hn_g1 (oj hn_g5 (oj d1 (oj d1 (oj d1 (oj d1 (oj d1 (oj d1 (oj hv (oj hn_g23 d2)))))))))
     refine ySG J15 ?_
     exact aw_stop ⟨(j+1,og4),by dsimp only;omega,(zB J15),zZ,by dsimp only;omega,hog4⟩
   ·have d1:decide (j<m.phases.length)=false:=decide_eq_false hjn
    obtain rfl:j=m.phases.length:=by omega
    have hend:=phTo_end m
    have hb2:=p.len
    have hbe:(phTo m m.phases.length).length+(lineW [kTop,m.top]).length+1≤10000000000:=by rw [←hend] at hb2;simp only [List.length_append,List.length_cons,List.length_nil] at hb2⊢;omega
    all_goals try(have Z:=(oj hn_g1 (oj hn_g5 (oj d1 (oj d1 (oj d1 (oj d1 (oj d1 d1)))))));(repeat' first|refine zV Z ?_|refine zH Z (fun hb=>?_) fun hb=>?_|fail);all_goals clear Z)
    refine aw_buildSlice (xs:=[.const (.string (sB kTop)),.tmp 196]) (cells:=[.str (sB kTop),.str (sB m.top)]) rfl rfl rfl (zE (oj hn_g1 (oj hn_g5 (oj d1 (oj d1 (oj d1 (oj d1 (oj d1 d1)))))))) (by refine yS (oj hn_g1 (oj hn_g5 (oj d1 (oj d1 (oj d1 (oj d1 (oj d1 d1))))))) ?_;rfl) rfl om om (by intro z hz;simp only [List.mem_cons,List.not_mem_nil,or_false] at hz;rcases hz with rfl|rfl<;>exact⟨rfl,rfl,rfl⟩) rfl fun g197 hn_g197=> ?_
    have J16:=oj hn_g1 (oj hn_g5 (oj d1 (oj d1 (oj d1 (oj d1 (oj d1 d1))))))
    refine yS J16 ?_
    refine aw_callq (line_fa false [kTop,m.top] (by rw [←lineW_len];omega)) rfl rfl rfl (by refine yS J16 ?_;exact .c (le_own (n:=2) (ty:=9) (f:=ofL [.str (sB kTop),.str (sB m.top)]) (by simp [Heap.get]) rfl (fun q hq=>by match q,hq with|0,_=>rw [strsF_0];rfl|1,_=>rw [strsF_0];rfl))) ?_
    refine aw_weak (Sl.le_refl _) (.cons _ (.cons _ (List.Sublist.refl _))) ?_
    refine yS J16 ?_
    refine aw_callh (hc:=bdH 79 [.bool (phLoTo lo7 m.phases m.phases.length)] g5 (.optr g5 0) og (phTo m m.phases.length)) (hr:=[]) (put_fh _ g5 _ og (phTo m m.phases.length) (lineW [kTop,m.top]) hog om) rfl rfl rfl (by rw [List.append_nil]) (zL J16) ?_
    rintro _ _ ⟨og2,hog2,rfl,rfl⟩ _
    rw [hend] at hog2⊢
    rw [List.append_nil]
    rw [hlong]
    have hog0:og2=none→textX m=[]:=fun e=>List.length_eq_zero_iff.1 (hog2.2 e)
    by_cases hL:longX m=true
    ·have hR:textR m=([],4):=by unfold textR;rw [if_pos (.inl hL)]
     rw [hR,hL]
     all_goals try(have Z:=J16;(repeat' first|refine zV Z ?_|refine zH Z (fun hb=>?_) fun hb=>?_|fail);all_goals clear Z)
     refine yT hC J16 ?_
     exact .tup ⟨.c (.str _),.c (ler_errN rfl om),trivial⟩
    ·have hL':longX m=false:=by simpa using hL
     rw [hL']
     all_goals try(have Z:=J16;(repeat' first|refine zV Z ?_|refine zH Z (fun hb=>?_) fun hb=>?_|fail);all_goals clear Z)
     refine aw_callh (hc:=bdH 79 [.bool false] g5 (.optr g5 0) og2 (textX m)) (hr:=[]) (lenG_fh g5 _ og2 (textX m) hog2.2) rfl rfl rfl (by rw [List.append_nil]) (zL J16) ?_
     rintro _ _ ⟨rfl,rfl⟩ _
     rw [List.append_nil]
     refine yS J16 ?_
     by_cases hl:(textX m).length>65536
     ·have hR:textR m=([],4):=by unfold textR;rw [if_pos (.inr hl)]
      have d3:decide (((textX m).length:Int)>65536)=true:=decide_eq_true om
      rw [hR]
      all_goals try(have Z:=(oj hn_g1 (oj hn_g5 (oj d1 (oj d1 (oj d1 (oj d1 (oj d1 (oj d1 d3))))))));(repeat' first|refine zV Z ?_|refine zH Z (fun hb=>?_) fun hb=>?_|fail);all_goals clear Z)
      refine yT hC (oj hn_g1 (oj hn_g5 (oj d1 (oj d1 (oj d1 (oj d1 (oj d1 (oj d1 d3)))))))) ?_
      exact .tup ⟨.c (.str _),.c (ler_errN rfl om),trivial⟩
     ·have hR:textR m=(textX m,0):=by unfold textR;rw [if_neg (by rw [hL'];simpa using hl)]
      have d3:decide (((textX m).length:Int)>65536)=false:=decide_eq_false om
      rw [hR]
      all_goals try(have Z:=(oj hn_g1 (oj hn_g5 (oj d1 (oj d1 (oj d1 (oj d1 (oj d1 (oj d1 d3))))))));(repeat' first|refine zV Z ?_|refine zH Z (fun hb=>?_) fun hb=>?_|fail);all_goals clear Z)
      have hne:textX m≠[]:=by unfold textX lineW;simp
      refine aw_callh (hc:=bdH 79 [.bool false] g5 (.optr g5 0) og2 (textX m)) (hr:=[]) (bstrG_fh g5 _ og2 (textX m) hog0 (fun e=>absurd e hne) om) rfl rfl rfl (by rw [List.append_nil]) (zL (oj hn_g1 (oj hn_g5 (oj d1 (oj d1 (oj d1 (oj d1 (oj d1 (oj d1 d3))))))))) ?_
      rintro _ _ ⟨rfl,rfl⟩ _
      have J17:=oj hn_g1 (oj hn_g5 (oj d1 (oj d1 (oj d1 (oj d1 (oj d1 (oj d1 d3)))))))
      refine yS J17 ?_
      all_goals try(have Z:=J17;(repeat' first|refine zV Z ?_|refine zH Z (fun hb=>?_) fun hb=>?_|fail);all_goals clear Z)
      refine yT hC J17 ?_
      exact .tup ⟨.c (.str _),.c (ler_err0 rfl),trivial⟩
 ·rw [if_pos hc]
  have hc':(!decide (mcC m=0))=true:=by rw [decide_eq_false hc];rfl
  refine fa_of_body Tryz.func10 rfl rfl (by simp [Tryz.ntmps10]) fun C hC=> ?_
  simp only [initS,Nat.reduceAdd]
  refine xG ?_
  refine xB fun g1 hn_g1=>?_
  all_goals try(have Z:=(oj hn_g1 hc');(repeat' first|refine zV Z ?_|(refine yC2 Z (f1) ?_)|(refine yD2 Z (f1) ?_)|refine zH Z (fun hb=>?_) fun hb=>?_|fail);all_goals clear Z)
  refine yT hC (oj hn_g1 hc') ?_
  exact .tup ⟨.c (.str _),.c ler_err,trivial⟩
end Go.Proofs.YtnmeahogifekdaaGreatDoor
namespace Go.PN
open Go.AI
theorem read_o (l:BS):MdO (readS ⟨(splitS l).2,0⟩).1:=sz_read _ (fun t ht=>Nat.le_trans (splitS_txt l t ht) (by decide)) (by
 have:=splitS_len l
 show(if(0:Int)=0 then(splitS l).2.length+1 else 0)≤NG
 rw [if_pos rfl]
 show _≤1048576
 omega)
theorem md0_o:MdO md0:=⟨Nat.zero_le _,Nat.zero_le _,⟨Nat.zero_le _,fun _ h=>by cases h⟩,⟨Nat.zero_le _,fun _ h=>by cases h⟩,⟨Nat.zero_le _,fun _ h=>by cases h⟩,⟨Nat.zero_le _,fun _ h=>by cases h⟩,⟨Nat.zero_le _,fun _ h=>by cases h⟩,⟨Nat.zero_le _,fun _ h=>by cases h⟩⟩
theorem modelP_o (ck:MdD→Int) (l:BS):MdO (modelP ck l).1:=by
 unfold modelP
 dsimp only
 split
 ·exact md0_o
 split
 ·exact md0_o
 split
 ·exact md0_o
 ·exact read_o l
end Go.PN
namespace Go.Proofs.YtnmeahogifekdaaGreatDoor
open Go.AI Go.PN
attribute [local irreducible] aw Fa Fh DrK
theorem pm_fa (l:BS) (hl:l.length≤1099511627776):Fa Tryz.prog 12 [.c (.str (sB l))] (.tup [.agg (mdc true (modelP mcC l).1),.c (errA (modelP mcC l).2)]):=
 pmodel_fa mcC l hl (Nat.le_trans (splitS_len l) (by decide)) (fun t ht=>Nat.le_trans (splitS_txt l t ht) (by decide)) fun _=>check_fa _ (read_o l)
end Go.Proofs.YtnmeahogifekdaaGreatDoor
namespace Go.PN
open Go.AI
instance:DecidableEq GtD:=fun a b=>decidable_of_iff (a.name=b.name∧a.kind=b.kind∧a.k=b.k∧a.inputs=b.inputs∧a.dorm=b.dorm) (by cases a;cases b;simp)
instance:DecidableEq EvD:=fun a b=>decidable_of_iff (a.name=b.name∧a.p=b.p∧a.fail=b.fail∧a.rep=b.rep∧a.cost=b.cost) (by cases a;cases b;simp)
instance:DecidableEq HsD:=fun a b=>decidable_of_iff (a.name=b.name∧a.on=b.on) (by cases a;cases b;simp)
instance:DecidableEq PgD:=fun a b=>decidable_of_iff (a.name=b.name∧a.top=b.top∧a.gates=b.gates) (by cases a;cases b;simp)
instance:DecidableEq GrD:=fun a b=>decidable_of_iff (a.name=b.name∧a.kind=b.kind∧a.members=b.members∧a.factors=b.factors) (by cases a;cases b;simp)
instance:DecidableEq VlD:=fun a b=>decidable_of_iff (a.event=b.event∧a.p=b.p) (by cases a;cases b;simp)
instance:DecidableEq PhD:=fun a b=>decidable_of_iff (a.name=b.name∧a.top=b.top∧a.values=b.values) (by cases a;cases b;simp)
instance:DecidableEq MdD:=fun a b=>decidable_of_iff (a.name=b.name∧a.top=b.top∧a.events=b.events∧a.houses=b.houses∧a.gates=b.gates∧a.pages=b.pages∧a.groups=b.groups∧a.phases=b.phases) (by cases a;cases b;simp)
end Go.PN

namespace Go.PN
open Go.AI
def awT24:BS:=[109,111,100,101,108,32,109,59,32,101,118,101,110,116,32,98,59,32,101,118,101,110,116,32,97,59,32,103,97,116,101,32,103,32,97,110,100,32,98,32,97,59,32,116,111,112,32,103,59]
abbrev awM24:MdD:=⟨[109],[103],[⟨[98],rd0,rd0,rd0,0⟩,⟨[97],rd0,rd0,rd0,0⟩],[],[⟨[103],0,0,[[98],[97]],rd0⟩],[],[],[]⟩
abbrev awN24:MdD:=⟨[109],[103],[⟨[97],rd0,rd0,rd0,0⟩,⟨[98],rd0,rd0,rd0,0⟩],[],[⟨[103],0,0,[[97],[98]],rd0⟩],[],[],[]⟩
def awS24:BS:=[109,111,100,101,108,32,109,59,10,101,118,101,110,116,32,98,59,10,101,118,101,110,116,32,97,59,10,103,97,116,101,32,103,32,97,110,100,32,98,32,97,59,10,116,111,112,32,103,59,10]
theorem awM24_c:mcC awM24=0:=by decide+kernel
theorem awT24_ok:modelP mcC awT24=(awM24,0):=by
 have h1:(splitS awT24).1=0:=by decide+kernel
 have h2:(readS ⟨(splitS awT24).2,0⟩).1=awM24:=by decide+kernel
 have h3:(readS ⟨(splitS awT24).2,0⟩).2.e=0:=by decide+kernel
 unfold modelP
 dsimp only
 rw [if_neg (fun h=>h h1),if_neg (fun h=>h h3),h2,if_neg (fun h=>h awM24_c)]
theorem part_0 (w:BS):partW w rd0=[]:=by
 have:signQ rd0.q=0:=by decide+kernel
 unfold partW
 rw [if_pos this]
theorem rd_0:rd ((0:Int):Rat)=rd0:=by decide+kernel
theorem awS24_ok:textR awM24=(awS24,0):=by
 have hl:longX awM24=false:=by
  show((longR rd0||longR rd0||longR rd0)||((longR rd0||longR rd0||longR rd0)||false)||(longR rd0||false)||false||false||false)=false
  rw [long_0];rfl
 have ht:textX awM24=awS24:=by
  unfold textX
  show lineW [kModel,[109]]++10::((lineW (evW ⟨[98],rd0,rd0,rd0,0⟩)++[10]++(lineW (evW ⟨[97],rd0,rd0,rd0,0⟩)++[10]++[]))++([]++(([]++gateX ⟨[103],0,0,[[98],[97]],rd0⟩++[10]++[])++([]++([]++([]++(lineW [kTop,[103]]++[10])))))))=awS24
  unfold evW
  dsimp only
  rw [part_0,part_0,part_0,rd_0,part_0]
  rfl
 unfold textR
 rw [if_neg (by rw [hl,ht];decide),ht]
theorem awN24_ok:normM awM24=awN24:=by decide+kernel
end Go.PN
namespace Go.Proofs.YtnmeahogifekdaaGreatDoor
open Go.AI Go.PN
attribute [local irreducible] aw Fa Fh DrK
theorem awake24_fa:Fa Tryz.prog 7 [] (.c (.bool true)):=by
 have o1:MdO awM24:=by have:=modelP_o mcC awT24;rw [awT24_ok] at this;exact this
 have f1:=pm_fa awT24 (by decide)
 have f2:=ptext_fa awM24 o1 (fun h=>mdP_of o1 h)
 have f3:=pnorm_fa awM24 o1
 have f4:=gateX_fa ⟨[103],0,0,[[98],[97]],rd0⟩ (by decide) (by decide) (by decide) (RD.wf.mono rd0_ok (by decide)) (by decide+kernel)
 rw [awT24_ok] at f1
 rw [if_neg (fun h=>h awM24_c),awS24_ok] at f2
 rw [if_pos awM24_c,awM24_c,awN24_ok] at f3
 dsimp only at f1 f2 f3 f4
 have e0:errA 0=.nilI:=if_pos rfl
 rw [e0] at f1 f2 f3
 have eg:gateX ⟨[103],0,0,[[98],[97]],rd0⟩=[103,97,116,101,32,103,32,97,110,100,32,98,32,97,59]:=by decide+kernel
 rw [eg] at f4
 unfold awT24 at f1
 unfold awS24 at f2
 have q0:evsF [⟨[97],rd0,rd0,rd0,0⟩,⟨[98],rd0,rd0,rd0,0⟩] 0=.str (sB [97]):=rfl
 have r0:gtsF [⟨[103],0,0,[[98],[97]],rd0⟩] 0=.str (sB [103]):=rfl
 have r1:gtsF [⟨[103],0,0,[[98],[97]],rd0⟩] 1=.int .i64 0:=rfl
 have r2:gtsF [⟨[103],0,0,[[98],[97]],rd0⟩] 2=.int .i64 0:=rfl
 have r3:gtsF [⟨[103],0,0,[[98],[97]],rd0⟩] 3=strs true [[98],[97]]:=rfl
 have r4:gtsF [⟨[103],0,0,[[98],[97]],rd0⟩] 4=.bool rd0.neg:=rfl
 have r5:gtsF [⟨[103],0,0,[[98],[97]],rd0⟩] 5=ws true rd0.num:=rfl
 have r6:gtsF [⟨[103],0,0,[[98],[97]],rd0⟩] 6=ws true rd0.den:=rfl
 refine fa_of_body Tryz.func7 rfl rfl (by simp [Tryz.ntmps7]) fun C hC=> ?_
 simp only [initS,Nat.reduceAdd]
 all_goals try(have Z:=(oj q0 (oj r0 (oj r1 (oj r2 (oj r3 (oj r4 (oj r5 r6)))))));(repeat' first|refine zV Z ?_|(refine yC2 Z (f1) ?_)|(refine yD2 Z (f1) ?_)|(refine yC2 Z (f2) ?_)|(refine yD2 Z (f2) ?_)|(refine yC2 Z (f3) ?_)|(refine yD2 Z (f3) ?_)|(refine yC2 Z (f4) ?_)|(refine yD2 Z (f4) ?_)|refine zH Z (fun hb=>?_) fun hb=>?_|fail);all_goals clear Z)
 refine yA (oj q0 (oj r0 (oj r1 (oj r2 (oj r3 (oj r4 (oj r5 r6))))))) fun g1 hn_g1=>?_
 all_goals try(have Z:=(oj q0 (oj r0 (oj r1 (oj r2 (oj r3 (oj r4 (oj r5 (oj r6 hn_g1))))))));(repeat' first|refine zV Z ?_|(refine yC2 Z (f1) ?_)|(refine yD2 Z (f1) ?_)|(refine yC2 Z (f2) ?_)|(refine yD2 Z (f2) ?_)|(refine yC2 Z (f3) ?_)|(refine yD2 Z (f3) ?_)|(refine yC2 Z (f4) ?_)|(refine yD2 Z (f4) ?_)|refine zH Z (fun hb=>?_) fun hb=>?_|fail);all_goals clear Z)
 refine yA (oj q0 (oj r0 (oj r1 (oj r2 (oj r3 (oj r4 (oj r5 (oj r6 hn_g1)))))))) fun g5 hn_g5=>?_
 all_goals try(have Z:=(oj q0 (oj r0 (oj r1 (oj r2 (oj r3 (oj r4 (oj r5 (oj r6 (oj hn_g1 hn_g5)))))))));(repeat' first|refine zV Z ?_|(refine yC2 Z (f1) ?_)|(refine yD2 Z (f1) ?_)|(refine yC2 Z (f2) ?_)|(refine yD2 Z (f2) ?_)|(refine yC2 Z (f3) ?_)|(refine yD2 Z (f3) ?_)|(refine yC2 Z (f4) ?_)|(refine yD2 Z (f4) ?_)|refine zH Z (fun hb=>?_) fun hb=>?_|fail);all_goals clear Z)
 all_goals first
  |(exfalso;revert hb;decide)
  |(refine yT hC (oj q0 (oj r0 (oj r1 (oj r2 (oj r3 (oj r4 (oj r5 (oj r6 (oj hn_g1 hn_g5))))))))) ?_
    exact .one (.c (ler_bool (by decide))))
end Go.Proofs.YtnmeahogifekdaaGreatDoor
