/- Parts of one proof, laid by a program. -/
import Derived.Test.YtnmeahogifekdaaGreatDoorM00
import Derived.Test.YtnmeahogifekdaaGreatDoorM13
import Derived.Test.YtnmeahogifekdaaGreatDoorM15
set_option linter.unusedSimpArgs false
set_option linter.unusedVariables false
set_option maxRecDepth 100000
set_option maxHeartbeats 12800000
namespace Go.AI
theorem qa {a : Nat × AObj} {h : Heap} (h1 : a ∈ h := by simp) : Has0 [a] h := has0_cons h1 has0_nil
theorem qb {α : Type} {a b : α} (h : a = b := by first|rfl|simp only [Nat.mul_one,List.nil_append,List.cons_append]<;>rfl) : a = b := h
theorem qc {p : Prop} (h : p := by unfold maxLen;omega) : p := h
theorem qd {t : Nat} {P : Operand → Prop} (h : P (.tmp t) := by exact ⟨rfl,rfl,rfl⟩) : ∀ x ∈ [Operand.tmp t], P x := by intro x hx;simp only [List.mem_singleton] at hx;subst hx;exact h
end Go.AI
namespace Go.Proofs.YtnmeahogifekdaaGreatDoor
open Go.AI Go.PN
attribute [local irreducible] aw Fa Fh DrK
theorem list_ext {xs ys:List Nat} (hl:xs.length=ys.length) (h:∀j,j<xs.length→xs.getD j 0=ys.getD j 0):xs=ys:=by
 apply List.ext_getElem hl
 intro i h1 h2
 have:=h i h1
 rw [List.getD_eq_getElem?_getD,List.getD_eq_getElem?_getD,List.getElem?_eq_getElem h1,List.getElem?_eq_getElem h2] at this
 exact this
theorem words_fa (xs ys:List Nat) (hl:xs.length≤68719476736):Fa Tryz.prog 106 [.c (ws false xs),.c (ws false ys)] (.c (.bool (decide (xs=ys)))):=by
 refine fa_of_body Tryz.func106 rfl rfl (by simp [Tryz.ntmps106]) fun C hC=> ?_
 simp only [initS,Nat.reduceAdd]
 refine xG ?_
 refine xF (fun hb=>?_) fun hb=>?_
 ·refine xGT hC ?_
  refine .one (.c (ler_bool ?_))
  have:xs≠ys:=fun e=>by rw [e] at hb;simp at hb
  simp [this]
 ·have hlen:xs.length=ys.length:=by
   have h0:=hb
   simp at h0
   omega
  refine xG ?_
  refine aw_lp (fun i:Nat=>[(0,.c (ws false xs)),(1,.c (ws false ys)),(12,.c (.int .i64 xs.length)),(13,.c (.int .i64 i))]) (fun _=>[]) (fun i=>i≤xs.length∧∀j,j<i→xs.getD j 0=ys.getD j 0) (fun i=>xs.length-i) 0 eB zZ ⟨Nat.zero_le _,fun j hj=>by omega⟩ ?_
  rintro i ⟨hi,hs⟩
  refine xG ?_
  refine xF (fun hb=>?_) fun hb=>?_
  ·have hin:i<xs.length:=dT hb
   refine xG ?_
   refine aw_dr 9 ty_mixed (by kernel_rfl) ?_
   refine xG ?_
   refine xF (fun hc=>?_) fun hc=>?_
   ·refine xGT hC ?_
    refine .one (.c (ler_bool ?_))
    have:xs≠ys:=fun e=>by rw [e] at hc;simp at hc
    simp [this]
   ·have he:xs.getD i 0=ys.getD i 0:=by
     by_cases e:xs.getD i 0=ys.getD i 0
     ·exact e
     ·exfalso
      have e2:((xs.getD i 0:Nat):Int)≠((ys.getD i 0:Nat):Int):=fun z=>e (Int.ofNat.inj z)
      first
       |(rw [bne,beq_eq_false_iff_ne.2 e2] at hc;cases hc)
       |(rw [bne,beq_eq_false_iff_ne.2 e] at hc;cases hc)
    refine xG ?_
    refine aw_stop ⟨i+1,by omega,eB,zZ,by omega,fun j hj=> ?_⟩
    by_cases hji:j=i
    ·rw [hji];exact he
    ·exact hs j om
  ·have hin:i=xs.length:=dF hb
   subst hin
   refine xGT hC ?_
   refine .one (.c (ler_bool ?_))
   have:xs=ys:=list_ext hlen hs
   simp [this]
theorem ratEq_fa (a b:RD) (hw:a.wf 68719476736):Fa Tryz.prog 47 [.agg (rdc a),.agg (rdc b)] (.c (.bool (decide (a=b)))):=by
 have he:decide (a=b)=(decide (a.neg=b.neg)&&(decide (a.num=b.num)&&decide (a.den=b.den))):=by
  rw [Bool.eq_iff_iff]
  simp only [decide_eq_true_eq,Bool.and_eq_true]
  cases a;cases b;simp
 rw [he]
 refine fa_of_body Tryz.func47 rfl rfl (by simp [Tryz.ntmps47]) fun C hC=> ?_
 simp only [initS,Nat.reduceAdd]
 refine xG ?_
 refine xB fun g2 hn_g2=>?_
 refine yB hn_g2 fun g3 hn_g3=>?_
 have J1:=oj hn_g2 hn_g3
 refine yG J1 ?_
 refine aw_split 10 (zE J1) (fun h1=> ?_) (fun h1=> ?_)<;>refine yS J1 ?_
 ·have h1':a.neg=b.neg:=eq_of_beq h1
  refine yG J1 ?_
  refine yC J1 (words_fa _ _ hw.2.2.1) ?_
  refine yG J1 ?_
  refine aw_split 17 (zE J1) (fun h2=> ?_) (fun h2=> ?_)<;>refine yS J1 ?_
  ·refine yG J1 ?_
   refine yC J1 (words_fa _ _ hw.2.2.2) ?_
   refine yGT hC J1 ?_
   exact .one (.c (ler_bool (by rw [h2,h1'];simp)))
  ·refine yGT hC J1 ?_
   exact .one (.c (ler_bool (by rw [h2];simp)))
 ·have h1':a.neg≠b.neg:=fun e=>by rw [e] at h1;simp at h1
  refine yGT hC J1 ?_
  exact .one (.c (ler_bool (by simp [h1'])))
end Go.Proofs.YtnmeahogifekdaaGreatDoor
namespace Go.PN
open Go.AI
section
variable {α : Type} [DecidableEq α]
theorem idx_lt {l:List α} {a:α}:∀{l1 l2:List α},l=l1++a::l2→a∉l1→∀x∈l1,l.idxOf x<l.idxOf a:=by
 intro l1 l2 h hn x hx
 subst h
 rw [List.idxOf_append,List.idxOf_append,if_pos hx,if_neg hn]
 have:=List.idxOf_lt_length_iff.2 hx
 omega
end
end Go.PN
namespace Go.PN
open Go.AI
variable {α β : Type}
theorem sort_of_perm {f:α→BS} {l l':List α} (hp:l'.Perm l) (h:(l.map f).Nodup):sortK f l'=sortK f l:=sort_uniq ((sortK_perm f l').trans hp) (sortK_srt f l') h
theorem sort_id_perm {l l':List BS} (hp:l'.Perm l):sortK id l'=sortK id l:=sort_id ((sortK_perm id l').trans hp) (sortK_srt id l')
def turnI (k:Int) (l:List BS):List BS:=if freeK k then l.reverse else if k=8 then l.take 1++(l.drop 1).reverse else l
def turnG (g:GtD):GtD:={g with inputs:=turnI g.kind g.inputs}
def turnL (l:List GtD):List GtD:=(l.map turnG).reverse
def turnP (x:PgD):PgD:=⟨x.name,x.top,turnL x.gates⟩
def turnR (x:GrD):GrD:=⟨x.name,x.kind,x.members.reverse,x.factors⟩
def turnH (x:PhD):PhD:=⟨x.name,x.top,x.values.reverse⟩
def turnM (m:MdD):MdD:=⟨m.name,m.top,m.events.reverse,m.houses.reverse,turnL m.gates,(m.pages.map turnP).reverse,(m.groups.map turnR).reverse,m.phases.map turnH⟩
end Go.PN
namespace Go.PN
open Go.AI
variable {α β : Type}
theorem inpR_perm {k:Int} {l l':List BS} (h:InpR k l l'):l'.Perm l:=by
 unfold InpR at h
 split at h
 ·exact h
 split at h
 ·rw [←List.take_append_drop 1 l',←List.take_append_drop 1 l,h.1]
  exact h.2.append_left _
 ·rw [h]
theorem normI_r (k:Int) (l:List BS):InpR k l (normI k l):=by
 unfold InpR normI
 split
 ·exact sortK_perm id l
 split
 ·cases l with
  |nil=>exact⟨rfl,.refl _⟩
  |cons a r=>exact⟨rfl,sortK_perm id r⟩
 ·rfl
theorem turnI_r (k:Int) (l:List BS):InpR k l (turnI k l):=by
 unfold InpR turnI
 split
 ·exact List.reverse_perm l
 split
 ·cases l with
  |nil=>exact⟨rfl,.refl _⟩
  |cons a r=>exact⟨rfl,List.reverse_perm r⟩
 ·rfl
theorem normI_of {k:Int} {l l':List BS} (h:InpR k l l'):normI k l'=normI k l:=by
 unfold InpR at h
 unfold normI
 split at h
 ·rename_i e;rw [if_pos e,if_pos e];exact sort_id_perm h
 rename_i e
 rw [if_neg e,if_neg e]
 split at h
 ·rename_i e2;rw [if_pos e2,if_pos e2,h.1,sort_id_perm h.2]
 ·rename_i e2;rw [if_neg e2,if_neg e2,h]
theorem normG_r (g:GtD):ReG g (normG g):=⟨rfl,rfl,rfl,rfl,normI_r _ _⟩
theorem turnG_r (g:GtD):ReG g (turnG g):=⟨rfl,rfl,rfl,rfl,turnI_r _ _⟩
theorem normL_r (l:List GtD):ReL l (normL l):=⟨normG,fun g _=>normG_r g,sortK_perm _ _⟩
theorem turnL_r (l:List GtD):ReL l (turnL l):=⟨turnG,fun g _=>turnG_r g,List.reverse_perm _⟩
theorem normM_r (m:MdD):ReM m (normM m):=
 ⟨rfl,rfl,sortK_perm _ _,sortK_perm _ _,normL_r _,⟨normP,fun x _=>⟨rfl,rfl,normL_r _⟩,sortK_perm _ _⟩,⟨normR,fun x _=>⟨rfl,rfl,rfl,sortK_perm _ _⟩,sortK_perm _ _⟩,⟨normH,fun x _=>⟨rfl,rfl,sortK_perm _ _⟩,rfl⟩⟩
theorem turnM_r (m:MdD):ReM m (turnM m):=
 ⟨rfl,rfl,List.reverse_perm _,List.reverse_perm _,turnL_r _,⟨turnP,fun x _=>⟨rfl,rfl,turnL_r _⟩,List.reverse_perm _⟩,⟨turnR,fun x _=>⟨rfl,rfl,rfl,List.reverse_perm _⟩,List.reverse_perm _⟩,⟨turnH,fun x _=>⟨rfl,rfl,List.reverse_perm _⟩,rfl⟩⟩
theorem gtD_ext {a b:GtD} (h1:a.name=b.name) (h2:a.kind=b.kind) (h3:a.k=b.k) (h4:a.inputs=b.inputs) (h5:a.dorm=b.dorm):a=b:=by
 cases a;cases b;simp_all
theorem normG_of {g g':GtD} (h:ReG g g'):normG g'=normG g:=gtD_ext h.nm h.kd h.k (by show normI g'.kind g'.inputs=normI g.kind g.inputs;rw [h.kd];exact normI_of h.inp) h.dm
theorem map_perm_of {f:α→β} {h:α→α} {L L':List α} (hh:∀g∈L,f (h g)=f g) (hp:L'.Perm (L.map h)):(L'.map f).Perm (L.map f):=by
 have e:(L.map h).map f=L.map f:=by
  rw [List.map_map]
  exact List.map_congr_left hh
 rw [←e]
 exact hp.map f
theorem gnN_perm {L L':List GtD} (h:ReL L L'):(gnN L').Perm (gnN L):=by
 obtain⟨h,h1,h2⟩:=h
 exact map_perm_of (fun g hg=>(h1 g hg).nm) h2
theorem normL_of {L L':List GtD} (h:ReL L L') (hn:(gnN L).Nodup):normL L'=normL L:=by
 obtain⟨h,h1,h2⟩:=h
 refine sort_of_perm (map_perm_of (fun g hg=>normG_of (h1 g hg)) h2) ?_
 rw [List.map_map]
 exact hn
theorem normP_of {x x':PgD} (h:ReP x x') (hn:(gnN x.gates).Nodup):normP x'=normP x:=by
 unfold normP
 rw [h.nm,h.tp,normL_of h.gt hn]
theorem normR_of {x x':GrD} (h:ReR x x'):normR x'=normR x:=by
 unfold normR
 rw [h.nm,h.kd,h.fa,sort_id_perm h.me]
theorem normH_of {x x':PhD} (h:ReH x x') (hn:(x.values.map VlD.event).Nodup):normH x'=normH x:=by
 unfold normH
 rw [h.nm,h.tp,sort_of_perm h.vl hn]
theorem normM_of {m m':MdD} (h:ReM m m') (hg:Good m):normM m'=normM m:=by
 obtain⟨hp,p1,p2⟩:=h.pg
 obtain⟨hr,r1,r2⟩:=h.gr
 obtain⟨hh,q1,q2⟩:=h.ph
 have e1:sortK EvD.name m'.events=sortK EvD.name m.events:=sort_of_perm h.ev hg.evn
 have e2:sortK HsD.name m'.houses=sortK HsD.name m.houses:=sort_of_perm h.hs hg.hsn
 have e3:=normL_of h.gt hg.gt.1
 have e4:sortK PgD.name (m'.pages.map normP)=sortK PgD.name (m.pages.map normP):=by
  refine sort_of_perm (map_perm_of (fun x hx=>normP_of (p1 x hx) (hg.pg x hx).2.1.1) p2) ?_
  rw [List.map_map]
  exact hg.pgn
 have e5:sortK GrD.name (m'.groups.map normR)=sortK GrD.name (m.groups.map normR):=by
  refine sort_of_perm (map_perm_of (fun x hx=>normR_of (r1 x hx)) r2) ?_
  rw [List.map_map]
  exact hg.grn
 have e6:m'.phases.map normH=m.phases.map normH:=by
  rw [q2,List.map_map]
  exact List.map_congr_left fun x hx=>normH_of (q1 x hx) (hg.ph x hx).2.2.2
 unfold normM
 rw [h.nm,h.tp,e1,e2,e3,e4,e5,e6]
theorem inN_of {m m':MdD} {L L':List GtD} (h1:∀n,n∈evN m↔n∈evN m') (h2:∀n,n∈hsN m↔n∈hsN m') (h3:∀n,n∈pgN m↔n∈pgN m') (h4:∀n,n∈gnN L↔n∈gnN L') (i:BS):InN m L i↔InN m' L' i:=by
 unfold InN
 rw [h1,h2,h3,h4]
theorem shp_of {g g':GtD} (h:ReG g g'):shpC g'=shpC g:=by
 unfold shpC
 rw [h.kd,h.k,h.dm,(inpR_perm h.inp).length_eq]
theorem sp_of {g g':GtD} (h:ReG g g'):spOf g'=spOf g:=by
 unfold spOf
 rw [h.kd]
 by_cases e:g.kind=7
 ·rw [if_pos e,if_pos e]
  have:=h.inp
  unfold InpR freeK at this
  rw [e,if_neg (by decide),if_neg (by decide)] at this
  exact this
 ·rw [if_neg e,if_neg e]
theorem gtA_of {m m':MdD} {L L':List GtD} (h1:∀n,n∈evN m↔n∈evN m') (h2:∀n,n∈hsN m↔n∈hsN m') (h3:∀i,InN m L i↔InN m' L' i) {g g':GtD} (h:ReG g g') (ha:GtA m L g):GtA m' L' g':=by
 obtain⟨a1,a2,a3,a4,a5,a6,a7⟩:=ha
 have hp:=inpR_perm h.inp
 refine⟨by rw [h.nm];exact a1,by rw [h.nm,←h1];exact a2,by rw [h.nm,←h2];exact a3,by rw [shp_of h];exact a4,fun i hi=>(h3 i).1 (a5 i (hp.mem_iff.1 hi)),fun e i hi=>(h1 i).1 (a6 (by rw [←h.kd];exact e) i (hp.mem_iff.1 hi)),fun e i hi=>(h1 i).1 (a7 (by rw [←h.kd];exact e) i ?_)⟩
 have:=h.inp
 unfold InpR freeK at this
 rw [h.kd] at e
 rw [e,if_neg (by decide),if_pos rfl] at this
 exact this.2.mem_iff.1 hi
theorem gsA_of {m m':MdD} {L L':List GtD} (h1:∀n,n∈evN m↔n∈evN m') (h2:∀n,n∈hsN m↔n∈hsN m') (h3:∀n,n∈pgN m↔n∈pgN m') (h:ReL L L') (ha:GsA m L):GsA m' L':=by
 have hn:=gnN_perm h
 have hi:=inN_of h1 h2 h3 (fun n=>hn.mem_iff.symm)
 obtain⟨f,f1,f2⟩:=h
 refine⟨hn.nodup_iff.2 ha.1,fun g' hg'=> ?_⟩
 obtain⟨g,hg,rfl⟩:=List.mem_map.1 (f2.mem_iff.1 hg')
 exact gtA_of h1 h2 hi (f1 g hg) (ha.2 g hg)
theorem flat_perm {f:α→List β} {h:α→α} {L L':List α} (hh:∀g∈L,(f (h g)).Perm (f g)) (hp:L'.Perm (L.map h)):(L'.flatMap f).Perm (L.flatMap f):=by
 refine(hp.flatMap_right f).trans ?_
 rw [List.flatMap_map]
 clear hp
 induction L with
 |nil=>exact .refl _
 |cons x L ih=>
  rw [List.flatMap_cons,List.flatMap_cons]
  exact(hh x List.mem_cons_self).append (ih fun g hg=>hh g (List.mem_cons_of_mem _ hg))
theorem gtN_len (m:MdD):gtN m=m.gates.length+(m.pages.flatMap fun p=>p.gates.map fun _=>()).length:=by
 unfold gtN
 rw [List.length_flatMap]
 congr 2
 simp
theorem reL_len {L L':List GtD} (h:ReL L L'):L'.length=L.length:=by
 obtain⟨f,_,f2⟩:=h
 rw [f2.length_eq,List.length_map]
theorem good_of {m m':MdD} (h:ReM m m') (g:Good m):Good m':=by
 obtain⟨hp,p1,p2⟩:=h.pg
 obtain⟨hr,r1,r2⟩:=h.gr
 obtain⟨hh,q1,q2⟩:=h.ph
 have n1:(evN m').Perm (evN m):=h.ev.map _
 have n2:(hsN m').Perm (hsN m):=h.hs.map _
 have n3:(pgN m').Perm (pgN m):=map_perm_of (fun x hx=>(p1 x hx).nm) p2
 have m1:∀n,n∈evN m↔n∈evN m':=fun n=>n1.mem_iff.symm
 have m2:∀n,n∈hsN m↔n∈hsN m':=fun n=>n2.mem_iff.symm
 have m3:∀n,n∈pgN m↔n∈pgN m':=fun n=>n3.mem_iff.symm
 have m4:∀i,InN m m.gates i↔InN m' m'.gates i:=inN_of m1 m2 m3 fun n=>(gnN_perm h.gt).mem_iff.symm
 have lp:m'.pages.length=m.pages.length:=by rw [p2.length_eq,List.length_map]
 refine⟨by rw [h.nm];exact g.nm,by rw [h.ev.length_eq];exact g.evl,fun x hx=>g.ev x (h.ev.mem_iff.1 hx),n1.nodup_iff.2 g.evn,by rw [h.hs.length_eq];exact g.hsl,fun x hx=>⟨(g.hs x (h.hs.mem_iff.1 hx)).1,fun z=>(g.hs x (h.hs.mem_iff.1 hx)).2 ((m1 _).2 z)⟩,n2.nodup_iff.2 g.hsn,by rw [lp];exact g.pgl,?_,fun x' hx'=> ?_,n3.nodup_iff.2 g.pgn,gsA_of m1 m2 m3 h.gt g.gt,?_,by rw [h.tp];exact(m4 _).1 g.tp,by rw [r2.length_eq,List.length_map];exact g.grl,fun x' hx'=> ?_,(map_perm_of (f:=GrD.name) (fun x hx=>(r1 x hx).nm) r2).nodup_iff.2 g.grn,(flat_perm (f:=GrD.members) (fun x hx=>(r1 x hx).me) r2).nodup_iff.2 g.grm,by rw [q2,List.length_map];exact g.phl,fun x' hx'=> ?_,?_⟩
 ·have e:=g.gtl
  rw [gtN_len] at e⊢
  rw [reL_len h.gt,(flat_perm (f:=fun p:PgD=>p.gates.map fun _=>()) (fun x hx=>by
   have l1:=reL_len (p1 x hx).gt
   have:∀(a b:List GtD),a.length=b.length→(a.map fun _=>())=b.map fun _=>():=fun a b hab=>List.ext_getElem (by simpa using hab) fun i _ _=>rfl
   rw [this _ _ l1]) p2).length_eq]
  exact e
 ·obtain⟨x,hx,rfl⟩:=List.mem_map.1 (p2.mem_iff.1 hx')
  obtain⟨a1,a2,a3⟩:=g.pg x hx
  have hx2:=p1 x hx
  refine⟨by rw [hx2.nm];exact a1,gsA_of m1 m2 m3 hx2.gt a2,?_⟩
  rw [hx2.tp]
  exact a3.imp (fun z=>(gnN_perm hx2.gt).mem_iff.2 z) fun z=>(m1 _).1 z
 ·have s1:(m'.gates.flatMap spOf).Perm (m.gates.flatMap spOf):=by
   obtain⟨f,f1,f2⟩:=h.gt
   exact flat_perm (fun x hx=>by rw [sp_of (f1 x hx)]) f2
  have s2:(m'.pages.flatMap fun p=>p.gates.flatMap spOf).Perm (m.pages.flatMap fun p=>p.gates.flatMap spOf):=flat_perm (f:=fun p:PgD=>p.gates.flatMap spOf) (fun x hx=>by
   obtain⟨f,f1,f2⟩:=(p1 x hx).gt
   exact flat_perm (fun x hx=>by rw [sp_of (f1 x hx)]) f2) p2
  have e:=g.sp
  rw [List.flatMap_append,List.flatMap_assoc] at e⊢
  exact(s1.append s2).nodup_iff.2 e
 ·obtain⟨x,hx,rfl⟩:=List.mem_map.1 (r2.mem_iff.1 hx')
  obtain⟨a1,a2,a3,a4,a5⟩:=g.gr x hx
  have hx2:=r1 x hx
  refine⟨by rw [hx2.nm];exact a1,by rw [hx2.kd];exact a2,?_,fun n hn=>(m1 n).1 (a4 n (hx2.me.mem_iff.1 hn)),by rw [hx2.fa];exact a5⟩
  rw [hx2.kd,hx2.fa,hx2.me.length_eq]
  exact a3
 ·rw [q2] at hx'
  obtain⟨x,hx,rfl⟩:=List.mem_map.1 hx'
  obtain⟨a1,a2,a3,a4⟩:=g.ph x hx
  have hx2:=q1 x hx
  refine⟨by rw [hx2.nm];exact a1,by rw [hx2.tp];exact(m4 _).1 a2,fun v hv=> ?_,(hx2.vl.map _).nodup_iff.2 a4⟩
  obtain⟨b1,b2⟩:=a3 v (hx2.vl.mem_iff.1 hv)
  exact⟨(m1 _).1 b1,b2⟩
 ·rw [q2,List.map_map]
  have:m.phases.map (PhD.name∘hh)=m.phases.map PhD.name:=List.map_congr_left fun x hx=>(q1 x hx).nm
  rw [this]
  exact g.phn
end Go.PN
namespace Go.PN
open Go.AI
theorem cyc_S {α:Type} [DecidableEq α] {leaf:α→Bool} {succ:α→List α} {nodes:List α} (hnl:∀t∈nodes,leaf t=false) (hcl:∀t∈nodes,∀x∈succ t,leaf x=true∨x∈nodes):(goD (walkD leaf succ (nodes.length+1)) nodes []).1=true↔CycS nodes succ:=by
 obtain⟨h1,h2⟩:=go_ok (f:=walkD leaf succ (nodes.length+1)) (k:=0) (stk:=[]) (nodes:=nodes) (leaf:=leaf) (succ:=succ) (fun st fin x hi _ hx hs=>walk_ok hnl hcl _ st [] fin x hi om hx hs) nodes [] [] dinv_nil (Nat.zero_le _) (fun x hx=>.inr hx) (fun x _ h e=>by simp at e)
 generalize goD (walkD leaf succ (nodes.length+1)) nodes []=r at*
 refine⟨h1,fun⟨S,hS,hc⟩=> ?_⟩
 cases hr:r.1 with
 |true=>rfl
 |false=>
  exfalso
  obtain⟨fin,hi,_,_,hf⟩:=h2 hr
  have hfn:∀x∈nodes,x∈fin:=fun x hx=>(hf x hx).resolve_left (by rw [hnl x hx];simp)
  have key:∀n,∀x∈S,fin.idxOf x<n→False:=fun n=>by
   induction n with
   |zero=>intro x _ h;omega
   |succ n ih=>
    intro x hx hn
    obtain⟨hxn,y,hy,hys⟩:=hc x hx
    obtain⟨l1,l2,hs⟩:=List.append_of_mem (hfn x hxn)
    have hn1:x∉l1:=fun hm=>by
     have:=hi.fd
     rw [hs] at this
     exact(List.nodup_append.1 this).2.2 _ hm _ List.mem_cons_self rfl
    have:=idx_lt hs hn1 y ((hi.ord l1 _ l2 hs y hys).resolve_left (by rw [hnl y (hc y hy).1];simp))
    exact ih y hy om
  obtain⟨x,hx⟩:=List.exists_mem_of_ne_nil S hS
  exact key _ x hx (Nat.lt_succ_self _)
theorem cycB_S {m:MdD} (h:MdC m):cycB m=true↔CycS (nodesT m) (sucT m):=cyc_S leaf_nodes (suc_nodes (ins_ok h))
abbrev NdN:=Option BS×BS
def IsG (m:MdD) (x:NdN) (g:GtD):Prop:=(x.1=none∧g∈m.gates∨∃q∈m.pages,x.1=some q.name∧g∈q.gates)∧g.name=x.2
def ResN (m:MdD) (P:Option BS) (i:BS) (y:NdN):Prop:=(bAt i 0=64∧∃q∈m.pages,q.name=i.drop 1∧q.top∉evN m∧q.top∉hsN m∧y=(some q.name,q.top))∨(bAt i 0≠64∧i∉evN m∧i∉hsN m∧y=(P,i))
def CycN (m:MdD):Prop:=∃S:List NdN,S≠[]∧∀x∈S,∃g,IsG m x g∧∃y∈S,∃i∈g.inputs,ResN m x.1 i y
theorem cycN_back {m m':MdD} (h:ReM m m') (hc:CycN m'):CycN m:=by
 obtain⟨S,hS,hc⟩:=hc
 obtain⟨hp,p1,p2⟩:=h.pg
 obtain⟨hg,g1,g2⟩:=h.gt
 have m1:∀n,n∈evN m'↔n∈evN m:=fun n=>(h.ev.map EvD.name).mem_iff
 have m2:∀n,n∈hsN m'↔n∈hsN m:=fun n=>(h.hs.map HsD.name).mem_iff
 refine⟨S,hS,fun x hx=> ?_⟩
 obtain⟨g',⟨ha,hb⟩,y,hy,i,hi,hr⟩:=hc x hx
 have hG:∃g,IsG m x g∧i∈g.inputs:=by
  rcases ha with ⟨e,hm⟩|⟨q',hq,e,hm⟩
  ·obtain⟨g,hgm,rfl⟩:=List.mem_map.1 (g2.mem_iff.1 hm)
   exact⟨g,⟨.inl ⟨e,hgm⟩,by rw [←hb];exact(g1 g hgm).nm.symm⟩,(inpR_perm (g1 g hgm).inp).mem_iff.1 hi⟩
  ·obtain⟨q,hqm,rfl⟩:=List.mem_map.1 (p2.mem_iff.1 hq)
   obtain⟨hf,f1,f2⟩:=(p1 q hqm).gt
   obtain⟨g,hgm,rfl⟩:=List.mem_map.1 (f2.mem_iff.1 hm)
   exact⟨g,⟨.inr ⟨q,hqm,by rw [e,(p1 q hqm).nm],hgm⟩,by rw [←hb];exact(f1 g hgm).nm.symm⟩,(inpR_perm (f1 g hgm).inp).mem_iff.1 hi⟩
 obtain⟨g,hG,hi⟩:=hG
 refine⟨g,hG,y,hy,i,hi,?_⟩
 rcases hr with ⟨r1,q',hq,r2,r3,r4,r5⟩|⟨r1,r2,r3,r4⟩
 ·obtain⟨q,hqm,rfl⟩:=List.mem_map.1 (p2.mem_iff.1 hq)
  rw [(p1 q hqm).nm,(p1 q hqm).tp] at*
  exact .inl ⟨r1,q,hqm,r2,fun z=>r3 ((m1 _).2 z),fun z=>r4 ((m2 _).2 z),r5⟩
 ·exact .inr ⟨r1,fun z=>r2 ((m1 _).2 z),fun z=>r3 ((m2 _).2 z),r4⟩
def pgO (m:MdD):Nat→Option BS
 |0=>none
 |k+1=>some (m.pages.getD k pg0).name
def ndN (m:MdD) (t:Th):NdN:=(pgO m (t.2.1+1).toNat,(gtOf m t).name)
theorem getD_mem {α:Type} {l:List α} {d:α} {i:Nat} (h:i<l.length):l.getD i d∈l:=by
 rw [List.getD_eq_getElem?_getD,List.getElem?_eq_getElem h];exact List.getElem_mem h
theorem isG_nd {m:MdD} {k i:Nat} (hk:k≤m.pages.length) (hi:i<(gtsK m k).length):IsG m (ndN m (2,(k:Int)-1,(i:Int))) ((gtsK m k).getD i gt0):=by
 have e1:((k:Int)-1+1).toNat=k:=by omega
 have e2:gtOf m (2,(k:Int)-1,(i:Int))=(gtsK m k).getD i gt0:=by
  unfold gtOf
  dsimp only
  rw [e1,Int.toNat_natCast]
 unfold ndN
 rw [e2]
 dsimp only
 rw [e1]
 refine⟨?_,rfl⟩
 cases k with
 |zero=>exact .inl ⟨rfl,getD_mem hi⟩
 |succ q=>exact .inr ⟨m.pages.getD q pg0,getD_mem om,rfl,getD_mem hi⟩
theorem cycS_N {m:MdD} (hc:MdC m) (h:CycS (nodesT m) (sucT m)):CycN m:=by
 obtain⟨S,hS,hs⟩:=h
 refine⟨S.map (ndN m),by simpa using hS,fun x hx=> ?_⟩
 obtain⟨t,ht,rfl⟩:=List.mem_map.1 hx
 obtain⟨htn,y,hy,hys⟩:=hs t ht
 obtain⟨k,i,hk,hi,rfl⟩:=mem_nodesT.1 htn
 obtain⟨k',i',hk',hi',rfl⟩:=mem_nodesT.1 (hs y hy).1
 have e:sucT m (2,(k:Int)-1,(i:Int))=((gtsK m k).getD i gt0).inputs.map (resP m k):=by
  unfold sucT gtOf
  dsimp only
  rw [show((k:Int)-1+1).toNat=k from by omega,Int.toNat_natCast]
 rw [e] at hys
 obtain⟨n,hn,hr⟩:=List.mem_map.1 hys
 have hio:=ins_ok hc k hk i hi n hn
 refine⟨_,isG_nd hk hi,_,List.mem_map.2 ⟨_,hy,rfl⟩,n,hn,?_⟩
 unfold resP resA at hr
 have hE:¬evI m (resN m n)≥0:=fun z=>by rw [if_pos z] at hr;have:=congrArg Prod.fst hr;exact absurd this (by dsimp only;decide)
 rw [if_neg hE] at hr
 have hH:¬hsI m (resN m n)≥0:=fun z=>by rw [if_pos z] at hr;have:=congrArg Prod.fst hr;exact absurd this (by dsimp only;decide)
 rw [if_neg hH] at hr
 simp only [Prod.mk.injEq,true_and] at hr
 have hkk:resK m k n=k':=by omega
 rw [hkk] at hr
 have hgi:gtI (gtsK m k') (resN m n)=i':=hr.2
 obtain⟨j,hj,hj1,hj2⟩:=fidx_here (p:=fun x:GtD=>x.name==resN m n) (l:=gtsK m k') (by unfold gtI at hgi;omega)
 have hji:j=i':=by unfold gtI at hgi;omega
 subst hji
 have hnm:((gtsK m k').getD j gt0).name=resN m n:=by
  rw [List.getD_eq_getElem?_getD,List.getElem?_eq_getElem hj]
  simpa using hj2
 have hE2:resN m n∉evN m:=(evI_mem m _).1 om
 have hH2:resN m n∉hsN m:=(hsI_mem m _).1 om
 have ex:(ndN m (2,(k:Int)-1,(i:Int))).1=pgO m k:=by
  unfold ndN;dsimp only;rw [show((k:Int)-1+1).toNat=k from by omega]
 have ey:ndN m (2,(k':Int)-1,(j:Int))=(pgO m k',resN m n):=by
  unfold ndN gtOf;dsimp only;rw [show((k':Int)-1+1).toNat=k' from by omega,Int.toNat_natCast,hnm]
 rw [ex,ey]
 by_cases h64:bAt n 0=64
 ·left
  have hp:=hio.2.1 h64
  obtain⟨q,hq,hq1,hq2⟩:=fidx_here (p:=fun x:PgD=>x.name==n.drop 1) (l:=m.pages) hp
  have hq1:pgI m (n.drop 1)=q:=hq1
  unfold resN at hE2 hH2⊢
  unfold resK at hkk
  rw [if_pos h64] at hE2 hH2 hkk⊢
  rw [hq1] at hE2 hH2 hkk⊢
  rw [Int.toNat_natCast] at hE2 hH2⊢
  have hkq:k'=q+1:=by omega
  subst hkq
  have eq:m.pages.getD q pg0=m.pages[q]:=by rw [List.getD_eq_getElem?_getD,List.getElem?_eq_getElem hq];rfl
  have hpo:pgO m (q+1)=some m.pages[q].name:=by show some (m.pages.getD q pg0).name=_;rw [eq]
  rw [eq] at hE2 hH2⊢
  exact⟨h64,m.pages[q],List.getElem_mem hq,by simpa using hq2,hE2,hH2,by rw [hpo]⟩
 ·right
  unfold resN at hE2 hH2⊢
  unfold resK at hkk
  rw [if_neg h64] at hE2 hH2 hkk⊢
  subst hkk
  exact⟨h64,hE2,hH2,rfl⟩
def pgX' (m:MdD):Option BS→Nat
 |none=>0
 |some p=>(pgI m p+1).toNat
def idN (m:MdD) (x:NdN):Th:=(2,(pgX' m x.1:Int)-1,gtI (gtsK m (pgX' m x.1)) x.2)
theorem page_of {m:MdD} (hg:Good m) {q:PgD} (hq:q∈m.pages):∃j,∃h:j<m.pages.length,pgI m q.name=(j:Int)∧m.pages[j]=q:=by
 have h0:0≤pgI m q.name:=(fidx_name PgD.name m.pages q.name).2 (List.mem_map.2 ⟨q,hq,rfl⟩)
 obtain⟨j,hj,h1,h2⟩:=fidx_here h0
 exact⟨j,hj,h1,nd_inj hg.pgn _ (List.getElem_mem hj) q hq (by simpa using h2)⟩
theorem gate_of {L:List GtD} (hn:(gnN L).Nodup) {g:GtD} (hg:g∈L):∃j,∃h:j<L.length,gtI L g.name=(j:Int)∧L[j]=g:=by
 have h0:0≤gtI L g.name:=(fidx_name GtD.name L g.name).2 (List.mem_map.2 ⟨g,hg,rfl⟩)
 obtain⟨j,hj,h1,h2⟩:=fidx_here h0
 exact⟨j,hj,h1,nd_inj hn _ (List.getElem_mem hj) g hg (by simpa using h2)⟩
theorem isG_id {m:MdD} (hg:Good m) {x:NdN} {g:GtD} (h:IsG m x g):∃k i,k≤m.pages.length∧i<(gtsK m k).length∧pgX' m x.1=k∧idN m x=(2,(k:Int)-1,(i:Int))∧(gtsK m k).getD i gt0=g:=by
 obtain⟨P,n⟩:=x
 obtain⟨ha,rfl⟩:=h
 rcases ha with ⟨rfl,hm⟩|⟨q,hq,rfl,hm⟩
 ·obtain⟨j,hj,h1,h2⟩:=gate_of hg.gt.1 hm
  refine⟨0,j,Nat.zero_le _,hj,rfl,?_,by show m.gates.getD j gt0=g;rw [List.getD_eq_getElem?_getD,List.getElem?_eq_getElem hj];exact h2⟩
  show((2:Int),((0:Nat):Int)-1,gtI m.gates g.name)=_
  rw [h1]
 ·obtain⟨p,hp,h3,h4⟩:=page_of hg hq
  have hk:pgX' m (some q.name)=p+1:=by show(pgI m q.name+1).toNat=p+1;omega
  have eK:gtsK m (p+1)=q.gates:=by
   show(m.pages.getD p pg0).gates=_
   rw [List.getD_eq_getElem?_getD,List.getElem?_eq_getElem hp,←h4];rfl
  obtain⟨j,hj,h1,h2⟩:=gate_of (hg.pg q hq).2.1.1 hm
  refine⟨p+1,j,by omega,by rw [eK];exact hj,hk,?_,by rw [eK,List.getD_eq_getElem?_getD,List.getElem?_eq_getElem hj];exact h2⟩
  show((2:Int),((pgX' m (some q.name):Nat):Int)-1,gtI (gtsK m (pgX' m (some q.name))) g.name)=_
  rw [hk,eK,h1]
theorem cycN_S {m:MdD} (hg:Good m) (h:CycN m):CycS (nodesT m) (sucT m):=by
 obtain⟨S,hS,hs⟩:=h
 refine⟨S.map (idN m),by simpa using hS,fun t ht=> ?_⟩
 obtain⟨x,hx,rfl⟩:=List.mem_map.1 ht
 obtain⟨g,hG,y,hy,n,hn,hr⟩:=hs x hx
 obtain⟨k,i,hk,hi,hkx,hid,hgt⟩:=isG_id hg hG
 have e:sucT m (2,(k:Int)-1,(i:Int))=((gtsK m k).getD i gt0).inputs.map (resP m k):=by
  unfold sucT gtOf
  dsimp only
  rw [show((k:Int)-1+1).toNat=k from by omega,Int.toNat_natCast]
 refine⟨by rw [hid];exact mem_nodesT.2 ⟨k,i,hk,hi,rfl⟩,_,List.mem_map.2 ⟨y,hy,rfl⟩,?_⟩
 rw [hid,e,hgt]
 refine List.mem_map.2 ⟨n,hn,?_⟩
 unfold resP resA
 rcases hr with ⟨r1,q,hq,r2,r3,r4,rfl⟩|⟨r1,r2,r3,rfl⟩
 ·obtain⟨p,hp,h3,h4⟩:=page_of hg hq
  have hk2:pgX' m (some q.name)=p+1:=by show(pgI m q.name+1).toNat=p+1;omega
  have eN:resN m n=q.top:=by
   unfold resN
   rw [if_pos r1,←r2,h3,Int.toNat_natCast,List.getD_eq_getElem?_getD,List.getElem?_eq_getElem hp,←h4];rfl
  have eK:resK m k n=p+1:=by
   unfold resK
   rw [if_pos r1,←r2,h3];omega
  rw [eN,eK,if_neg (by have:=(evI_mem m q.top).2 r3;omega),if_neg (by have:=(hsI_mem m q.top).2 r4;omega)]
  show _=((2:Int),((pgX' m (some q.name):Nat):Int)-1,gtI (gtsK m (pgX' m (some q.name))) q.top)
  rw [hk2]
 ·have eN:resN m n=n:=by unfold resN;rw [if_neg r1]
  have eK:resK m k n=k:=by unfold resK;rw [if_neg r1]
  rw [eN,eK,if_neg (by have:=(evI_mem m n).2 r2;omega),if_neg (by have:=(hsI_mem m n).2 r3;omega)]
  show _=((2:Int),((pgX' m x.1:Nat):Int)-1,gtI (gtsK m (pgX' m x.1)) n)
  rw [hkx]
theorem mcC_of {m m':MdD} (h:ReM m m') (h0:mcC m=0):mcC m'=0:=by
 obtain⟨a,b⟩:=orC_0.1 (show orC (mcode0 m) (if cycB m then 14 else 0)=0 from h0)
 have hg:=(good_iff m).1 a
 have a':=(good_iff m').2 (good_of h hg)
 refine orC_0.2 ⟨a',?_⟩
 by_cases hc:cycB m'=true
 ·exfalso
  have h1:=(cycB_S (mcode0_ok a')).1 hc
  have h2:=cycN_S hg (cycN_back h (cycS_N (mcode0_ok a') h1))
  rw [(cycB_S (mcode0_ok a)).2 h2] at b
  cases b
 ·rw [if_neg hc]
end Go.PN
namespace Go.PN
open Go.AI
variable {α : Type}
theorem gtO_re {g g':GtD} (h:ReG g g') (ho:GtO g):GtO g':=by
 obtain⟨o1,o2,o3,o4⟩:=ho
 have hp:=inpR_perm h.inp
 exact⟨by rw [h.nm];exact o1,by rw [h.dm];exact o2,by rw [hp.length_eq];exact o3,fun i hi=>o4 i (hp.mem_iff.1 hi)⟩
theorem gsO_re {L L':List GtD} (h:ReL L L') (ho:L.length≤NG∧∀g∈L,GtO g):L'.length≤NG∧∀g∈L',GtO g:=by
 refine⟨by rw [reL_len h];exact ho.1,fun g hg=> ?_⟩
 obtain⟨f,f1,f2⟩:=h
 obtain⟨x,hx,rfl⟩:=List.mem_map.1 (f2.mem_iff.1 hg)
 exact gtO_re (f1 x hx) (ho.2 x hx)
theorem mdO_re {m m':MdD} (h:ReM m m') (ho:MdO m):MdO m':=by
 obtain⟨hp,p1,p2⟩:=h.pg
 obtain⟨hr,r1,r2⟩:=h.gr
 obtain⟨hh,q1,q2⟩:=h.ph
 refine⟨by rw [h.nm];exact ho.nm,by rw [h.tp];exact ho.tp,⟨by rw [h.ev.length_eq];exact ho.ev.1,fun x hx=>ho.ev.2 x (h.ev.mem_iff.1 hx)⟩,⟨by rw [h.hs.length_eq];exact ho.hs.1,fun x hx=>ho.hs.2 x (h.hs.mem_iff.1 hx)⟩,gsO_re h.gt ho.gt,⟨by rw [p2.length_eq,List.length_map];exact ho.pg.1,fun x' hx'=> ?_⟩,⟨by rw [r2.length_eq,List.length_map];exact ho.gr.1,fun x' hx'=> ?_⟩,⟨by rw [q2,List.length_map];exact ho.ph.1,fun x' hx'=> ?_⟩⟩
 ·obtain⟨x,hx,rfl⟩:=List.mem_map.1 (p2.mem_iff.1 hx')
  obtain⟨a1,a2,a3⟩:=ho.pg.2 x hx
  have e:=p1 x hx
  exact⟨by rw [e.nm];exact a1,by rw [e.tp];exact a2,gsO_re e.gt a3⟩
 ·obtain⟨x,hx,rfl⟩:=List.mem_map.1 (r2.mem_iff.1 hx')
  obtain⟨a1,a2,a3,a4,a5⟩:=ho.gr.2 x hx
  have e:=r1 x hx
  exact⟨by rw [e.nm];exact a1,by rw [e.me.length_eq];exact a2,fun n hn=>a3 n (e.me.mem_iff.1 hn),by rw [e.fa];exact a4,by rw [e.fa];exact a5⟩
 ·rw [q2] at hx'
  obtain⟨x,hx,rfl⟩:=List.mem_map.1 hx'
  obtain⟨a1,a2,a3,a4⟩:=ho.ph.2 x hx
  have e:=q1 x hx
  exact⟨by rw [e.nm];exact a1,by rw [e.tp];exact a2,by rw [e.vl.length_eq];exact a3,fun v hv=>a4 v (e.vl.mem_iff.1 hv)⟩
theorem norm_norm {m:MdD} (hg:Good m):normM (normM m)=normM m:=normM_of (normM_r m) hg
theorem norm_turn {m:MdD} (hg:Good m):normM (turnM m)=normM m:=normM_of (turnM_r m) hg
theorem norm_len (m:MdD):(normM m).name=m.name∧(normM m).top=m.top∧(normM m).events.length=m.events.length∧(normM m).gates.length=m.gates.length∧(normM m).phases.length=m.phases.length:=
 ⟨rfl,rfl,(sortK_perm _ _).length_eq,by rw [show(normM m).gates=normL m.gates from rfl];unfold normL;rw [(sortK_perm _ _).length_eq,List.length_map],List.length_map _⟩
end Go.PN
namespace Go.PN
open Go.AI
theorem getD_ext {α:Type} (d:α) {xs ys:List α} (hl:xs.length=ys.length) (h:∀j,j<xs.length→xs.getD j d=ys.getD j d):xs=ys:=by
 refine List.ext_getElem hl fun j h1 h2=> ?_
 have:=h j h1
 rw [List.getD_eq_getElem?_getD,List.getD_eq_getElem?_getD,List.getElem?_eq_getElem h1,List.getElem?_eq_getElem h2] at this
 exact this
theorem pre_succ {α:Type} {d:α} {xs ys:List α} {i:Nat} (hs:∀j,j<i→xs.getD j d=ys.getD j d) (h:xs.getD i d=ys.getD i d):∀j,j<i+1→xs.getD j d=ys.getD j d:=fun j hj=>by
 by_cases e:j=i
 ·subst e;exact h
 ·exact hs j om
end Go.PN
namespace Go.Proofs.YtnmeahogifekdaaGreatDoor
open Go.AI Go.PN
attribute [local irreducible] aw Fa Fh DrK
theorem texts_fa (xs ys:List BS) (hl:xs.length≤1099511627776) (hl2:ys.length≤1099511627776):Fa Tryz.prog 45 [.c (strs false xs),.c (strs false ys)] (.c (.bool (decide (xs=ys)))):=by
 refine fa_of_body Tryz.func45 rfl rfl (by simp [Tryz.ntmps45]) fun C hC=> ?_
 simp only [initS,Nat.reduceAdd]
 repeat' first|refine zV o0 ?_|refine zH o0 (fun hb=>?_) fun hb=>?_|fail
 ·refine xT hC ?_
  exact .one (.c (ler_bool (decide_eq_false fun e=>hb (by rw [e])).symm))
 have hlen:xs.length=ys.length:=by simpa using hb
 refine aw_lp (fun i:Nat=>[(0,.c (strs false xs)),(1,.c (strs false ys)),(12,.c (.int .i64 xs.length)),(13,.c (.int .i64 i))]) (fun _=>[]) (fun i=>i≤xs.length∧∀j,j<i→xs.getD j []=ys.getD j []) (fun i=>xs.length-i) 0 eB zZ ⟨Nat.zero_le _,fun j hj=>absurd hj om⟩ ?_
 rintro i ⟨hi,hs⟩
 repeat' first|refine zV o0 ?_|refine zH o0 (fun hb=>?_) fun hb=>?_|fail
 ·have hi':=hb
  have hi2:i<ys.length:=by omega
  refine aw_dr 9 ty_mixed (by kernel_rfl) ?_
  repeat' first|refine zV o0 ?_|refine zH o0 (fun hb=>?_) fun hb=>?_|fail
  ·refine xT hC ?_
   exact .one (.c (ler_bool (decide_eq_false fun e=>hb (by rw [e])).symm))
  ·refine aw_stop ⟨i+1,?_⟩
   have hs2:=pre_succ hs (by simpa using hb)
   and_intros
   all_goals first|rfl|exact List.Sublist.refl _|exact True.intro|exact hs2|omega
 ·refine xT hC ?_
  exact .one (.c (ler_bool (decide_eq_true (getD_ext [] hlen fun j hj=>hs j om)).symm))
theorem rats_fa (xs ys:List RD) (hw:∀i,(xs.getD i rd0).wf 68719476736) (hl:xs.length≤1099511627776) (hl2:ys.length≤1099511627776):Fa Tryz.prog 46 [.c (rats true xs),.c (rats true ys)] (.c (.bool (decide (xs=ys)))):=by
 refine fa_of_body Tryz.func46 rfl rfl (by simp [Tryz.ntmps46]) fun C hC=> ?_
 simp only [initS,Nat.reduceAdd]
 repeat' first|refine zV o0 ?_|refine zH o0 (fun hb=>?_) fun hb=>?_|fail
 ·refine xT hC ?_
  exact .one (.c (ler_bool (decide_eq_false fun e=>hb (by rw [e])).symm))
 have hlen:xs.length=ys.length:=by simpa using hb
 refine aw_lp (fun i:Nat=>[(0,.c (rats true xs)),(1,.c (rats true ys)),(12,.c (.int .i64 xs.length)),(13,.c (.int .i64 i))]) (fun _=>[]) (fun i=>i≤xs.length∧∀j,j<i→xs.getD j rd0=ys.getD j rd0) (fun i=>xs.length-i) 0 eB zZ ⟨Nat.zero_le _,fun j hj=>absurd hj om⟩ ?_
 rintro i ⟨hi,hs⟩
 have f1:=ratEq_fa (xs.getD i rd0) (ys.getD i rd0) (hw i)
 repeat' first|refine zV o0 ?_|refine zH o0 (fun hb=>?_) fun hb=>?_|fail
 ·have hi':=hb
  have hi2:i<ys.length:=by omega
  refine aw_dr 10 ty_mixed (by kernel_rfl) ?_
  repeat' first|refine zV o0 ?_|(refine yC2 o0 (f1) ?_)|(refine yD2 o0 (f1) ?_)|refine zH o0 (fun hb=>?_) fun hb=>?_|fail
  ·refine xT hC ?_
   exact .one (.c (ler_bool (decide_eq_false fun e=>by rw [e] at hb;simp at hb).symm))
  ·refine aw_stop ⟨i+1,?_⟩
   have hs2:=pre_succ hs (by simpa using hb)
   and_intros
   all_goals first|rfl|exact List.Sublist.refl _|exact True.intro|exact hs2|omega
 ·refine xT hC ?_
  exact .one (.c (ler_bool (decide_eq_true (getD_ext rd0 hlen fun j hj=>hs j om)).symm))
theorem sameGates_fa (xs ys:List GtD) (hw:∀i,(xs.getD i gt0).dorm.wf 68719476736∧(xs.getD i gt0).inputs.length≤1099511627776∧(ys.getD i gt0).inputs.length≤1099511627776) (hl:xs.length≤1099511627776) (hl2:ys.length≤1099511627776):Fa Tryz.prog 44 [.c (gts true xs),.c (gts true ys)] (.c (.bool (decide (xs=ys)))):=by
 refine fa_of_body Tryz.func44 rfl rfl (by simp [Tryz.ntmps44]) fun C hC=> ?_
 simp only [initS,Nat.reduceAdd]
 repeat' first|refine zV o0 ?_|refine zH o0 (fun hb=>?_) fun hb=>?_|fail
 ·refine xT hC ?_
  exact .one (.c (ler_bool (decide_eq_false fun e=>hb (by rw [e])).symm))
 have hlen:xs.length=ys.length:=by simpa using hb
 refine aw_lp (fun i:Nat=>[(13,.c (gts true xs)),(1,.c (gts true ys)),(14,.c (.int .i64 xs.length)),(15,.c (.int .i64 i))]) (fun _=>[]) (fun i=>i≤xs.length∧∀j,j<i→xs.getD j gt0=ys.getD j gt0) (fun i=>xs.length-i) 0 eB zZ ⟨Nat.zero_le _,fun j hj=>absurd hj om⟩ ?_
 rintro i ⟨hi,hs⟩
 obtain⟨w1,w2,w3⟩:=hw i
 repeat' first|refine zV o0 ?_|refine zH o0 (fun hb=>?_) fun hb=>?_|fail
 ·have hi':=hb
  have hi2:i<ys.length:=by omega
  have hne:xs.getD i gt0≠ys.getD i gt0→decide (xs=ys)=false:=fun h=>decide_eq_false fun e=>h (by rw [e])
  have hs2:=fun h=>pre_succ (d:=gt0) hs h
  refine xA fun g6 hn_g6=>?_
  repeat' first|refine zV hn_g6 ?_|refine zH hn_g6 (fun hb=>?_) fun hb=>?_|fail
  refine yA hn_g6 fun g7 hn_g7=>?_
  generalize xs.getD i gt0=x at*
  generalize ys.getD i gt0=y at*
  have f1:=texts_fa x.inputs y.inputs w2 w3
  have f2:=ratEq_fa x.dorm y.dorm w1
  obtain⟨xn,xk,xv,xi,xd⟩:=x
  obtain⟨yn,yk,yv,yi,yd⟩:=y
  dsimp only at*
  all_goals try(have Z:=(oj hn_g6 hn_g7);(repeat' first|refine zV Z ?_|(refine yC2 Z (f1) ?_)|(refine yD2 Z (f1) ?_)|(refine yC2 Z (f2) ?_)|(refine yD2 Z (f2) ?_)|refine zH Z (fun hb=>?_) fun hb=>?_|fail);all_goals clear Z)
  all_goals clear f1 f2
  all_goals first
   |(refine yT hC (oj hn_g6 hn_g7) ?_
     exact .one (.c (ler_bool (hne (by simp_all)).symm)))
   |(refine aw_stop ⟨i+1,?_⟩
     have hs3:=hs2 (by simp_all)
     and_intros
     all_goals first|rfl|exact List.nil_sublist _|exact True.intro|exact hs3|omega)
 ·refine xT hC ?_
  exact .one (.c (ler_bool (decide_eq_true (getD_ext gt0 hlen fun j hj=>hs j om)).symm))
end Go.Proofs.YtnmeahogifekdaaGreatDoor
namespace Go.AI
open Go.PN
section
variable {P : Program} {h : Heap} {ρ : Operand → AV}
def isStg (P:Program) (t:TypeId):Bool:=match P.underlying t with
 |some .string=>true
 |_=>false
theorem isStg_spec {t:TypeId} (h:isStg P t=true):P.underlying t=some .string:=by
 unfold isStg at h
 split at h
 ·assumption
 ·cases h
def isBl (P:Program) (t:TypeId):Bool:=match P.underlying t with
 |some .bool=>true
 |_=>false
theorem isBl_spec {t:TypeId} (h:isBl P t=true):P.underlying t=some .bool:=by
 unfold isBl at h
 split at h
 ·assumption
 ·cases h
def tSB (P:Program) (t:TypeId):Bool:= !P.stoodInHeld t&& !P.eqGuardType P.depth t&&isStr P t&&(match (P.fieldsOf t).toList with
 |[f,g]=>f.name != "_" &&g.name != "_" &&f.offset==0&&g.offset==1&&isStg P f.type&&isBl P g.type
 |_=>false)
theorem tSB_run {t:TypeId} (ht:tSB P t=true) (a c:BS) (b d:Bool) (w:World):(Op.equalIn 10000 t (.agg #[.string (sB a),.bool b]) (.agg #[.string (sB c),.bool d])).run P w=.ok (decide (a=c∧b=d)) w∧P.eqGuardType P.depth t=false:=by
 unfold tSB at ht
 simp only [Bool.and_eq_true,Bool.not_eq_true'] at ht
 obtain⟨⟨⟨h1,h2⟩,h4⟩,h3⟩:=ht
 refine⟨?_,h2⟩
 have hu:=isStr_spec h4
 rw [show(10000:Nat)=9999+1 from rfl,run_equalIn_agg w 9999 t _ _ hu h1]
 split at h3
 ·rename_i f g hfg
  rw [hfg]
  simp only [Bool.and_eq_true,bne_iff_ne,ne_eq,beq_iff_eq] at h3
  obtain⟨⟨⟨⟨⟨n1,n2⟩,o1⟩,o2⟩,u1⟩,u2⟩:=h3
  have u1:=isStg_spec u1
  have u2:=isBl_spec u2
  have g1:(isAgg f.type).run P w=.ok false w:=by simp [isAgg,run_underlying u1]
  have g2:(isAgg g.type).run P w=.ok false w:=by simp [isAgg,run_underlying u2]
  have p1:∀s x,(part f.type #[.string s,.bool x] f.offset).run P w=.ok (.string s) w:=fun s x=>by
   unfold part
   simp only [Sem.run_bind,g1,Result.andThen_ok,Bool.false_eq_true,if_false,o1]
   rfl
  have p2:∀s x,(part g.type #[.string s,.bool x] g.offset).run P w=.ok (.bool x) w:=fun s x=>by
   unfold part
   simp only [Sem.run_bind,g2,Result.andThen_ok,Bool.false_eq_true,if_false,o2]
   rfl
  have e1:(Op.equalIn 9999 f.type (.string (sB a)) (.string (sB c))).run P w=.ok ((sB a).toList==(sB c).toList) w:=run_equalIn_string w 9998 f.type _ _ u1
  have e2:(Op.equalIn 9999 g.type (.bool b) (.bool d)).run P w=.ok (b==d) w:=run_equalIn_bool' w 9998 g.type _ _ u2
  have hs:((sB a).toList==(sB c).toList)=decide (a=c):=by
   have:=sb_strEq a c
   unfold strEq at this
   rw [show sB a=⟨a.toArray⟩ from rfl,show sB c=⟨c.toArray⟩ from rfl,this,Bool.eq_iff_iff];simp
  simp only [Op.eqFields,n1,n2,not_false_eq_true,if_true,Sem.run_bind,p1,p2,e1,e2,Result.andThen_ok,hs,ne_eq]
  by_cases hac:a=c
  ·subst hac
   by_cases hbd:b=d
   ·subst hbd;simp [p2,e2]
   ·have:(b==d)=false:=by simpa using hbd
    simp [p2,e2,hbd,this]
  ·simp [hac]
 ·cases h3
theorem POk.neqSB {t t':TypeId} {x y:Operand} {a c:BS} {b d:Bool} (hx:ρ x=.agg [.str (sB a),.bool b]) (hy:ρ y=.agg [.str (sB c),.bool d]) (ht:tSB P t=true):POk P h ρ (.binOp .neq t x y t') (.c (.bool (!decide (a=c∧b=d)))):=fun S w e _ ho _=>by
 have h1:=ho x (by simp [Op.operands])
 have h2:=ho y (by simp [Op.operands])
 rw [hx] at h1
 rw [hy] at h2
 obtain⟨us,hu,hru⟩:=h1
 obtain⟨vs,hv,hrv⟩:=h2
 obtain⟨r1,r2⟩:=tSB_run ht a c b d w
 have k1:us=[.string (sB a),.bool b]:=by
  match us,hru with
  |[p,q],⟨q1,q2,_⟩=>rw [show p=_ from q1,show q=_ from q2]
 have k2:vs=[.string (sB c),.bool d]:=by
  match vs,hrv with
  |[p,q],⟨q1,q2,_⟩=>rw [show p=_ from q1,show q=_ from q2]
 subst k1 k2
 refine⟨.bool (!decide (a=c∧b=d)),fun o hop=>exec_bin hop ?_ ?_,rfl⟩
 ·rw [hu,hv];exact run_eqGuard_agg w _ _ _ _ _ _ r2
 ·rw [hu,hv,run_neq_struct,r1];rfl
end
end Go.AI
namespace Go.PN
open Go.AI
theorem dec_f {p:Prop} [Decidable p] (h:¬p):false=decide p:=(decide_eq_false h).symm
theorem dec_t {p:Prop} [Decidable p] (h:p):true=decide p:=(decide_eq_true h).symm
end Go.PN
namespace Go.Proofs.YtnmeahogifekdaaGreatDoor
open Go.AI Go.PN
attribute [local irreducible] aw Fa Fh DrK
theorem sameParts_fa (a b:MdD) (ha:MdO a) (hbb:MdO b):Fa Tryz.prog 43 [.agg (mdc true a),.agg (mdc true b)] (.c (.bool (decide (a.events=b.events∧a.houses=b.houses∧a.pages=b.pages)))):=by
 have a1:=ha.ok
 have a2:=hbb.ok
 have b1:=a1.ev
 have b2:=a1.hs
 have b3:=a1.pg
 have b4:=a2.ev
 have b5:=a2.hs
 have b6:=a2.pg
 refine fa_of_body Tryz.func43 rfl rfl (by simp [Tryz.ntmps43]) fun C hC=> ?_
 simp only [initS,Nat.reduceAdd]
 repeat' first|refine zV o0 ?_|refine zH o0 (fun hb=>?_) fun hb=>?_|fail
 refine xB fun g2 hn_g2=>?_
 repeat' first|refine zV hn_g2 ?_|refine zH hn_g2 (fun hb=>?_) fun hb=>?_|fail
 refine yB hn_g2 fun g3 hn_g3=>?_
 all_goals try(have Z:=(oj hn_g2 hn_g3);(repeat' first|refine zV Z ?_|refine zH Z (fun hb=>?_) fun hb=>?_|fail);all_goals clear Z)
 ·refine yT hC (oj hn_g2 hn_g3) ?_
  exact .one (.c (ler_bool (dec_f fun e=>hb (by rw [e.1]))))
 ·refine yT hC (oj hn_g2 hn_g3) ?_
  exact .one (.c (ler_bool (dec_f fun e=>hb (by rw [e.2.1]))))
 ·refine yT hC (oj hn_g2 hn_g3) ?_
  exact .one (.c (ler_bool (dec_f fun e=>hb (by rw [e.2.2]))))
 rename_i l1 l2
 have l3:a.pages.length=b.pages.length:=by simpa using hb
 clear hb
 have wv:=fun i=>getD_all ha.ev.2 ev0_o i
 have wg:=ha.pgi
 have wh:=hbb.pgi
 refine aw_lp (fun i:Nat=>[(2,.c (.optr g2 0)),(3,.c (.optr g3 0)),(38,.c (evs true a.events)),(39,.c (.int .i64 a.events.length)),(40,.c (.int .i64 i))]) (fun _=>[mM g3 b,mM g2 a]) (fun i=>i≤a.events.length∧∀j,j<i→a.events.getD j ev0=b.events.getD j ev0) (fun i=>a.events.length-i) 0 (zB (oj hn_g2 hn_g3)) zZ ⟨Nat.zero_le _,fun j hj=>absurd hj om⟩ ?_
 rintro i ⟨hi,hs⟩
 all_goals try(have Z:=(oj hn_g2 hn_g3);(repeat' first|refine zV Z ?_|refine zH Z (fun hb=>?_) fun hb=>?_|fail);all_goals clear Z)
 ·have hi':=hb
  have hi2:i<b.events.length:=by omega
  have hne:a.events.getD i ev0≠b.events.getD i ev0→decide (a.events=b.events∧a.houses=b.houses∧a.pages=b.pages)=false:=fun h=>decide_eq_false fun e=>h (by rw [e.1])
  have hs2:=fun h=>pre_succ (d:=ev0) hs h
  obtain⟨_,w1,w2,w3⟩:=wv i
  refine yA (oj hn_g2 hn_g3) fun g6 hn_g6=>?_
  all_goals try(have Z:=(oj hn_g2 (oj hn_g3 hn_g6));(repeat' first|refine zV Z ?_|refine zH Z (fun hb=>?_) fun hb=>?_|fail);all_goals clear Z)
  refine yA (oj hn_g2 (oj hn_g3 hn_g6)) fun g7 hn_g7=>?_
  generalize a.events.getD i ev0=x at*
  generalize b.events.getD i ev0=y at*
  have f1:=ratEq_fa x.p y.p (wf_mono w1 (by decide))
  have f2:=ratEq_fa x.fail y.fail (wf_mono w2 (by decide))
  have f3:=ratEq_fa x.rep y.rep (wf_mono w3 (by decide))
  obtain⟨xn,xp,xf,xr,xc⟩:=x
  obtain⟨yn,yp,yf,yr,yc⟩:=y
  dsimp only at*
  all_goals try(have Z:=(oj hn_g2 (oj hn_g3 (oj hn_g6 hn_g7)));(repeat' first|refine zV Z ?_|(refine yC2 Z (f1) ?_)|(refine yD2 Z (f1) ?_)|(refine yC2 Z (f2) ?_)|(refine yD2 Z (f2) ?_)|(refine yC2 Z (f3) ?_)|(refine yD2 Z (f3) ?_)|refine zH Z (fun hb=>?_) fun hb=>?_|fail);all_goals clear Z)
  all_goals clear f1 f2 f3
  all_goals first
   |(refine yT hC (oj hn_g2 (oj hn_g3 (oj hn_g6 hn_g7))) ?_
     exact .one (.c (ler_bool (hne (by simp_all)).symm)))
   |(refine aw_stop ⟨i+1,?_⟩
     have hs3:=hs2 (by simp_all)
     and_intros
     all_goals first|rfl|exact .cons _ (.cons _ (.refl _))|exact True.intro|exact hs3|omega)
 have e1:a.events=b.events:=getD_ext ev0 l1 fun j hj=>hs j om
 clear hs hi hb
 refine aw_lp (fun i:Nat=>[(2,.c (.optr g2 0)),(3,.c (.optr g3 0)),(89,.c (.int .i64 a.houses.length)),(90,.c (.int .i64 i))]) (fun _=>[mM g3 b,mM g2 a]) (fun i=>i≤a.houses.length∧∀j,j<i→a.houses.getD j hs0=b.houses.getD j hs0) (fun i=>a.houses.length-i) 0 (zB (oj hn_g2 hn_g3)) zZ ⟨Nat.zero_le _,fun j hj=>absurd hj om⟩ ?_
 rintro i ⟨hi,hs⟩
 all_goals try(have Z:=(oj hn_g2 hn_g3);(repeat' first|refine zV Z ?_|refine zH Z (fun hb=>?_) fun hb=>?_|fail);all_goals clear Z)
 ·have hi':=hb
  have hi2:i<b.houses.length:=by omega
  have hne:a.houses.getD i hs0≠b.houses.getD i hs0→decide (a.events=b.events∧a.houses=b.houses∧a.pages=b.pages)=false:=fun h=>decide_eq_false fun e=>h (by rw [e.2.1])
  have hs2:=fun h=>pre_succ (d:=hs0) hs h
  refine aw_dr 11 ty_mixed (by kernel_rfl) ?_
  all_goals try(have Z:=(oj hn_g2 hn_g3);(repeat' first|refine zV Z ?_|refine zH Z (fun hb=>?_) fun hb=>?_|fail);all_goals clear Z)
  generalize a.houses.getD i hs0=x at*
  generalize b.houses.getD i hs0=y at*
  obtain⟨xn,xo⟩:=x
  obtain⟨yn,yo⟩:=y
  dsimp only at*
  refine drk_pok (POk.neqSB (a:=xn) (b:=xo) (c:=yn) (d:=yo) (zE (oj hn_g2 hn_g3)) (zE (oj hn_g2 hn_g3)) (by kernel_rfl)) rfl rfl ?_
  have J1:=oj hn_g2 hn_g3
  refine yS J1 ?_
  all_goals repeat' first|refine zV J1 ?_|refine zH J1 (fun hb=>?_) fun hb=>?_|fail
  all_goals first
   |(refine yT hC J1 ?_
     exact .one (.c (ler_bool (hne (fun e=>by have:=HsD.mk.inj e;simp [this] at hb)).symm)))
   |(refine aw_stop ⟨i+1,?_⟩
     have hs3:=hs2 (by simp_all)
     and_intros
     all_goals first|rfl|exact .refl _|exact True.intro|exact hs3|omega)
 have e2:a.houses=b.houses:=getD_ext hs0 l2 fun j hj=>hs j om
 clear hs hi hb
 refine aw_lp (fun i:Nat=>[(2,.c (.optr g2 0)),(3,.c (.optr g3 0)),(106,.c (pgs true a.pages)),(107,.c (.int .i64 a.pages.length)),(108,.c (.int .i64 i))]) (fun _=>[mM g3 b,mM g2 a]) (fun i=>i≤a.pages.length∧∀j,j<i→a.pages.getD j pg0=b.pages.getD j pg0) (fun i=>a.pages.length-i) 0 (zB (oj hn_g2 hn_g3)) zZ ⟨Nat.zero_le _,fun j hj=>absurd hj om⟩ ?_
 rintro i ⟨hi,hs⟩
 all_goals try(have Z:=(oj hn_g2 hn_g3);(repeat' first|refine zV Z ?_|refine zH Z (fun hb=>?_) fun hb=>?_|fail);all_goals clear Z)
 ·have hi':=hb
  have hi2:i<b.pages.length:=by omega
  have hne:a.pages.getD i pg0≠b.pages.getD i pg0→decide (a.events=b.events∧a.houses=b.houses∧a.pages=b.pages)=false:=fun h=>decide_eq_false fun e=>h (by rw [e.2.2])
  have hs2:=fun h=>pre_succ (d:=pg0) hs h
  have w1:=wg i
  have w2:=wh i
  refine yA (oj hn_g2 hn_g3) fun g6 hn_g6=>?_
  all_goals try(have Z:=(oj hn_g2 (oj hn_g3 hn_g6));(repeat' first|refine zV Z ?_|refine zH Z (fun hb=>?_) fun hb=>?_|fail);all_goals clear Z)
  refine yA (oj hn_g2 (oj hn_g3 hn_g6)) fun g7 hn_g7=>?_
  generalize a.pages.getD i pg0=x at*
  generalize b.pages.getD i pg0=y at*
  have f1:=sameGates_fa x.gates y.gates (fun j=>⟨wf_mono (getD_all w1.2.2.2 gt0_o j).2.1 (by decide),Nat.le_trans (getD_all w1.2.2.2 gt0_o j).2.2.1 (by decide),Nat.le_trans (getD_all w2.2.2.2 gt0_o j).2.2.1 (by decide)⟩) (Nat.le_trans w1.2.2.1 (by decide)) (Nat.le_trans w2.2.2.1 (by decide))
  obtain⟨xn,xt,xg⟩:=x
  obtain⟨yn,yt,yg⟩:=y
  dsimp only at*
  clear w1 w2
  all_goals try(have Z:=(oj hn_g2 (oj hn_g3 (oj hn_g6 hn_g7)));(repeat' first|refine zV Z ?_|(refine yC2 Z (f1) ?_)|(refine yD2 Z (f1) ?_)|refine zH Z (fun hb=>?_) fun hb=>?_|fail);all_goals clear Z)
  all_goals clear f1
  all_goals first
   |(refine yT hC (oj hn_g2 (oj hn_g3 (oj hn_g6 hn_g7))) ?_
     exact .one (.c (ler_bool (hne (by simp_all)).symm)))
   |(refine aw_stop ⟨i+1,?_⟩
     have hs3:=hs2 (by simp_all)
     and_intros
     all_goals first|rfl|exact .cons _ (.cons _ (.refl _))|exact True.intro|exact hs3|omega)
 ·refine yT hC (oj hn_g2 hn_g3) ?_
  exact .one (.c (ler_bool (dec_t ⟨e1,e2,getD_ext pg0 l3 fun j hj=>hs j om⟩)))
theorem same_fa (a b:MdD) (ha:MdO a) (hbb:MdO b):Fa Tryz.prog 13 [.agg (mdc true a),.agg (mdc true b)] (.c (.bool (decide (a=b)))):=by
 have f1:=sameParts_fa a b ha hbb
 have f2:=sameGates_fa a.gates b.gates (fun j=>⟨wf_mono (getD_all ha.gt.2 gt0_o j).2.1 (by decide),Nat.le_trans (getD_all ha.gt.2 gt0_o j).2.2.1 (by decide),Nat.le_trans (getD_all hbb.gt.2 gt0_o j).2.2.1 (by decide)⟩) (Nat.le_trans ha.gt.1 (by decide)) (Nat.le_trans hbb.gt.1 (by decide))
 have a1:a.groups.length≤1099511627776:=Nat.le_trans ha.gr.1 (by decide)
 have a2:a.phases.length≤1099511627776:=Nat.le_trans ha.ph.1 (by decide)
 have a3:b.groups.length≤1099511627776:=Nat.le_trans hbb.gr.1 (by decide)
 have a4:b.phases.length≤1099511627776:=Nat.le_trans hbb.ph.1 (by decide)
 have v1:=fun i=>getD_all ha.gr.2 gr0_o i
 have v2:=fun i=>getD_all hbb.gr.2 gr0_o i
 have v3:=fun i=>getD_all ha.ph.2 ph0_o i
 have v4:=fun i=>getD_all hbb.ph.2 ph0_o i
 have hE:a.name=b.name→a.top=b.top→(a.events=b.events∧a.houses=b.houses∧a.pages=b.pages)→a.gates=b.gates→a.groups=b.groups→a.phases=b.phases→a=b:=by
  rintro q1 q2 ⟨q3,q4,q5⟩ q6 q7 q8
  cases a;cases b
  simp_all
 have n1:a.name≠b.name→decide (a=b)=false:=fun h=>decide_eq_false fun e=>h (by rw [e])
 have n2:a.top≠b.top→decide (a=b)=false:=fun h=>decide_eq_false fun e=>h (by rw [e])
 have n3:¬(a.events=b.events∧a.houses=b.houses∧a.pages=b.pages)→decide (a=b)=false:=fun h=>decide_eq_false fun e=>h (by rw [e];exact⟨rfl,rfl,rfl⟩)
 have n4:a.gates≠b.gates→decide (a=b)=false:=fun h=>decide_eq_false fun e=>h (by rw [e])
 have n5:a.groups.length≠b.groups.length→decide (a=b)=false:=fun h=>decide_eq_false fun e=>h (by rw [e])
 have n6:a.phases.length≠b.phases.length→decide (a=b)=false:=fun h=>decide_eq_false fun e=>h (by rw [e])
 have n7:∀i,a.groups.getD i gr0≠b.groups.getD i gr0→decide (a=b)=false:=fun i h=>decide_eq_false fun e=>h (by rw [e])
 have n8:∀i,a.phases.getD i ph0≠b.phases.getD i ph0→decide (a=b)=false:=fun i h=>decide_eq_false fun e=>h (by rw [e])
 generalize hX:decide (a=b)=X at*
 refine fa_of_body Tryz.func13 rfl rfl (by simp [Tryz.ntmps13]) fun C hC=> ?_
 simp only [initS,Nat.reduceAdd]
 repeat' first|refine zV o0 ?_|refine zH o0 (fun hb=>?_) fun hb=>?_|fail
 refine xB fun g2 hn_g2=>?_
 repeat' first|refine zV hn_g2 ?_|refine zH hn_g2 (fun hb=>?_) fun hb=>?_|fail
 refine yB hn_g2 fun g3 hn_g3=>?_
 all_goals try(have Z:=(oj hn_g2 hn_g3);(repeat' first|refine zV Z ?_|(refine yC2 Z (f1) ?_)|(refine yD2 Z (f1) ?_)|(refine yC2 Z (f2) ?_)|(refine yD2 Z (f2) ?_)|refine zH Z (fun hb=>?_) fun hb=>?_|fail);all_goals clear Z)
 ·refine yT hC (oj hn_g2 hn_g3) ?_
  exact .one (.c (ler_bool (n1 hb).symm))
 ·refine yT hC (oj hn_g2 hn_g3) ?_
  exact .one (.c (ler_bool (n2 hb).symm))
 ·refine yT hC (oj hn_g2 hn_g3) ?_
  exact .one (.c (ler_bool (n3 fun z=>by simp [z.1,z.2.1,z.2.2] at hb).symm))
 ·refine yT hC (oj hn_g2 hn_g3) ?_
  exact .one (.c (ler_bool (n4 (by simpa using hb)).symm))
 ·refine yT hC (oj hn_g2 hn_g3) ?_
  exact .one (.c (ler_bool (n5 hb).symm))
 ·refine yT hC (oj hn_g2 hn_g3) ?_
  exact .one (.c (ler_bool (n6 hb).symm))
 rename_i q1 q2 q3 q4 q5
 have q6:a.phases.length=b.phases.length:=by simpa using hb
 have q3:a.events=b.events∧a.houses=b.houses∧a.pages=b.pages:=by simpa using q3
 have q4:a.gates=b.gates:=by simpa using q4
 clear hb f1 f2 n1 n2 n3 n4 n5 n6
 refine aw_lp (fun i:Nat=>[(2,.c (.optr g2 0)),(3,.c (.optr g3 0)),(59,.c (grs true a.groups)),(60,.c (.int .i64 a.groups.length)),(61,.c (.int .i64 i))]) (fun _=>[mM g3 b,mM g2 a]) (fun i=>i≤a.groups.length∧∀j,j<i→a.groups.getD j gr0=b.groups.getD j gr0) (fun i=>a.groups.length-i) 0 (zB (oj hn_g2 hn_g3)) zZ ⟨Nat.zero_le _,fun j hj=>absurd hj om⟩ ?_
 rintro i ⟨hi,hs⟩
 all_goals try(have Z:=(oj hn_g2 hn_g3);(repeat' first|refine zV Z ?_|refine zH Z (fun hb=>?_) fun hb=>?_|fail);all_goals clear Z)
 ·have hi':=hb
  have hi2:i<b.groups.length:=by omega
  have hs2:=fun h=>pre_succ (d:=gr0) hs h
  have hne:=n7 i
  have w1:=v1 i
  have w2:=v2 i
  refine yA (oj hn_g2 hn_g3) fun g6 hn_g6=>?_
  all_goals try(have Z:=(oj hn_g2 (oj hn_g3 hn_g6));(repeat' first|refine zV Z ?_|refine zH Z (fun hb=>?_) fun hb=>?_|fail);all_goals clear Z)
  refine yA (oj hn_g2 (oj hn_g3 hn_g6)) fun g7 hn_g7=>?_
  generalize a.groups.getD i gr0=x at*
  generalize b.groups.getD i gr0=y at*
  have f1:=texts_fa x.members y.members (Nat.le_trans w1.2.1 (by decide)) (Nat.le_trans w2.2.1 (by decide))
  have f2:=rats_fa x.factors y.factors (fun j=>wf_mono (getD_all w1.2.2.2.2 rd0_ok j) (by decide)) (Nat.le_trans w1.2.2.2.1 (by decide)) (Nat.le_trans w2.2.2.2.1 (by decide))
  obtain⟨xn,xk,xm,xf⟩:=x
  obtain⟨yn,yk,ym,yf⟩:=y
  dsimp only at*
  clear w1 w2
  all_goals try(have Z:=(oj hn_g2 (oj hn_g3 (oj hn_g6 hn_g7)));(repeat' first|refine zV Z ?_|(refine yC2 Z (f1) ?_)|(refine yD2 Z (f1) ?_)|(refine yC2 Z (f2) ?_)|(refine yD2 Z (f2) ?_)|refine zH Z (fun hb=>?_) fun hb=>?_|fail);all_goals clear Z)
  all_goals clear f1 f2
  all_goals first
   |(refine yT hC (oj hn_g2 (oj hn_g3 (oj hn_g6 hn_g7))) ?_
     exact .one (.c (ler_bool (hne (by simp_all)).symm)))
   |(refine aw_stop ⟨i+1,?_⟩
     have hs3:=hs2 (by simp_all)
     and_intros
     all_goals first|rfl|exact .cons _ (.cons _ (.refl _))|exact True.intro|exact hs3|omega)
 have q7:a.groups=b.groups:=getD_ext gr0 q5 fun j hj=>hs j om
 clear hs hi hb
 refine aw_lp (fun i:Nat=>[(2,.c (.optr g2 0)),(3,.c (.optr g3 0)),(101,.c (phs true a.phases)),(102,.c (.int .i64 a.phases.length)),(103,.c (.int .i64 i))]) (fun _=>[mM g3 b,mM g2 a]) (fun i=>i≤a.phases.length∧∀j,j<i→a.phases.getD j ph0=b.phases.getD j ph0) (fun i=>a.phases.length-i) 0 (zB (oj hn_g2 hn_g3)) zZ ⟨Nat.zero_le _,fun j hj=>absurd hj om⟩ ?_
 rintro i ⟨hi,hs⟩
 all_goals try(have Z:=(oj hn_g2 hn_g3);(repeat' first|refine zV Z ?_|refine zH Z (fun hb=>?_) fun hb=>?_|fail);all_goals clear Z)
 ·have hi':=hb
  have hi2:i<b.phases.length:=by omega
  have hs2:=fun h=>pre_succ (d:=ph0) hs h
  have hne:=n8 i
  have w1:=v3 i
  have w2:=v4 i
  refine yA (oj hn_g2 hn_g3) fun g6 hn_g6=>?_
  all_goals try(have Z:=(oj hn_g2 (oj hn_g3 hn_g6));(repeat' first|refine zV Z ?_|refine zH Z (fun hb=>?_) fun hb=>?_|fail);all_goals clear Z)
  refine yA (oj hn_g2 (oj hn_g3 hn_g6)) fun g7 hn_g7=>?_
  generalize a.phases.getD i ph0=x at*
  generalize b.phases.getD i ph0=y at*
  obtain⟨xn,xt,xv⟩:=x
  obtain⟨yn,yt,yv⟩:=y
  dsimp only at*
  have u1:xv.length≤1099511627776:=Nat.le_trans w1.2.2.1 (by decide)
  have u2:yv.length≤1099511627776:=Nat.le_trans w2.2.2.1 (by decide)
  all_goals try(have Z:=(oj hn_g2 (oj hn_g3 (oj hn_g6 hn_g7)));(repeat' first|refine zV Z ?_|refine zH Z (fun hb=>?_) fun hb=>?_|fail);all_goals clear Z)
  ·refine yT hC (oj hn_g2 (oj hn_g3 (oj hn_g6 hn_g7))) ?_
   exact .one (.c (ler_bool (hne (by simp_all)).symm))
  ·refine yT hC (oj hn_g2 (oj hn_g3 (oj hn_g6 hn_g7))) ?_
   exact .one (.c (ler_bool (hne (by simp_all)).symm))
  ·refine yT hC (oj hn_g2 (oj hn_g3 (oj hn_g6 hn_g7))) ?_
   exact .one (.c (ler_bool (hne (fun e=>hb (by rw [(PhD.mk.inj e).2.2]))).symm))
  rename_i r1 r2
  have r3:xv.length=yv.length:=by simpa using hb
  clear hb
  refine aw_lp (fun k:Nat=>[(2,.c (.optr g2 0)),(3,.c (.optr g3 0)),(10,.c (.optr g7 0)),(101,.c (phs true a.phases)),(102,.c (.int .i64 a.phases.length)),(103,.c (.int .i64 i)),(135,.c (vls true xv)),(136,.c (.int .i64 xv.length)),(137,.c (.int .i64 k))]) (fun _=>[(g7,.cells 66 3 (ofL (phc ⟨yn,yt,yv⟩))),mM g3 b,mM g2 a]) (fun k=>k≤xv.length∧∀j,j<k→xv.getD j vl0=yv.getD j vl0) (fun k=>xv.length-k) 0 (zB (oj hn_g2 (oj hn_g3 (oj hn_g6 hn_g7)))) (by first|exact .refl _|exact .cons _ (.refl _)|exact .cons_cons _ (.cons _ (.refl _))) ⟨Nat.zero_le _,fun j hj=>absurd hj om⟩ ?_
  rintro k ⟨hk,ht⟩
  all_goals try(have Z:=(oj hn_g2 (oj hn_g3 (oj hn_g6 hn_g7)));(repeat' first|refine zV Z ?_|refine zH Z (fun hb=>?_) fun hb=>?_|fail);all_goals clear Z)
  ·have hk':=hb
   have hk2:k<yv.length:=by omega
   have ht2:=fun h=>pre_succ (d:=vl0) ht h
   have hne2:xv.getD k vl0≠yv.getD k vl0→X=false:=fun h=>hne (fun e=>h (by rw [(PhD.mk.inj e).2.2]))
   have w3:=(getD_all w1.2.2.2 vl0_o k).2
   refine yA (oj hn_g2 (oj hn_g3 (oj hn_g6 hn_g7))) fun g8 hn_g8=>?_
   all_goals try(have Z:=(oj hn_g2 (oj hn_g3 (oj hn_g6 (oj hn_g7 hn_g8))));(repeat' first|refine zV Z ?_|refine zH Z (fun hb=>?_) fun hb=>?_|fail);all_goals clear Z)
   refine yA (oj hn_g2 (oj hn_g3 (oj hn_g6 (oj hn_g7 hn_g8)))) fun g9 hn_g9=>?_
   generalize xv.getD k vl0=p at*
   generalize yv.getD k vl0=q at*
   have f1:=ratEq_fa p.p q.p (wf_mono w3 (by decide))
   obtain⟨pe,pp⟩:=p
   obtain⟨qe,qp⟩:=q
   dsimp only at*
   all_goals try(have Z:=(oj hn_g2 (oj hn_g3 (oj hn_g6 (oj hn_g7 (oj hn_g8 hn_g9)))));(repeat' first|refine zV Z ?_|(refine yC2 Z (f1) ?_)|(refine yD2 Z (f1) ?_)|refine zH Z (fun hb=>?_) fun hb=>?_|fail);all_goals clear Z)
   all_goals clear f1
   all_goals first
    |(refine yT hC (oj hn_g2 (oj hn_g3 (oj hn_g6 (oj hn_g7 (oj hn_g8 hn_g9))))) ?_
      exact .one (.c (ler_bool (hne2 (by simp_all)).symm)))
    |(refine aw_stop ⟨k+1,?_⟩
      have ht3:=ht2 (by simp_all)
      and_intros
      all_goals first|rfl|exact .cons _ (.cons _ (.refl _))|exact True.intro|exact ht3|omega)
  ·have r4:xv=yv:=getD_ext vl0 r3 fun j hj=>ht j om
   all_goals try(have Z:=(oj hn_g2 (oj hn_g3 (oj hn_g6 hn_g7)));(repeat' first|refine zV Z ?_|refine zH Z (fun hb=>?_) fun hb=>?_|fail);all_goals clear Z)
   refine aw_stop ⟨i+1,?_⟩
   have hs3:=hs2 (by simp_all)
   and_intros
   all_goals first|rfl|exact .cons _ (.refl _)|exact True.intro|exact hs3|omega
 ·have q8:a.phases=b.phases:=getD_ext ph0 q6 fun j hj=>hs j om
  refine yT hC (oj hn_g2 hn_g3) ?_
  rw [←hX]
  exact .one (.c (ler_bool (dec_t (hE q1 q2 q3 q4 q7 q8))))
end Go.Proofs.YtnmeahogifekdaaGreatDoor
namespace Go.PN
open Go.AI
theorem rev_getD {α:Type} (l:List α) (d:α) {j:Nat} (hj:j<l.length):l.reverse.getD j d=l.getD (l.length-1-j) d:=by
 rw [List.getD_eq_getElem?_getD,List.getD_eq_getElem?_getD,List.getElem?_reverse hj]
theorem rev_succ {α:Type} (l:List α) (d:α) {j:Nat} (hj:j<l.length):l.reverse.take (j+1)=l.reverse.take j++[l.getD (l.length-1-j) d]:=by
 rw [←rev_getD l d hj]
 have hj2:j<l.reverse.length:=by rw [List.length_reverse];exact hj
 rw [List.take_add_one,List.getElem?_eq_getElem hj2,List.getD_eq_getElem?_getD,List.getElem?_eq_getElem hj2];rfl
theorem rev_len {α:Type} (l:List α) {j:Nat} (hj:j≤l.length):(l.reverse.take j).length=j:=by
 rw [List.length_take,List.length_reverse];omega
theorem mapRev_succ {α β:Type} (f:α→β) (l:List α) (d:α) {j:Nat} (hj:j<l.length):(l.map f).reverse.take (j+1)=(l.map f).reverse.take j++[f (l.getD (l.length-1-j) d)]:=by
 have hj2:j<(l.map f).reverse.length:=by rw [List.length_reverse,List.length_map];exact hj
 rw [List.take_add_one,List.getElem?_eq_getElem hj2]
 congr 1
 show [_]=_
 rw [List.getElem_reverse,List.getElem_map,List.getD_eq_getElem?_getD,List.getElem?_eq_getElem om]
 simp
theorem mapRev_len {α β:Type} (f:α→β) (l:List α) {j:Nat} (hj:j≤l.length):((l.map f).reverse.take j).length=j:=by
 rw [List.length_take,List.length_reverse,List.length_map];omega
theorem getD_in {α:Type} (l:List α) (d:α) {q:Nat} (h:q<l.length):l.getD q d∈l:=by
 rw [List.getD_eq_getElem?_getD,List.getElem?_eq_getElem h];exact List.getElem_mem _
theorem stepQ {n j:Nat} (h:j<n):∃q,q=n-1-j∧q<n∧(n:Int)-(j:Int)-1=(q:Int)∧decide ((q:Int)≥0)=true∧decide (q≥0)=true:=
 ⟨_,rfl,by omega,by omega,decide_eq_true om,decide_eq_true om⟩
theorem stepE (n:Nat):(n:Int)-(n:Int)-1= -1:=by omega
theorem rev_le {α:Type} (l:List α):l.reverse.length≤l.length:=Nat.le_of_eq List.length_reverse
theorem mapRev_le {α β:Type} (f:α→β) (l:List α):(l.map f).reverse.length≤l.length:=by rw [List.length_reverse,List.length_map];exact Nat.le_refl _
theorem turnG_free {x:GtD} (h:freeK x.kind):turnG x=⟨x.name,x.kind,x.k,x.inputs.reverse,x.dorm⟩:=by
 unfold turnG turnI
 rw [if_pos h]
theorem turnG_8 {x:GtD} (h:x.kind=8) {a:BS} {l:List BS} (hi:x.inputs=a::l):turnG x=⟨x.name,x.kind,x.k,a::l.reverse,x.dorm⟩:=by
 unfold turnG turnI freeK
 rw [if_neg om,if_pos h,hi]
 rfl
theorem turnG_no {x:GtD} (h:¬freeK x.kind) (h8:x.kind≠8):turnG x=x:=by
 unfold turnG turnI
 rw [if_neg h,if_neg h8]
end Go.PN
namespace Go.Proofs.YtnmeahogifekdaaGreatDoor
open Go.AI Go.PN
attribute [local irreducible] aw Fa Fh DrK
theorem turned_fa (t:Bool) (l:List BS) (hl:l.length≤1048576):Fa Tryz.prog 65 [.c (strs t l)] (.c (strs true l.reverse)):=by
 have nL:l.length≤1099511627776:=by omega
 refine fa_of_body Tryz.func65 rfl rfl (by simp [Tryz.ntmps65]) fun C hC=> ?_
 simp only [initS,Nat.reduceAdd]
 repeat' first|refine zV o0 ?_|refine zH o0 (fun hb=>?_) fun hb=>?_|fail
 refine aw_lp (fun z:Nat×Option Nat=>[(0,.c (strs t l)),(3,.c (gs z.2 1 z.1)),(4,.c (.int .i64 ((l.length:Int)-(z.1:Int)-1)))]) (fun z=>gh z.2 9 (z.1*1) (strsF (l.reverse.take z.1))) (fun z=>z.1≤l.length∧(z.2=none→z.1=0)) (fun z=>l.length-z.1) (0,none) eB zZ ⟨Nat.zero_le _,fun _=>rfl⟩ ?_
 rintro ⟨j,og⟩ ⟨hj,hog⟩
 dsimp only at hj hog⊢
 by_cases hjn:j<l.length
 ·obtain⟨q,hq,hql,hi3⟩:=stepQ hjn
  have hT:=rev_succ l [] hjn
  have hTl:=rev_len l (Nat.le_of_lt hjn)
  rw [←hq] at hT
  repeat' first|refine zV hi3 ?_|refine zH hi3 (fun hb=>?_) fun hb=>?_|fail
  refine aw_push (pre:=[]) rfl rfl rfl rfl rfl rfl rfl (zE hi3) (zE hi3) (by rfl) om om (zE hi3) om (by exact hog) (zE hi3) (by rfl) (by rfl) qb qc om (by exact strs_push hTl (l.getD q [])) fun gq hn_gq=> ?_
  replace hn_gq:=Heap.ne_of hn_gq
  first|dsimp only [Heap.ne,gh] at hn_gq|dsimp only [Heap.ne] at hn_gq|skip
  have J1:=oj hi3 hn_gq
  refine yS J1 ?_
  rw [←hT]
  all_goals repeat' first|refine zV J1 ?_|refine zH J1 (fun hb=>?_) fun hb=>?_|fail
  exact aw_stop ⟨(j+1,some gq),by dsimp only;omega,(zB J1),zZ,by dsimp only;omega,fun e=>by cases e⟩
 ·obtain rfl:j=l.length:=by omega
  have hi3:=stepE l.length
  have hTe:l.reverse.take l.length=l.reverse:=List.take_of_length_le (by simp)
  rw [hTe]
  repeat' first|refine zV hi3 ?_|refine zH hi3 (fun hb=>?_) fun hb=>?_|fail
  refine aw_perm (h':=gh og 9 (l.length*1) (strsF l.reverse)++[]) (by rw [List.append_nil]) ?_
  refine aw_frzGT (t:=2) (s:=1) (f:=strsF l.reverse) (f':=strsF l.reverse) hog (show l.length=l.reverse.length by rw [List.length_reverse]) (zE hi3) (fun g _=>hC g) (fun i _=>rfl) (zE hi3) ?_
  refine yS hi3 ?_
  refine yT hC hi3 ?_
  exact .one (.c ler_strs)
theorem turnedG_fa (L:List GtD) (hO:∀g∈L,GtN g) (hl:L.length≤1048576):Fa Tryz.prog 64 [.c (gts true L)] (.c (gts true (turnL L))):=by
 have nL:L.length≤1099511627776:=by omega
 refine fa_of_body Tryz.func64 rfl rfl (by simp [Tryz.ntmps64]) fun C hC=> ?_
 simp only [initS,Nat.reduceAdd]
 repeat' first|refine zV o0 ?_|refine zH o0 (fun hb=>?_) fun hb=>?_|fail
 refine aw_lp (fun z:Nat×Option Nat=>[(0,.c (gts true L)),(3,.c (gs z.2 7 z.1)),(4,.c (.int .i64 ((L.length:Int)-(z.1:Int)-1)))]) (fun z=>gh z.2 60 (z.1*7) (gtsF ((L.map turnG).reverse.take z.1))) (fun z=>z.1≤L.length∧(z.2=none→z.1=0)) (fun z=>L.length-z.1) (0,none) eB zZ ⟨Nat.zero_le _,fun _=>rfl⟩ ?_
 rintro ⟨j,og⟩ ⟨hj,hog⟩
 dsimp only at hj hog⊢
 by_cases hjn:j<L.length
 ·obtain⟨q,hq,hql,hi3⟩:=stepQ hjn
  have hT:=mapRev_succ turnG L gt0 hjn
  have hTl:=mapRev_len turnG L (Nat.le_of_lt hjn)
  rw [←hq] at hT
  have hx:=hO (L.getD q gt0) (getD_in L gt0 hql)
  generalize hv:L.getD q gt0=x at*
  obtain⟨hd,hi1,hi2,hi4⟩:=hx
  all_goals try(have Z:=(oj hi3 hv);(repeat' first|refine zV Z ?_|refine zH Z (fun hb=>?_) fun hb=>?_|fail);all_goals clear Z)
  refine yA (oj hi3 hv) fun g5 hn_g5=>?_
  by_cases hfree:freeK x.kind
  ·have hN:=turnG_free hfree
   rw [hN] at hT
   clear hN
   have hc:=turned_fa true x.inputs om
   obtain⟨nm,kd,kk,inp,dm⟩:=x
   dsimp only at*
   rcases hfree with e|e|e|e
   all_goals
    have b0:(kd==0)=_:=congrArg (·==0) e
    have b1:(kd==1)=_:=congrArg (·==1) e
    have b2:(kd==2)=_:=congrArg (·==2) e
    have b4:(kd==4)=_:=congrArg (·==4) e
    all_goals try(have Z:=(oj hi3 (oj hv (oj hn_g5 (oj b0 (oj b1 (oj b2 b4))))));(repeat' first|refine zV Z ?_|(refine yC2 Z (hc) ?_)|(refine yD2 Z (hc) ?_)|refine zH Z (fun hb=>?_) fun hb=>?_|fail);all_goals clear Z)
    refine aw_push (pre:=[(g5,.cells 60 7 (ofL (gtc ⟨nm,kd,kk,inp.reverse,dm⟩)))]) rfl rfl rfl rfl rfl rfl rfl (zE (oj hi3 (oj hv (oj hn_g5 (oj b0 (oj b1 (oj b2 b4))))))) (zE (oj hi3 (oj hv (oj hn_g5 (oj b0 (oj b1 (oj b2 b4))))))) (by rfl) om om (zE (oj hi3 (oj hv (oj hn_g5 (oj b0 (oj b1 (oj b2 b4))))))) om (by exact hog) (zE (oj hi3 (oj hv (oj hn_g5 (oj b0 (oj b1 (oj b2 b4))))))) (by rfl) (by rfl) qb qc om (by exact gts_push hTl ⟨nm,kd,kk,inp.reverse,dm⟩) fun gq hn_gq=> ?_
    replace hn_gq:=Heap.ne_of hn_gq
    first|dsimp only [Heap.ne,gh] at hn_gq|dsimp only [Heap.ne] at hn_gq|skip
    have J1:=oj hi3 (oj hv (oj hn_g5 (oj b0 (oj b1 (oj b2 (oj b4 hn_gq))))))
    refine yS J1 ?_
    all_goals repeat' first|refine zV J1 ?_|refine zH J1 (fun hb=>?_) fun hb=>?_|fail
    rw [←hT]
    refine aw_weak (h':=gh (some gq) 60 ((j+1)*7) (gtsF ((L.map turnG).reverse.take (j+1)))) (Sl.le_refl _) (.cons _ (List.Sublist.refl _)) ?_
    exact aw_stop ⟨(j+1,some gq),by dsimp only;omega,(zB J1),zZ,by dsimp only;omega,fun e=>by cases e⟩
  ·by_cases h8:x.kind=8
   ·obtain⟨nm,kd,kk,inp,dm⟩:=x
    dsimp only at*
    subst h8
    cases inp with
    |nil=>exact absurd hi1 (by simp)
    |cons a inp=>
     have hN:=turnG_8 (x:=⟨nm,8,kk,a::inp,dm⟩) rfl rfl
     dsimp only at hN
     rw [hN] at hT
     clear hN
     have hi5:1≤inp.length:=by have:=hi4 rfl;simpa using this
     have hi6:inp.length≤15:=by simpa using hi2
     all_goals try(have Z:=(oj hi3 (oj hv hn_g5));(repeat' first|refine zV Z ?_|refine zH Z (fun hb=>?_) fun hb=>?_|fail);all_goals clear Z)
     refine aw_cw [(g5,.cells 60 7 (ofL (gtc ⟨nm,8,kk,a::inp,dm⟩)))] [(0,0),(1,0),(2,0),(3,0),(5,0),(6,0),(7,0),(8,0),(4,1),(9,1),(10,0),(11,2)] ty_mixed (by kernel_rfl) qa ?_
     have J2:=oj hi3 (oj hv hn_g5)
     refine yG J2 ?_
     have hrl:inp.reverse.length=inp.length:=List.length_reverse
     refine cw_callq (args:=[.c (strs true inp)]) rfl (turned_fa true inp om) rfl rfl rfl (fun _ _=>by
      refine yS J2 ?_
      exact .c (.row (fun h=>h) fun i _=>by
       rw [strsF_0,show(a::inp).getD (1+i) []=inp.getD i [] from by rw [Nat.add_comm];rfl]
       exact .refl _)) ?_
     refine ySG J2 ?_
     refine cw_buildSlice (xs:=[.tmp 33]) (cells:=[.str (sB a)]) rfl rfl rfl rfl (zE J2) (by refine yS J2 ?_;rfl) rfl om om qd rfl (by intro z hz;simp only [List.mem_singleton] at hz;subst hz;simp [Op.operands]) qa (fun g34 hn_g34=> ?_) (.inr ⟨rfl,rfl⟩)
     refine ySG J2 ?_
     refine cw_appendO (size:=1) (n:=1) (k:=inp.reverse.length) (m:=1*1) (g:=g34) (f:=ofL [.str (sB a)]) (f2:=strsF inp.reverse) (cx:=strs true inp.reverse) (h2:=(g5,.cells 60 7 (ofL (gtc ⟨nm,8,kk,a::inp,dm⟩)))::gh og 60 (j*7) (gtsF ((L.map turnG).reverse.take j))) rfl rfl rfl rfl (by exact tya_e_52) (by exact tya_z_9) rfl om (zE J2) (by simp [Heap.get]) om (zE J2)
      .row (fun i _=>strsF_solid _ i) om qc om (by simp [Heap.del]) qa (fun g39 hn_g39=> ?_) (.inr ⟨rfl,rfl⟩)
     have r1:g39≠g5:=fun e=>hn_g39 (by subst e;simp [Heap.keys])
     have r2:=eq_false r1
     have r3:=eq_false r1.symm
     have J3:=oj hi3 (oj hv (oj hn_g5 (oj r2 r3)))
     refine ySG J3 ?_
     refine cw_store (FP':=[]) rfl rfl rfl rfl rfl (zE J3) (zE J3) (zE J3) (zE J3) (fun _ e=>by cases e) rfl rfl (show 4≤7 from by omega) rfl has0_nil ?_
     refine yS J3 ?_
     refine wc2 ?_
     refine aw_conv1 (f':=strsF (a::inp.reverse)) (fun i hi=>by
      match i with
      |0=>rw [strsF_0];rfl
      |i+1=>rw [strsF_0];unfold appF;rw [if_neg om,strsF_0];rfl) ?_
     have hln:(a::inp.reverse).length=1+inp.reverse.length:=by rw [List.length_cons,Nat.add_comm]
     refine aw_perm (h':=(g5,.cells 60 7 (ofL (gtcS ⟨nm,8,kk,a::inp,dm⟩ (.osl g39 1 0 (1+inp.reverse.length)))))::(gh (some g39) 9 ((1+inp.reverse.length)*1) (strsF (a::inp.reverse))++gh og 60 (j*7) (gtsF ((L.map turnG).reverse.take j)))) (by rw [Nat.mul_one];exact List.Perm.swap _ _ _) ?_
     refine aw_frzG (og:=some g39) (s:=1) (n:=1+inp.reverse.length) (j0:=3) (m:=7) (f:=ofL (gtcS ⟨nm,8,kk,a::inp,dm⟩ (.osl g39 1 0 (1+inp.reverse.length)))) (f':=ofL (gtc ⟨nm,8,kk,a::inp.reverse,dm⟩)) (fp:=strsF (a::inp.reverse)) rfl (by show CV.row true 1 _ _=CV.row true 1 _ _;rw [hln]) (fun i hi h3=>by match i,hi,h3 with|0,_,_=>rfl|1,_,_=>rfl|2,_,_=>rfl|3,_,h=>exact absurd rfl h|4,_,_=>rfl|5,_,_=>rfl|6,_,_=>rfl) (fun e=>by cases e) (fun g _=>hC g) ?_
     refine yS J3 ?_
     all_goals repeat' first|refine zV J3 ?_|refine zH J3 (fun hb=>?_) fun hb=>?_|fail
     refine aw_push (pre:=[(g5,.cells 60 7 (ofL (gtc ⟨nm,8,kk,a::inp.reverse,dm⟩)))]) rfl rfl rfl rfl rfl rfl rfl (zE J3) (zE J3) (by rfl) om om (zE J3) om (by exact hog) (zE J3) (by rfl) (by rfl) qb qc om (by exact gts_push hTl ⟨nm,8,kk,a::inp.reverse,dm⟩) fun gq hn_gq=> ?_
     replace hn_gq:=Heap.ne_of hn_gq
     first|dsimp only [Heap.ne,gh] at hn_gq|dsimp only [Heap.ne] at hn_gq|skip
     have J4:=oj hi3 (oj hv (oj hn_g5 (oj r2 (oj r3 hn_gq))))
     refine yS J4 ?_
     all_goals repeat' first|refine zV J4 ?_|refine zH J4 (fun hb=>?_) fun hb=>?_|fail
     rw [←hT]
     refine aw_weak (h':=gh (some gq) 60 ((j+1)*7) (gtsF ((L.map turnG).reverse.take (j+1)))) (Sl.le_refl _) (.cons _ (List.Sublist.refl _)) ?_
     exact aw_stop ⟨(j+1,some gq),by dsimp only;omega,(zB J4),zZ,by dsimp only;omega,fun e=>by cases e⟩
   ·have hN:=turnG_no hfree h8
    rw [hN] at hT
    clear hN
    obtain⟨nm,kd,kk,inp,dm⟩:=x
    dsimp only at*
    have b0:(kd==0)=false:=by unfold freeK at hfree;simp only [beq_eq_false_iff_ne];omega
    have b1:(kd==1)=false:=by unfold freeK at hfree;simp only [beq_eq_false_iff_ne];omega
    have b2:(kd==2)=false:=by unfold freeK at hfree;simp only [beq_eq_false_iff_ne];omega
    have b4:(kd==4)=false:=by unfold freeK at hfree;simp only [beq_eq_false_iff_ne];omega
    have b8:(kd==8)=false:=by simp only [beq_eq_false_iff_ne];omega
    all_goals try(have Z:=(oj hi3 (oj hv (oj hn_g5 (oj b0 (oj b1 (oj b2 (oj b4 b8)))))));(repeat' first|refine zV Z ?_|refine zH Z (fun hb=>?_) fun hb=>?_|fail);all_goals clear Z)
    refine aw_push (pre:=[(g5,.cells 60 7 (ofL (gtc ⟨nm,kd,kk,inp,dm⟩)))]) rfl rfl rfl rfl rfl rfl rfl (zE (oj hi3 (oj hv (oj hn_g5 (oj b0 (oj b1 (oj b2 (oj b4 b8)))))))) (zE (oj hi3 (oj hv (oj hn_g5 (oj b0 (oj b1 (oj b2 (oj b4 b8)))))))) (by rfl) om om (zE (oj hi3 (oj hv (oj hn_g5 (oj b0 (oj b1 (oj b2 (oj b4 b8)))))))) om (by exact hog) (zE (oj hi3 (oj hv (oj hn_g5 (oj b0 (oj b1 (oj b2 (oj b4 b8)))))))) (by rfl) (by rfl) qb qc om (by exact gts_push hTl ⟨nm,kd,kk,inp,dm⟩) fun gq hn_gq=> ?_
    replace hn_gq:=Heap.ne_of hn_gq
    first|dsimp only [Heap.ne,gh] at hn_gq|dsimp only [Heap.ne] at hn_gq|skip
    have J5:=oj hi3 (oj hv (oj hn_g5 (oj b0 (oj b1 (oj b2 (oj b4 (oj b8 hn_gq)))))))
    refine yS J5 ?_
    all_goals repeat' first|refine zV J5 ?_|refine zH J5 (fun hb=>?_) fun hb=>?_|fail
    rw [←hT]
    refine aw_weak (h':=gh (some gq) 60 ((j+1)*7) (gtsF ((L.map turnG).reverse.take (j+1)))) (Sl.le_refl _) (.cons _ (List.Sublist.refl _)) ?_
    exact aw_stop ⟨(j+1,some gq),by dsimp only;omega,(zB J5),zZ,by dsimp only;omega,fun e=>by cases e⟩
 ·obtain rfl:j=L.length:=by omega
  have hi3:=stepE L.length
  have hTe:(L.map turnG).reverse.take L.length=turnL L:=List.take_of_length_le (by simp)
  have hln:(turnL L).length=L.length:=by unfold turnL;rw [List.length_reverse,List.length_map]
  rw [hTe]
  repeat' first|refine zV hi3 ?_|refine zH hi3 (fun hb=>?_) fun hb=>?_|fail
  refine aw_perm (h':=gh og 60 (L.length*7) (gtsF (turnL L))++[]) (by rw [List.append_nil]) ?_
  refine aw_frzGT (t:=2) (s:=7) (f:=gtsF (turnL L)) (f':=gtsF (turnL L)) hog hln.symm (zE hi3) (fun g _=>hC g) (fun i _=>rfl) (zE hi3) ?_
  refine yS hi3 ?_
  refine yT hC hi3 ?_
  exact .one (.c ler_gts)
end Go.Proofs.YtnmeahogifekdaaGreatDoor
namespace Go.Proofs.YtnmeahogifekdaaGreatDoor
open Go.AI Go.PN
theorem has02 {a b:Nat×AObj} {h:Heap} (h1:a∈h:=by simp) (h2:b∈h:=by simp):Has0 [a,b] h:=has0_cons h1 (has0_cons h2 has0_nil)
attribute [local irreducible] aw Fa Fh DrK
theorem turnM_fa (m:MdD) (hg:Go.PN.Good m) (hs:MdN m):Fa Tryz.prog 15 [.agg (mdc true m)] (.agg (mdc true (turnM m))):=by
 have nE:m.events.length≤1099511627776:=Nat.le_trans hg.evl (by decide)
 have nH:m.houses.length≤1099511627776:=Nat.le_trans hg.hsl (by decide)
 have nP:m.pages.length≤1099511627776:=Nat.le_trans hg.pgl (by decide)
 have nR:m.groups.length≤1099511627776:=Nat.le_trans hg.grl (by decide)
 have nS:m.phases.length≤1099511627776:=Nat.le_trans hg.phl (by decide)
 have hlg:=hs.gtl
 have f2:=turnedG_fa m.gates hs.gt om
 obtain⟨RE,hRE⟩:∃c:CV,c=.row true 11 m.events.length (evsF m.events.reverse):=⟨_,rfl⟩
 obtain⟨RH,hRH⟩:∃c:CV,c=.row true 2 m.houses.length (hssF m.houses.reverse):=⟨_,rfl⟩
 obtain⟨RP,hRP⟩:∃c:CV,c=.row true 3 m.pages.length (pgsF (m.pages.map turnP).reverse):=⟨_,rfl⟩
 obtain⟨RR,hRR⟩:∃c:CV,c=.row true 4 m.groups.length (grsF (m.groups.map turnR).reverse):=⟨_,rfl⟩
 obtain⟨RS,hRS⟩:∃c:CV,c=.row true 3 m.phases.length (phsF (m.phases.map turnH)):=⟨_,rfl⟩
 refine fa_of_body Tryz.func15 rfl rfl (by simp [Tryz.ntmps15]) fun C hC=> ?_
 simp only [initS,Nat.reduceAdd]
 refine xG ?_
 refine xB fun g1 hn_g1=>?_
 refine yA hn_g1 fun g2 hn_g2=>?_
 all_goals try(have Z:=(oj hn_g1 hn_g2);(repeat' first|refine zV Z ?_|refine zH Z (fun hb=>?_) fun hb=>?_|fail);all_goals clear Z)
 refine aw_cw [mZ g2,mM g1 m] [(0,0),(1,0),(2,0),(3,0),(4,0),(5,0),(6,0),(7,0),(8,1),(9,2)] ty_mixed (by kernel_rfl) has02 ?_
 have J1:=oj hn_g1 hn_g2
 refine yG J1 ?_
 refine cw_callq rfl f2 rfl rfl rfl (fun _ _=>(zL J1)) ?_
 refine ySG J1 ?_
 refine cw_alloc rfl rfl rfl rfl (zE J1) has02 (fun g3 hn_g3=> ?_) (hm:=.inr ⟨rfl,rfl⟩)
 refine ySG J1 ?_
 refine cw_store (FP':=[]) rfl rfl rfl rfl rfl (zE J1) (zE J1) (zE J1) (zE J1) (fun _ e=>by cases e) rfl rfl (show 8≤8 from by omega) rfl has0_nil ?_
 refine ySG J1 ?_
 replace hn_g3:=Heap.ne_of hn_g3
 simp only [Heap.ne] at hn_g3
 obtain⟨RG,hRG⟩:∃c:CV,c=gts true (turnL m.gates):=⟨_,rfl⟩
 simp only [←hRG]
 have F:=oj hn_g1 (oj hn_g2 hn_g3)
 refine yS F ?_
 repeat' first|refine zV F ?_|refine zH F (fun hb=>?_) fun hb=>?_|fail
 refine aw_lp (fun z:Nat×Option Nat=>[(1,.c (.optr g1 0)),(2,.c (.optr g2 0)),(3,.c (.optr g3 0)),(4,.c (.int .i64 ((m.events.length:Int)-(z.1:Int)-1)))]) (fun z=>mD g3 m (gs z.2 11 z.1) .nils RG .nils .nils .nils::mZ g2::mM g1 m::gh z.2 49 (z.1*11) (evsF (m.events.reverse.take z.1))) (fun z=>z.1≤m.events.length∧(z.2=none→z.1=0)) (fun z=>m.events.length-z.1) (0,none) (zB F) zZ ⟨Nat.zero_le _,fun _=>rfl⟩ ?_
 rintro ⟨j,og⟩ ⟨hj,hog⟩
 dsimp only at hj hog⊢
 by_cases hjn:j<m.events.length
 ·obtain⟨q,hq,hql,hi3⟩:=stepQ hjn
  have hm:=getD_in m.events ev0 hql
  have hT:=rev_succ m.events ev0 hjn
  have hTl:=rev_len m.events (Nat.le_of_lt hjn)
  rw [←hq] at hT
  clear hm
  generalize hv:m.events.getD q ev0=x at*
  have hcl:=hg.evl
  all_goals try(have Z:=(oj F (oj hi3 hv));(repeat' first|refine zV Z ?_|refine zH Z (fun hb=>?_) fun hb=>?_|fail);all_goals clear Z)
  refine aw_cw [mD g3 m (gs og 11 j) .nils RG .nils .nils .nils,mM g1 m] [(0,0),(1,0),(2,0),(3,0),(4,0),(5,0),(6,0),(7,1),(8,1),(9,0),(10,2)] ty_mixed (by kernel_rfl) has02 ?_
  have J2:=oj F (oj hi3 hv)
  refine yG J2 ?_
  refine cw_buildSlice (xs:=[.tmp 35]) (cells:=evc x) rfl rfl rfl rfl (zE J2) (by refine yS J2 ?_;rfl) rfl om om qd rfl (by simp [Op.operands]) has02 (fun g36 hn_g36=> ?_) (hm:=.inr ⟨rfl,rfl⟩)
  refine yS J2 ?_
  refine cw_push (pre:=[mD g3 m (gs og 11 j) .nils RG .nils .nils .nils,mZ g2,mM g1 m]) (og:=og) (n:=j) (s:=30) (d1:=36) (gt:=g36) (v:=.agg (evc x)) rfl rfl rfl rfl (zE J2) (zE J2) (by rfl) om om (zE J2) (zE J2) hog (by rfl) (by rfl) (by simp only [Nat.mul_one,List.cons_append,List.nil_append];rfl) qc om (evs_push hTl x) (has0_skip has02) (fun gb hn_gb=> ?_) (hm:=.inr ⟨rfl,rfl⟩)
  replace hn_g36:=Heap.ne_of hn_g36
  simp only [Heap.ne,List.cons_append,List.nil_append] at hn_g36
  rw [←hT]
  have J3:=oj F (oj hi3 (oj hv hn_g36))
  refine ySG J3 ?_
  refine cw_store (FP':=[]) rfl rfl rfl rfl rfl (zE J3) (zE J3) (zE J3) (zE J3) (fun _ e=>by cases e) rfl rfl (show 3≤8 from by omega) rfl has0_nil ?_
  refine ySG J3 ?_
  all_goals repeat' first|refine zV J3 ?_|refine zH J3 (fun hb=>?_) fun hb=>?_|fail
  exact aw_stop ⟨(j+1,some gb),by dsimp only;omega,(zB J3),List.sublist_cons_self _ _,by dsimp only;omega,fun e=>by cases e⟩
 ·obtain rfl:j=m.events.length:=by omega
  have hi3:=stepE m.events.length
  rw [List.take_of_length_le (rev_le m.events)]
  all_goals try(have Z:=(oj F hi3);(repeat' first|refine zV Z ?_|refine zH Z (fun hb=>?_) fun hb=>?_|fail);all_goals clear Z)
  refine aw_perm (h':=mD g3 m (gs og 11 m.events.length) .nils RG .nils .nils .nils::(gh og 49 (m.events.length*11) (evsF m.events.reverse)++[mZ g2,mM g1 m])) (.cons _ (List.perm_append_comm (l₁:=[_,_]))) ?_
  refine aw_frzG (j0:=2) (m:=8) (f:=(ofL (mdN m (gs og 11 m.events.length) .nils RG .nils .nils .nils))) (f':=(ofL (mdN m RE .nils RG .nils .nils .nils))) (fp:=evsF m.events.reverse) rfl hRE (fun i hi h3=>by match i,hi,h3 with|0,_,_=>rfl|1,_,_=>rfl|2,_,h=>exact absurd rfl h|3,_,_=>rfl|4,_,_=>rfl|5,_,_=>rfl|6,_,_=>rfl|7,_,_=>rfl) hog (fun g _=>hC g) ?_
  refine yS (oj F hi3) ?_
  all_goals try(have Z:=(oj F hi3);(repeat' first|refine zV Z ?_|refine zH Z (fun hb=>?_) fun hb=>?_|fail);all_goals clear Z)
  refine aw_lp (fun z:Nat×Option Nat=>[(1,.c (.optr g1 0)),(2,.c (.optr g2 0)),(3,.c (.optr g3 0)),(5,.c (.int .i64 ((m.houses.length:Int)-(z.1:Int)-1)))]) (fun z=>mD g3 m RE (gs z.2 2 z.1) RG .nils .nils .nils::mZ g2::mM g1 m::gh z.2 51 (z.1*2) (hssF (m.houses.reverse.take z.1))) (fun z=>z.1≤m.houses.length∧(z.2=none→z.1=0)) (fun z=>m.houses.length-z.1) (0,none) (zB F) zZ ⟨Nat.zero_le _,fun _=>rfl⟩ ?_
  rintro ⟨j,og⟩ ⟨hj,hog⟩
  dsimp only at hj hog⊢
  by_cases hjn:j<m.houses.length
  ·obtain⟨q,hq,hql,hi3⟩:=stepQ hjn
   have hm:=getD_in m.houses hs0 hql
   have hT:=rev_succ m.houses hs0 hjn
   have hTl:=rev_len m.houses (Nat.le_of_lt hjn)
   rw [←hq] at hT
   clear hm
   generalize hv:m.houses.getD q hs0=x at*
   have hcl:=hg.hsl
   all_goals try(have Z:=(oj F (oj hi3 hv));(repeat' first|refine zV Z ?_|refine zH Z (fun hb=>?_) fun hb=>?_|fail);all_goals clear Z)
   refine aw_cw [mD g3 m RE (gs og 2 j) RG .nils .nils .nils,mM g1 m] [(0,0),(1,0),(2,0),(3,0),(4,0),(5,0),(6,0),(7,1),(8,1),(9,0),(10,2)] ty_mixed (by kernel_rfl) has02 ?_
   have J4:=oj F (oj hi3 hv)
   refine yG J4 ?_
   refine cw_buildSlice (xs:=[.tmp 53]) (cells:=hsc x) rfl rfl rfl rfl (zE J4) (by refine yS J4 ?_;rfl) rfl om om qd rfl (by simp [Op.operands]) has02 (fun g54 hn_g54=> ?_) (hm:=.inr ⟨rfl,rfl⟩)
   refine yS J4 ?_
   refine cw_push (pre:=[mD g3 m RE (gs og 2 j) RG .nils .nils .nils,mZ g2,mM g1 m]) (og:=og) (n:=j) (s:=48) (d1:=54) (gt:=g54) (v:=.agg (hsc x)) rfl rfl rfl rfl (zE J4) (zE J4) (by rfl) om om (zE J4) (zE J4) hog (by rfl) (by rfl) (by simp only [Nat.mul_one,List.cons_append,List.nil_append];rfl) qc om (hss_push hTl x) (has0_skip has02) (fun gb hn_gb=> ?_) (hm:=.inr ⟨rfl,rfl⟩)
   replace hn_g54:=Heap.ne_of hn_g54
   simp only [Heap.ne,List.cons_append,List.nil_append] at hn_g54
   rw [←hT]
   have J5:=oj F (oj hi3 (oj hv hn_g54))
   refine ySG J5 ?_
   refine cw_store (FP':=[]) rfl rfl rfl rfl rfl (zE J5) (zE J5) (zE J5) (zE J5) (fun _ e=>by cases e) rfl rfl (show 4≤8 from by omega) rfl has0_nil ?_
   refine ySG J5 ?_
   all_goals repeat' first|refine zV J5 ?_|refine zH J5 (fun hb=>?_) fun hb=>?_|fail
   exact aw_stop ⟨(j+1,some gb),by dsimp only;omega,(zB J5),List.sublist_cons_self _ _,by dsimp only;omega,fun e=>by cases e⟩
  ·obtain rfl:j=m.houses.length:=by omega
   have hi3:=stepE m.houses.length
   rw [List.take_of_length_le (rev_le m.houses)]
   all_goals try(have Z:=(oj F hi3);(repeat' first|refine zV Z ?_|refine zH Z (fun hb=>?_) fun hb=>?_|fail);all_goals clear Z)
   refine aw_perm (h':=mD g3 m RE (gs og 2 m.houses.length) RG .nils .nils .nils::(gh og 51 (m.houses.length*2) (hssF m.houses.reverse)++[mZ g2,mM g1 m])) (.cons _ (List.perm_append_comm (l₁:=[_,_]))) ?_
   refine aw_frzG (j0:=3) (m:=8) (f:=(ofL (mdN m RE (gs og 2 m.houses.length) RG .nils .nils .nils))) (f':=(ofL (mdN m RE RH RG .nils .nils .nils))) (fp:=hssF m.houses.reverse) rfl hRH (fun i hi h3=>by match i,hi,h3 with|0,_,_=>rfl|1,_,_=>rfl|2,_,_=>rfl|3,_,h=>exact absurd rfl h|4,_,_=>rfl|5,_,_=>rfl|6,_,_=>rfl|7,_,_=>rfl) hog (fun g _=>hC g) ?_
   refine yS (oj F hi3) ?_
   all_goals try(have Z:=(oj F hi3);(repeat' first|refine zV Z ?_|refine zH Z (fun hb=>?_) fun hb=>?_|fail);all_goals clear Z)
   refine aw_lp (fun z:Nat×Option Nat=>[(1,.c (.optr g1 0)),(2,.c (.optr g2 0)),(3,.c (.optr g3 0)),(6,.c (.int .i64 ((m.pages.length:Int)-(z.1:Int)-1)))]) (fun z=>mD g3 m RE RH RG (gs z.2 3 z.1) .nils .nils::mZ g2::mM g1 m::gh z.2 57 (z.1*3) (pgsF ((m.pages.map turnP).reverse.take z.1))) (fun z=>z.1≤m.pages.length∧(z.2=none→z.1=0)) (fun z=>m.pages.length-z.1) (0,none) (zB F) zZ ⟨Nat.zero_le _,fun _=>rfl⟩ ?_
   rintro ⟨j,og⟩ ⟨hj,hog⟩
   dsimp only at hj hog⊢
   by_cases hjn:j<m.pages.length
   ·obtain⟨q,hq,hql,hi3⟩:=stepQ hjn
    have hm:=getD_in m.pages pg0 hql
    have hT:=mapRev_succ turnP m.pages pg0 hjn
    have hTl:=mapRev_len turnP m.pages (Nat.le_of_lt hjn)
    rw [←hq] at hT
    have hx:=hs.pg _ hm
    have hcl:=hg.pgl
    clear hm
    generalize hv:m.pages.getD q pg0=x at*
    have c1:=turnedG_fa x.gates hx.2 (by have:=hx.1;omega)
    all_goals try(have Z:=(oj F (oj hi3 hv));(repeat' first|refine zV Z ?_|refine zH Z (fun hb=>?_) fun hb=>?_|fail);all_goals clear Z)
    refine aw_cw [mD g3 m RE RH RG (gs og 3 j) .nils .nils,mM g1 m] [(0,0),(1,0),(2,0),(3,0),(4,0),(5,0),(6,0),(7,0),(8,0),(9,0),(10,0),(11,0),(12,0),(13,0),(14,0),(15,0),(16,0),(17,0),(18,0),(19,0),(20,0),(21,0),(22,1),(23,1),(24,0),(25,2)] ty_mixed (by kernel_rfl) has02 ?_
    have J6:=oj F (oj hi3 hv)
    refine yG J6 ?_
    refine cw_callq rfl c1 rfl rfl rfl (fun _ _=>(zL J6)) ?_
    refine ySG J6 ?_
    refine cw_buildSlice (xs:=[.tmp 86]) (cells:=pgc (turnP x)) rfl rfl rfl rfl (zE J6) (by refine yS J6 ?_;rfl) rfl om om qd rfl (by simp [Op.operands]) has02 (fun g87 hn_g87=> ?_) (hm:=.inr ⟨rfl,rfl⟩)
    refine yS J6 ?_
    refine cw_push (pre:=[mD g3 m RE RH RG (gs og 3 j) .nils .nils,mZ g2,mM g1 m]) (og:=og) (n:=j) (s:=66) (d1:=87) (gt:=g87) (v:=.agg (pgc (turnP x))) rfl rfl rfl rfl (zE J6) (zE J6) (by rfl) om om (zE J6) (zE J6) hog (by rfl) (by rfl) (by simp only [Nat.mul_one,List.cons_append,List.nil_append];rfl) qc om (pgs_push hTl (turnP x)) (has0_skip has02) (fun gb hn_gb=> ?_) (hm:=.inr ⟨rfl,rfl⟩)
    replace hn_g87:=Heap.ne_of hn_g87
    simp only [Heap.ne,List.cons_append,List.nil_append] at hn_g87
    rw [←hT]
    have J7:=oj F (oj hi3 (oj hv hn_g87))
    refine ySG J7 ?_
    refine cw_store (FP':=[]) rfl rfl rfl rfl rfl (zE J7) (zE J7) (zE J7) (zE J7) (fun _ e=>by cases e) rfl rfl (show 6≤8 from by omega) rfl has0_nil ?_
    refine ySG J7 ?_
    all_goals repeat' first|refine zV J7 ?_|refine zH J7 (fun hb=>?_) fun hb=>?_|fail
    exact aw_stop ⟨(j+1,some gb),by dsimp only;omega,(zB J7),List.sublist_cons_self _ _,by dsimp only;omega,fun e=>by cases e⟩
   ·obtain rfl:j=m.pages.length:=by omega
    have hi3:=stepE m.pages.length
    rw [List.take_of_length_le (mapRev_le turnP m.pages)]
    all_goals try(have Z:=(oj F hi3);(repeat' first|refine zV Z ?_|refine zH Z (fun hb=>?_) fun hb=>?_|fail);all_goals clear Z)
    refine aw_perm (h':=mD g3 m RE RH RG (gs og 3 m.pages.length) .nils .nils::(gh og 57 (m.pages.length*3) (pgsF (m.pages.map turnP).reverse)++[mZ g2,mM g1 m])) (.cons _ (List.perm_append_comm (l₁:=[_,_]))) ?_
    refine aw_frzG (j0:=5) (m:=8) (f:=(ofL (mdN m RE RH RG (gs og 3 m.pages.length) .nils .nils))) (f':=(ofL (mdN m RE RH RG RP .nils .nils))) (fp:=pgsF (m.pages.map turnP).reverse) rfl hRP (fun i hi h3=>by match i,hi,h3 with|0,_,_=>rfl|1,_,_=>rfl|2,_,_=>rfl|3,_,_=>rfl|4,_,_=>rfl|5,_,h=>exact absurd rfl h|6,_,_=>rfl|7,_,_=>rfl) hog (fun g _=>hC g) ?_
    refine yS (oj F hi3) ?_
    all_goals try(have Z:=(oj F hi3);(repeat' first|refine zV Z ?_|refine zH Z (fun hb=>?_) fun hb=>?_|fail);all_goals clear Z)
    refine aw_lp (fun z:Nat×Option Nat=>[(1,.c (.optr g1 0)),(2,.c (.optr g2 0)),(3,.c (.optr g3 0)),(7,.c (.int .i64 ((m.groups.length:Int)-(z.1:Int)-1)))]) (fun z=>mD g3 m RE RH RG RP (gs z.2 4 z.1) .nils::mZ g2::mM g1 m::gh z.2 55 (z.1*4) (grsF ((m.groups.map turnR).reverse.take z.1))) (fun z=>z.1≤m.groups.length∧(z.2=none→z.1=0)) (fun z=>m.groups.length-z.1) (0,none) (zB F) zZ ⟨Nat.zero_le _,fun _=>rfl⟩ ?_
    rintro ⟨j,og⟩ ⟨hj,hog⟩
    dsimp only at hj hog⊢
    by_cases hjn:j<m.groups.length
    ·obtain⟨q,hq,hql,hi3⟩:=stepQ hjn
     have hm:=getD_in m.groups gr0 hql
     have hT:=mapRev_succ turnR m.groups gr0 hjn
     have hTl:=mapRev_len turnR m.groups (Nat.le_of_lt hjn)
     rw [←hq] at hT
     have hx:=(hs.gr _ hm).1
     have hcl:=hg.grl
     clear hm
     generalize hv:m.groups.getD q gr0=x at*
     have c1:=turned_fa true x.members om
     all_goals try(have Z:=(oj F (oj hi3 hv));(repeat' first|refine zV Z ?_|refine zH Z (fun hb=>?_) fun hb=>?_|fail);all_goals clear Z)
     refine yA (oj F (oj hi3 hv)) fun g8 hn_g8=>?_
     obtain⟨nm,kd,mb,fc⟩:=x
     dsimp only at*
     all_goals try(have Z:=(oj F (oj hi3 (oj hv hn_g8)));(repeat' first|refine zV Z ?_|(refine yC2 Z (c1) ?_)|(refine yD2 Z (c1) ?_)|refine zH Z (fun hb=>?_) fun hb=>?_|fail);all_goals clear Z)
     refine aw_push (pre:=[(g8,.cells 55 4 (ofL (grc (turnR ⟨nm,kd,mb,fc⟩)))),mD g3 m RE RH RG RP (gs og 4 j) .nils,mZ g2,mM g1 m]) rfl rfl rfl rfl rfl rfl rfl (zE (oj F (oj hi3 (oj hv hn_g8)))) (zE (oj F (oj hi3 (oj hv hn_g8)))) (by rfl) om om (zE (oj F (oj hi3 (oj hv hn_g8)))) om (by exact hog) (zE (oj F (oj hi3 (oj hv hn_g8)))) (by rfl) (by rfl) qb qc om (by exact grs_push hTl (turnR ⟨nm,kd,mb,fc⟩)) fun gq hn_gq=> ?_
     replace hn_gq:=Heap.ne_of hn_gq
     first|dsimp only [Heap.ne,gh] at hn_gq|dsimp only [Heap.ne] at hn_gq|skip
     have J8:=oj F (oj hi3 (oj hv (oj hn_g8 hn_gq)))
     refine yS J8 ?_
     rw [←hT]
     all_goals repeat' first|refine zV J8 ?_|refine zH J8 (fun hb=>?_) fun hb=>?_|fail
     exact aw_stop ⟨(j+1,some gq),by dsimp only;omega,(zB J8),List.sublist_cons_self _ _,by dsimp only;omega,fun e=>by cases e⟩
    ·obtain rfl:j=m.groups.length:=by omega
     have hi3:=stepE m.groups.length
     rw [List.take_of_length_le (mapRev_le turnR m.groups)]
     all_goals try(have Z:=(oj F hi3);(repeat' first|refine zV Z ?_|refine zH Z (fun hb=>?_) fun hb=>?_|fail);all_goals clear Z)
     refine aw_perm (h':=mD g3 m RE RH RG RP (gs og 4 m.groups.length) .nils::(gh og 55 (m.groups.length*4) (grsF (m.groups.map turnR).reverse)++[mZ g2,mM g1 m])) (.cons _ (List.perm_append_comm (l₁:=[_,_]))) ?_
     refine aw_frzG (j0:=6) (m:=8) (f:=(ofL (mdN m RE RH RG RP (gs og 4 m.groups.length) .nils))) (f':=(ofL (mdN m RE RH RG RP RR .nils))) (fp:=grsF (m.groups.map turnR).reverse) rfl hRR (fun i hi h3=>by match i,hi,h3 with|0,_,_=>rfl|1,_,_=>rfl|2,_,_=>rfl|3,_,_=>rfl|4,_,_=>rfl|5,_,_=>rfl|6,_,h=>exact absurd rfl h|7,_,_=>rfl) hog (fun g _=>hC g) ?_
     refine yS (oj F hi3) ?_
     all_goals try(have Z:=(oj F hi3);(repeat' first|refine zV Z ?_|refine zH Z (fun hb=>?_) fun hb=>?_|fail);all_goals clear Z)
     refine aw_lp (fun z:Nat×Option Nat=>[(1,.c (.optr g1 0)),(2,.c (.optr g2 0)),(3,.c (.optr g3 0)),(114,.c (phs true m.phases)),(115,.c (.int .i64 m.phases.length)),(116,.c (.int .i64 z.1))]) (fun z=>mD g3 m RE RH RG RP RR (gs z.2 3 z.1)::mZ g2::mM g1 m::gh z.2 66 (z.1*3) (phsF ((m.phases.map turnH).take z.1))) (fun z=>z.1≤m.phases.length∧(z.2=none→z.1=0)) (fun z=>m.phases.length-z.1) (0,none) (zB F) zZ ⟨Nat.zero_le _,fun _=>rfl⟩ ?_
     rintro ⟨j,og⟩ ⟨hj,hog⟩
     dsimp only at hj hog⊢
     by_cases hjn:j<m.phases.length
     ·have d1:decide (j<m.phases.length)=true:=decide_eq_true hjn
      have hm:=getD_in m.phases ph0 hjn
      have hx:=hs.ph _ hm
      have hT:=mapTake_succ turnH m.phases ph0 hjn
      have hTl:=mapTake_len turnH m.phases (Nat.le_of_lt hjn)
      have hphl:=hg.phl
      clear hm
      generalize hv:m.phases.getD j ph0=x at*
      obtain⟨hx1,hx3⟩:=hx
      have nV:x.values.length≤1099511627776:=by omega
      obtain⟨HG,hHG⟩:∃HG:Heap,HG=gh og 66 (j*3) (phsF ((m.phases.map turnH).take j)):=⟨_,rfl⟩
      rw [←hHG]
      all_goals try(have Z:=(oj F (oj d1 hv));(repeat' first|refine zV Z ?_|refine zH Z (fun hb=>?_) fun hb=>?_|fail);all_goals clear Z)
      refine yA (oj F (oj d1 hv)) fun g10 hn_g10=>?_
      all_goals try(have Z:=(oj F (oj d1 (oj hv hn_g10)));(repeat' first|refine zV Z ?_|refine zH Z (fun hb=>?_) fun hb=>?_|fail);all_goals clear Z)
      refine yA (oj F (oj d1 (oj hv hn_g10))) fun g11 hn_g11=>?_
      all_goals try(have Z:=(oj F (oj d1 (oj hv (oj hn_g10 hn_g11))));(repeat' first|refine zV Z ?_|refine zH Z (fun hb=>?_) fun hb=>?_|fail);all_goals clear Z)
      refine aw_lp (fun z:Nat×Option Nat=>[(1,.c (.optr g1 0)),(2,.c (.optr g2 0)),(3,.c (.optr g3 0)),(10,.c (.optr g10 0)),(11,.c (.optr g11 0)),(114,.c (phs true m.phases)),(115,.c (.int .i64 m.phases.length)),(116,.c (.int .i64 j)),(12,.c (.int .i64 ((x.values.length:Int)-(z.1:Int)-1)))]) (fun z=>(g11,.cells 66 3 (ofL [.str (sB x.name),.str (sB x.top),gs z.2 4 z.1]))::(g10,.cells 66 3 (ofL (phc x)))::mD g3 m RE RH RG RP RR (gs og 3 j)::mZ g2::mM g1 m::(HG++gh z.2 68 (z.1*4) (vlsF (x.values.reverse.take z.1)))) (fun z=>z.1≤x.values.length∧(z.2=none→z.1=0)) (fun z=>x.values.length-z.1) (0,none) (zB (oj F (oj d1 (oj hv (oj hn_g10 hn_g11))))) (by show List.Sublist ((g11,.cells 66 3 (ofL [.str (sB x.name),.str (sB x.top),.nils]))::(g10,.cells 66 3 (ofL (phc x)))::mD g3 m RE RH RG RP RR (gs og 3 j)::mZ g2::mM g1 m::(HG++[])) _;rw [List.append_nil];exact List.Sublist.refl _) ⟨Nat.zero_le _,fun _=>rfl⟩ ?_
      rintro ⟨k,ok⟩ ⟨hk,hok⟩
      dsimp only at hk hok⊢
      by_cases hkn:k<x.values.length
      ·obtain⟨q,hq,hql,hi3⟩:=stepQ hkn
       have hU:=rev_succ x.values vl0 hkn
       have hUl:=rev_len x.values (Nat.le_of_lt hkn)
       rw [←hq] at hU
       generalize hv3:x.values.getD q vl0=v at*
       all_goals try(have Z:=(oj F (oj d1 (oj hv (oj hn_g10 (oj hn_g11 (oj hi3 hv3))))));(repeat' first|refine zV Z ?_|refine zH Z (fun hb=>?_) fun hb=>?_|fail);all_goals clear Z)
       refine aw_cw [(g11,.cells 66 3 (ofL [.str (sB x.name),.str (sB x.top),gs ok 4 k])),(g10,.cells 66 3 (ofL (phc x)))] [(0,0),(1,0),(2,0),(3,0),(4,0),(5,0),(6,0),(7,1),(8,1),(9,0),(10,2)] ty_mixed (by kernel_rfl) has02 ?_
       have J9:=oj F (oj d1 (oj hv (oj hn_g10 (oj hn_g11 (oj hi3 hv3)))))
       refine yG J9 ?_
       refine cw_buildSlice (xs:=[.tmp 139]) (cells:=vlc v) rfl rfl rfl rfl (zE J9) (by refine yS J9 ?_;rfl) rfl om om qd rfl (by simp [Op.operands]) has02 (fun g140 hn_g140=> ?_) (hm:=.inr ⟨rfl,rfl⟩)
       refine yS J9 ?_
       refine cw_push (pre:=[(g11,.cells 66 3 (ofL [.str (sB x.name),.str (sB x.top),gs ok 4 k])),(g10,.cells 66 3 (ofL (phc x))),mD g3 m RE RH RG RP RR (gs og 3 j),mZ g2,mM g1 m]++HG) (og:=ok) (n:=k) (s:=134) (d1:=140) (gt:=g140) (v:=.agg (vlc v)) rfl rfl rfl rfl (zE J9) (zE J9) (by rfl) om om (zE J9) (zE J9) hok (by rfl) (by rfl) (by simp only [Nat.mul_one,List.cons_append,List.nil_append];rfl) qc om (vls_push hUl v) (has0_skip has02) (fun gb hn_gb=> ?_) (hm:=.inr ⟨rfl,rfl⟩)
       replace hn_g140:=Heap.ne_of hn_g140
       simp only [Heap.ne,List.cons_append,List.nil_append] at hn_g140
       rw [←hU]
       simp only [List.cons_append,List.nil_append]
       have J10:=oj F (oj d1 (oj hv (oj hn_g10 (oj hn_g11 (oj hi3 (oj hv3 hn_g140))))))
       refine ySG J10 ?_
       refine cw_store (FP':=[]) rfl rfl rfl rfl rfl (zE J10) (zE J10) (zE J10) (zE J10) (fun _ e=>by cases e) rfl rfl (show 3≤3 from by omega) rfl has0_nil ?_
       refine ySG J10 ?_
       all_goals repeat' first|refine zV J10 ?_|refine zH J10 (fun hb=>?_) fun hb=>?_|fail
       exact aw_stop ⟨(k+1,some gb),by dsimp only;omega,(zB J10),List.sublist_cons_self _ _,by dsimp only;omega,fun e=>by cases e⟩
      ·obtain rfl:k=x.values.length:=by omega
       have hi3:=stepE x.values.length
       have hvl:x.values.reverse.length=x.values.length:=List.length_reverse
       rw [List.take_of_length_le (Nat.le_of_eq hvl)]
       refine aw_perm (h':=(g11,.cells 66 3 (ofL [.str (sB x.name),.str (sB x.top),gs ok 4 x.values.length]))::(gh ok 68 (x.values.length*4) (vlsF x.values.reverse)++((g10,.cells 66 3 (ofL (phc x)))::mD g3 m RE RH RG RP RR (gs og 3 j)::mZ g2::mM g1 m::HG))) (.cons _ (List.perm_append_comm (l₁:=(g10,.cells 66 3 (ofL (phc x)))::mD g3 m RE RH RG RP RR (gs og 3 j)::mZ g2::mM g1 m::HG))) ?_
       refine aw_frzG (j0:=2) (m:=3) (f:=ofL [.str (sB x.name),.str (sB x.top),gs ok 4 x.values.length]) (f':=ofL (phc (turnH x))) (fp:=vlsF x.values.reverse) rfl (by show CV.row true 4 x.values.reverse.length _=CV.row true 4 _ _;rw [hvl];rfl) (fun i hi h3=>by match i,hi,h3 with|0,_,_=>rfl|1,_,_=>rfl|2,_,h=>exact absurd rfl h) hok (fun g _=>hC g) ?_
       rw [hHG]
       have J11:=oj F (oj d1 (oj hv (oj hn_g10 (oj hn_g11 hi3))))
       refine yS J11 ?_
       all_goals repeat' first|refine zV J11 ?_|refine zH J11 (fun hb=>?_) fun hb=>?_|fail
       refine aw_push (pre:=[(g11,.cells 66 3 (ofL (phc (turnH x)))),(g10,.cells 66 3 (ofL (phc x))),mD g3 m RE RH RG RP RR (gs og 3 j),mZ g2,mM g1 m]) rfl rfl rfl rfl rfl rfl rfl (zE J11) (zE J11) (by rfl) om om (zE J11) om (by exact hog) (zE J11) (by rfl) (by rfl) qb qc om (by exact phs_push hTl (turnH x)) fun gq hn_gq=> ?_
       replace hn_gq:=Heap.ne_of hn_gq
       first|dsimp only [Heap.ne,gh] at hn_gq|dsimp only [Heap.ne] at hn_gq|skip
       have J12:=oj F (oj d1 (oj hv (oj hn_g10 (oj hn_g11 (oj hi3 hn_gq)))))
       refine yS J12 ?_
       rw [←hT]
       all_goals repeat' first|refine zV J12 ?_|refine zH J12 (fun hb=>?_) fun hb=>?_|fail
       exact aw_stop ⟨(j+1,some gq),by dsimp only;omega,(zB J12),(.cons _ (List.sublist_cons_self _ _)),by dsimp only;omega,fun e=>by cases e⟩
     ·have d1:decide (j<m.phases.length)=false:=decide_eq_false hjn
      obtain rfl:j=m.phases.length:=by omega
      rw [List.take_of_length_le (show(m.phases.map turnH).length≤m.phases.length by rw [List.length_map];exact Nat.le_refl _)]
      refine aw_perm (h':=mD g3 m RE RH RG RP RR (gs og 3 m.phases.length)::(gh og 66 (m.phases.length*3) (phsF (m.phases.map turnH))++[mZ g2,mM g1 m])) (.cons _ (List.perm_append_comm (l₁:=[_,_]))) ?_
      refine aw_frzG (j0:=7) (m:=8) (f:=(ofL (mdN m RE RH RG RP RR (gs og 3 m.phases.length)))) (f':=(ofL (mdN m RE RH RG RP RR RS))) (fp:=phsF (m.phases.map turnH)) rfl hRS (fun i hi h3=>by match i,hi,h3 with|0,_,_=>rfl|1,_,_=>rfl|2,_,_=>rfl|3,_,_=>rfl|4,_,_=>rfl|5,_,_=>rfl|6,_,_=>rfl|7,_,h=>exact absurd rfl h) hog (fun g _=>hC g) ?_
      refine yS F ?_
      have ze:RE=evs true m.events.reverse:=by rw [hRE];show _=CV.row true _ _ _;rw [List.length_reverse]
      have zh:RH=hss true m.houses.reverse:=by rw [hRH];show _=CV.row true _ _ _;rw [List.length_reverse]
      have zp:RP=pgs true (m.pages.map turnP).reverse:=by rw [hRP];show _=CV.row true _ _ _;rw [List.length_reverse,List.length_map]
      have zr:RR=grs true (m.groups.map turnR).reverse:=by rw [hRR];show _=CV.row true _ _ _;rw [List.length_reverse,List.length_map]
      have zs:RS=phs true (m.phases.map turnH):=by rw [hRS];show _=CV.row true _ _ _;rw [List.length_map]
      rw [ze,zh,zp,zr,zs,hRG]
      all_goals try(have Z:=(oj F d1);(repeat' first|refine zV Z ?_|refine zH Z (fun hb=>?_) fun hb=>?_|fail);all_goals clear Z)
      refine yT hC (oj F d1) ?_
      exact .one (.agg (lerl_md (x:=turnM m)))
end Go.Proofs.YtnmeahogifekdaaGreatDoor
namespace Go.Proofs.YtnmeahogifekdaaGreatDoor
open Go.AI Go.PN
attribute [local irreducible] aw Fa Fh DrK
theorem lawPrCanon_fa (m:MdD) {n:Nat} (hu:MdU n m) (hn:n≤1048576):Fa Tryz.prog 5 [.agg (mdc true m)] (.c (.bool true)):=by
 have f0:=awake24_fa
 have f1:=light_fa m hu hn
 have e0:errA 0=.nilI:=if_pos rfl
 by_cases hl:lightB m=true
 ·have ho:=light_o hl hu hn
  have f2:=check_fa m ho
  rw [hl] at f1
  by_cases h0:mcC m=0
  ·have hg:=mcC_good h0
   have hgN:=good_of (normM_r m) hg
   have f3:=pnorm_fa m ho
   have hoN:=mdO_re (normM_r m) ho
   have hcN:=mcC_of (normM_r m) h0
   have hoP:=mdO_re (turnM_r m) ho
   have hcP:=mcC_of (turnM_r m) h0
   have f4:=pnorm_fa (normM m) hoN
   have f5:=turnM_fa m hg (mdN_of ho hg)
   have f6:=pnorm_fa (turnM m) hoP
   have f7:=check_fa (normM m) hoN
   have f8:=same_fa (normM m) (normM m) hoN hoN
   rw [if_pos h0,h0,e0] at f3
   rw [if_pos hcN,hcN,norm_norm hg,e0] at f4
   rw [if_pos hcP,hcP,norm_turn hg,e0] at f6
   rw [hcN,e0] at f7
   rw [decide_eq_true rfl] at f8
   rw [h0,e0] at f2
   obtain⟨l1,l2,l3,l4,l5⟩:=norm_len m
   have nE:m.events.length≤1099511627776:=Nat.le_trans hg.evl (by decide)
   have nG:m.gates.length≤1099511627776:=Nat.le_trans ho.gt.1 (by decide)
   have nS:m.phases.length≤1099511627776:=Nat.le_trans hg.phl (by decide)
   generalize normM m=N at*
   generalize turnM m=P at*
   clear hgN hoN hcN hoP hcP hg
   have nE2:N.events.length≤1099511627776:=by omega
   have nG2:N.gates.length≤1099511627776:=by omega
   have nS2:N.phases.length≤1099511627776:=by omega
   obtain⟨nm,tp,ne,nh,ng,np,nr,ns⟩:=N
   dsimp only at l1 l2 l3 l4 l5 nE2 nG2 nS2
   subst l1 l2
   refine fa_of_body Tryz.func5 rfl rfl (by simp [Tryz.ntmps5]) fun C hC=> ?_
   simp only [initS,Nat.reduceAdd]
   repeat' first|refine zV o0 ?_|refine zH o0 (fun hb=>?_) fun hb=>?_|fail
   refine xB fun g1 hn_g1=>?_
   repeat' first|refine zV hn_g1 ?_|(refine yC2 hn_g1 (f0) ?_)|(refine yD2 hn_g1 (f0) ?_)|(refine yC2 hn_g1 (f1) ?_)|(refine yD2 hn_g1 (f1) ?_)|(refine yC2 hn_g1 (f2) ?_)|(refine yD2 hn_g1 (f2) ?_)|(refine yC2 hn_g1 (f3) ?_)|(refine yD2 hn_g1 (f3) ?_)|refine zH hn_g1 (fun hb=>?_) fun hb=>?_|fail
   refine yA hn_g1 fun g3 hn_g3=>?_
   all_goals try(have Z:=(oj hn_g1 hn_g3);(repeat' first|refine zV Z ?_|(refine yC2 Z (f3) ?_)|(refine yD2 Z (f3) ?_)|(refine yC2 Z (f4) ?_)|(refine yD2 Z (f4) ?_)|refine zH Z (fun hb=>?_) fun hb=>?_|fail);all_goals clear Z)
   refine yA (oj hn_g1 hn_g3) fun g5 hn_g5=>?_
   all_goals try(have Z:=(oj hn_g1 (oj hn_g3 hn_g5));(repeat' first|refine zV Z ?_|(refine yC2 Z (f4) ?_)|(refine yD2 Z (f4) ?_)|(refine yC2 Z (f5) ?_)|(refine yD2 Z (f5) ?_)|(refine yC2 Z (f6) ?_)|(refine yD2 Z (f6) ?_)|refine zH Z (fun hb=>?_) fun hb=>?_|fail);all_goals clear Z)
   refine yA (oj hn_g1 (oj hn_g3 hn_g5)) fun g7 hn_g7=>?_
   all_goals try(have Z:=(oj hn_g1 (oj hn_g3 (oj hn_g5 (oj hn_g7 (oj l3 (oj l4 l5))))));(repeat' first|refine zV Z ?_|(refine yC2 Z (f7) ?_)|(refine yD2 Z (f7) ?_)|(refine yC2 Z (f8) ?_)|(refine yD2 Z (f8) ?_)|refine zH Z (fun hb=>?_) fun hb=>?_|fail);all_goals clear Z)
   ·refine yT hC (oj hn_g1 (oj hn_g3 (oj hn_g5 (oj hn_g7 (oj l3 (oj l4 l5)))))) ?_
    exact .one (.c (ler_bool (by simp)))
   all_goals exact absurd rfl hb
  ·have hc:(!decide (mcC m=0))=true:=by rw [decide_eq_false h0];rfl
   refine fa_of_body Tryz.func5 rfl rfl (by simp [Tryz.ntmps5]) fun C hC=> ?_
   simp only [initS,Nat.reduceAdd]
   repeat' first|refine zV o0 ?_|refine zH o0 (fun hb=>?_) fun hb=>?_|fail
   refine xB fun g1 hn_g1=>?_
   all_goals try(have Z:=(oj hn_g1 hc);(repeat' first|refine zV Z ?_|(refine yC2 Z (f0) ?_)|(refine yD2 Z (f0) ?_)|(refine yC2 Z (f1) ?_)|(refine yD2 Z (f1) ?_)|(refine yC2 Z (f2) ?_)|(refine yD2 Z (f2) ?_)|refine zH Z (fun hb=>?_) fun hb=>?_|fail);all_goals clear Z)
   refine yT hC (oj hn_g1 hc) ?_
   exact .one (.c (.bool _))
 ·have hl':lightB m=false:=by simpa using hl
  rw [hl'] at f1
  refine fa_of_body Tryz.func5 rfl rfl (by simp [Tryz.ntmps5]) fun C hC=> ?_
  simp only [initS,Nat.reduceAdd]
  repeat' first|refine zV o0 ?_|refine zH o0 (fun hb=>?_) fun hb=>?_|fail
  refine xB fun g1 hn_g1=>?_
  repeat' first|refine zV hn_g1 ?_|(refine yC2 hn_g1 (f0) ?_)|(refine yD2 hn_g1 (f0) ?_)|(refine yC2 hn_g1 (f1) ?_)|(refine yD2 hn_g1 (f1) ?_)|refine zH hn_g1 (fun hb=>?_) fun hb=>?_|fail
  refine yT hC hn_g1 ?_
  exact .one (.c (.bool _))
end Go.Proofs.YtnmeahogifekdaaGreatDoor
