/- Parts of one proof, laid by a program. -/
import Derived.Test.YtnmeahogifekdaaGreatDoorM00
import Derived.Test.YtnmeahogifekdaaGreatDoorM13
import Derived.Test.YtnmeahogifekdaaGreatDoorM15
set_option linter.unusedSimpArgs false
set_option linter.unusedVariables false
set_option maxRecDepth 100000
set_option maxHeartbeats 12800000
namespace Go.Proofs.YtnmeahogifekdaaGreatDoor
open Go.AI Go.PN
attribute [local irreducible] aw Fa Fh DrK
theorem gates22_fa (m:MdD) (k:Nat) (hk:k≤m.pages.length) (hl:m.pages.length≤1099511627776):Fa Tryz.prog 16 [.agg (mdc true m),.c (.int .i64 ((k:Int)-1))] (.c (gts true (gtsK m k))):=by
 refine fa_of_body Tryz.func16 rfl rfl (by simp [Tryz.ntmps16]) fun C hC=> ?_
 simp only [initS,Nat.reduceAdd]
 repeat' first|refine zV o0 ?_|refine zH o0 (fun hb=>?_) fun hb=>?_|fail
 refine xB fun g1 hn_g1=>?_
 repeat' first|refine zV hn_g1 ?_|refine zH hn_g1 (fun hb=>?_) fun hb=>?_|fail
 ·have h0:k=0:=by omega
  subst h0
  refine yT hC hn_g1 ?_
  exact .one (.c ler_gts)
 ·obtain⟨j,rfl⟩:∃j,k=j+1:=⟨k-1,by omega⟩
  refine yT hC hn_g1 ?_
  exact .one (.c ler_gts)
end Go.Proofs.YtnmeahogifekdaaGreatDoor
namespace Go.PN
open Go.AI
variable {α β : Type}
theorem inpR_perm {k:Int} {l l':List BS} (h:InpR k l l'):l'.Perm l:=by
 unfold InpR at h
 split at h
 ·exact h
 split at h
 ·rw [←List.take_append_drop 1 l',←List.take_append_drop 1 l,h.1]
  exact h.2.append_left _
 ·rw [h]
theorem normI_r (k:Int) (l:List BS):InpR k l (normI k l):=by
 unfold InpR normI
 split
 ·exact sortK_perm id l
 split
 ·cases l with
  |nil=>exact⟨rfl,.refl _⟩
  |cons a r=>exact⟨rfl,sortK_perm id r⟩
 ·rfl
theorem normG_r (g:GtD):ReG g (normG g):=⟨rfl,rfl,rfl,rfl,normI_r _ _⟩
theorem normL_r (l:List GtD):ReL l (normL l):=⟨normG,fun g _=>normG_r g,sortK_perm _ _⟩
theorem normM_r (m:MdD):ReM m (normM m):=
 ⟨rfl,rfl,sortK_perm _ _,sortK_perm _ _,normL_r _,⟨normP,fun x _=>⟨rfl,rfl,normL_r _⟩,sortK_perm _ _⟩,⟨normR,fun x _=>⟨rfl,rfl,rfl,sortK_perm _ _⟩,sortK_perm _ _⟩,⟨normH,fun x _=>⟨rfl,rfl,sortK_perm _ _⟩,rfl⟩⟩
theorem map_perm_of {f:α→β} {h:α→α} {L L':List α} (hh:∀g∈L,f (h g)=f g) (hp:L'.Perm (L.map h)):(L'.map f).Perm (L.map f):=by
 have e:(L.map h).map f=L.map f:=by
  rw [List.map_map]
  exact List.map_congr_left hh
 rw [←e]
 exact hp.map f
theorem gnN_perm {L L':List GtD} (h:ReL L L'):(gnN L').Perm (gnN L):=by
 obtain⟨h,h1,h2⟩:=h
 exact map_perm_of (fun g hg=>(h1 g hg).nm) h2
theorem inN_of {m m':MdD} {L L':List GtD} (h1:∀n,n∈evN m↔n∈evN m') (h2:∀n,n∈hsN m↔n∈hsN m') (h3:∀n,n∈pgN m↔n∈pgN m') (h4:∀n,n∈gnN L↔n∈gnN L') (i:BS):InN m L i↔InN m' L' i:=by
 unfold InN
 rw [h1,h2,h3,h4]
theorem shp_of {g g':GtD} (h:ReG g g'):shpC g'=shpC g:=by
 unfold shpC
 rw [h.kd,h.k,h.dm,(inpR_perm h.inp).length_eq]
theorem sp_of {g g':GtD} (h:ReG g g'):spOf g'=spOf g:=by
 unfold spOf
 rw [h.kd]
 by_cases e:g.kind=7
 ·rw [if_pos e,if_pos e]
  have:=h.inp
  unfold InpR freeK at this
  rw [e,if_neg (by decide),if_neg (by decide)] at this
  exact this
 ·rw [if_neg e,if_neg e]
theorem gtA_of {m m':MdD} {L L':List GtD} (h1:∀n,n∈evN m↔n∈evN m') (h2:∀n,n∈hsN m↔n∈hsN m') (h3:∀i,InN m L i↔InN m' L' i) {g g':GtD} (h:ReG g g') (ha:GtA m L g):GtA m' L' g':=by
 obtain⟨a1,a2,a3,a4,a5,a6,a7⟩:=ha
 have hp:=inpR_perm h.inp
 refine⟨by rw [h.nm];exact a1,by rw [h.nm,←h1];exact a2,by rw [h.nm,←h2];exact a3,by rw [shp_of h];exact a4,fun i hi=>(h3 i).1 (a5 i (hp.mem_iff.1 hi)),fun e i hi=>(h1 i).1 (a6 (by rw [←h.kd];exact e) i (hp.mem_iff.1 hi)),fun e i hi=>(h1 i).1 (a7 (by rw [←h.kd];exact e) i ?_)⟩
 have:=h.inp
 unfold InpR freeK at this
 rw [h.kd] at e
 rw [e,if_neg (by decide),if_pos rfl] at this
 exact this.2.mem_iff.1 hi
theorem gsA_of {m m':MdD} {L L':List GtD} (h1:∀n,n∈evN m↔n∈evN m') (h2:∀n,n∈hsN m↔n∈hsN m') (h3:∀n,n∈pgN m↔n∈pgN m') (h:ReL L L') (ha:GsA m L):GsA m' L':=by
 have hn:=gnN_perm h
 have hi:=inN_of h1 h2 h3 (fun n=>hn.mem_iff.symm)
 obtain⟨f,f1,f2⟩:=h
 refine⟨hn.nodup_iff.2 ha.1,fun g' hg'=> ?_⟩
 obtain⟨g,hg,rfl⟩:=List.mem_map.1 (f2.mem_iff.1 hg')
 exact gtA_of h1 h2 hi (f1 g hg) (ha.2 g hg)
theorem flat_perm {f:α→List β} {h:α→α} {L L':List α} (hh:∀g∈L,(f (h g)).Perm (f g)) (hp:L'.Perm (L.map h)):(L'.flatMap f).Perm (L.flatMap f):=by
 refine(hp.flatMap_right f).trans ?_
 rw [List.flatMap_map]
 clear hp
 induction L with
 |nil=>exact .refl _
 |cons x L ih=>
  rw [List.flatMap_cons,List.flatMap_cons]
  exact(hh x List.mem_cons_self).append (ih fun g hg=>hh g (List.mem_cons_of_mem _ hg))
theorem gtN_len (m:MdD):gtN m=m.gates.length+(m.pages.flatMap fun p=>p.gates.map fun _=>()).length:=by
 unfold gtN
 rw [List.length_flatMap]
 congr 2
 simp
theorem reL_len {L L':List GtD} (h:ReL L L'):L'.length=L.length:=by
 obtain⟨f,_,f2⟩:=h
 rw [f2.length_eq,List.length_map]
theorem good_of {m m':MdD} (h:ReM m m') (g:Good m):Good m':=by
 obtain⟨hp,p1,p2⟩:=h.pg
 obtain⟨hr,r1,r2⟩:=h.gr
 obtain⟨hh,q1,q2⟩:=h.ph
 have n1:(evN m').Perm (evN m):=h.ev.map _
 have n2:(hsN m').Perm (hsN m):=h.hs.map _
 have n3:(pgN m').Perm (pgN m):=map_perm_of (fun x hx=>(p1 x hx).nm) p2
 have m1:∀n,n∈evN m↔n∈evN m':=fun n=>n1.mem_iff.symm
 have m2:∀n,n∈hsN m↔n∈hsN m':=fun n=>n2.mem_iff.symm
 have m3:∀n,n∈pgN m↔n∈pgN m':=fun n=>n3.mem_iff.symm
 have m4:∀i,InN m m.gates i↔InN m' m'.gates i:=inN_of m1 m2 m3 fun n=>(gnN_perm h.gt).mem_iff.symm
 have lp:m'.pages.length=m.pages.length:=by rw [p2.length_eq,List.length_map]
 refine⟨by rw [h.nm];exact g.nm,by rw [h.ev.length_eq];exact g.evl,fun x hx=>g.ev x (h.ev.mem_iff.1 hx),n1.nodup_iff.2 g.evn,by rw [h.hs.length_eq];exact g.hsl,fun x hx=>⟨(g.hs x (h.hs.mem_iff.1 hx)).1,fun z=>(g.hs x (h.hs.mem_iff.1 hx)).2 ((m1 _).2 z)⟩,n2.nodup_iff.2 g.hsn,by rw [lp];exact g.pgl,?_,fun x' hx'=> ?_,n3.nodup_iff.2 g.pgn,gsA_of m1 m2 m3 h.gt g.gt,?_,by rw [h.tp];exact(m4 _).1 g.tp,by rw [r2.length_eq,List.length_map];exact g.grl,fun x' hx'=> ?_,(map_perm_of (f:=GrD.name) (fun x hx=>(r1 x hx).nm) r2).nodup_iff.2 g.grn,(flat_perm (f:=GrD.members) (fun x hx=>(r1 x hx).me) r2).nodup_iff.2 g.grm,by rw [q2,List.length_map];exact g.phl,fun x' hx'=> ?_,?_⟩
 ·have e:=g.gtl
  rw [gtN_len] at e⊢
  rw [reL_len h.gt,(flat_perm (f:=fun p:PgD=>p.gates.map fun _=>()) (fun x hx=>by
   have l1:=reL_len (p1 x hx).gt
   have:∀(a b:List GtD),a.length=b.length→(a.map fun _=>())=b.map fun _=>():=fun a b hab=>List.ext_getElem (by simpa using hab) fun i _ _=>rfl
   rw [this _ _ l1]) p2).length_eq]
  exact e
 ·obtain⟨x,hx,rfl⟩:=List.mem_map.1 (p2.mem_iff.1 hx')
  obtain⟨a1,a2,a3⟩:=g.pg x hx
  have hx2:=p1 x hx
  refine⟨by rw [hx2.nm];exact a1,gsA_of m1 m2 m3 hx2.gt a2,?_⟩
  rw [hx2.tp]
  exact a3.imp (fun z=>(gnN_perm hx2.gt).mem_iff.2 z) fun z=>(m1 _).1 z
 ·have s1:(m'.gates.flatMap spOf).Perm (m.gates.flatMap spOf):=by
   obtain⟨f,f1,f2⟩:=h.gt
   exact flat_perm (fun x hx=>by rw [sp_of (f1 x hx)]) f2
  have s2:(m'.pages.flatMap fun p=>p.gates.flatMap spOf).Perm (m.pages.flatMap fun p=>p.gates.flatMap spOf):=flat_perm (f:=fun p:PgD=>p.gates.flatMap spOf) (fun x hx=>by
   obtain⟨f,f1,f2⟩:=(p1 x hx).gt
   exact flat_perm (fun x hx=>by rw [sp_of (f1 x hx)]) f2) p2
  have e:=g.sp
  rw [List.flatMap_append,List.flatMap_assoc] at e⊢
  exact(s1.append s2).nodup_iff.2 e
 ·obtain⟨x,hx,rfl⟩:=List.mem_map.1 (r2.mem_iff.1 hx')
  obtain⟨a1,a2,a3,a4,a5⟩:=g.gr x hx
  have hx2:=r1 x hx
  refine⟨by rw [hx2.nm];exact a1,by rw [hx2.kd];exact a2,?_,fun n hn=>(m1 n).1 (a4 n (hx2.me.mem_iff.1 hn)),by rw [hx2.fa];exact a5⟩
  rw [hx2.kd,hx2.fa,hx2.me.length_eq]
  exact a3
 ·rw [q2] at hx'
  obtain⟨x,hx,rfl⟩:=List.mem_map.1 hx'
  obtain⟨a1,a2,a3,a4⟩:=g.ph x hx
  have hx2:=q1 x hx
  refine⟨by rw [hx2.nm];exact a1,by rw [hx2.tp];exact(m4 _).1 a2,fun v hv=> ?_,(hx2.vl.map _).nodup_iff.2 a4⟩
  obtain⟨b1,b2⟩:=a3 v (hx2.vl.mem_iff.1 hv)
  exact⟨(m1 _).1 b1,b2⟩
 ·rw [q2,List.map_map]
  have:m.phases.map (PhD.name∘hh)=m.phases.map PhD.name:=List.map_congr_left fun x hx=>(q1 x hx).nm
  rw [this]
  exact g.phn
end Go.PN
namespace Go.PN
open Go.AI
variable {α : Type}
theorem gtO_re {g g':GtD} (h:ReG g g') (ho:GtO g):GtO g':=by
 obtain⟨o1,o2,o3,o4⟩:=ho
 have hp:=inpR_perm h.inp
 exact⟨by rw [h.nm];exact o1,by rw [h.dm];exact o2,by rw [hp.length_eq];exact o3,fun i hi=>o4 i (hp.mem_iff.1 hi)⟩
theorem gsO_re {L L':List GtD} (h:ReL L L') (ho:L.length≤NG∧∀g∈L,GtO g):L'.length≤NG∧∀g∈L',GtO g:=by
 refine⟨by rw [reL_len h];exact ho.1,fun g hg=> ?_⟩
 obtain⟨f,f1,f2⟩:=h
 obtain⟨x,hx,rfl⟩:=List.mem_map.1 (f2.mem_iff.1 hg)
 exact gtO_re (f1 x hx) (ho.2 x hx)
theorem mdO_re {m m':MdD} (h:ReM m m') (ho:MdO m):MdO m':=by
 obtain⟨hp,p1,p2⟩:=h.pg
 obtain⟨hr,r1,r2⟩:=h.gr
 obtain⟨hh,q1,q2⟩:=h.ph
 refine⟨by rw [h.nm];exact ho.nm,by rw [h.tp];exact ho.tp,⟨by rw [h.ev.length_eq];exact ho.ev.1,fun x hx=>ho.ev.2 x (h.ev.mem_iff.1 hx)⟩,⟨by rw [h.hs.length_eq];exact ho.hs.1,fun x hx=>ho.hs.2 x (h.hs.mem_iff.1 hx)⟩,gsO_re h.gt ho.gt,⟨by rw [p2.length_eq,List.length_map];exact ho.pg.1,fun x' hx'=> ?_⟩,⟨by rw [r2.length_eq,List.length_map];exact ho.gr.1,fun x' hx'=> ?_⟩,⟨by rw [q2,List.length_map];exact ho.ph.1,fun x' hx'=> ?_⟩⟩
 ·obtain⟨x,hx,rfl⟩:=List.mem_map.1 (p2.mem_iff.1 hx')
  obtain⟨a1,a2,a3⟩:=ho.pg.2 x hx
  have e:=p1 x hx
  exact⟨by rw [e.nm];exact a1,by rw [e.tp];exact a2,gsO_re e.gt a3⟩
 ·obtain⟨x,hx,rfl⟩:=List.mem_map.1 (r2.mem_iff.1 hx')
  obtain⟨a1,a2,a3,a4,a5⟩:=ho.gr.2 x hx
  have e:=r1 x hx
  exact⟨by rw [e.nm];exact a1,by rw [e.me.length_eq];exact a2,fun n hn=>a3 n (e.me.mem_iff.1 hn),by rw [e.fa];exact a4,by rw [e.fa];exact a5⟩
 ·rw [q2] at hx'
  obtain⟨x,hx,rfl⟩:=List.mem_map.1 hx'
  obtain⟨a1,a2,a3,a4⟩:=ho.ph.2 x hx
  have e:=q1 x hx
  exact⟨by rw [e.nm];exact a1,by rw [e.tp];exact a2,by rw [e.vl.length_eq];exact a3,fun v hv=>a4 v (e.vl.mem_iff.1 hv)⟩
theorem srt_lt {f:α→BS} {l:List α} (hs:SrtK f l) (hn:(l.map f).Nodup) (d:α) {i:Nat} (hi:i+1<l.length):ltB (f (l.getD i d)) (f (l.getD (i+1) d))=true:=by
 have h1:=List.pairwise_iff_getElem.1 hs i (i+1) om hi om
 rw [List.getD_eq_getElem?_getD,List.getElem?_eq_getElem (show i<l.length by omega),List.getD_eq_getElem?_getD,List.getElem?_eq_getElem hi]
 show ltB (f l[i]) (f l[i+1])=true
 refine Bool.of_not_eq_false fun h2=> ?_
 have h3:=ltB_tot h2 h1
 have h4:=(List.pairwise_iff_getElem.1 hn) i (i+1) (by rw [List.length_map];omega) (by rw [List.length_map];omega) om
 rw [List.getElem_map,List.getElem_map] at h4
 exact h4 h3
theorem srt_le {l:List BS} (hs:SrtK id l) {i:Nat} (hi:i+1<l.length):ltB (l.getD (i+1) []) (l.getD i [])=false:=by
 have h1:=List.pairwise_iff_getElem.1 hs i (i+1) om hi om
 rw [List.getD_eq_getElem?_getD,List.getElem?_eq_getElem hi,List.getD_eq_getElem?_getD,List.getElem?_eq_getElem (show i<l.length by omega)]
 exact h1
theorem sortK_lt {f:α→BS} {l:List α} (hn:(l.map f).Nodup) (d:α) {i:Nat} (hi:i+1<(sortK f l).length):ltB (f ((sortK f l).getD i d)) (f ((sortK f l).getD (i+1) d))=true:=
 srt_lt (sortK_srt f l) (((sortK_perm f l).map f).nodup_iff.2 hn) d hi
theorem norm_gts {m:MdD} (hg:Good m) (k:Nat):∃L:List GtD,(gnN L).Nodup∧gtsK (normM m) k=normL L:=by
 cases k with
 |zero=>exact⟨m.gates,hg.gt.1,rfl⟩
 |succ k=>
  show∃L:List GtD,(gnN L).Nodup∧((normM m).pages.getD k pg0).gates=normL L
  by_cases hk:k<(normM m).pages.length
  ·have hm:(normM m).pages.getD k pg0∈(normM m).pages:=by rw [List.getD_eq_getElem?_getD,List.getElem?_eq_getElem hk];exact List.getElem_mem _
   generalize (normM m).pages.getD k pg0=x at*
   obtain⟨y,hy,rfl⟩:=List.mem_map.1 ((sortK_perm PgD.name (m.pages.map normP)).mem_iff.1 hm)
   exact⟨y.gates,(hg.pg y hy).2.1.1,rfl⟩
  ·rw [List.getD_eq_getElem?_getD,List.getElem?_eq_none om]
   exact⟨[],.nil,rfl⟩
theorem norm_s {m:MdD} (hg:Good m):NrmS (normM m):=by
 refine⟨fun i hi=>sortK_lt hg.evn ev0 hi,fun i hi=>sortK_lt hg.hsn hs0 hi,fun i hi=>sortK_lt ?_ gr0 hi,fun i hi=>sortK_lt ?_ pg0 hi,fun k i hi=> ?_,fun k g hm hk i hi=> ?_⟩
 ·rw [List.map_map];exact hg.grn
 ·rw [List.map_map];exact hg.pgn
 ·obtain⟨L,h1,h2⟩:=norm_gts hg k
  rw [h2] at hi⊢
  exact sortK_lt (by rw [List.map_map];exact h1) gt0 hi
 ·obtain⟨L,h1,h2⟩:=norm_gts hg k
  rw [h2] at hm
  obtain⟨x,_,rfl⟩:=List.mem_map.1 ((sortK_perm GtD.name (L.map normG)).mem_iff.1 hm)
  have e:(normG x).inputs=sortK id x.inputs:=by
   show normI x.kind x.inputs=_
   unfold normI
   rw [if_pos (hk.elim .inl fun z=>.inr (.inl z))]
  rw [e] at hi⊢
  exact srt_le (sortK_srt id x.inputs) hi
end Go.PN
namespace Go.Proofs.YtnmeahogifekdaaGreatDoor
open Go.AI Go.PN
attribute [local irreducible] aw Fa Fh DrK
theorem lawPrSorted_fa (m:MdD) {n:Nat} (hu:MdU n m) (hn:n≤1048576):Fa Tryz.prog 6 [.agg (mdc true m)] (.c (.bool true)):=by
 have f0:=awake24_fa
 have f1:=light_fa m hu hn
 have e0:errA 0=.nilI:=if_pos rfl
 by_cases hl:lightB m=true
 ·have ho:=light_o hl hu hn
  have f2:=check_fa m ho
  rw [hl] at f1
  by_cases h0:mcC m=0
  ·have f3:=pnorm_fa m ho
   rw [if_pos h0,h0,e0] at f3
   rw [h0,e0] at f2
   have hS:=norm_s (mcC_good h0)
   have hg:=good_of (normM_r m) (mcC_good h0)
   have hoN:=mdO_re (normM_r m) ho
   generalize normM m=N at*
   have nE:N.events.length≤1099511627776:=Nat.le_trans hg.evl (by decide)
   have nH:N.houses.length≤1099511627776:=Nat.le_trans hg.hsl (by decide)
   have nP:N.pages.length≤1099511627776:=Nat.le_trans hg.pgl (by decide)
   have nR:N.groups.length≤1099511627776:=Nat.le_trans hg.grl (by decide)
   refine fa_of_body Tryz.func6 rfl rfl (by simp [Tryz.ntmps6]) fun C hC=> ?_
   simp only [initS,Nat.reduceAdd]
   repeat' first|refine zV o0 ?_|refine zH o0 (fun hb=>?_) fun hb=>?_|fail
   refine xB fun g1 hn_g1=>?_
   repeat' first|refine zV hn_g1 ?_|(refine yC2 hn_g1 (f0) ?_)|(refine yD2 hn_g1 (f0) ?_)|(refine yC2 hn_g1 (f1) ?_)|(refine yD2 hn_g1 (f1) ?_)|(refine yC2 hn_g1 (f2) ?_)|(refine yD2 hn_g1 (f2) ?_)|(refine yC2 hn_g1 (f3) ?_)|(refine yD2 hn_g1 (f3) ?_)|refine zH hn_g1 (fun hb=>?_) fun hb=>?_|fail
   refine yA hn_g1 fun g3 hn_g3=>?_
   all_goals try(have Z:=(oj hn_g1 hn_g3);(repeat' first|refine zV Z ?_|refine zH Z (fun hb=>?_) fun hb=>?_|fail);all_goals clear Z)
   refine aw_lp (fun i:Nat=>[(2,.c (.bool false)),(3,.c (.optr g3 0)),(5,.c (.int .i64 i))]) (fun _=>[(g3,.cells 29 8 (ofL (mdc true N)))]) (fun i=>1≤i∧i≤N.events.length+1) (fun i=>N.events.length+1-i) 1 (zB (oj hn_g1 hn_g3)) (List.Sublist.cons_cons _ (List.nil_sublist _)) ⟨Nat.le_refl _,by omega⟩ ?_
   rintro i ⟨hi1,hi2⟩
   obtain⟨q,hq⟩:∃q,i=q+1:=⟨i-1,by omega⟩
   have hi3:(i:Int)-1=(q:Int):=by omega
   all_goals try(have Z:=(oj hn_g1 (oj hn_g3 hi3));(repeat' first|refine zV Z ?_|refine zH Z (fun hb=>?_) fun hb=>?_|fail);all_goals clear Z)
   ·have hi4:=hb
    have q1:Go.Op.bytesLess (N.events.getD q ev0).name (N.events.getD i ev0).name=true:=by subst hq;exact hS.ev q hi4
    clear hb
    refine aw_dr 14 ty_mixed (by kernel_rfl) ?_
    all_goals try(have Z:=(oj hn_g1 (oj hn_g3 (oj hi3 q1)));(repeat' first|refine zV Z ?_|refine zH Z (fun hb=>?_) fun hb=>?_|fail);all_goals clear Z)
    exact aw_stop ⟨i+1,by omega,(zB (oj hn_g1 (oj hn_g3 (oj hi3 q1)))),zZ,by omega,by omega⟩
   clear hi1 hi2 hi3 hq hb
   repeat' first|refine zV f0 ?_|refine zH f0 (fun hb=>?_) fun hb=>?_|fail
   refine aw_lp (fun i:Nat=>[(2,.c (.bool false)),(3,.c (.optr g3 0)),(6,.c (.int .i64 i))]) (fun _=>[(g3,.cells 29 8 (ofL (mdc true N)))]) (fun i=>1≤i∧i≤N.houses.length+1) (fun i=>N.houses.length+1-i) 1 (zB f0) zZ ⟨Nat.le_refl _,by omega⟩ ?_
   rintro i ⟨hi1,hi2⟩
   obtain⟨q,hq⟩:∃q,i=q+1:=⟨i-1,by omega⟩
   have hi3:(i:Int)-1=(q:Int):=by omega
   all_goals try(have Z:=(oj f0 hi3);(repeat' first|refine zV Z ?_|refine zH Z (fun hb=>?_) fun hb=>?_|fail);all_goals clear Z)
   ·have hi4:=hb
    have q1:Go.Op.bytesLess (N.houses.getD q hs0).name (N.houses.getD i hs0).name=true:=by subst hq;exact hS.hs q hi4
    clear hb
    refine aw_dr 14 ty_mixed (by kernel_rfl) ?_
    all_goals try(have Z:=(oj f0 (oj hi3 q1));(repeat' first|refine zV Z ?_|refine zH Z (fun hb=>?_) fun hb=>?_|fail);all_goals clear Z)
    exact aw_stop ⟨i+1,by omega,(zB (oj f0 (oj hi3 q1))),zZ,by omega,by omega⟩
   clear hi1 hi2 hi3 hq hb
   repeat' first|refine zV f0 ?_|refine zH f0 (fun hb=>?_) fun hb=>?_|fail
   refine aw_lp (fun i:Nat=>[(2,.c (.bool false)),(3,.c (.optr g3 0)),(7,.c (.int .i64 i))]) (fun _=>[(g3,.cells 29 8 (ofL (mdc true N)))]) (fun i=>1≤i∧i≤N.groups.length+1) (fun i=>N.groups.length+1-i) 1 (zB f0) zZ ⟨Nat.le_refl _,by omega⟩ ?_
   rintro i ⟨hi1,hi2⟩
   obtain⟨q,hq⟩:∃q,i=q+1:=⟨i-1,by omega⟩
   have hi3:(i:Int)-1=(q:Int):=by omega
   all_goals try(have Z:=(oj f0 hi3);(repeat' first|refine zV Z ?_|refine zH Z (fun hb=>?_) fun hb=>?_|fail);all_goals clear Z)
   ·have hi4:=hb
    have q1:Go.Op.bytesLess (N.groups.getD q gr0).name (N.groups.getD i gr0).name=true:=by subst hq;exact hS.gr q hi4
    clear hb
    refine aw_dr 14 ty_mixed (by kernel_rfl) ?_
    all_goals try(have Z:=(oj f0 (oj hi3 q1));(repeat' first|refine zV Z ?_|refine zH Z (fun hb=>?_) fun hb=>?_|fail);all_goals clear Z)
    exact aw_stop ⟨i+1,by omega,(zB (oj f0 (oj hi3 q1))),zZ,by omega,by omega⟩
   clear hi1 hi2 hi3 hq hb
   repeat' first|refine zV f0 ?_|refine zH f0 (fun hb=>?_) fun hb=>?_|fail
   refine aw_lp (fun i:Nat=>[(2,.c (.bool false)),(3,.c (.optr g3 0)),(8,.c (.int .i64 i))]) (fun _=>[(g3,.cells 29 8 (ofL (mdc true N)))]) (fun i=>1≤i∧i≤N.pages.length+1) (fun i=>N.pages.length+1-i) 1 (zB f0) zZ ⟨Nat.le_refl _,by omega⟩ ?_
   rintro i ⟨hi1,hi2⟩
   obtain⟨q,hq⟩:∃q,i=q+1:=⟨i-1,by omega⟩
   have hi3:(i:Int)-1=(q:Int):=by omega
   all_goals try(have Z:=(oj f0 hi3);(repeat' first|refine zV Z ?_|refine zH Z (fun hb=>?_) fun hb=>?_|fail);all_goals clear Z)
   ·have hi4:=hb
    have q1:Go.Op.bytesLess (N.pages.getD q pg0).name (N.pages.getD i pg0).name=true:=by subst hq;exact hS.pg q hi4
    clear hb
    refine aw_dr 14 ty_mixed (by kernel_rfl) ?_
    all_goals try(have Z:=(oj f0 (oj hi3 q1));(repeat' first|refine zV Z ?_|refine zH Z (fun hb=>?_) fun hb=>?_|fail);all_goals clear Z)
    exact aw_stop ⟨i+1,by omega,(zB (oj f0 (oj hi3 q1))),zZ,by omega,by omega⟩
   clear hi1 hi2 hi3 hq hb
   repeat' first|refine zV f0 ?_|refine zH f0 (fun hb=>?_) fun hb=>?_|fail
   refine aw_lp (fun k:Nat=>[(2,.c (.bool false)),(3,.c (.optr g3 0)),(9,.c (.int .i64 ((k:Int)-1)))]) (fun _=>[(g3,.cells 29 8 (ofL (mdc true N)))]) (fun k=>k≤N.pages.length+1) (fun k=>N.pages.length+1-k) 0 (zB f0) zZ (Nat.zero_le _) ?_
   rintro k hk
   by_cases hk2:k≤N.pages.length
   ·have d1:decide ((k:Int)-1<(N.pages.length:Int))=true:=decide_eq_true om
    have f4:=gates22_fa N k hk2 nP
    have nL:(gtsK N k).length≤1099511627776:=Nat.le_trans (hoN.gts k).1 (by decide)
    have hLo:=(hoN.gts k).2
    have hgt:=hS.gt k
    have hin:=hS.inp k
    generalize gtsK N k=L at*
    all_goals try(have Z:=(oj f0 d1);(repeat' first|refine zV Z ?_|(refine yC2 Z (f4) ?_)|(refine yD2 Z (f4) ?_)|refine zH Z (fun hb=>?_) fun hb=>?_|fail);all_goals clear Z)
    refine aw_lp (fun i:Nat=>[(2,.c (.bool false)),(3,.c (.optr g3 0)),(9,.c (.int .i64 ((k:Int)-1))),(10,.c (gts true L)),(128,.c (gts true L)),(129,.c (.int .i64 L.length)),(130,.c (.int .i64 i))]) (fun _=>[(g3,.cells 29 8 (ofL (mdc true N)))]) (fun i=>i≤L.length) (fun i=>L.length-i) 0 (zB (oj f0 d1)) zZ (Nat.zero_le _) ?_
    rintro i hi
    by_cases hin4:i<L.length
    ·have d2:decide (i<L.length)=true:=decide_eq_true hin4
     have hxm:L.getD i gt0∈L:=by rw [List.getD_eq_getElem?_getD,List.getElem?_eq_getElem hin4];exact List.getElem_mem _
     have hxi:=hin _ hxm
     have nI:(L.getD i gt0).inputs.length≤1099511627776:=Nat.le_trans (hLo _ hxm).2.2.1 (by decide)
     have hq0:∀q,i=q+1→Go.Op.bytesLess (L.getD q gt0).name (L.getD i gt0).name=true:=fun q e=>by subst e;exact hgt q hin4
     generalize hv:L.getD i gt0=x at*
     all_goals try(have Z:=(oj f0 (oj d1 (oj d2 hv)));(repeat' first|refine zV Z ?_|refine zH Z (fun hb=>?_) fun hb=>?_|fail);all_goals clear Z)
     refine yA (oj f0 (oj d1 (oj d2 hv))) fun g12 hn_g12=>?_
     all_goals try(have Z:=(oj f0 (oj d1 (oj d2 (oj hv hn_g12))));(repeat' first|refine zV Z ?_|refine zH Z (fun hb=>?_) fun hb=>?_|fail);all_goals clear Z)
     refine aw_cut (fun _:Unit=>[(2,.c (.bool false)),(3,.c (.optr g3 0)),(9,.c (.int .i64 ((k:Int)-1))),(10,.c (gts true L)),(128,.c (gts true L)),(129,.c (.int .i64 L.length)),(130,.c (.int .i64 i)),(11,.c (.int .i64 i)),(12,.c (.optr g12 0)),(147,.c (.bool false))]) (fun _=>[(g12,.cells 60 7 (ofL (gtc x))),(g3,.cells 29 8 (ofL (mdc true N)))]) (fun _=>i<L.length) ?_ ?_
     ·rcases Nat.eq_zero_or_pos i with h0i|h0i
      ·have d3:decide (i>0)=false:=decide_eq_false om
       refine aw_dr 13 ty_mixed (by kernel_rfl) ?_
       all_goals try(have Z:=(oj f0 (oj d1 (oj d2 (oj hv (oj hn_g12 d3)))));(repeat' first|refine zV Z ?_|refine zH Z (fun hb=>?_) fun hb=>?_|fail);all_goals clear Z)
       exact aw_stop ⟨(),(zB (oj f0 (oj d1 (oj d2 (oj hv (oj hn_g12 d3)))))),zZ,hin4⟩
      ·obtain⟨q,hq⟩:∃q,i=q+1:=⟨i-1,by omega⟩
       have d3:decide (i>0)=true:=decide_eq_true om
       have hi3:(i:Int)-1=(q:Int):=by omega
       have q1:=hq0 q hq
       have hql:q<L.length:=by omega
       refine aw_dr 13 ty_mixed (by kernel_rfl) ?_
       all_goals try(have Z:=(oj f0 (oj d1 (oj d2 (oj hv (oj hn_g12 (oj d3 (oj hi3 q1)))))));(repeat' first|refine zV Z ?_|refine zH Z (fun hb=>?_) fun hb=>?_|fail);all_goals clear Z)
       exact aw_stop ⟨(),(zB (oj f0 (oj d1 (oj d2 (oj hv (oj hn_g12 (oj d3 (oj hi3 q1)))))))),zZ,hin4⟩
     ·rintro _ _
      all_goals try(have Z:=(oj f0 (oj d1 (oj d2 (oj hv hn_g12))));(repeat' first|refine zV Z ?_|refine zH Z (fun hb=>?_) fun hb=>?_|fail);all_goals clear Z)
      refine aw_lp (fun r:Nat=>[(2,.c (.bool false)),(3,.c (.optr g3 0)),(9,.c (.int .i64 ((k:Int)-1))),(10,.c (gts true L)),(128,.c (gts true L)),(129,.c (.int .i64 L.length)),(130,.c (.int .i64 i)),(12,.c (.optr g12 0)),(13,.c (.int .i64 r))]) (fun _=>[(g12,.cells 60 7 (ofL (gtc x))),(g3,.cells 29 8 (ofL (mdc true N)))]) (fun r=>1≤r∧r≤x.inputs.length+1) (fun r=>x.inputs.length+1-r) 1 (zB (oj f0 (oj d1 (oj d2 (oj hv hn_g12))))) zZ ⟨Nat.le_refl _,by omega⟩ ?_
      rintro r ⟨hr1,hr2⟩
      obtain⟨q,hq⟩:∃q,r=q+1:=⟨r-1,by omega⟩
      have hi3:(r:Int)-1=(q:Int):=by omega
      by_cases hrl:r<x.inputs.length
      ·have d3:decide (r<x.inputs.length)=true:=decide_eq_true hrl
       have hql:q<x.inputs.length:=by omega
       all_goals try(have Z:=(oj f0 (oj d1 (oj d2 (oj hv (oj hn_g12 (oj d3 hi3))))));(repeat' first|refine zV Z ?_|refine zH Z (fun hb=>?_) fun hb=>?_|fail);all_goals clear Z)
       by_cases e0:x.kind=0
       ·have b0:(x.kind==0)=true:=by simpa using e0
        have q1:Go.Op.bytesLess (x.inputs.getD r []) (x.inputs.getD q [])=false:=by subst hq;exact hxi (.inl e0) q hrl
        refine aw_dr 22 ty_mixed (by kernel_rfl) ?_
        all_goals try(have Z:=(oj f0 (oj d1 (oj d2 (oj hv (oj hn_g12 (oj d3 (oj hi3 (oj b0 q1))))))));(repeat' first|refine zV Z ?_|refine zH Z (fun hb=>?_) fun hb=>?_|fail);all_goals clear Z)
        exact aw_stop ⟨r+1,by omega,(zB (oj f0 (oj d1 (oj d2 (oj hv (oj hn_g12 (oj d3 (oj hi3 (oj b0 q1))))))))),zZ,by omega,by omega⟩
       ·have b0:(x.kind==0)=false:=by simpa using e0
        by_cases e1:x.kind=1
        ·have b1:(x.kind==1)=true:=by simpa using e1
         have q1:Go.Op.bytesLess (x.inputs.getD r []) (x.inputs.getD q [])=false:=by subst hq;exact hxi (.inr e1) q hrl
         refine aw_dr 22 ty_mixed (by kernel_rfl) ?_
         all_goals try(have Z:=(oj f0 (oj d1 (oj d2 (oj hv (oj hn_g12 (oj d3 (oj hi3 (oj b0 (oj b1 q1)))))))));(repeat' first|refine zV Z ?_|refine zH Z (fun hb=>?_) fun hb=>?_|fail);all_goals clear Z)
         exact aw_stop ⟨r+1,by omega,(zB (oj f0 (oj d1 (oj d2 (oj hv (oj hn_g12 (oj d3 (oj hi3 (oj b0 (oj b1 q1)))))))))),zZ,by omega,by omega⟩
        ·have b1:(x.kind==1)=false:=by simpa using e1
         refine aw_dr 22 ty_mixed (by kernel_rfl) ?_
         all_goals try(have Z:=(oj f0 (oj d1 (oj d2 (oj hv (oj hn_g12 (oj d3 (oj hi3 (oj b0 b1))))))));(repeat' first|refine zV Z ?_|refine zH Z (fun hb=>?_) fun hb=>?_|fail);all_goals clear Z)
         exact aw_stop ⟨r+1,by omega,(zB (oj f0 (oj d1 (oj d2 (oj hv (oj hn_g12 (oj d3 (oj hi3 (oj b0 b1))))))))),zZ,by omega,by omega⟩
      ·have d3:decide (r<x.inputs.length)=false:=decide_eq_false hrl
       all_goals try(have Z:=(oj f0 (oj d1 (oj d2 (oj hv (oj hn_g12 d3)))));(repeat' first|refine zV Z ?_|refine zH Z (fun hb=>?_) fun hb=>?_|fail);all_goals clear Z)
       exact aw_stop ⟨i+1,by omega,(zB (oj f0 (oj d1 (oj d2 (oj hv (oj hn_g12 d3)))))),List.sublist_cons_self _ _,by omega⟩
    ·have d2:decide (i<L.length)=false:=decide_eq_false hin4
     all_goals try(have Z:=(oj f0 (oj d1 d2));(repeat' first|refine zV Z ?_|refine zH Z (fun hb=>?_) fun hb=>?_|fail);all_goals clear Z)
     exact aw_stop ⟨k+1,by omega,(zB (oj f0 (oj d1 d2))),zZ,by omega⟩
   ·have d1:decide ((k:Int)-1<(N.pages.length:Int))=false:=decide_eq_false om
    all_goals try(have Z:=(oj f0 d1);(repeat' first|refine zV Z ?_|refine zH Z (fun hb=>?_) fun hb=>?_|fail);all_goals clear Z)
    refine yT hC (oj f0 d1) ?_
    exact .one (.c (.bool _))
  ·have hc:(!decide (mcC m=0))=true:=by rw [decide_eq_false h0];rfl
   refine fa_of_body Tryz.func6 rfl rfl (by simp [Tryz.ntmps6]) fun C hC=> ?_
   simp only [initS,Nat.reduceAdd]
   repeat' first|refine zV o0 ?_|refine zH o0 (fun hb=>?_) fun hb=>?_|fail
   refine xB fun g1 hn_g1=>?_
   all_goals try(have Z:=(oj hn_g1 hc);(repeat' first|refine zV Z ?_|(refine yC2 Z (f0) ?_)|(refine yD2 Z (f0) ?_)|(refine yC2 Z (f1) ?_)|(refine yD2 Z (f1) ?_)|(refine yC2 Z (f2) ?_)|(refine yD2 Z (f2) ?_)|refine zH Z (fun hb=>?_) fun hb=>?_|fail);all_goals clear Z)
   refine yT hC (oj hn_g1 hc) ?_
   exact .one (.c (.bool _))
 ·have hl':lightB m=false:=by simpa using hl
  rw [hl'] at f1
  refine fa_of_body Tryz.func6 rfl rfl (by simp [Tryz.ntmps6]) fun C hC=> ?_
  simp only [initS,Nat.reduceAdd]
  repeat' first|refine zV o0 ?_|refine zH o0 (fun hb=>?_) fun hb=>?_|fail
  refine xB fun g1 hn_g1=>?_
  repeat' first|refine zV hn_g1 ?_|(refine yC2 hn_g1 (f0) ?_)|(refine yD2 hn_g1 (f0) ?_)|(refine yC2 hn_g1 (f1) ?_)|(refine yD2 hn_g1 (f1) ?_)|refine zH hn_g1 (fun hb=>?_) fun hb=>?_|fail
  refine yT hC hn_g1 ?_
  exact .one (.c (.bool _))
end Go.Proofs.YtnmeahogifekdaaGreatDoor
