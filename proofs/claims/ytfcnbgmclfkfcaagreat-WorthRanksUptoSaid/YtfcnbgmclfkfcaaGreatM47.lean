/- Parts of one proof, laid by a program. -/
import Derived.Test.YtfcnbgmclfkfcaaGreatM00
import Derived.Test.YtfcnbgmclfkfcaaGreatM39
set_option linter.unusedSimpArgs false
set_option linter.unusedVariables false
namespace Go.Proofs.YtfcnbgmclfkfcaaGreat
open Go.AI Go.PN
attribute [local irreducible] aw Fa Fh DrK
theorem ints_ext {xs ys:List Int} (hl:xs.length=ys.length) (h:∀j,j<xs.length→xs.getD j 0=ys.getD j 0):xs=ys:=by
 apply List.ext_getElem hl
 intro i h1 h2
 have:=h i h1
 rw [List.getD_eq_getElem?_getD,List.getD_eq_getElem?_getD,List.getElem?_eq_getElem h1,List.getElem?_eq_getElem h2] at this
 exact this
set_option maxHeartbeats 800000 in
theorem ints_fa (xs ys:List Int) (hl:xs.length≤68719476736):Fa Tryz.prog 39 [.c (is false xs),.c (is false ys)] (.c (.bool (decide (xs=ys)))):=by
 refine fa_of_body Tryz.func39 rfl rfl (by simp [Tryz.ntmps39]) fun C hC=> ?_
 simp only [initS,Nat.reduceAdd]
 refine xG ?_
 refine xF (fun hb=>?_) fun hb=>?_
 ·refine xGT hC ?_
  refine .one (.c (ler_bool ?_))
  have:xs≠ys:=fun e=>by rw [e] at hb;simp at hb
  simp [this]
 ·have hlen:xs.length=ys.length:=by
   have:((xs.length:Int)==(ys.length:Int))=true:=by simpa [bne] using hb
   have:=eq_of_beq this;omega
  refine xG ?_
  refine aw_lp (fun i:Nat=>[(0,.c (is false xs)),(1,.c (is false ys)),(12,.c (.int .i64 xs.length)),(13,.c (.int .i64 i))]) (fun _=>[]) (fun i=>i≤xs.length∧∀j,j<i→xs.getD j 0=ys.getD j 0) (fun i=>xs.length-i) 0 eB zZ ⟨Nat.zero_le _,fun j hj=>by omega⟩ ?_
  rintro i ⟨hi,hs⟩
  refine xG ?_
  refine xF (fun hb=>?_) fun hb=>?_
  ·have hin:i<xs.length:=dT hb
   refine xG ?_
   refine aw_dr 9 ty_mixed (by kernel_rfl) ?_
   refine xG ?_
   refine xF (fun hc=>?_) fun hc=>?_
   ·refine xGT hC ?_
    refine .one (.c (ler_bool ?_))
    have:xs≠ys:=fun e=>by rw [e] at hc;simp at hc
    simp [this]
   ·have he:xs.getD i 0=ys.getD i 0:=by
     have:((xs.getD i 0:Int)==(ys.getD i 0:Int))=true:=by simpa [bne] using hc
     exact eq_of_beq this
    refine xG ?_
    refine aw_stop ⟨i+1,by omega,eB,zZ,by omega,fun j hj=> ?_⟩
    by_cases hji:j=i
    ·rw [hji];exact he
    ·exact hs j om
  ·have hin:i=xs.length:=dF hb
   subst hin
   refine xGT hC ?_
   refine .one (.c (ler_bool ?_))
   have:xs=ys:=ints_ext hlen hs
   simp [this]
end Go.Proofs.YtfcnbgmclfkfcaaGreat
namespace Go.PN
theorem asc_uniq {lt:Int→Int→Bool} (ok:LtOk lt) {g h:Nat→Int} {n:Nat} (p:AscR lt g 0 n) (q:AscR lt h 0 n) (hm:∀x,MemR g 0 n x↔MemR h 0 n x):∀i,i<n→g i=h i:=by
 have aux:∀{g h:Nat→Int},AscR lt g 0 n→AscR lt h 0 n→(∀x,MemR g 0 n x↔MemR h 0 n x)→∀i,i<n→(∀j,j<i→g j=h j)→∃j,i≤j∧j<n∧h j=g i:=fun {g h} p q hm i hi ih=>by
  obtain⟨j,_,j2,j3⟩:=(hm (g i)).1 ⟨i,Nat.zero_le _,hi,rfl⟩
  rcases Nat.lt_or_ge j i with hj|hj
  ·have h1:=p j i (Nat.zero_le _) hj hi
   rw [ih j hj,j3,ok.irrefl] at h1;cases h1
  ·exact⟨j,hj,j2,j3⟩
 intro i
 induction i using Nat.strongRecOn with
 |_ i ih=>
  intro hi
  obtain⟨j,j1,j2,j3⟩:=aux p q hm i hi fun j hj=>ih j hj om
  obtain⟨k,k1,k2,k3⟩:=aux q p (fun x=>(hm x).symm) i hi fun j hj=>(ih j hj om).symm
  rcases Nat.lt_or_ge i j with hj|hj
  ·have h1:=q i j (Nat.zero_le _) hj j2
   rw [j3,←k3] at h1
   rcases Nat.lt_or_ge i k with hk|hk
   ·have h2:=p i k (Nat.zero_le _) hk k2
    have h3:=ok.trans _ _ _ h1 h2
    rw [ok.irrefl] at h3;cases h3
   ·rw [show k=i from by omega,ok.irrefl] at h1;cases h1
  ·rw [←j3,show j=i from by omega]
end Go.PN
namespace Go.PN
open Go.AI
theorem RnkOk.memR {k:Int→Rat} {n:Nat} {L:List Int} (h:RnkOk k n L) (x:Int):MemR (fun i=>L.getD i 0) 0 n x↔0≤x∧x<n:=by
 have hl:=h.len
 rw [←h.mem]
 constructor
 ·rintro ⟨i,_,h2,rfl⟩
  dsimp only
  rw [getDZ om]
  exact List.getElem_mem _
 ·intro hx
  obtain⟨i,hi,e⟩:=List.mem_iff_getElem.1 hx
  exact⟨i,Nat.zero_le _,by omega,by dsimp only;rw [getDZ hi];exact e⟩
theorem rnk_uniq {k:Int→Rat} {n:Nat} {L L':List Int} (h:RnkOk k n L) (h':RnkOk k n L'):L=L':=by
 refine List.ext_getElem (by rw [h.len,h'.len]) fun i h1 h2=> ?_
 have:=asc_uniq (ltQ_ok k) h.asc0 h'.asc0 (fun x=>by rw [h.memR,h'.memR]) i (by rw [←h.len];exact h1)
 rwa [getDZ h1,getDZ h2] at this
theorem rnk_nil (k:Int→Rat):RnkOk k 0 []:=⟨List.Pairwise.nil,fun x=>⟨fun h=>absurd h List.not_mem_nil,fun h=>by omega⟩⟩
theorem RnkOk.ins {k:Int→Rat} {n:Nat} {L:List Int} (h:RnkOk k n L) {at':Nat} (hat:at'≤L.length) (hlo:∀j,j<at'→k n≤k (L.getD j 0)) (hhi:∀j,at'≤j→j<L.length→k (L.getD j 0)<k n):RnkOk k (n+1) (L.take at'++[(n:Int)]++L.drop at'):=by
 have htd:=List.take_append_drop at' L
 have ha:=h.asc
 rw [←htd,List.pairwise_append] at ha
 obtain⟨a1,a2,a3⟩:=ha
 have m1:∀x∈L.take at',0≤x∧x<n∧ltQ k x n=true:=fun x hx=>by
  have hm:=(h.mem x).1 (List.mem_of_mem_take hx)
  refine⟨hm.1,hm.2,?_⟩
  obtain⟨j,hj,e⟩:=List.mem_iff_getElem.1 hx
  rw [List.length_take] at hj
  rw [List.getElem_take] at e
  have:=hlo j om
  rw [getDZ om,e] at this
  rw [ltQ_iff]
  by_cases hq:k x=k n
  ·exact .inr ⟨hq,hm.2⟩
  ·exact .inl (Rat.lt_of_le_of_ne this fun e=>hq e.symm)
 have m2:∀x∈L.drop at',0≤x∧x<n∧ltQ k n x=true:=fun x hx=>by
  have hm:=(h.mem x).1 (List.mem_of_mem_drop hx)
  refine⟨hm.1,hm.2,?_⟩
  obtain⟨j,hj,e⟩:=List.mem_iff_getElem.1 hx
  rw [List.length_drop] at hj
  rw [List.getElem_drop] at e
  have:=hhi (at'+j) om om
  rw [getDZ om,e] at this
  rw [ltQ_iff]
  exact .inl this
 refine⟨?_,fun x=> ?_⟩
 ·rw [List.pairwise_append,List.pairwise_append]
  refine⟨⟨a1,List.pairwise_singleton _ _,fun x hx y hy=> ?_⟩,a2,fun x hx y hy=> ?_⟩
  ·rw [List.mem_singleton] at hy
   subst hy
   exact(m1 x hx).2.2
  ·rw [List.mem_append,List.mem_singleton] at hx
   rcases hx with hx|rfl
   ·exact a3 x hx y hy
   ·exact(m2 y hy).2.2
 ·rw [List.mem_append,List.mem_append,List.mem_singleton]
  constructor
  ·rintro ((hx|rfl)|hx)
   ·have:=m1 x hx;omega
   ·omega
   ·have:=m2 x hx;omega
  ·rintro ⟨h0,h1⟩
   by_cases e:x=n
   ·exact .inl (.inr e)
   ·have hm:=(h.mem x).2 ⟨h0,by omega⟩
    rw [←htd,List.mem_append] at hm
    rcases hm with hm|hm
    ·exact .inl (.inl hm)
    ·exact .inr hm
end Go.PN
namespace Go.AI
section
variable {E : Env} {K : List It} {σ : Sl} {h : Heap} {all rest : List Oper} {o : Oper}
theorem aw_appendG {t e size bytes n k:Nat} {z:List CV} {og:Option Nat} {f f2 f':Nat→CV} {s x:Operand} {cx:CV} {pre:Heap} (hop:o.op=.call {callee:=.builtin .append,args:= #[s,x],argTypes:= #[t,t]}) (hw:wantA all σ o=some true) (hd:dstOk E.N o.dst=true)
 (ht:tElem E.P t=some (e,size,bytes)) (hz:tZero E.P e=some z) (hzl:z.length=size) (hs0:0<size) (hs:ev σ s=.c (gs og size n)) (hog:og=none→n=0) (hx:ev σ x=.c cx) (hsrc:∀h:Heap,Src h size cx k f2) (hsol:∀j,j<k*size→(f2 j).solid=true) (hh:h=pre++gh og e (n*size) f)
 (h63:n+k≤maxLen) (hby:(n+k)*bytes≤140737488355328) (hf:∀j,j<(n+k)*size→appF f (n*size) f2 j=f' j)
 (kk:∀og',(og'=none→n+k=0)→(∀g,og'=some g→g∉pre.keys)→aw E (.ops all rest::K) (σ.setO o.dst (.c (gs og' size (n+k)))) (pre++gh og' e ((n+k)*size) f')):aw E (.ops all (o::rest)::K) σ h:=by
 subst hh
 rcases Nat.eq_zero_or_pos k with hk|hk
 ·subst hk
  refine aw_nd fun hnd=> ?_
  refine aw_append0 (cs:=gs og size n) (σ':=σ.setO o.dst (.c (gs og size n))) hop hw hd ht hs (by cases og<;>rfl) hx (hsrc _) rfl ?_
  cases og with
  |none=>exact kk none hog (fun g e=>by cases e)
  |some g=>
   have hnp:g∉pre.keys:=fun hm=>by
    simp only [Heap.keys,gh,List.map_append,List.map_cons,List.map_nil] at hnd
    exact(List.nodup_append.1 hnd).2.2 g hm g (by simp) rfl
   refine aw_perm (h':=(g,.cells e (n*size) f)::pre) (List.perm_append_singleton _ _) ?_
   refine aw_conv1 (f':=f') (fun j hj=>by rw [←hf j hj];simp [appF,hj]) ?_
   refine aw_perm (h':=pre++gh (some g) e (n*size) f') (List.perm_append_singleton _ _).symm ?_
   exact kk (some g) (fun e=>by cases e) (fun g' e=>by injection e with e;subst e;exact hnp)
 ·cases og with
  |none=>
   obtain rfl:n=0:=hog rfl
   refine aw_appendN hop hw hd ht hz hzl hs0 hs hx (hsrc _) hk om (by rwa [Nat.zero_add] at hby) fun g' hg'=> ?_
   refine aw_conv1 (f':=f') (fun j hj=>by rw [←hf j (by rwa [Nat.zero_add])];simp [appF]) ?_
   refine aw_perm (h':=pre++gh (some g') e (k*size) f') ?_ ?_
   ·simp only [gh,List.append_nil];exact(List.perm_append_singleton _ _).symm
   ·have:=kk (some g') (fun e=>by cases e) (fun g e=>by injection e with e;subst e;exact fun hm=>hg' (by simpa [Heap.keys,gh] using hm))
    rw [Nat.zero_add] at this
    exact this
  |some g=>
   refine aw_nd fun hnd=> ?_
   have hnp:g∉pre.keys:=fun hm=>by
    simp only [Heap.keys,gh,List.map_append,List.map_cons,List.map_nil] at hnd
    exact(List.nodup_append.1 hnd).2.2 g hm g (by simp) rfl
   refine aw_append (g:=g) (m:=n*size) (f:=f) (h2:=pre) hop hw hd ht hz hzl hs0 hs (Heap.get_app hnp) (Nat.le_refl _) hx (hsrc _) hsol hk h63 hby (Heap.del_app hnp) fun g' hg'=> ?_
   refine aw_conv1 (f':=f') (fun j hj=>hf j hj) ?_
   refine aw_perm (h':=pre++gh (some g') e ((n+k)*size) f') (List.perm_append_singleton _ _).symm ?_
   exact kk (some g') (fun e=>by cases e) (fun g'' e=>by injection e with e;subst e;exact hg')
end
theorem is_appF {a b:List Int} {n k:Nat} {f2:Nat→CV} (hn:n=a.length) (hk:k=b.length) (h2:∀j,j<k→f2 j=.int .i64 (b.getD j 0)):∀j,j<(n+k)*1→appF (isF a) (n*1) f2 j=isF (a++b) j:=fun j hj=>by
 subst hn hk
 rw [Nat.mul_one] at hj⊢
 unfold appF isF
 by_cases h:j<a.length
 ·rw [if_pos h,List.getD_eq_getElem?_getD,List.getD_eq_getElem?_getD,List.getElem?_append_left h]
 ·rw [if_neg h,h2 _ om,List.getD_eq_getElem?_getD,List.getD_eq_getElem?_getD,List.getElem?_append_right om]
end Go.AI

namespace Go.AI
open Go.PN
theorem conv_nil {S:Bool→Nat→Prop} {w:World} {u:Value} (hr:Rep S w (.c .nils) u):Rep S w (.c (is true [])) u:=by
 obtain⟨A,rfl⟩:∃A,u=.slice A 0 0:=hr
 exact⟨A,0,rfl,Nat.le_refl _,fun h=>absurd h (by simp)⟩
end Go.AI
namespace Go.Proofs.YtfcnbgmclfkfcaaGreat
open Go.AI Go.PN
attribute [local irreducible] aw Fa Fh DrK
set_option maxRecDepth 100000 in
set_option maxHeartbeats 3200000 in
theorem rankR_fh (p:List RD) (hw:∀r∈p,r.wf 500000000) (hpl:p.length≤1000000):Fh Tryz.prog 41 [] [.c (rats false p)] (fun x h=>h=[]∧∃L,RnkOk (kQ p) p.length L∧x=.c (is true L)):=by
 refine fh_of_body Tryz.func41 rfl rfl (by simp [Tryz.ntmps41]) fun C hC=> ?_
 simp only [initS,Nat.reduceAdd]
 refine xG ?_
 refine aw_conv (t:=3) (v:=.c (is true [])) (fun S w u hr=>conv_nil hr) rfl ?_
 refine aw_lp (fun x:Nat×List Int=>[(0,.c (rats false p)),(3,.c (is true x.2)),(4,.c (.int .i64 x.1))]) (fun _=>[]) (fun x=>x.1≤p.length∧RnkOk (kQ p) x.1 x.2) (fun x=>p.length-x.1) (0,[]) eB zZ ⟨Nat.zero_le _,rnk_nil _⟩ ?_
 rintro ⟨i,L⟩ ⟨hi,hL⟩
 dsimp only at hi hL⊢
 have hLl:=hL.len
 refine xG ?_
 refine xF (fun h1=>?_) fun h1=>?_
 ·have hin:i<p.length:=dT h1
  refine xG ?_
  refine aw_lp (fun x:Nat=>[(0,.c (rats false p)),(3,.c (is true L)),(4,.c (.int .i64 i)),(5,.c (.int .i64 x))]) (fun _=>[]) (fun x=>x≤i∧∀j,x≤j→j<L.length→kQ p (L.getD j 0)<kQ p i) (fun x=>x) i eB zZ ⟨Nat.le_refl _,fun j h1 h2=>by omega⟩ ?_
  rintro a ⟨ha,hhi⟩
  apply wa1
  apply wa1
  refine aw_cut (fun c:Bool=>[(0,.c (rats false p)),(3,.c (is true L)),(4,.c (.int .i64 i)),(5,.c (.int .i64 a)),(32,.c (.bool c))]) (fun _=>[]) (fun c=>c=true↔(0<a∧kQ p (L.getD (a-1) 0)<kQ p i)) ?_ ?_
  ·by_cases h0:0<a
   ·have e1:decide ((a:Int)>0)=true:=decide_eq_true om
    have ex:((a:Int)-1).toNat=a-1:=by omega
    have hmm:=(hL.mem (L.getD (a-1) 0)).1 (by rw [getDZ om];exact List.getElem_mem _)
    obtain⟨m,hm⟩:=Int.eq_ofNat_of_zero_le hmm.1
    have hc:=scmp_fa (p.getD m rd0) (p.getD i rd0) (getD_wf hw om) (getD_wf hw om)
    have J1:=oj e1 (oj ex hm)
    refine yG J1 ?_
    refine aw_dr 18 ty_mixed (by kernel_rfl) ?_
    refine yG J1 ?_
    refine yD J1 (hc) ?_
    refine yG J1 ?_
    refine aw_stop ⟨decide (kQ p (L.getD (a-1) 0)<kQ p i),?_,zZ,by rw [decide_eq_true_iff,hm];exact⟨fun e=>⟨h0,e⟩,fun e=>e.2⟩⟩
    rw [hm,kQ_nat,kQ_nat,←sub_lt0,←signQ_lt0]
    exact(zB (oj e1 (oj ex hm)))
   ·have e1:decide ((a:Int)>0)=false:=decide_eq_false om
    refine yG e1 ?_
    refine aw_dr 18 ty_mixed (by kernel_rfl) ?_
    refine yG e1 ?_
    exact aw_stop ⟨false,(zB e1),zZ,by simp [h0]⟩
  intro c hc
  cases c
  ·have hlo:∀j,j<a→kQ p i≤kQ p (L.getD j 0):=fun j hj=>by
    have h3:¬kQ p (L.getD (a-1) 0)<kQ p i:=fun e=>by
     have:=hc.2 ⟨by omega,e⟩
     cases this
    exact Rat.le_trans (Rat.not_lt.1 h3) (hL.le om om)
   have hR:=hL.ins (at':=a) om hlo hhi
   have hRl:=hR.len
   refine xN ?_
   refine xG ?_
   refine aw_appendG (og:=none) (n:=0) (k:=a) (size:=1) (z:=[.int .i64 0]) (f:=isF []) (f':=isF (L.take a)) (pre:=[]) rfl rfl rfl eE eE rfl om eE (fun _=>rfl) eE (fun h=>.row) (fun j hj=>rfl) rfl (by unfold maxLen;omega) om (is_appF (a:=[]) rfl (by rw [List.length_take];omega) (fun j hj=> ?_)) fun og1 hog1 hp1=> ?_
   ·simp only [isF_at,List.getD_eq_getElem?_getD,List.getElem?_take,hj,if_true]
   rw [Nat.zero_add]
   rw [Nat.zero_add] at hog1
   have hta:(L.take a).length=a:=by rw [List.length_take];omega
   refine xSG ?_
   refine aw_push (pre:=[]) rfl rfl rfl rfl rfl rfl rfl eE eE (by rfl) om om eE om (by exact hog1) eE (by rfl) (by rfl) (by first|rfl|simp only [Nat.mul_one,List.nil_append,List.cons_append]<;>rfl) (by unfold maxLen;omega) om (by exact is_push hta (i:Int)) fun g hn_g=> ?_
   replace hn_g:=Heap.ne_of hn_g
   first|dsimp only [Heap.ne,gh] at hn_g|dsimp only [Heap.ne] at hn_g|skip
   refine ySG hn_g ?_
   have hl2:(L.take a++[(i:Int)]).length=a+1:=by simp [hta]
   refine aw_perm (h':=gh (some g) 3 ((a+1)*1) (isF (L.take a++[(i:Int)]))) (by rw [Nat.mul_one]) ?_
   refine aw_appendG (og:=some g) (n:=a+1) (k:=L.length-a) (size:=1) (z:=[.int .i64 0]) (f:=isF (L.take a++[(i:Int)])) (f':=isF (L.take a++[(i:Int)]++L.drop a)) (pre:=[]) rfl rfl rfl (zE hn_g) (zE hn_g) rfl om (zE hn_g) (fun e=>by cases e) (zE hn_g) (fun h=>.row) (fun j hj=>rfl) rfl (by unfold maxLen;omega) om (is_appF hl2.symm (by rw [List.length_drop]) (fun j hj=> ?_)) fun og2 hog2 hp2=> ?_
   ·simp only [isF_at,List.getD_eq_getElem?_getD,List.getElem?_drop]
   generalize hLe:L.take a++[(i:Int)]++L.drop a=L' at*
   rw [show a+1+(L.length-a)=L'.length from by omega] at hog2⊢
   refine ySG hn_g ?_
   refine aw_perm (h':=gh og2 3 (L'.length*1) (isF L')++[]) (by rw [List.append_nil,Nat.mul_one]) ?_
   refine aw_frzGT (t:=3) (f':=isF L') hog2 rfl (zE hn_g) ?_ (fun _ _=>rfl) rfl ?_
   ·exact fun g _ h=>by have:=(hC g).1 h;simp [Heap.keys] at this
   refine ySG hn_g ?_
   exact aw_stop ⟨(i+1,L'),by dsimp only;omega,(zB hn_g),zZ,by dsimp only;omega,hR⟩
  ·obtain⟨h3,h4⟩:=hc.1 rfl
   refine xP ?_
   refine xG ?_
   refine aw_stop ⟨a-1,by omega,eB,zZ,by omega,fun j j1 j2=> ?_⟩
   rcases Nat.lt_or_ge j a with h|h
   ·rw [show j=a-1 from by omega];exact h4
   ·exact hhi j h j2
 ·have hin:i=p.length:=dF h1
  subst hin
  refine xG ?_
  refine aw_rethw (h':=[]) rfl (List.nil_sublist _) (fun R hR2=> ?_)
  simp only [go_sem]
  refine hR2 _ rfl ?_
  exact⟨rfl,L,hL,rfl⟩
end Go.Proofs.YtfcnbgmclfkfcaaGreat
namespace Go.Proofs.YtfcnbgmclfkfcaaGreat
open Go.AI Go.PN
attribute [local irreducible] aw Fa Fh DrK
set_option maxRecDepth 100000 in
set_option maxHeartbeats 3200000 in
theorem lawWRanks_fa (p:List RD) (hw:WordsOk p) (hl:p.length≤1099511627776):
 Fa Tryz.prog 8 [.c (rats false p)] (.c (.bool true)):=by
 refine fa_of_body Tryz.func8 rfl rfl (by simp [Tryz.ntmps8]) fun C hC=> ?_
 simp only [initS,Nat.reduceAdd]
 refine xG ?_
 refine xC (awake43_fa) ?_
 by_cases h6:(p.length:Int)>60
 ·have d1:decide ((p.length:Int)>60)=true:=decide_eq_true h6
  refine yGPG d1 ?_
  refine yC d1 (awake43_fa) ?_
  refine yGT hC d1 ?_
  exact .one (.c (.bool _))
 have d1:decide ((p.length:Int)>60)=false:=decide_eq_false h6
 refine yG d1 ?_
 refine aw_callq (large43_fa fm0 p (by decide) fm0_args (by decide) (by decide) hl) rfl rfl rfl (by refine yS d1 ?_;exact⟨.agg ⟨.refl _,.nils,.refl _,trivial⟩,.c (.refl _)⟩) ?_
 refine ySG d1 ?_
 refine yF d1 (fun hL=>?_) fun hL=>?_
 ·refine yG d1 ?_
  refine yC d1 (awake43_fa) ?_
  refine yGT hC d1 ?_
  exact .one (.c (.bool _))
 have hw4:=fm0_wf hw hL
 have hw5:∀r∈p,r.wf 500000000:=fun r hr=>wf_mono (hw4 r hr) om
 refine yG d1 ?_
 refine aw_callh (hc:=[]) (hr:=[]) (rank_fh p hw5 om) rfl rfl rfl (.refl _) (zL d1) ?_
 rintro _ _ ⟨rfl,L,hR,rfl⟩ _
 refine ySG d1 ?_
 refine aw_callh (hc:=[]) (hr:=[]) (rankR_fh p hw5 om) rfl rfl rfl (.refl _) (zL d1) ?_
 rintro _ _ ⟨rfl,L',hR',rfl⟩ _
 obtain rfl:=rnk_uniq hR hR'
 have hl:=hR.len
 have hii:=ints_fa L L om
 rw [decide_eq_true rfl] at hii
 refine ySG d1 ?_
 refine yC d1 (hii) ?_
 refine ySGT hC d1 ?_
 exact .one (.c (.bool _))
end Go.Proofs.YtfcnbgmclfkfcaaGreat
