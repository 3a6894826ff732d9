/- Parts of one proof, laid by a program. -/
import Derived.Test.YtpcpaekpnfkhhaaGreatDoorM00
import Derived.Test.YtpcpaekpnfkhhaaGreatDoorM09
set_option linter.unusedSimpArgs false
set_option linter.unusedVariables false
set_option maxRecDepth 100000
set_option maxHeartbeats 12800000
namespace Go.AI
section
variable {P : Program} {h : Heap} {ρ : Operand → AV}
theorem POk.capNil {t el size bytes:Nat} {x:Operand} (ht:tElem P t=some (el,size,bytes)) (hx:ρ x=.c (.raw (.slice none 0 0))):POk P h ρ (.call {callee:=.builtin .cap,args:= #[x],argTypes:= #[t]}) (.c (.int .i64 0)):=fun S w e _ ho _=>by
 have h2:e x=.slice none 0 0:=by have:=ho x (by simp [Op.operands,Call.operands]);rw [hx] at this;exact this
 obtain⟨hu,_⟩:=tElem_spec ht
 exact⟨.int .i64 0,fun o hop=>by simp [execOp,hop,resolve,invoke,Go.builtin,Builtin.cap_,h2,run_underlying hu,goInt],rfl⟩
theorem gsR_gs {S:Bool→Nat→Prop} {w:World} {u:Value} {og:Option Nat} {n:Nat} (h:Rep S w (.c (gsR og n)) u):Rep S w (.c (gs og 1 n)) u:=by
 cases og with
 |none=>exact⟨none,h⟩
 |some g=>exact h
end
section
variable {E : Env} {K : List It} {σ σ' : Sl} {h : Heap}
theorem aw_shrink {x:Nat×AObj} {g n m:Nat} {ty:TypeId} {f:Nat→CV} (hm:m≤n) (k:aw E K σ (x::(g,.cells ty m f)::h)):aw E K σ (x::(g,.cells ty n f)::h):=fun a w s=>by
 refine k a w ⟨s.size,s.defers,s.slots,fun g' o' hq=> ?_,s.nodup,s.keys,s.frame⟩
 rcases List.mem_cons.1 hq with e|hq
 ·exact s.heap g' o' (List.mem_cons.2 (.inl e))
 ·rcases List.mem_cons.1 hq with e|hq
  ·injection e with e1 e2
   subst e1 e2
   obtain⟨cs,hb,hn,hj⟩:=s.heap g' _ (List.mem_cons_of_mem _ (List.mem_cons_self ..))
   exact⟨cs,hb,Nat.le_trans hm hn,fun j hjm=>hj j (Nat.lt_of_lt_of_le hjm hm)⟩
  ·exact s.heap g' o' (List.mem_cons_of_mem _ (List.mem_cons_of_mem _ hq))
end
end Go.AI
namespace Go.PN
open Go.AI
theorem byte_push (B:List UInt8) (c:UInt8):∀j,j<(B.length+1)*1→appF (byF B) (B.length*1) (ofL [.int .u8 (c.toNat:Int)]) j=byF (B++[c]) j:=fun j _=>by
 rw [Nat.mul_one,←byF_app]
 unfold appF
 split
 ·rfl
 ·rename_i h1
  by_cases e:j=B.length
  ·subst e;rw [Nat.sub_self];rfl
  ·omega
end Go.PN
namespace Go.Proofs.YtpcpaekpnfkhhaaGreatDoor
open Go.AI Go.PN
attribute [local irreducible] aw Fa Fh DrK
theorem wbyteG_fh {ty:TypeId} {r:List CV} (hB:BlkB ty r) (gB:Nat) (a:CV) (og:Option Nat) (B:List UInt8) (c:UInt8) (hbd:BdOk a gB og B) (hlen:B.length+1≤100000000000):
  Fh Tryz.prog 121 (bdH ty r gB a og B) [.c (.optr gB 0),.c (.int .u8 (c.toNat:Int))]
   (fun x h=>∃og',BdOk (.optr gB 0) gB og' (B++[c])∧x=.c .nilI∧h=bdH ty r gB (.optr gB 0) og' (B++[c])):=by
 obtain⟨ha,hog⟩:=hbd
 have hcc:=copyCheckG_fh hB gB a (gsR og B.length) ha
 refine fh_of_body Tryz.func121 rfl rfl (by simp [Tryz.ntmps121]) fun C hC=> ?_
 simp only [initS,Nat.reduceAdd]
 refine xG ?_
 refine aw_callh (hc:=[bldG ty r gB a (gsR og B.length)]) (hr:=gh og 5 B.length (byF B)) hcc rfl rfl rfl (.refl _) eL ?_
 rintro _ _ ⟨rfl,rfl⟩ _
 refine xSG ?_
 refine aw_conv (t:=11) (v:=.c (gs og 1 B.length)) (fun S w u h=>gsR_gs h) rfl ?_
 refine xS ?_
 refine aw_perm (h':=[bldG ty r gB (.optr gB 0) (gsR og B.length)]++gh og 5 (B.length*1) (byF B)) (by rw [Nat.mul_one];exact .refl _) ?_
 refine aw_push (pre:=[bldG ty r gB (.optr gB 0) (gsR og B.length)]) rfl rfl rfl rfl rfl rfl rfl eE eE (by rfl) om om eE om (by exact hog) eE (by rfl) (by rfl) qb qc om (by exact byte_push B c) fun g hn_g=> ?_
 replace hn_g:=Heap.ne_of hn_g
 first|dsimp only [Heap.ne,gh] at hn_g|dsimp only [Heap.ne] at hn_g|skip
 refine yS hn_g ?_
 rw [show B.length+1=(B++[c]).length from by simp]
 refine(?_:aw _ _ _ (bldG ty r gB (.optr gB 0) (gsR og B.length)::gh (some g) 5 (B++[c]).length (byF (B++[c]))))
 refine yG hn_g ?_
 refine aw_store rfl rfl rfl rfl (zE hn_g) (zE hn_g) (zE hn_g) (zE hn_g) (fun _ e=>by cases e) (by rfl) (by rfl) om rfl ?_
 refine yS hn_g ?_
 refine aw_conv1 (f':=ofL (.optr gB 0::gsR (some g) (B++[c]).length::r)) (fun j hj=>by match j,hj with|0,_=>rfl|1,_=>rfl|j+2,_=>rfl) ?_
 refine yG hn_g ?_
 refine yU hn_g ?_
 exact⟨some g,⟨.inr rfl,fun e=>by cases e⟩,rfl,rfl⟩
theorem lenG_fh {ty:TypeId} {r:List CV} (gB:Nat) (a:CV) (og:Option Nat) (B:List UInt8) (hog:og=none→B.length=0):
  Fh Tryz.prog 78 (bdH ty r gB a og B) [.c (.optr gB 0)] (fun x h=>x=.c (.int .i64 B.length)∧h=bdH ty r gB a og B):=by
 cases og with
 |none=>
  have hB:=List.length_eq_zero_iff.1 (hog rfl)
  subst hB
  refine fh_of_body Tryz.func78 rfl rfl (by simp [Tryz.ntmps78]) fun C hC=> ?_
  simp only [initS,Nat.reduceAdd]
  refine xG ?_
  refine aw_pok (POk.lenNil (by exact tya_e_85) eE) rfl rfl ?_
  refine xSGU ?_
  exact⟨rfl,rfl⟩
 |some g=>
  refine(?_:Fh _ _ (bldG ty r gB a (.osl g 1 0 B.length)::[(g,.cells 5 B.length (byF B))]) _ _)
  refine fh_of_body Tryz.func78 rfl rfl (by simp [Tryz.ntmps78]) fun C hC=> ?_
  simp only [initS,Nat.reduceAdd]
  refine xG ?_
  refine xU ?_
  exact⟨rfl,rfl⟩
theorem grow_fh {ty:TypeId} {r:List CV} (gB n:Nat) (a:CV) (hn:n≤140737488355328):
  Fh Tryz.prog 294 [bldG ty r gB a (gsR none 0)] [.c (.optr gB 0),.c (.int .i64 n)]
   (fun x h=>∃g,x=.tup []∧h=bdH ty r gB a (some g) []):=by
 refine(?_:Fh _ _ [bldG ty r gB a (.raw (.slice none 0 0))] _ _)
 have h20:(2:Int)*0+(n:Int)=n:=by omega
 refine fh_of_body Tryz.func294 rfl rfl (by simp [Tryz.ntmps294]) fun C hC=> ?_
 simp only [initS,Nat.reduceAdd]
 refine yG h20 ?_
 refine aw_cw [bldG ty r gB a (.raw (.slice none 0 0))] [(0,0),(1,0),(2,0),(3,0),(4,0),(5,0),(6,0),(7,0),(9,0),(10,0),(11,0),(12,0),(13,0),(8,1),(14,0),(15,0)] ty_mixed (by kernel_rfl) (has0_cons (List.mem_cons_self ..) has0_nil) ?_
 refine yG h20 ?_
 refine cw_pok rfl (fun _ _=>POk.capNil (by exact tya_e_85) (zE h20)) rfl rfl ?_
 refine ySG h20 ?_
 refine cw_pok rfl (fun _ _=>POk.lenNil (by exact tya_e_85) (zE h20)) rfl rfl ?_
 refine ySG h20 ?_
 refine cw_mnz (n:=n) rfl Tryz.func323 rfl rfl rfl rfl Tryz.underlying85 rfl rfl rfl (fun _=>rfl) (zE h20) hn (has0_cons (List.mem_cons_self ..) has0_nil) (fun g hn_g=> ?_) (.inr ⟨rfl,rfl⟩)
 replace hn_g:=Heap.ne_of hn_g
 dsimp only [Heap.ne] at hn_g
 have J1:=oj h20 hn_g
 refine ySG J1 ?_
 refine aw_conv (t:=24) (v:=.c .nils) (fun S w u h=>⟨none,h⟩) rfl ?_
 refine aw_copyS (n:=0) (k:=0) (q:=0) (m:=n) (f2:=fun _=>.any) rfl rfl rfl (by exact tya_e_85) (zE J1) (zE J1) (zE J1) .nils rfl om rfl (zE J1) ?_
 refine ySG J1 ?_
 refine yW J1 ?_
 refine yS J1 ?_
 refine aw_perm (List.Perm.swap _ _ _) ?_
 refine aw_shrink (m:=0) (Nat.zero_le _) ?_
 refine aw_perm (List.Perm.swap _ _ _) ?_
 refine aw_conv1 (f':=byF []) (fun j hj=>absurd hj (Nat.not_lt_zero j)) ?_
 refine aw_perm (List.Perm.swap _ _ _) ?_
 refine aw_conv1 (f':=ofL (a::.osl g 1 0 0::r)) (fun j hj=>by match j,hj with|0,_=>rfl|1,_=>rfl|j+2,_=>rfl) ?_
 refine yG J1 ?_
 refine yV J1 ?_
 exact⟨g,rfl,rfl⟩
theorem growG_fh {ty:TypeId} {r:List CV} (hB:BlkB ty r) (gB n:Nat) (a:CV) (ha:a=.raw (.pointer none)∨a=.optr gB 0) (h0:0<n) (hn:n≤140737488355328):
  Fh Tryz.prog 226 [bldG ty r gB a (gsR none 0)] [.c (.optr gB 0),.c (.int .i64 n)]
   (fun x h=>∃g,x=.tup []∧h=bdH ty r gB (.optr gB 0) (some g) []):=by
 have hcc:=copyCheckG_fh hB gB a (gsR none 0) ha
 have hgr:=grow_fh (ty:=ty) (r:=r) gB n (.optr gB 0) hn
 have d0:decide (0<n)=true:=decide_eq_true h0
 have d1:decide (n<0)=false:=decide_eq_false (Nat.not_lt_zero n)
 have d2:(0:Int)-0=0:=rfl
 refine fh_of_body Tryz.func226 rfl rfl (by simp [Tryz.ntmps226]) fun C hC=> ?_
 simp only [initS,Nat.reduceAdd]
 have J1:=oj d0 (oj d1 d2)
 refine yG J1 ?_
 refine aw_callh (hc:=[bldG ty r gB a (gsR none 0)]) (hr:=[]) hcc rfl rfl rfl (.refl _) (zL J1) ?_
 rintro _ _ ⟨rfl,rfl⟩ _
 refine ySG J1 ?_
 refine(?_:aw _ _ _ [bldG ty r gB (.optr gB 0) (.raw (.slice none 0 0))])
 refine yN J1 ?_
 refine yG J1 ?_
 refine aw_dr 13 ty_mixed (by kernel_rfl) ?_
 refine yG J1 ?_
 refine drk_pok (POk.capNil (by exact tya_e_85) (zE J1)) rfl rfl ?_
 refine ySG J1 ?_
 refine drk_pok (POk.lenNil (by exact tya_e_85) (zE J1)) rfl rfl ?_
 refine ySG J1 ?_
 refine yP J1 ?_
 refine yG J1 ?_
 refine aw_callh (hc:=[bldG ty r gB (.optr gB 0) (gsR none 0)]) (hr:=[]) hgr rfl rfl rfl (.refl _) (zL J1) ?_
 rintro _ _ ⟨g,rfl,rfl⟩ _
 refine ySGV J1 ?_
 exact⟨g,rfl,rfl⟩
theorem bstrG_fh {ty:TypeId} {r:List CV} (gB:Nat) (a:CV) (og:Option Nat) (B:List UInt8) (h0:og=none→B=[]) (h1:B=[]→og=none) (hlen:B.length≤100000000000):
  Fh Tryz.prog 79 (bdH ty r gB a og B) [.c (.optr gB 0)] (fun x h=>x=.c (.str (sB B))∧h=[]):=by
 cases og with
 |none=>
  have hB:=h0 rfl
  subst hB
  refine fh_of_body Tryz.func79 rfl rfl (by simp [Tryz.ntmps79]) fun C hC=> ?_
  simp only [initS,Nat.reduceAdd]
  refine xG ?_
  refine aw_dr 11 ty_mixed (by kernel_rfl) ?_
  refine xG ?_
  refine drk_pok (POk.sliceDataN eE) rfl rfl ?_
  refine xSG ?_
  refine drk_pok (POk.lenNil (by exact tya_e_85) eE) rfl rfl ?_
  refine xSG ?_
  refine drk_pok (POk.unsafeStr0 eE eE) rfl rfl ?_
  refine xSG ?_
  refine aw_weak (Sl.le_refl _) (List.nil_sublist _) ?_
  refine xU ?_
  exact⟨rfl,rfl⟩
 |some g=>
  have hB:B≠[]:=fun e=>by have:=h1 e;cases this
  have hB':0<B.length:=List.length_pos_iff.2 hB
  refine(?_:Fh _ _ (bldG ty r gB a (.osl g 1 0 B.length)::[(g,.cells 5 B.length (byF B))]) _ _)
  refine fh_of_body Tryz.func79 rfl rfl (by simp [Tryz.ntmps79]) fun C hC=> ?_
  simp only [initS,Nat.reduceAdd]
  refine aw_nd fun hnd=> ?_
  have hne:gB≠g:=fun e=>by subst e;simp [Heap.keys] at hnd
  have hne':(gB=g)=False:=eq_false hne
  refine yG hne' ?_
  refine aw_cw [bldG ty r gB a (.osl g 1 0 B.length)] [(0,0),(1,0),(2,0),(3,0),(4,0),(5,0),(6,0),(7,0),(8,0),(9,0),(10,2),(11,0)] ty_mixed (by kernel_rfl) (has0_cons (List.mem_cons_self ..) has0_nil) ?_
  refine yG hne' ?_
  refine cw_pok rfl (fun _ _=>POk.sliceData (zE hne') hB') rfl rfl ?_
  refine ySG hne' ?_
  refine cw_unsafeStr (FP':=[]) (bs:=B) (h':=[bldG ty r gB a (.osl g 1 0 B.length)]) rfl rfl rfl rfl und_u8p (by kernel_rfl) (zE hne') (zE hne') (zE hne') (Nat.le_refl _) hB om (fun _ _=>rfl) (zE hne') has0_nil ?_
  refine ySG hne' ?_
  refine aw_weak (Sl.le_refl _) (List.nil_sublist _) ?_
  refine yU hne' ?_
  exact⟨rfl,rfl⟩
end Go.Proofs.YtpcpaekpnfkhhaaGreatDoor
namespace Go.PN
open Go.AI
def sumW (l:List BS) (j:Nat):Nat:=((l.take j).map List.length).sum
theorem take_one (l:List BS) (j:Nat) (hj:j<l.length):l.take (j+1)=l.take j++[l.getD j []]:=by
 rw [List.take_add_one,List.getElem?_eq_getElem hj,List.getD_eq_getElem?_getD,List.getElem?_eq_getElem hj]
 rfl
theorem sumW_succ (l:List BS) (j:Nat) (hj:j<l.length):sumW l (j+1)=sumW l j+(l.getD j []).length:=by
 unfold sumW
 rw [take_one l j hj,List.map_append,List.sum_append]
 rfl
theorem sumW_le (l:List BS) (k:Nat):∀j,j+k=l.length→sumW l j≤sumW l l.length:=by
 induction k with
 |zero=>intro j hj;rw [←hj];exact Nat.le_refl _
 |succ k ih=>
  intro j hj
  have h1:=ih (j+1) om
  have h2:=sumW_succ l j om
  omega
def catW (x:BS) (l:List BS) (j:Nat):BS:=x++(l.take j).flatMap fun y=>32::y
theorem catW_succ (x:BS) (l:List BS) (j:Nat) (hj:j<l.length):catW x l (j+1)=catW x l j++[32]++l.getD j []:=by
 unfold catW
 rw [take_one l j hj,List.flatMap_append,List.append_assoc,List.append_assoc,←List.append_assoc]
 simp
theorem catW_len (x:BS) (l:List BS) (j:Nat) (hj:j≤l.length):(catW x l j).length=x.length+j+sumW l j:=by
 induction j with
 |zero=>simp [catW,sumW]
 |succ j ih=>rw [catW_succ x l j om,sumW_succ l j om,List.length_append,List.length_append,ih om];simp;omega
end Go.PN
namespace Go.Proofs.YtpcpaekpnfkhhaaGreatDoor
open Go.AI Go.PN
attribute [local irreducible] aw Fa Fh DrK
theorem join_fa (t:Bool) (l:List BS) (hl:l.length+sumW l l.length≤10000000000):Fa Tryz.prog 122 [.c (strs t l),.c (.str (sB [32]))] (.c (.str (sB (joinW l)))):=by
 match l,hl with
 |[],_=>
  refine fa_of_body Tryz.func122 rfl rfl (by simp [Tryz.ntmps122]) fun C hC=> ?_
  simp only [initS,Nat.reduceAdd]
  refine zA o0 ?_
  refine xT hC ?_
  exact .one (.c (.str _))
 |[x],_=>
  have e:joinW [x]=x:=by simp [joinW]
  rw [e]
  refine fa_of_body Tryz.func122 rfl rfl (by simp [Tryz.ntmps122]) fun C hC=> ?_
  simp only [initS,Nat.reduceAdd]
  refine zA o0 ?_
  refine xT hC ?_
  exact .one (.c (.str _))
 |x::y::r,hl=>
  obtain⟨l,hl0⟩:∃l,l=x::y::r:=⟨_,rfl⟩
  rw [←hl0] at hl⊢
  obtain⟨N,hN⟩:∃N,l.length=N:=⟨_,rfl⟩
  have h2N:2≤N:=by rw [←hN,hl0];simp
  rw [hN] at hl
  refine(?_:Fa _ _ [.c (.row t 1 l.length (strsF l)),_] _)
  rw [hN]
  have h1:((N:Int)==0)=false:=by rw [beq_eq_false_iff_ne];omega
  have h2:((N:Int)==1)=false:=by rw [beq_eq_false_iff_ne];omega
  have hq0:quoZ .i64 9223372036854775807 ((N:Int)-1)=((9223372036854775807/(N-1):Nat):Int):=by
   rw [quoZ_eq,show((N:Int)-1)=((N-1:Nat):Int) from by omega]
   show IntKind.i64.wrap (Int.tdiv _ _)=_
   rw [show(9223372036854775807:Int).tdiv ((N-1:Nat):Int)=((9223372036854775807/(N-1):Nat):Int) from rfl]
   exact wrap_inRange (by have:=Nat.div_le_self 9223372036854775807 (N-1);generalize 9223372036854775807/(N-1)=q at*;simp only [inRange];omega)
  have hq1:2≤9223372036854775807/(N-1):=(Nat.le_div_iff_mul_le om).2 om
  have hq:decide (1≥quoZ .i64 9223372036854775807 ((N:Int)-1))=false:=decide_eq_false (by rw [hq0];generalize 9223372036854775807/(N-1)=q at hq1⊢;omega)
  obtain⟨T,hT⟩:∃T:Nat→Nat,∀j,T j=N-1+sumW l j:=⟨_,fun _=>rfl⟩
  have hi0:(0:Int)+1*((N:Int)-1)=((T 0:Nat):Int):=by rw [hT,show sumW l 0=0 from rfl];clear hq0 hq1 hq;omega
  refine fa_of_body Tryz.func122 rfl rfl (by simp [Tryz.ntmps122]) fun C hC=> ?_
  simp only [initS,Nat.reduceAdd]
  refine zA (oj h1 (oj h2 (oj hq hi0))) ?_
  refine aw_lp (fun j:Nat=>[(0,.c (.row t 1 N (strsF l))),(1,.c (.str (sB [32]))),(5,.c (.int .i64 (T j:Int))),(39,.c (.row t 1 N (strsF l))),(40,.c (.int .i64 N)),(41,.c (.int .i64 j))]) (fun _=>[]) (fun j=>j≤N) (fun j=>N-j) 0 (zB (oj h1 (oj h2 (oj hq hi0)))) zZ (Nat.zero_le _) ?_
  rintro j hj
  by_cases hjN:j<N
  ·have d1:decide (j<N)=true:=decide_eq_true hjN
   have s1:=sumW_succ l j om
   have s2:=sumW_le l (N-(j+1)) (j+1) om
   rw [hN] at s2
   have s3:(T j:Int)+((l.getD j []).length:Int)=(T (j+1):Int):=by rw [hT,hT];omega
   have s4:T j+(l.getD j []).length≤10000000000:=by rw [hT];omega
   all_goals try(have Z:=(oj h1 (oj h2 (oj hq (oj hi0 (oj d1 s3)))));(repeat' first|refine zV Z ?_|refine zH Z (fun hb=>?_) fun hb=>?_|fail);all_goals clear Z)
   ·exact absurd hb om
   ·exact aw_stop ⟨j+1,by omega,(zB (oj h1 (oj h2 (oj hq (oj hi0 (oj d1 s3)))))),zZ,by omega⟩
  ·have d1:decide (j<N)=false:=decide_eq_false hjN
   have e:j=N:=by omega
   subst e
   have hTj:T j≤10000000000:=by rw [hT];omega
   have hT0:0<T j:=by rw [hT];omega
   have g0:l.getD 0 []=x:=by rw [hl0];rfl
   have g1:∀i,l.getD (1+i) []=(y::r).getD i []:=fun i=>by rw [hl0,Nat.add_comm];rfl
   have hr1:(y::r).length=j-1:=by rw [←hN,hl0];simp
   have c0:catW x (y::r) 0=x:=by simp [catW]
   have cN:joinW l=catW x (y::r) (j-1):=by rw [hl0,←hr1];unfold catW;rw [List.take_length];rfl
   have hcl:∀i,i≤j-1→(catW x (y::r) i).length≤10000000000:=fun i hi=>by
    rw [catW_len x (y::r) i om]
    have a1:=sumW_le (y::r) (j-1-i) i om
    have a2:sumW l j=x.length+sumW (y::r) (y::r).length:=by rw [←hN,hl0];unfold sumW;rw [List.take_length,List.take_length];rfl
    rw [hr1] at a1 a2
    omega
   have hxl:x.length≤10000000000:=by have:=hcl 0 (Nat.zero_le _);rwa [c0] at this
   refine zA (oj h1 (oj h2 (oj hq (oj hi0 (oj d1 g0))))) ?_
   refine aw_allocR (vs:=[.pointer none,.slice none 0 0]) rfl rfl rfl (by kernel_rfl) fun gB hn_gB=> ?_
   refine(?_:aw _ _ _ [bldG 144 [] gB (.raw (.pointer none)) (gsR none 0)])
   have J1:=oj h1 (oj h2 (oj hq (oj hi0 (oj d1 g0))))
   refine ySG J1 ?_
   refine aw_callh (hc:=[bldG 144 [] gB (.raw (.pointer none)) (gsR none 0)]) (hr:=[]) (growG_fh blkB gB (T j) _ (.inl rfl) hT0 om) rfl rfl rfl (.refl _) (zL J1) ?_
   rintro _ _ ⟨g,rfl,rfl⟩ _
   refine ySG J1 ?_
   refine aw_callh (hc:=bdH 144 [] gB (.optr gB 0) (some g) []) (hr:=[]) (wstrG_fh blkB gB _ (some g) [] x ⟨.inr rfl,fun e=>by cases e⟩ (by rw [List.length_nil];omega)) rfl rfl rfl (.refl _) (zL J1) ?_
   rintro _ _ ⟨og,h3,rfl,rfl⟩ _
   refine ySG J1 ?_
   rw [List.nil_append] at h3
   refine aw_lp (fun z:Nat×Option Nat=>[(1,.c (.str (sB [32]))),(8,.c (.optr gB 0)),(63,.c (.row t 1 (j-1) fun q=>.str (sB (l.getD (1+q) [])))),(64,.c (.int .i64 ((j-1:Nat):Int))),(65,.c (.int .i64 z.1))]) (fun z=>bdH 144 [] gB (.optr gB 0) z.2 (catW x (y::r) z.1)) (fun z=>z.1≤j-1∧BdOk (.optr gB 0) gB z.2 (catW x (y::r) z.1)) (fun z=>j-1-z.1) (0,og) (zB J1) (by dsimp only;rw [c0];exact List.Sublist.refl _) ⟨Nat.zero_le _,by rw [c0];exact h3⟩ ?_
   rintro ⟨q,og2⟩ ⟨hq2,hbd⟩
   dsimp only at hq2 hbd⊢
   have hcq:=hcl q hq2
   by_cases hqN:q<j-1
   ·have e1:decide (q<j-1)=true:=decide_eq_true hqN
    have hcs:=catW_succ x (y::r) q om
    have hcq2:=hcl (q+1) om
    have g2:=g1 q
    refine zA (oj h1 (oj h2 (oj hq (oj hi0 (oj d1 (oj g0 (oj e1 g2))))))) ?_
    refine aw_callh (hc:=bdH 144 [] gB (.optr gB 0) og2 (catW x (y::r) q)) (hr:=[]) (wstrG_fh blkB gB _ og2 (catW x (y::r) q) [32] hbd (by simp;omega)) rfl rfl rfl (by rw [List.append_nil]) (zL (oj h1 (oj h2 (oj hq (oj hi0 (oj d1 (oj g0 (oj e1 g2)))))))) ?_
    rintro _ _ ⟨og3,h4,rfl,rfl⟩ _
    have J2:=oj h1 (oj h2 (oj hq (oj hi0 (oj d1 (oj g0 (oj e1 g2))))))
    refine ySG J2 ?_
    refine aw_callh (hc:=bdH 144 [] gB (.optr gB 0) og3 (catW x (y::r) q++[32])) (hr:=[]) (wstrG_fh blkB gB _ og3 (catW x (y::r) q++[32]) ((y::r).getD q []) h4 (by rw [←List.length_append,←hcs];omega)) rfl rfl rfl (by rw [List.append_nil]) (zL J2) ?_
    rintro _ _ ⟨og4,h5,rfl,rfl⟩ _
    rw [←hcs] at h5⊢
    refine ySG J2 ?_
    exact aw_stop ⟨(q+1,og4),by dsimp only;omega,(zB J2),zZ,by dsimp only;omega,h5⟩
   ·have e1:decide (q<j-1)=false:=decide_eq_false hqN
    have e2:q=j-1:=by omega
    subst e2
    have hne:0<(catW x (y::r) (j-1)).length:=by rw [catW_len x (y::r) (j-1) om];omega
    refine zA (oj h1 (oj h2 (oj hq (oj hi0 (oj d1 (oj g0 e1)))))) ?_
    refine aw_callh (hc:=bdH 144 [] gB (.optr gB 0) og2 (catW x (y::r) (j-1))) (hr:=[]) (bstrG_fh gB _ og2 _ (fun e=>List.length_eq_zero_iff.1 (hbd.2 e)) (fun e=>by rw [e] at hne;simp at hne) om) rfl rfl rfl (by rw [List.append_nil]) (zL (oj h1 (oj h2 (oj hq (oj hi0 (oj d1 (oj g0 e1))))))) ?_
    rintro _ _ ⟨rfl,rfl⟩ _
    have J3:=oj h1 (oj h2 (oj hq (oj hi0 (oj d1 (oj g0 e1)))))
    refine ySG J3 ?_
    rw [cN]
    refine yT hC J3 ?_
    exact .one (.c (.str _))
end Go.Proofs.YtpcpaekpnfkhhaaGreatDoor
namespace Go.PN
open Go.AI
def nineF (n j:Nat) (q:Nat):CV:=if 9≤q+j then .int .u8 ((48+n/10^(8-q)%10:Nat):Int) else .int .u8 0
theorem nineF_end (n:Nat):∀q,q<9→nineF n 9 q=byF (nineL n) q:=fun q hq=>by
 unfold nineF byF nineL
 rw [if_pos om,List.getD_eq_getElem?_getD,List.getElem?_map,List.getElem?_range hq]
 show _=CV.int .u8 ((UInt8.ofNat (48+n/10^(8-q)%10)).toNat:Int)
 have h:48+n/10^(8-q)%10<2^8:=by have:=Nat.mod_lt (n/10^(8-q)) (show 0<10 by omega);omega
 rw [UInt8.toNat_ofNat',Nat.mod_eq_of_lt h]
theorem nineF_step (n j:Nat) (hj:j<9):∀q,q<9→updF (nineF n j) (8-j) [.int .u8 ((48+n/10^j%10:Nat):Int)] q=nineF n (j+1) q:=fun q hq=>by
 show(if q=8-j then CV.int .u8 ((48+n/10^j%10:Nat):Int) else nineF n j q)=_
 unfold nineF
 by_cases e:q=8-j
 ·subst e
  rw [if_pos rfl,if_pos om,show 8-(8-j)=j from by omega]
 ·rw [if_neg e]
  by_cases h:9≤q+j
  ·rw [if_pos h,if_pos om]
  ·rw [if_neg h,if_neg om]
end Go.PN
namespace Go.Proofs.YtpcpaekpnfkhhaaGreatDoor
open Go.AI Go.PN
attribute [local irreducible] aw Fa Fh DrK
theorem trimByte_fa (l:List UInt8) (c:UInt8) (hl:l.length≤100000000000):Fa Tryz.prog 329 [.c (.str (sB l)),.c (.int .u8 (c.toNat:Int))] (.c (.str (sB (l.dropWhile (·==c))))):=by
 refine fa_of_body Tryz.func329 rfl rfl (by simp [Tryz.ntmps329]) fun C hC=> ?_
 simp only [initS,Nat.reduceAdd]
 refine xG ?_
 refine aw_lp (fun m:List UInt8=>[(0,.c (.str (sB m))),(1,.c (.int .u8 (c.toNat:Int)))]) (fun _=>[]) (fun m=>m.length≤l.length∧l.dropWhile (·==c)=m.dropWhile (·==c)) (fun m=>m.length) l eB zZ ⟨Nat.le_refl _,rfl⟩ ?_
 rintro m ⟨hm,he⟩
 cases m with
 |nil=>
  repeat' first|refine zV o0 ?_|refine zH o0 (fun hb=>?_) fun hb=>?_|fail
  rw [he]
  refine xT hC ?_
  exact .one (.c (.str _))
 |cons a r=>
  repeat' first|refine zV o0 ?_|refine zH o0 (fun hb=>?_) fun hb=>?_|fail
  ·have hac:(a==c)=true:=by
    have:a.toNat=c.toNat:=hb
    exact beq_iff_eq.2 (UInt8.toNat_inj.1 this)
   have hcut:cutS (a::r) 1 (r.length+1)=r:=by
    unfold cutS
    exact List.take_of_length_le (by simp)
   exact aw_stop ⟨r,by simp,(zB hcut),zZ,by simp at hm;omega,by rw [he,List.dropWhile_cons,if_pos hac]⟩
  ·have hac:(a==c)=false:=by
    refine Bool.eq_false_iff.2 fun e=> ?_
    exact hb (by rw [eq_of_beq e];rfl)
   rw [he,List.dropWhile_cons,if_neg (by rw [hac];simp)]
   refine xT hC ?_
   exact .one (.c (.str _))
  ·exact absurd hb om
theorem trimLeft_fa (l:List UInt8) (hl:l.length≤100000000000):Fa Tryz.prog 302 [.c (.str (sB l)),.c (.str (sB [48]))] (.c (.str (sB (l.dropWhile (·==48))))):=by
 have h48:strEq (sB [48]) ⟨#[]⟩=false:=by rw [show(⟨#[]⟩:ByteArray)=sB [] from rfl,sb_eq];rfl
 have f0:Fa Tryz.prog 329 [.c (.str (sB l)),.c (.int .u8 48)] (.c (.str (sB (l.dropWhile (·==48))))):=trimByte_fa l 48 hl
 have h11:((1:Int)==1)=true:=rfl
 have h128:decide ((48:Int)<128)=true:=rfl
 have h480:bAt [48] 0=48:=rfl
 refine fa_of_body Tryz.func302 rfl rfl (by simp [Tryz.ntmps302]) fun C hC=> ?_
 simp only [initS,Nat.reduceAdd]
 all_goals try(have Z:=(oj h48 (oj h11 (oj h128 h480)));(repeat' first|refine zV Z ?_|(refine yC2 Z (f0) ?_)|(refine yD2 Z (f0) ?_)|refine zH Z (fun hb=>?_) fun hb=>?_|fail);all_goals clear Z)
 ·rw [hb]
  refine yT hC (oj h48 (oj h11 (oj h128 h480))) ?_
  exact .one (.c (.str _))
 ·refine yT hC (oj h48 (oj h11 (oj h128 h480))) ?_
  exact .one (.c (.str _))
theorem und_a9:Tryz.prog.underlying 335=some (.array 9 5):=Tryz.underlying335
theorem und_u8s:Tryz.prog.underlying 85=some (.slice 5):=Tryz.underlying85
theorem und_u8:Tryz.prog.underlying 5=some (.int .u8):=Tryz.underlying5
theorem bytesStr' {P:Program} {h:Heap} {ρ:Operand→AV} {s d el ty:TypeId} {x:Operand} {g m n:Nat} {f:Nat→CV} {l:List UInt8} (hs:P.underlying s=some (.slice el)) (he:P.underlying el=some (.int .u8)) (hd:P.underlying d=some .string) (hn:n=l.length) (hx:ρ x=.c (.osl g 1 0 n))
  (hg:h.get g=some (.cells ty m f)) (hm:n≤m) (hf:∀j,j<n→f j=byF l j):POk P h ρ (.convert s d x) (.c (.str ⟨l.toArray⟩)):=by
 subst hn
 exact POk.bytesStr hs he hd hx hg hm hf
theorem wrap8 {a:Nat} (h:a<256):wrapZ .u8 (a:Int)=(a:Int):=by rw [wrapZ_eq];exact wrap_inRange (by simp only [inRange];omega)
theorem rem10 (a:Nat):remZ (a:Int) 10=((a%10:Nat):Int):=rem_nat a 10
theorem quo10 (a:Nat) (ha:a<4294967296):quoZ .u32 (a:Int) 10=((a/10:Nat):Int):=quo_u32 a 10 ha
theorem nine_fa (n:Nat) (hn:n<4294967296):Fa Tryz.prog 301 [.c (.int .u32 (n:Int))] (.c (.str (sB (nineL n)))):=by
 refine fa_of_body Tryz.func301 rfl rfl (by simp [Tryz.ntmps301]) fun C hC=> ?_
 simp only [initS,Nat.reduceAdd]
 refine xG ?_
 refine xA fun g3 hn_g3=>?_
 refine aw_conv1 (f':=nineF n 0) (fun q hq=>by match q,hq with|0,_=>rfl|1,_=>rfl|2,_=>rfl|3,_=>rfl|4,_=>rfl|5,_=>rfl|6,_=>rfl|7,_=>rfl|8,_=>rfl) ?_
 refine yG hn_g3 ?_
 refine aw_lp (fun j:Nat=>[(0,.c (.int .u32 ((n/10^j:Nat):Int))),(3,.c (.optr g3 0)),(4,.c (.int .i64 (8-(j:Int))))]) (fun j=>[(g3,.cells 335 9 (nineF n j))]) (fun j=>j≤9) (fun j=>9-j) 0 (by refine yS hn_g3 ?_;simp) zZ (Nat.zero_le _) ?_
 rintro j hj
 refine yG hn_g3 ?_
 refine yF hn_g3 (fun h1=>?_) fun h1=>?_
 ·have h1':j<9:=dT h1
  have hlt:n/10^j<4294967296:=Nat.lt_of_le_of_lt (Nat.div_le_self _ _) hn
  have hst:=nineF_step n j h1'
  have hq10:n/10^j/10=n/10^(j+1):=by rw [Nat.div_div_eq_div_mul,←Nat.pow_succ]
  generalize n/10^j=a at*
  refine yG hn_g3 ?_
  rw [rem10]
  refine yG hn_g3 ?_
  rw [show(48:Int)+((a%10:Nat):Int)=((48+a%10:Nat):Int) from by omega]
  refine yG hn_g3 ?_
  rw [wrap8 (show 48+a%10<256 by omega)]
  refine aw_pok (POk.indexArr und_a9 (by kernel_rfl) (zE hn_g3) (zE hn_g3) om om) rfl rfl ?_
  rw [show(8-(j:Int)).toNat=8-j from by omega]
  refine ySG hn_g3 ?_
  refine yW hn_g3 ?_
  refine yS hn_g3 ?_
  refine aw_conv1 (f':=nineF n (j+1)) hst ?_
  refine yG hn_g3 ?_
  rw [quo10 a hlt,hq10]
  refine yG hn_g3 ?_
  rw [show(8:Int)-(j:Int)-1=8-((j+1:Nat):Int) from by omega]
  exact aw_stop ⟨j+1,by omega,(zB hn_g3),zZ,by omega⟩
 ·have h1':j=9:=dF h1
  subst h1'
  refine yG hn_g3 ?_
  refine aw_pok (POk.sliceArr und_a9 (by kernel_rfl) (by kernel_rfl) (zE hn_g3) (zE hn_g3) (Nat.le_refl _) qc) rfl rfl ?_
  refine ySG hn_g3 ?_
  refine aw_pok (bytesStr' (l:=nineL n) und_u8s und_u8 und_str (nineL_len n).symm (zE hn_g3) (zE hn_g3) om (fun q hq=>nineF_end n q hq)) rfl rfl ?_
  refine ySG hn_g3 ?_
  refine yT hC hn_g3 ?_
  exact .one (.c (.str _))
end Go.Proofs.YtpcpaekpnfkhhaaGreatDoor
namespace Go.PN
open Go.AI
def strF (G:List (List UInt8)) (j:Nat):CV:=.str (sB (G.getD j []))
@[go_sem] theorem strF_at (G:List (List UInt8)) (j:Nat):strF G j=.str (sB (G.getD j [])):=rfl
theorem str_push {zs:List (List UInt8)} {n:Nat} (hn:zs.length=n) (x:List UInt8):∀j,j<(n+1)*1→appF (strF zs) (n*1) (ofL [.str (sB x)]) j=strF (zs++[x]) j:=fun j hj=>by
 subst hn
 unfold appF
 by_cases h:j<zs.length*1
 ·rw [if_pos h]
  show CV.str (sB (zs.getD j []))=CV.str (sB ((zs++[x]).getD j []))
  rw [List.getD_eq_getElem?_getD,List.getD_eq_getElem?_getD,List.getElem?_append_left om]
 ·have e:j=zs.length:=by omega
  subst e
  rw [if_neg h]
  show ofL [.str (sB x)] (zs.length-zs.length*1)=CV.str (sB ((zs++[x]).getD zs.length []))
  rw [Nat.mul_one,Nat.sub_self,List.getD_eq_getElem?_getD,List.getElem?_append_right (Nat.le_refl _),Nat.sub_self]
  rfl
def bA (gB:Nat):Nat→CV
 |0=>.raw (.pointer none)
 |_+1=>.optr gB 0
theorem bA_or (gB i:Nat):bA gB i=.raw (.pointer none)∨bA gB i=.optr gB 0:=by cases i;exact .inl rfl;exact .inr rfl
end Go.PN
namespace Go.Proofs.YtpcpaekpnfkhhaaGreatDoor
open Go.AI Go.PN
attribute [local irreducible] aw Fa Fh DrK
theorem ntext_fa (xs:List Nat) (hx:∀x∈xs,x<4294967296) (hl:xs.length≤1000000):Fa Tryz.prog 232 [.c (ws false xs)] (.c (.str (sB (txtN (val xs))))):=by
 have hgb:=grps_bound hx
 have hwl:=words_val_len xs hx
 have hnine:=grps_nine _ (val xs) (Nat.le_refl _)
 have htx:txtN (val xs)=if((catTo (grps (val xs)) (grps (val xs)).length).dropWhile (·==48))==[] then [48] else(catTo (grps (val xs)) (grps (val xs)).length).dropWhile (·==48):=rfl
 refine fa_of_body Tryz.func232 rfl rfl (by simp [Tryz.ntmps232]) fun C hC=> ?_
 simp only [initS,Nat.reduceAdd]
 refine xG ?_
 refine xC (trim_fa xs hx ?_) ?_
 ·omega
 refine xG ?_
 generalize val xs=N at*
 refine aw_lp (fun x:Option Nat×List (List UInt8)×Nat=>[(0,.c (ws true (words x.2.2))),(3,.c (gs x.1 1 x.2.1.length))]) (fun x=>gh x.1 9 (x.2.1.length*1) (strF x.2.1))
  (fun x=>grps N=x.2.1++grps x.2.2∧x.2.2≤N∧(x.1=none→x.2.1.length=0)) (fun x=>x.2.2) (none,[],N) eB zZ ⟨rfl,Nat.le_refl _,fun _=>rfl⟩ ?_
 rintro ⟨og,G,v⟩ ⟨hG,hv,hog⟩
 dsimp only at hG hv hog⊢
 have hGl:G.length+(grps v).length≤2*xs.length:=by rw [←List.length_append,←hG];exact hgb
 have hvl:=words_len_mono hv
 refine xG ?_
 refine xF (fun h1=>?_) fun h1=>?_
 ·have h1':v≠0:=by
   intro e
   subst e
   rw [words_zero] at h1
   simp at h1
  have hst:=grps_cons h1'
  have hnl:(nineL (v%1000000000)).length=9:=nineL_len _
  refine xG ?_
  have hsm:=small_fa (words v) 1000000000 (words_lt v) om om om
  rw [val_words] at hsm
  refine xC (hsm) ?_
  refine xG ?_
  refine xC (nine_fa (v%1000000000) ?_) ?_
  ·omega
  refine xG ?_
  refine aw_push (pre:=[]) rfl rfl rfl rfl rfl rfl rfl eE eE (by rfl) om om eE om (by exact hog) eE (by rfl) (by rfl) qb qc om (by exact str_push rfl _) fun g hn_g=> ?_
  replace hn_g:=Heap.ne_of hn_g
  first|dsimp only [Heap.ne,gh] at hn_g|dsimp only [Heap.ne] at hn_g|skip
  refine ySG hn_g ?_
  have e:(G++[nineL (v%1000000000)]).length=G.length+1:=by simp
  refine aw_stop ⟨(some g,G++[nineL (v%1000000000)],v/1000000000),by dsimp only;omega,?_,?_,by dsimp only;rw [List.append_assoc,hG,hst];rfl,by dsimp only;omega,fun e=>by cases e⟩
  ·dsimp only
   rw [e]
   exact(zB hn_g)
  ·dsimp only
   rw [e]
   exact zZ
 ·have h1':v=0:=by
   apply Classical.byContradiction
   intro e
   have:=of_decide_eq_false h1
   rw [words_cons e] at this
   simp at this
  subst h1'
  rw [grps_zero,List.append_nil] at hG
  have hcl:=catTo_len hnine
  rw [hG] at hgb hnine htx hcl
  refine aw_perm (h':=gh og 9 (G.length*1) (strF G)++[]) (by rw [List.append_nil,Nat.mul_one]) ?_
  refine aw_frzGT (t:=3) (f':=strF G) hog rfl eE (fun g _=>hC g) (fun _ _=>rfl) rfl ?_
  refine xSG ?_
  refine aw_allocR (vs:=[.pointer none,.slice none 0 0]) rfl rfl rfl (by kernel_rfl) fun gB hn_gB=> ?_
  refine(?_:aw _ _ _ [bldO gB (bA gB 0) (gsR none 0)])
  refine xSG ?_
  refine aw_lp (fun x:Option Nat×Nat=>[(3,.c (.row true 1 G.length (strF G))),(6,.c (.optr gB 0)),(7,.c (.int .i64 ((G.length:Int)-1-(x.2:Int))))]) (fun x=>bldO gB (bA gB x.2) (gsR x.1 (catTo G x.2).length)::gh x.1 5 (catTo G x.2).length (byF (catTo G x.2)))
   (fun x=>x.2≤G.length∧(x.1=none→x.2=0)∧(x.2=0→x.1=none)) (fun x=>G.length-x.2) (none,0) (by refine xS ?_;simp) zZ ⟨Nat.zero_le _,fun _=>rfl,fun _=>rfl⟩ ?_
  rintro ⟨og2,i⟩ ⟨hi,hn1,hn2⟩
  dsimp only at hi hn1 hn2⊢
  have hci:=hcl i hi
  refine xG ?_
  refine xF (fun h2=>?_) fun h2=>?_
  ·have h2':i<G.length:=dT h2
   obtain⟨q,hq⟩:∃q:Nat,q=G.length-1-i:=⟨_,rfl⟩
   have hqi:(G.length:Int)-1-(i:Int)=(q:Int):=by omega
   have hcat:catTo G (i+1)=catTo G i++G.getD q []:=by rw [catTo,hq]
   have hl9:(G.getD q []).length=9:=by
    rw [List.getD_eq_getElem?_getD,List.getElem?_eq_getElem om]
    exact hnine _ (List.getElem_mem _)
   have hci2:=hcl (i+1) om
   rw [hqi]
   refine xG ?_
   refine aw_callh (hc:=bldO gB (bA gB i) (gsR og2 (catTo G i).length)::gh og2 5 (catTo G i).length (byF (catTo G i))) (hr:=[]) (wstr_fh gB _ (bA_or gB i) og2 (catTo G i) (G.getD q []) (fun e=>by rw [hn1 e];rfl) om) rfl rfl rfl (by rw [List.append_nil]) eL ?_
   rintro _ _ ⟨og',h3,rfl,rfl⟩ _
   rw [←hcat,List.append_nil] at*
   refine xSG ?_
   rw [show(q:Int)-1=(G.length:Int)-1-((i+1:Nat):Int) from by omega]
   exact aw_stop ⟨(og',i+1),by dsimp only;omega,eB,zZ,by dsimp only;omega,fun e=>by have:=h3 e;omega,fun e=>by dsimp only at e;omega⟩
  ·have h2':i=G.length:=dF h2
   subst h2'
   refine xG ?_
   refine aw_callh (hc:=bldO gB (bA gB G.length) (gsR og2 (catTo G G.length).length)::gh og2 5 (catTo G G.length).length (byF (catTo G G.length))) (hr:=[]) (bstr_fh gB _ og2 (catTo G G.length) (fun e=>by rw [hn1 e];rfl) (fun e=>hn2 (by rw [e] at hci;simp only [List.length_nil] at hci;omega)) om) rfl rfl rfl (by rw [List.append_nil]) eL ?_
   rintro _ _ ⟨rfl,rfl⟩ _
   generalize catTo G G.length=B at*
   refine xSG ?_
   refine xC (trimLeft_fa B ?_) ?_
   ·omega
   refine xG ?_
   refine xF (fun h5=>?_) fun h5=>?_
   ·refine xG ?_
    rw [htx,if_pos h5]
    refine xT hC ?_
    exact .one (.c (.str _))
   ·refine xG ?_
    rw [htx,if_neg (by rw [h5];simp)]
    refine xT hC ?_
    exact .one (.c (.str _))
theorem rtext_fa (r:RD) (hw:r.wf 100000):Fa Tryz.prog 126 [.agg (rdc r)] (.c (.str (sB (rtxt r)))):=by
 obtain⟨hl1,hl2⟩:=RD.p_len hw om
 have t1:=ntext_fa (words r.pn) (words_lt _) om
 have t2:=ntext_fa (words r.pd) (words_lt _) om
 have z1:=txtN_le hl1
 have z2:=txtN_le hl2
 rw [val_words] at t1 t2
 have hr:rtxt r=(if r.ps then [45]++txtN r.pn else txtN r.pn)++(if r.pd=1 then [] else [47]++txtN r.pd):=rfl
 generalize txtN r.pn=T1 at*
 generalize txtN r.pd=T2 at*
 have hcm:Fa Tryz.prog 233 [.c (ws false (words r.pd)),.c (ws false [1])] (.c (.int .i64 (cmpN r.pd 1))):=by
  have:=cmpW r.pd 1 om (by rw [words_cons om];simp [words_zero])
  rwa [show words 1=[1] from by rw [words_cons om];simp [words_zero]] at this
 have h1:cmpN r.pd 1=0↔r.pd=1:=by
  unfold cmpN
  constructor
  ·intro h
   repeat' split at h
   all_goals first|assumption|cases h
  ·intro h
   rw [h];rfl
 have f1:=rparts_fa r (wf_mono hw om)
 have f2:=one_fa
 refine fa_of_body Tryz.func126 rfl rfl (by simp [Tryz.ntmps126]) fun C hC=> ?_
 simp only [initS,Nat.reduceAdd]
 repeat' first|refine zV o0 ?_|refine zH o0 (fun hb=>?_) fun hb=>?_|fail
 refine xB fun g1 hn_g1=>?_
 repeat' first|refine zV hn_g1 ?_|(refine yC2 hn_g1 (f1) ?_)|(refine yD2 hn_g1 (f1) ?_)|(refine yC2 hn_g1 (t1) ?_)|(refine yD2 hn_g1 (t1) ?_)|(refine yC2 hn_g1 (t2) ?_)|(refine yD2 hn_g1 (t2) ?_)|(refine yC2 hn_g1 (f2) ?_)|(refine yD2 hn_g1 (f2) ?_)|(refine yC2 hn_g1 (hcm) ?_)|(refine yD2 hn_g1 (hcm) ?_)|refine zH hn_g1 (fun hb=>?_) fun hb=>?_|fail
 all_goals
  rename_i q0
  first|rw [if_pos q0] at hr|rw [if_neg (by rw [q0];simp)] at hr
  first|rw [if_pos (h1.1 hb),List.append_nil] at hr|rw [if_neg (fun e=>hb (h1.2 e))] at hr
  rw [hr]
  refine yT hC hn_g1 ?_
  exact .one (.c (.str _))
end Go.Proofs.YtpcpaekpnfkhhaaGreatDoor
namespace Go.PN
theorem joinW_len:∀l:List BS,(joinW l).length≤l.length+sumW l l.length
 |[]=>Nat.zero_le _
 |x::l=>by
  have h:=catW_len x l l.length (Nat.le_refl _)
  have e:catW x l l.length=joinW (x::l):=by unfold catW;rw [List.take_length];rfl
  rw [e] at h
  have a2:sumW (x::l) (x::l).length=x.length+sumW l l.length:=by unfold sumW;rw [List.take_length,List.take_length];rfl
  rw [h,a2,List.length_cons];omega
end Go.PN
namespace Go.Proofs.YtpcpaekpnfkhhaaGreatDoor
open Go.AI Go.PN
attribute [local irreducible] aw Fa Fh DrK
theorem line_fa (t:Bool) (l:List BS) (hl:l.length+sumW l l.length≤10000000000):Fa Tryz.prog 74 [.c (strs t l)] (.c (.str (sB (lineW l)))):=by
 have f1:=join_fa t l hl
 have hj:=joinW_len l
 refine fa_of_body Tryz.func74 rfl rfl (by simp [Tryz.ntmps74]) fun C hC=> ?_
 simp only [initS,Nat.reduceAdd]
 refine zA1 o0 f1 ?_
 refine xT hC ?_
 exact .one (.c (.str _))
abbrev kWs:List BS:=[kAnd,kOr,kVote,kNot,kXor,kInhibit,kPand,kSpare,kDepend]
theorem pword_fa (k:Int) (h1: -9223372036854775808≤k) (h2:k<9223372036854775808):Fa Tryz.prog 231 [.c (.int .i64 k)] (.c (.str (sB (kindW k)))):=by
 by_cases h:k<0∨k≥9
 ·have e:kindW k=kNone:=if_pos h
  rw [e]
  refine fa_of_body Tryz.func231 rfl rfl (by simp [Tryz.ntmps231]) fun C hC=> ?_
  simp only [initS,Nat.reduceAdd]
  refine xG ?_
  refine aw_buildSlice (xs:=kWs.map fun w=>Operand.const (.string (sB w))) (cells:=kWs.map fun w=>.str (sB w)) rfl rfl rfl eE (by refine xS ?_;rfl) rfl om om (by intro z hz;simp only [kWs,List.map_cons,List.map_nil,List.mem_cons,List.not_mem_nil,or_false] at hz;rcases hz with rfl|rfl|rfl|rfl|rfl|rfl|rfl|rfl|rfl<;>exact⟨rfl,rfl,rfl⟩) rfl fun g3 hn_g3=> ?_
  refine xS ?_
  repeat' first|refine zV o0 ?_|refine zH o0 (fun hb=>?_) fun hb=>?_|fail
  ·refine xT hC ?_
   exact .one (.c (.str _))
  ·refine xT hC ?_
   exact .one (.c (.str _))
  ·exfalso;omega
 ·have e:k=0∨k=1∨k=2∨k=3∨k=4∨k=5∨k=6∨k=7∨k=8:=by omega
  rcases e with rfl|rfl|rfl|rfl|rfl|rfl|rfl|rfl|rfl
  all_goals
   refine fa_of_body Tryz.func231 rfl rfl (by simp [Tryz.ntmps231]) fun C hC=> ?_
   simp only [initS,Nat.reduceAdd]
   refine xG ?_
   refine aw_buildSlice (xs:=kWs.map fun w=>Operand.const (.string (sB w))) (cells:=kWs.map fun w=>.str (sB w)) rfl rfl rfl eE (by refine xS ?_;rfl) rfl om om (by intro z hz;simp only [kWs,List.map_cons,List.map_nil,List.mem_cons,List.not_mem_nil,or_false] at hz;rcases hz with rfl|rfl|rfl|rfl|rfl|rfl|rfl|rfl|rfl<;>exact⟨rfl,rfl,rfl⟩) rfl fun g3 hn_g3=> ?_
   refine xS ?_
   refine zA o0 ?_
   refine xT hC ?_
   exact .one (.c (.str _))
end Go.Proofs.YtpcpaekpnfkhhaaGreatDoor
namespace Go.AI
section
variable {E : Env} {K : List It} {σ : Sl} {h : Heap} {all rest : List Oper} {o : Oper}
theorem aw_appendG {t e size bytes n k:Nat} {z:List CV} {og:Option Nat} {f f2 f':Nat→CV} {s x:Operand} {cx:CV} {pre:Heap} (hop:o.op=.call {callee:=.builtin .append,args:= #[s,x],argTypes:= #[t,t]}) (hw:wantA all σ o=some true) (hd:dstOk E.N o.dst=true)
  (ht:tElem E.P t=some (e,size,bytes)) (hz:tZero E.P e=some z) (hzl:z.length=size) (hs0:0<size) (hs:ev σ s=.c (gs og size n)) (hog:og=none→n=0) (hx:ev σ x=.c cx) (hsrc:∀h:Heap,Src h size cx k f2) (hsol:∀j,j<k*size→(f2 j).solid=true) (hh:h=pre++gh og e (n*size) f)
  (h63:n+k≤maxLen) (hby:(n+k)*bytes≤140737488355328) (hf:∀j,j<(n+k)*size→appF f (n*size) f2 j=f' j)
  (kk:∀og',(og'=none→n+k=0)→(∀g,og'=some g→g∉pre.keys)→aw E (.ops all rest::K) (σ.setO o.dst (.c (gs og' size (n+k)))) (pre++gh og' e ((n+k)*size) f')):aw E (.ops all (o::rest)::K) σ h:=by
 subst hh
 rcases Nat.eq_zero_or_pos k with hk|hk
 ·subst hk
  refine aw_nd fun hnd=> ?_
  refine aw_append0 (cs:=gs og size n) (σ':=σ.setO o.dst (.c (gs og size n))) hop hw hd ht hs (by cases og<;>rfl) hx (hsrc _) rfl ?_
  cases og with
  |none=>exact kk none hog (fun g e=>by cases e)
  |some g=>
   have hnp:g∉pre.keys:=fun hm=>by
    simp only [Heap.keys,gh,List.map_append,List.map_cons,List.map_nil] at hnd
    exact(List.nodup_append.1 hnd).2.2 g hm g (by simp) rfl
   refine aw_perm (h':=(g,.cells e (n*size) f)::pre) (List.perm_append_singleton _ _) ?_
   refine aw_conv1 (f':=f') (fun j hj=>by rw [←hf j hj];simp [appF,hj]) ?_
   refine aw_perm (h':=pre++gh (some g) e (n*size) f') (List.perm_append_singleton _ _).symm ?_
   exact kk (some g) (fun e=>by cases e) (fun g' e=>by injection e with e;subst e;exact hnp)
 ·cases og with
  |none=>
   obtain rfl:n=0:=hog rfl
   refine aw_appendN hop hw hd ht hz hzl hs0 hs hx (hsrc _) hk om (by rwa [Nat.zero_add] at hby) fun g' hg'=> ?_
   refine aw_conv1 (f':=f') (fun j hj=>by rw [←hf j (by rwa [Nat.zero_add])];simp [appF]) ?_
   refine aw_perm (h':=pre++gh (some g') e (k*size) f') ?_ ?_
   ·simp only [gh,List.append_nil];exact(List.perm_append_singleton _ _).symm
   ·have:=kk (some g') (fun e=>by cases e) (fun g e=>by injection e with e;subst e;exact fun hm=>hg' (by simpa [Heap.keys,gh] using hm))
    rw [Nat.zero_add] at this
    exact this
  |some g=>
   refine aw_nd fun hnd=> ?_
   have hnp:g∉pre.keys:=fun hm=>by
    simp only [Heap.keys,gh,List.map_append,List.map_cons,List.map_nil] at hnd
    exact(List.nodup_append.1 hnd).2.2 g hm g (by simp) rfl
   refine aw_append (g:=g) (m:=n*size) (f:=f) (h2:=pre) hop hw hd ht hz hzl hs0 hs (Heap.get_app hnp) (Nat.le_refl _) hx (hsrc _) hsol hk h63 hby (Heap.del_app hnp) fun g' hg'=> ?_
   refine aw_conv1 (f':=f') (fun j hj=>hf j hj) ?_
   refine aw_perm (h':=pre++gh (some g') e ((n+k)*size) f') (List.perm_append_singleton _ _).symm ?_
   exact kk (some g') (fun e=>by cases e) (fun g'' e=>by injection e with e;subst e;exact hg')
theorem aw_conv2 {x:Nat×AObj} {g n:Nat} {ty:TypeId} {f f':Nat→CV} {h:Heap} (hf:∀j,j<n→f j=f' j) (k:aw E K σ (x::(g,.cells ty n f')::h)):aw E K σ (x::(g,.cells ty n f)::h):=fun a w s=>by
 refine k a w ⟨s.size,s.defers,s.slots,fun g' o' hm=> ?_,s.nodup,s.keys,s.frame⟩
 rcases List.mem_cons.1 hm with e|hm
 ·exact s.heap g' o' (List.mem_cons.2 (.inl e))
 ·rcases List.mem_cons.1 hm with e|hm
  ·injection e with e1 e2
   subst e1 e2
   exact ORep.cong hf (s.heap _ _ (List.mem_cons_of_mem _ (List.mem_cons_self ..)))
  ·exact s.heap g' o' (List.mem_cons_of_mem _ (List.mem_cons_of_mem _ hm))
end
end Go.AI
namespace Go.PN
open Go.AI
theorem strs_app (a b:List BS):∀j,j<(a.length+b.length)*1→appF (strsF a) (a.length*1) (strsF b) j=strsF (a++b) j:=fun j hj=>by
 unfold appF
 rw [strsF_0,strsF_0,strsF_0,Nat.mul_one]
 split
 ·rename_i h
  rw [List.getD_eq_getElem?_getD,List.getD_eq_getElem?_getD,List.getElem?_append_left h]
 ·rename_i h
  rw [List.getD_eq_getElem?_getD,List.getD_eq_getElem?_getD,List.getElem?_append_right om]
theorem strs_push1 (a:List BS) (w:BS):∀j,j<(a.length+1)*1→appF (strsF a) (a.length*1) (ofL [.str (sB w)]) j=strsF (a++[w]) j:=fun j hj=>by
 rw [←strs_app a [w] j hj]
 unfold appF
 split
 ·rfl
 ·rw [strsF_0,show j-a.length*1=0 from by omega];rfl
end Go.PN
namespace Go.Proofs.YtpcpaekpnfkhhaaGreatDoor
open Go.AI Go.PN
attribute [local irreducible] aw Fa Fh DrK
theorem gateX_fa (g:GtD) (hk1: -9223372036854775808≤g.kind) (hk2:g.kind<9223372036854775808) (hk:g.kind=2→0≤g.k∧g.k<100) (hw:g.dorm.wf 100000) (hl:(gateW g).length+sumW (gateW g) (gateW g).length≤10000000000):Fa Tryz.prog 125 [.agg (gtc g)] (.c (.str (sB (gateX g)))):=by
 have f1:=pword_fa g.kind hk1 hk2
 have hil:g.inputs.length≤10000000000:=by have:(gateW g).length≥g.inputs.length:=by unfold gateW;simp;omega
                                          omega
 refine fa_of_body Tryz.func125 rfl rfl (by simp [Tryz.ntmps125]) fun C hC=> ?_
 simp only [initS,Nat.reduceAdd]
 refine xG ?_
 refine xB fun g1 hn_g1=>?_
 refine yG hn_g1 ?_
 refine aw_cw [(g1,.cells 140 7 (ofL (gtc g)))] [(0,0),(1,0),(2,0),(3,0),(4,0),(5,1),(6,0)] ty_mixed (by kernel_rfl) (has0_cons (List.mem_cons_self ..) has0_nil) ?_
 refine yG hn_g1 ?_
 refine cw_callq rfl f1 rfl rfl rfl (fun _ _=>(zL hn_g1)) ?_
 refine ySG hn_g1 ?_
 refine cw_buildSlice (xs:=[.const (.string (sB kGate)),.tmp 5,.tmp 8]) (cells:=[.str (sB kGate),.str (sB g.name),.str (sB (kindW g.kind))]) rfl rfl rfl rfl (zE hn_g1) (by refine yS hn_g1 ?_;rfl) rfl om om (by intro z hz;simp only [List.mem_cons,List.not_mem_nil,or_false] at hz;rcases hz with rfl|rfl|rfl<;>exact⟨rfl,rfl,rfl⟩) rfl (by intro z hz;simp only [List.mem_cons,List.not_mem_nil,or_false] at hz;rcases hz with rfl|rfl|rfl<;>simp [Op.operands]) (has0_cons (List.mem_cons_self ..) has0_nil) (fun g9 hn_g9=> ?_) (.inr ⟨rfl,rfl⟩)
 replace hn_g9:=Heap.ne_of hn_g9
 dsimp only [Heap.ne] at hn_g9
 refine ySG (oj hn_g1 hn_g9) ?_
 refine aw_perm (List.Perm.swap _ _ _) ?_
 refine aw_conv2 (f':=strsF [kGate,g.name,kindW g.kind]) (fun j hj=>by match j,hj with|0,_=>rw [strsF_0];rfl|1,_=>rw [strsF_0];rfl|2,_=>rw [strsF_0];rfl) ?_
 by_cases c2:g.kind=2
 ·have d2:(g.kind==2)=true:=by simpa using c2
  obtain⟨n,hn⟩:∃n:Nat,g.k=(n:Int):=⟨g.k.toNat,by have:=hk c2;omega⟩
  have f2:=itoa_fa n (by have:=hk c2;omega)
  have eI:itoaB g.k=decB n:=by rw [hn];unfold itoaB;rw [if_neg om];rfl
  have eL:gateW g=[kGate,g.name,kindW g.kind]++[decB n]++g.inputs:=by unfold gateW;rw [if_pos c2,eI];rfl
  have eX:gateX g=lineW ([kGate,g.name,kindW g.kind]++[decB n]++g.inputs):=by rw [←eL];rfl
  refine zA1 (oj hn_g1 (oj hn_g9 (oj d2 hn))) f2 ?_
  refine aw_perm (h':=[(g1,.cells 140 7 (ofL (gtc g)))]++gh (some g9) 9 (3*1) (strsF [kGate,g.name,kindW g.kind])) (.refl _) ?_
  refine aw_push (og:=some g9) (n:=3) (size:=1) (f:=strsF [kGate,g.name,kindW g.kind]) (v:=.c (.str (sB (decB n)))) (f':=strsF ([kGate,g.name,kindW g.kind]++[(decB n)])) (pre:=[(g1,.cells 140 7 (ofL (gtc g)))]) rfl rfl rfl rfl rfl rfl rfl (by exact tya_e_92) (by exact tya_z_9) (by rfl) om om (zE (oj hn_g1 (oj hn_g9 (oj d2 hn)))) om (fun e=>by cases e) (zE (oj hn_g1 (oj hn_g9 (oj d2 hn)))) (by rfl) (by rfl) rfl qc om (by exact strs_push1 [kGate,g.name,kindW g.kind] (decB n)) fun g19 hn_g19=> ?_
  replace hn_g19:=Heap.ne_of hn_g19
  dsimp only [Heap.ne] at hn_g19
  refine(?_:aw _ _ _ [(g1,.cells 140 7 (ofL (gtc g))),(g19,.cells 9 4 (strsF ([kGate,g.name,kindW g.kind]++[(decB n)])))])
  have J1:=oj hn_g1 (oj hn_g9 (oj d2 (oj hn hn_g19)))
  refine yS J1 ?_
  refine zA J1 ?_
  refine aw_perm (h':=[(g1,.cells 140 7 (ofL (gtc g)))]++gh (some g19) 9 (4*1) (strsF ([kGate,g.name,kindW g.kind]++[decB n]))) (.refl _) ?_
  refine aw_appendG (size:=1) (n:=4) (k:=g.inputs.length) (f:=strsF ([kGate,g.name,kindW g.kind]++[decB n])) (f2:=strsF g.inputs) (f':=strsF (([kGate,g.name,kindW g.kind]++[decB n])++g.inputs)) (og:=some g19) (pre:=[(g1,.cells 140 7 (ofL (gtc g)))]) rfl rfl rfl (by exact tya_e_92) (by exact tya_z_9) rfl om (zE J1) (fun e=>by cases e) (zE J1) (fun _=>.row) (fun j _=>strsF_solid _ j) rfl qc om (strs_app ([kGate,g.name,kindW g.kind]++[decB n]) g.inputs) fun og' hn' hg'=> ?_
  rw [show 4+g.inputs.length=(([kGate,g.name,kindW g.kind]++[decB n])++g.inputs).length from by simp;omega] at hn'⊢
  rw [Nat.mul_one]
  generalize ([kGate,g.name,kindW g.kind]++[decB n])++g.inputs=W at*
  have fL:=line_fa false W (by rw [←eL];exact hl)
  refine yS J1 ?_
  refine aw_nd fun hnd=> ?_
  refine aw_callq fL rfl rfl rfl (by refine yS J1 ?_;exact .c (le_gst (pre:=[(g1,.cells 140 7 (ofL (gtc g)))]) hn' hnd)) ?_
  refine ySG J1 ?_
  rw [eX]
  refine yT hC J1 ?_
  exact .one (.c (.str _))
 ·have d2:(g.kind==2)=false:=by simpa using c2
  by_cases c7:g.kind=7
  ·have d7:(g.kind==7)=true:=by simpa using c7
   have f2:=rtext_fa g.dorm hw
   have eL:gateW g=[kGate,g.name,kindW g.kind]++[rtxt g.dorm]++g.inputs:=by unfold gateW;rw [if_neg c2,if_pos c7];rfl
   have eX:gateX g=lineW ([kGate,g.name,kindW g.kind]++[rtxt g.dorm]++g.inputs):=by rw [←eL];rfl
   refine zA1 (oj hn_g1 (oj hn_g9 (oj d2 d7))) f2 ?_
   refine aw_perm (h':=[(g1,.cells 140 7 (ofL (gtc g)))]++gh (some g9) 9 (3*1) (strsF [kGate,g.name,kindW g.kind])) (.refl _) ?_
   refine aw_push (og:=some g9) (n:=3) (size:=1) (f:=strsF [kGate,g.name,kindW g.kind]) (v:=.c (.str (sB (rtxt g.dorm)))) (f':=strsF ([kGate,g.name,kindW g.kind]++[(rtxt g.dorm)])) (pre:=[(g1,.cells 140 7 (ofL (gtc g)))]) rfl rfl rfl rfl rfl rfl rfl (by exact tya_e_92) (by exact tya_z_9) (by rfl) om om (zE (oj hn_g1 (oj hn_g9 (oj d2 d7)))) om (fun e=>by cases e) (zE (oj hn_g1 (oj hn_g9 (oj d2 d7)))) (by rfl) (by rfl) rfl qc om (by exact strs_push1 [kGate,g.name,kindW g.kind] (rtxt g.dorm)) fun g19 hn_g19=> ?_
   replace hn_g19:=Heap.ne_of hn_g19
   dsimp only [Heap.ne] at hn_g19
   refine(?_:aw _ _ _ [(g1,.cells 140 7 (ofL (gtc g))),(g19,.cells 9 4 (strsF ([kGate,g.name,kindW g.kind]++[(rtxt g.dorm)])))])
   have J2:=oj hn_g1 (oj hn_g9 (oj d2 (oj d7 hn_g19)))
   refine yS J2 ?_
   refine zA J2 ?_
   refine aw_perm (h':=[(g1,.cells 140 7 (ofL (gtc g)))]++gh (some g19) 9 (4*1) (strsF ([kGate,g.name,kindW g.kind]++[rtxt g.dorm]))) (.refl _) ?_
   refine aw_appendG (size:=1) (n:=4) (k:=g.inputs.length) (f:=strsF ([kGate,g.name,kindW g.kind]++[rtxt g.dorm])) (f2:=strsF g.inputs) (f':=strsF (([kGate,g.name,kindW g.kind]++[rtxt g.dorm])++g.inputs)) (og:=some g19) (pre:=[(g1,.cells 140 7 (ofL (gtc g)))]) rfl rfl rfl (by exact tya_e_92) (by exact tya_z_9) rfl om (zE J2) (fun e=>by cases e) (zE J2) (fun _=>.row) (fun j _=>strsF_solid _ j) rfl qc om (strs_app ([kGate,g.name,kindW g.kind]++[rtxt g.dorm]) g.inputs) fun og' hn' hg'=> ?_
   rw [show 4+g.inputs.length=(([kGate,g.name,kindW g.kind]++[rtxt g.dorm])++g.inputs).length from by simp;omega] at hn'⊢
   rw [Nat.mul_one]
   generalize ([kGate,g.name,kindW g.kind]++[rtxt g.dorm])++g.inputs=W at*
   have fL:=line_fa false W (by rw [←eL];exact hl)
   refine yS J2 ?_
   refine aw_nd fun hnd=> ?_
   refine aw_callq fL rfl rfl rfl (by refine yS J2 ?_;exact .c (le_gst (pre:=[(g1,.cells 140 7 (ofL (gtc g)))]) hn' hnd)) ?_
   refine ySG J2 ?_
   rw [eX]
   refine yT hC J2 ?_
   exact .one (.c (.str _))
  ·have d7:(g.kind==7)=false:=by simpa using c7
   have eL:gateW g=[kGate,g.name,kindW g.kind]++g.inputs:=by unfold gateW;rw [if_neg c2,if_neg c7];rfl
   have eX:gateX g=lineW ([kGate,g.name,kindW g.kind]++g.inputs):=by rw [←eL];rfl
   refine zA (oj hn_g1 (oj hn_g9 (oj d2 d7))) ?_
   refine aw_perm (h':=[(g1,.cells 140 7 (ofL (gtc g)))]++gh (some g9) 9 (3*1) (strsF [kGate,g.name,kindW g.kind])) (.refl _) ?_
   refine aw_appendG (size:=1) (n:=3) (k:=g.inputs.length) (f:=strsF [kGate,g.name,kindW g.kind]) (f2:=strsF g.inputs) (f':=strsF ([kGate,g.name,kindW g.kind]++g.inputs)) (og:=some g9) (pre:=[(g1,.cells 140 7 (ofL (gtc g)))]) rfl rfl rfl (by exact tya_e_92) (by exact tya_z_9) rfl om (zE (oj hn_g1 (oj hn_g9 (oj d2 d7)))) (fun e=>by cases e) (zE (oj hn_g1 (oj hn_g9 (oj d2 d7)))) (fun _=>.row) (fun j _=>strsF_solid _ j) rfl qc om (strs_app [kGate,g.name,kindW g.kind] g.inputs) fun og' hn' hg'=> ?_
   rw [show 3+g.inputs.length=([kGate,g.name,kindW g.kind]++g.inputs).length from by simp;omega] at hn'⊢
   rw [Nat.mul_one]
   generalize [kGate,g.name,kindW g.kind]++g.inputs=W at*
   have fL:=line_fa false W (by rw [←eL];exact hl)
   have J3:=oj hn_g1 (oj hn_g9 (oj d2 d7))
   refine yS J3 ?_
   refine aw_nd fun hnd=> ?_
   refine aw_callq fL rfl rfl rfl (by refine yS J3 ?_;exact .c (le_gst (pre:=[(g1,.cells 140 7 (ofL (gtc g)))]) hn' hnd)) ?_
   refine ySG J3 ?_
   rw [eX]
   refine yT hC J3 ?_
   exact .one (.c (.str _))
end Go.Proofs.YtpcpaekpnfkhhaaGreatDoor
namespace Go.AI
theorem rowAt_more {P:Program} {fits:TypeId→Bool} {d count:Nat} {e:TypeId} (h1:1≤count) (h:rowAt P fits d e 1 0 1=true):rowAt P fits d e count 0 1=true:=by
 cases d with
 |zero=>cases h
 |succ d=>
  unfold rowAt at h⊢
  dsimp only at h⊢
  by_cases hs:P.cellsOf e=0
  ·rw [if_pos hs] at h;cases h
  ·rw [if_neg hs] at h⊢
   rw [Bool.or_eq_true] at h⊢
   rcases h with h|h
   ·left
    simp only [Bool.and_eq_true,decide_eq_true_eq] at h⊢
    exact⟨⟨h.1.1,by omega⟩,h.2⟩
   ·right
    rw [Bool.and_eq_true] at h⊢
    exact⟨by rw [decide_eq_true_eq,Nat.zero_div];omega,h.2⟩
theorem liesAt_head {P:Program} {e u:TypeId} {count:Nat} (h1:1≤count) (h:rowAt P (fun x=>sameLayout P P.depth x u) P.depth e 1 0 1=true):liesAt P P.depth e count 0 u 1=true:=by
 have hd:P.depth=(2*(P.types.size+Made.depth)+1)+1:=rfl
 have h2:=rowAt_more h1 h
 rw [hd]
 simp only [liesAt,Bool.or_eq_true]
 exact .inl h2
end Go.AI
namespace Go.Proofs.YtpcpaekpnfkhhaaGreatDoor
open Go.AI Go.PN
attribute [local irreducible] aw Fa Fh DrK
theorem blkP (lo:Bool):BlkB 146 [.bool lo]:=⟨fun count h=>liesAt_head h (by kernel_rfl),by kernel_rfl,rfl⟩
theorem put_fh (lo:Bool) (gB:Nat) (a:CV) (og:Option Nat) (B l:List UInt8) (hbd:BdOk a gB og B) (hlen:B.length+l.length+1≤100000000000):
  Fh Tryz.prog 73 (bdH 146 [.bool lo] gB a og B) [.c (.optr gB 0),.c (.str (sB l))]
   (fun x h=>∃og',BdOk (.optr gB 0) gB og' (B++l++[10])∧x=.tup []∧h=bdH 146 [.bool lo] gB (.optr gB 0) og' (B++l++[10])):=by
 refine fh_of_body Tryz.func73 rfl rfl (by simp [Tryz.ntmps73]) fun C hC=> ?_
 simp only [initS,Nat.reduceAdd]
 refine xG ?_
 refine aw_callh (hc:=bdH 146 [.bool lo] gB a og B) (hr:=[]) (wstrG_fh (blkP lo) gB a og B l hbd om) rfl rfl rfl (by rw [List.append_nil]) eL ?_
 rintro _ _ ⟨og1,h1,rfl,rfl⟩ _
 rw [List.append_nil]
 refine xSG ?_
 refine aw_callh (hc:=bdH 146 [.bool lo] gB (.optr gB 0) og1 (B++l)) (hr:=[]) (wbyteG_fh (blkP lo) gB _ og1 (B++l) 10 h1 (by rw [List.length_append];omega)) rfl rfl rfl (by rw [List.append_nil]) eL ?_
 rintro _ _ ⟨og2,h2,rfl,rfl⟩ _
 rw [List.append_nil]
 refine xSG ?_
 refine xV ?_
 exact⟨og2,h2,rfl,rfl⟩
theorem pnumber_fh (lo:Bool) (gB:Nat) (a b:CV) (r:RD) (hw:r.wf 100000):
  Fh Tryz.prog 77 [bldG 146 [.bool lo] gB a b] [.c (.optr gB 0),.agg (rdc r)]
   (fun x h=>x=.c (.str (sB (rtxt r)))∧h=[bldG 146 [.bool (lo||longR r)] gB a b]):=by
 have f1:=rtext_fa r hw
 refine fh_of_body Tryz.func77 rfl rfl (by simp [Tryz.ntmps77]) fun C hC=> ?_
 simp only [initS,Nat.reduceAdd]
 refine xG ?_
 refine xB fun g3 hn_g3=>?_
 repeat' first|refine zV hn_g3 ?_|(refine yC2 hn_g3 (f1) ?_)|(refine yD2 hn_g3 (f1) ?_)|refine zH hn_g3 (fun hb=>?_) fun hb=>?_|fail
 ·subst hb
  refine aw_rethw (h':=[bldG 146 [.bool true] gB a b]) rfl sL fun R r=>?_;simp only[go_sem,hn_g3];refine r _ rfl ?_;clear r R
  exact⟨rfl,rfl⟩
 ·subst hb
  refine aw_rethw (h':=[bldG 146 [.bool (longR r)] gB a b]) rfl sL fun R r=>?_;simp only[go_sem,hn_g3];refine r _ rfl ?_;clear r R
  exact⟨rfl,rfl⟩
theorem pgate_fh (lo:Bool) (gB:Nat) (a b:CV) (g:GtD) (hk1: -9223372036854775808≤g.kind) (hk2:g.kind<9223372036854775808) (hk:g.kind=2→0≤g.k∧g.k<100) (hw:g.dorm.wf 100000) (hl:(gateW g).length+sumW (gateW g) (gateW g).length≤10000000000):
  Fh Tryz.prog 76 [bldG 146 [.bool lo] gB a b] [.c (.optr gB 0),.agg (gtc g)]
   (fun x h=>x=.c (.str (sB (gateX g)))∧h=[bldG 146 [.bool (lo||(decide (g.kind=7)&&longR g.dorm))] gB a b]):=by
 have f1:=gateX_fa g hk1 hk2 hk hw hl
 refine fh_of_body Tryz.func76 rfl rfl (by simp [Tryz.ntmps76]) fun C hC=> ?_
 simp only [initS,Nat.reduceAdd]
 refine xG ?_
 refine xB fun g3 hn_g3=>?_
 by_cases c7:g.kind=7
 ·have d7:(g.kind==7)=true:=by simpa using c7
  have e7:(lo||(decide (g.kind=7)&&longR g.dorm))=(lo||longR g.dorm):=by rw [decide_eq_true c7];rfl
  rw [e7]
  refine zA (oj hn_g3 d7) ?_
  refine aw_callh (hc:=[bldG 146 [.bool lo] gB a b]) (hr:=[(g3,.cells 140 7 (ofL (gtc g)))]) (pnumber_fh lo gB a b g.dorm hw) rfl rfl rfl (List.Perm.swap _ _ _) (zL (oj hn_g3 d7)) ?_
  rintro _ _ ⟨rfl,rfl⟩ _
  refine(?_:aw _ _ _ [bldG 146 [.bool (lo||longR g.dorm)] gB a b,(g3,.cells 140 7 (ofL (gtc g)))])
  refine yS (oj hn_g3 d7) ?_
  refine zA1 (oj hn_g3 d7) f1 ?_
  refine aw_perm (List.Perm.swap _ _ _) ?_
  refine aw_rethw (h':=[bldG 146 [.bool (lo||longR g.dorm)] gB a b]) rfl sL fun R r=>?_;simp only[go_sem,hn_g3,d7];refine r _ rfl ?_;clear r R
  exact⟨rfl,rfl⟩
 ·have d7:(g.kind==7)=false:=by simpa using c7
  have e7:(lo||(decide (g.kind=7)&&longR g.dorm))=lo:=by rw [decide_eq_false c7];simp
  rw [e7]
  refine zA1 (oj hn_g3 d7) f1 ?_
  refine aw_rethw (h':=[bldG 146 [.bool lo] gB a b]) rfl sL fun R r=>?_;simp only[go_sem,hn_g3,d7];refine r _ rfl ?_;clear r R
  exact⟨rfl,rfl⟩
end Go.Proofs.YtpcpaekpnfkhhaaGreatDoor
namespace Go.AI
section
variable {E : Env} {K : List It} {l : List Oper} {FP FP' : Heap} {σ σ' : Sl} {h : Heap} {o : Oper}
theorem cw_appendO {i mk:Nat} {cs:List (Nat×Nat)} {t e size bytes n k m g:Nat} {z:List CV} {f f2:Nat→CV} {s x:Operand} {cx:CV} {h2:Heap} (ho:l[i]?=some o) (hop:o.op=.call {callee:=.builtin .append,args:= #[s,x],argTypes:= #[t,t]}) (hw:wantA l σ o=some true) (hd:dstOk E.N o.dst=true)
  (ht:tElem E.P t=some (e,size,bytes)) (hz:tZero E.P e=some z) (hzl:z.length=size) (hs0:0<size) (hs:ev σ s=.c (.osl g size 0 n)) (hg:h.get g=some (.cells e m f)) (hm:n*size≤m) (hx:ev σ x=.c cx) (hsrc:Src h size cx k f2) (hsol:∀j,j<k*size→(f2 j).solid=true) (hk:0<k)
  (h63:n+k≤maxLen) (hby:(n+k)*bytes≤140737488355328) (hh2:h.del g=h2) (hFP:Has0 FP' h2)
  (kk:∀g',g'∉h2.keys→CW E l K FP' cs (σ.setO o.dst (.c (.osl g' size 0 (n+k)))) ((g',.cells e ((n+k)*size) (appF f (n*size) f2))::h2)) (hmk:mk=2∨mk=1∧FP'=FP:=by first|exact .inl rfl|exact .inr ⟨rfl,rfl⟩):CW E l K FP ((i,mk)::cs) σ h:=by
 refine .pin ho hmk (R:=fun r hh=>∃g',g'∉h2.keys∧r=.c (.osl g' size 0 (n+k))∧hh=(g',.cells e ((n+k)*size) (appF f (n*size) f2))::h2) (fun σ' K hsm=> ?_) ?_ ?_
 ·exact aw_append hop ((want_same hsm).trans hw) hd ht hz hzl hs0 ((ev_same (by rw [hop];simp [Op.operands,Call.operands]) hsm).trans hs) hg hm ((ev_same (by rw [hop];simp [Op.operands,Call.operands]) hsm).trans hx) hsrc hsol hk h63 hby hh2 fun g' hg'=>aw_ops_nil (aw_stop ⟨_,⟨g',hg',rfl,rfl⟩,rfl⟩)
 ·rintro r hh ⟨g',_,_,rfl⟩;exact fun p hp=>List.mem_cons_of_mem _ (hFP p hp)
 ·rintro r hh ⟨g',hg',rfl,rfl⟩;exact kk g' hg'
end
end Go.AI
namespace Go.PN
open Go.AI
def evP (x:EvD):List VlD:=[⟨kP,x.p⟩,⟨kFail,x.fail⟩,⟨kRepair,x.rep⟩,⟨kCost,rd (x.cost:Rat)⟩]
theorem evP_F (x:EvD) (j:Nat) (hj:j<16):ofL ((evP x).flatMap vlc) j=vlsF (evP x) j:=by
 match j,hj with
 |0,_|1,_|2,_|3,_|4,_|5,_|6,_|7,_|8,_|9,_|10,_|11,_|12,_|13,_|14,_|15,_=>rfl
 |n+16,h=>exact absurd h om
def evWL (x:EvD) (j:Nat):List BS:=[kEvent,x.name]++((evP x).take j).flatMap fun v=>partW v.event v.p
def evLo (lo:Bool) (x:EvD) (j:Nat):Bool:=lo||((evP x).take j).any fun v=>decide (signQ v.p.q≠0)&&longR v.p
theorem evP_take (x:EvD) (j:Nat) (hj:j<4):(evP x).take (j+1)=(evP x).take j++[(evP x).getD j vl0]:=by
 match j,hj with
 |0,_|1,_|2,_|3,_=>rfl
theorem evWL_succ (x:EvD) (j:Nat) (hj:j<4):evWL x (j+1)=evWL x j++partW ((evP x).getD j vl0).event ((evP x).getD j vl0).p:=by
 unfold evWL
 rw [evP_take x j hj,List.flatMap_append,←List.append_assoc]
 simp
theorem evLo_succ (lo:Bool) (x:EvD) (j:Nat) (hj:j<4):evLo lo x (j+1)=(evLo lo x j||(decide (signQ ((evP x).getD j vl0).p.q≠0)&&longR ((evP x).getD j vl0).p)):=by
 unfold evLo
 rw [evP_take x j hj,List.any_append,←Bool.or_assoc]
 simp
theorem evWL_len (x:EvD):∀j,j≤4→(evWL x j).length≤2+2*j
 |0,_=>Nat.le_refl _
 |j+1,h=>by
  have ih:=evWL_len x j om
  rw [evWL_succ x j om,List.length_append]
  have:(partW ((evP x).getD j vl0).event ((evP x).getD j vl0).p).length≤2:=by unfold partW;split<;>simp
  omega
theorem evWL_end (x:EvD):evWL x 4=evW x:=by
 unfold evWL evW evP
 simp [List.flatMap_cons]
end Go.PN
namespace Go.Proofs.YtpcpaekpnfkhhaaGreatDoor
open Go.AI Go.PN
theorem evP_wf (x:EvD) (hp:x.p.wf 100000) (hf:x.fail.wf 100000) (hr:x.rep.wf 100000) (hc1: -9223372036854775808≤x.cost) (hc2:x.cost<9223372036854775808) (j:Nat) (hj:j<4):((evP x).getD j vl0).p.wf 100000:=by
 match j,hj with
 |0,_=>exact hp
 |1,_=>exact hf
 |2,_=>exact hr
 |3,_=>
  refine wf_mono (L:=2) (rd_wf ⟨?_,by simp⟩) om
  rw [show((x.cost:Int):Rat).num=x.cost from by simp]
  show _<18446744073709551616
  omega
attribute [local irreducible] aw Fa Fh DrK
theorem pevent_fh (lo:Bool) (gB:Nat) (a b:CV) (x:EvD) (hp:x.p.wf 100000) (hf:x.fail.wf 100000) (hr:x.rep.wf 100000) (hc1: -9223372036854775808≤x.cost) (hc2:x.cost<9223372036854775808) (hl:(evW x).length+sumW (evW x) (evW x).length≤10000000000):
  Fh Tryz.prog 75 [bldG 146 [.bool lo] gB a b] [.c (.optr gB 0),.agg (evc x)]
   (fun r h=>r=.c (.str (sB (lineW (evW x))))∧h=[bldG 146 [.bool (evLo lo x 4)] gB a b]):=by
 refine fh_of_body Tryz.func75 rfl rfl (by simp [Tryz.ntmps75]) fun C hC=> ?_
 simp only [initS,Nat.reduceAdd]
 refine xG ?_
 refine xB fun g3 hn_g3=>?_
 refine zA hn_g3 ?_
 refine aw_buildSlice (xs:=[.const (.string (sB kEvent)),.tmp 9]) (cells:=[.str (sB kEvent),.str (sB x.name)]) rfl rfl rfl (zE hn_g3) (by refine yS hn_g3 ?_;rfl) rfl om om (by intro z hz;simp only [List.mem_cons,List.not_mem_nil,or_false] at hz;rcases hz with rfl|rfl<;>exact⟨rfl,rfl,rfl⟩) rfl fun g10 hn_g10=> ?_
 replace hn_g10:=Heap.ne_of hn_g10
 dsimp only [Heap.ne] at hn_g10
 have J1:=oj hn_g3 hn_g10
 refine ySG J1 ?_
 refine aw_cw [(g3,.cells 54 11 (ofL (evc x)))] [(0,0),(1,0),(2,0),(3,0),(4,0),(5,0),(6,0),(7,0),(8,0),(9,0),(10,0),(11,0),(12,0),(15,0),(13,1),(14,0)] ty_mixed (by kernel_rfl) qa ?_
 refine yG J1 ?_
 refine cw_callq rfl (rof_fa x.cost hc1 om) rfl rfl rfl (fun _ _=>(zL J1)) ?_
 refine ySG J1 ?_
 refine cw_buildSlice (xs:=[.tmp 13,.tmp 16,.tmp 19,.tmp 23]) (cells:=(evP x).flatMap vlc) rfl rfl rfl rfl (zE J1) (by refine yS J1 ?_;rfl) rfl om om (by intro z hz;simp only [List.mem_cons,List.not_mem_nil,or_false] at hz;rcases hz with rfl|rfl|rfl|rfl<;>exact⟨rfl,rfl,rfl⟩) rfl (by intro z hz;simp only [List.mem_cons,List.not_mem_nil,or_false] at hz;rcases hz with rfl|rfl|rfl|rfl<;>simp [Op.operands]) qa (fun g24 hn_g24=> ?_) (.inr ⟨rfl,rfl⟩)
 replace hn_g24:=Heap.ne_of hn_g24
 dsimp only [Heap.ne] at hn_g24
 have J2:=oj hn_g3 (oj hn_g10 hn_g24)
 refine ySG J2 ?_
 refine aw_conv1 (f':=vlsF (evP x)) (fun j hj=>evP_F x j hj) ?_
 refine aw_conv2 (f':=strsF (evWL x 0)) (fun j hj=>by match j,hj with|0,_=>rw [strsF_0];rfl|1,_=>rw [strsF_0];rfl) ?_
 refine aw_lp (fun z:Nat×Nat=>[(0,.c (.optr gB 0)),(5,.c (.osl z.2 1 0 (evWL x z.1).length)),(24,.c (.osl g24 4 0 4)),(25,.c (.int .i64 4)),(26,.c (.int .i64 z.1))]) (fun z=>[(g24,.cells 186 16 (vlsF (evP x))),(z.2,.cells 9 (evWL x z.1).length (strsF (evWL x z.1))),bldG 146 [.bool (evLo lo x z.1)] gB a b]) (fun z=>z.1≤4) (fun z=>4-z.1) (0,g10) (zB J2) (by dsimp only;exact .cons_cons _ (.cons_cons _ (.cons _ (by unfold evLo;simp)))) (Nat.zero_le _) ?_
 rintro ⟨j,g⟩ hj
 dsimp only at hj⊢
 refine aw_nd fun hnd=> ?_
 by_cases hj4:j<4
 ·have d1:decide (j<4)=true:=decide_eq_true hj4
  have hv5:((evP x).getD j vl0).p.wf 100000:=evP_wf x hp hf hr hc1 hc2 j hj4
  have hv:((evP x).getD j vl0).p.wf 1073741824:=wf_mono hv5 om
  have fs:=rsign_fa _ hv
  simp only [Heap.keys,List.map_cons,List.map_nil,List.nodup_cons,List.mem_cons,List.not_mem_nil,or_false,not_or] at hnd
  obtain⟨⟨a1,a2⟩,a3,_⟩:=hnd
  have b1:=eq_false a1
  have b2:=eq_false a2
  have b3:=eq_false a3
  have b4:=eq_false (Ne.symm a1)
  have b5:=eq_false (Ne.symm a2)
  have b6:=eq_false (Ne.symm a3)
  refine zA1 (oj hn_g3 (oj hn_g10 (oj hn_g24 (oj d1 (oj b1 (oj b2 (oj b3 (oj b4 (oj b5 b6))))))))) fs ?_
  refine yA (oj hn_g3 (oj hn_g10 (oj hn_g24 (oj d1 (oj b1 (oj b2 (oj b3 (oj b4 (oj b5 b6))))))))) fun g7 hn_g7=>?_
  all_goals try(have Z:=(oj hn_g3 (oj hn_g10 (oj hn_g24 (oj d1 (oj b1 (oj b2 (oj b3 (oj b4 (oj b5 (oj b6 hn_g7))))))))));(repeat' first|refine zV Z ?_|(refine yC2 Z (fs) ?_)|(refine yD2 Z (fs) ?_)|refine zH Z (fun hb=>?_) fun hb=>?_|fail);all_goals clear Z)
  ·have eW:evWL x (j+1)=evWL x j++[((evP x).getD j vl0).event,rtxt ((evP x).getD j vl0).p]:=by rw [evWL_succ x j hj4];unfold partW;rw [if_neg hb]
   have eL:evLo lo x (j+1)=(evLo lo x j||longR ((evP x).getD j vl0).p):=by rw [evLo_succ lo x j hj4,decide_eq_true hb];rfl
   have hwl:=evWL_len x j hj
   have hnp:=pnumber_fh (evLo lo x j) gB a b ((evP x).getD j vl0).p hv5
   generalize (evP x).getD j vl0=v at*
   refine aw_cw [(g7,.cells 186 4 (ofL (vlc v)))] [(0,0),(1,0),(2,0),(3,0),(4,0),(5,0),(6,1),(7,1),(8,1),(9,0)] ty_mixed (by kernel_rfl) qa ?_
   have J3:=oj hn_g3 (oj hn_g10 (oj hn_g24 (oj d1 (oj b1 (oj b2 (oj b3 (oj b4 (oj b5 (oj b6 hn_g7)))))))))
   refine yG J3 ?_
   refine cw_callh (hc:=[bldG 146 [.bool (evLo lo x j)] gB a b]) (hr:=[(g7,.cells 186 4 (ofL (vlc v))),(g24,.cells 186 16 (vlsF (evP x))),(g,.cells 9 (evWL x j).length (strsF (evWL x j)))]) rfl hnp rfl rfl rfl (List.perm_append_comm (l₁:=[_,_,_]) (l₂:=[_])) (zL J3) (fun _ _ hq=>by obtain⟨_,rfl⟩:=hq;exact has0_cons (by simp) has0_nil) ?_ (hm:=.inr ⟨rfl,rfl⟩)
   rintro _ _ ⟨rfl,rfl⟩ _
   refine ySG J3 ?_
   refine cw_buildSlice (xs:=[.tmp 36,.tmp 40]) (cells:=[.str (sB v.event),.str (sB (rtxt v.p))]) rfl rfl rfl rfl (zE J3) (by refine yS J3 ?_;rfl) rfl om om (by intro z hz;simp only [List.mem_cons,List.not_mem_nil,or_false] at hz;rcases hz with rfl|rfl<;>exact⟨rfl,rfl,rfl⟩) rfl (by intro z hz;simp only [List.mem_cons,List.not_mem_nil,or_false] at hz;rcases hz with rfl|rfl<;>simp [Op.operands]) qa (fun g41 hn_g41=> ?_) (.inr ⟨rfl,rfl⟩)
   replace hn_g41:=Heap.ne_of hn_g41
   dsimp only [Heap.ne] at hn_g41
   have J4:=oj hn_g3 (oj hn_g10 (oj hn_g24 (oj d1 (oj b1 (oj b2 (oj b3 (oj b4 (oj b5 (oj b6 (oj hn_g7 hn_g41))))))))))
   refine ySG J4 ?_
   refine cw_appendO (size:=1) (n:=(evWL x j).length) (k:=2) (m:=(evWL x j).length) (g:=g) (f:=strsF (evWL x j)) (f2:=strsF [v.event,rtxt v.p]) (cx:=.osl g41 1 0 2) (h2:=[(g41,.cells 9 2 (ofL [.str (sB v.event),.str (sB (rtxt v.p))])),bldG 146 [.bool (evLo lo x j||longR v.p)] gB a b,(g7,.cells 186 4 (ofL (vlc v))),(g24,.cells 186 16 (vlsF (evP x)))]) rfl rfl rfl rfl (by exact tya_e_92) (by exact tya_z_9) rfl om (zE J4) (zE J4) om (zE J4)
    (.osl (m:=2) (ty:=9) (f':=ofL [.str (sB v.event),.str (sB (rtxt v.p))]) (zE J4) om (fun q hq=>by match q,hq with|0,_=>rw [strsF_0];rfl|1,_=>rw [strsF_0];rfl)) (fun q _=>strsF_solid _ q) om qc om (zE J4) qa (fun g42 hn_g42=> ?_) (.inr ⟨rfl,rfl⟩)
   refine ySG J4 ?_
   refine aw_weak (h':=[(g42,.cells 9 ((evWL x j).length+2) (appF (strsF (evWL x j)) (evWL x j).length (strsF [v.event,rtxt v.p]))),bldG 146 [.bool (evLo lo x j||longR v.p)] gB a b,(g24,.cells 186 16 (vlsF (evP x)))]) (Sl.le_refl _) (.cons_cons _ (.cons _ (.cons_cons _ (.cons _ (.cons_cons _ .slnil))))) ?_
   refine aw_conv1 (f':=strsF (evWL x (j+1))) (fun q hq=>by rw [eW];have:=strs_app (evWL x j) [v.event,rtxt v.p] q (by simpa using hq);simpa using this) ?_
   rw [show(evWL x j).length+2=(evWL x (j+1)).length from by rw [eW];simp]
   refine aw_perm (List.perm_append_comm (l₁:=[_,_]) (l₂:=[_])) ?_
   exact aw_stop ⟨(j+1,g42),by dsimp only;omega,(zB J4),by dsimp only;rw [eL];exact List.Sublist.refl _,by dsimp only;omega⟩
  ·have eW:evWL x (j+1)=evWL x j:=by rw [evWL_succ x j hj4];unfold partW;rw [if_pos hb,List.append_nil]
   have eL:evLo lo x (j+1)=evLo lo x j:=by rw [evLo_succ lo x j hj4,decide_eq_false (fun e=>e hb)];simp
   refine aw_stop ⟨(j+1,g),by dsimp only;omega,?_,?_,by dsimp only;omega⟩
   ·dsimp only;rw [eW];exact(zB (oj hn_g3 (oj hn_g10 (oj hn_g24 (oj d1 (oj b1 (oj b2 (oj b3 (oj b4 (oj b5 (oj b6 hn_g7)))))))))))
   ·dsimp only;rw [eW,eL];exact List.sublist_cons_self _ _
 ·have d1:decide (j<4)=false:=decide_eq_false hj4
  have e4:j=4:=by omega
  subst e4
  rw [evWL_end]
  have fL:=line_fa false (evW x) hl
  refine zA (oj hn_g3 (oj hn_g10 (oj hn_g24 d1))) ?_
  refine aw_perm (h':=[(g24,.cells 186 16 (vlsF (evP x))),bldG 146 [.bool (evLo lo x 4)] gB a b]++gh (some g) 9 (evW x).length (strsF (evW x))) (List.Perm.cons _ (List.Perm.swap _ _ _)) ?_
  refine aw_nd fun hnd2=> ?_
  refine aw_callq fL rfl rfl rfl (by refine yS (oj hn_g3 (oj hn_g10 (oj hn_g24 d1))) ?_;exact .c (le_gst (og:=some g) (pre:=[(g24,.cells 186 16 (vlsF (evP x))),bldG 146 [.bool (evLo lo x 4)] gB a b]) (fun e=>by cases e) hnd2)) ?_
  have J5:=oj hn_g3 (oj hn_g10 (oj hn_g24 d1))
  refine ySG J5 ?_
  refine aw_weak (h':=[bldG 146 [.bool (evLo lo x 4)] gB a b]) (Sl.le_refl _) (.cons _ (.cons_cons _ (.cons _ .slnil))) ?_
  refine yU J5 ?_
  exact⟨rfl,rfl⟩
end Go.Proofs.YtpcpaekpnfkhhaaGreatDoor
namespace Go.PN
open Go.AI
theorem span_eq {p:Nat→Bool} {l:BS}:∀(n i:Nat),(∀j,i≤j→j<i+n→p (bAt l j)=true)→i+n≤l.length→(i+n<l.length→p (bAt l (i+n))=false)→spanE p l i=i+n
 |0,i,_,h1,h2=>by
  by_cases h:i<l.length
  ·exact spanE_no h (by simpa using h2 om)
  ·exact spanE_out om
 |n+1,i,h,h1,h2=>by
  rw [spanE_yes om (h i (Nat.le_refl _) om),span_eq n (i+1) (fun j a b=>h j om om) om (fun z=>by rw [show i+1+n=i+(n+1) from by omega];exact h2 om)]
  omega
inductive LexOk (t:TK):Prop where
 |word (k:t.kind=0) (h0:0<t.text.length) (h1:t.text.length≤24) (h2:isLet (bAt t.text 0)=true) (h3:∀j,j<t.text.length→isIns (bAt t.text j)=true)
 |num (k:t.kind=1) (h0:0<t.text.length) (hd:isDig (bAt t.text 0)=true) (h1:NumF t.text)
 |sgn (k:t.kind=2) (h0:t.text.length=1) (h1:isSgn (bAt t.text 0)=true)
theorem let_cls {n:Nat} (h:isLet n=true):isBlk n=false∧n≠35∧isIns n=true:=by
 unfold isLet at h
 simp only [Bool.or_eq_true,Bool.and_eq_true,decide_eq_true_eq] at h
 refine⟨?_,by omega,?_⟩
 ·unfold isBlk
  simp only [Bool.or_eq_false_iff,beq_eq_false_iff_ne]
  omega
 ·unfold isIns isLet
  simp only [Bool.or_eq_true,Bool.and_eq_true,decide_eq_true_eq]
  omega
theorem dig_cls {n:Nat} (h:isDig n=true):isBlk n=false∧n≠35∧isLet n=false∧isIns n=true:=by
 unfold isDig at h
 simp only [Bool.and_eq_true,decide_eq_true_eq] at h
 refine⟨?_,by omega,?_,?_⟩
 ·unfold isBlk
  simp only [Bool.or_eq_false_iff,beq_eq_false_iff_ne]
  omega
 ·unfold isLet
  simp only [Bool.or_eq_false_iff,Bool.and_eq_false_iff,decide_eq_false_iff_not]
  omega
 ·unfold isIns isDig
  simp only [Bool.or_eq_true,Bool.and_eq_true,decide_eq_true_eq]
  omega
theorem sgn_cls {n:Nat} (h:isSgn n=true):isBlk n=false∧n≠35∧isLet n=false∧isDig n=false∧n≠10:=by
 unfold isSgn at h
 simp only [Bool.or_eq_true,beq_iff_eq] at h
 rcases h with h|h|h|h|h<;>subst h<;>decide
def endOk (l:BS) (i:Nat):Prop:=i<l.length→isIns (bAt l i)=false∧bAt l i≠47
theorem relex {t:TK} (ok:LexOk t) {l:BS} {i:Nat} (hl:i+t.text.length≤l.length) (hm:∀j,j<t.text.length→bAt l (i+j)=bAt t.text j) (he:endOk l (i+t.text.length)):stepT l i=.tok t.kind (i+t.text.length):=by
 cases ok with
 |word k h0 h1 h2 h3=>
  have e0:bAt l i=bAt t.text 0:=hm 0 h0
  obtain⟨c1,c2,_⟩:=let_cls h2
  have hs:spanE isIns l i=i+t.text.length:=span_eq _ _ (fun j a b=>by have:=hm (j-i) om;rw [show i+(j-i)=j from by omega] at this;rw [this];exact h3 _ om) hl fun z=>(he z).1
  unfold stepT
  rw [e0,c1,if_neg (by simp),if_neg c2,if_pos h2,hs,if_neg om,k]
 |num k h0 hd0 h1=>
  have e0:bAt l i=bAt t.text 0:=hm 0 h0
  obtain⟨c1,c2,c3,_⟩:=dig_cls hd0
  have hB:∀j,i≤j→j<i+t.text.length→bAt l j=bAt t.text (j-i):=fun j a b=>by have:=hm (j-i) om;rwa [show i+(j-i)=j from by omega] at this
  have hn:numE l i=i+t.text.length:=by
   have hE:i+t.text.length<l.length→isDig (bAt l (i+t.text.length))=false:=fun z=>by
    have:=(he z).1
    cases hd:isDig (bAt l (i+t.text.length)) with
    |false=>rfl
    |true=>rw [(dig_cls hd).2.2.2] at this;cases this
   cases h1 with
   |all h=>
    have hs:spanE isDig l i=i+t.text.length:=span_eq _ _ (fun j a b=>by rw [hB j a b];exact h _ om) hl hE
    unfold numE
    rw [hs,if_neg]
    rintro ⟨q1,q2,_⟩
    obtain⟨z1,z2⟩:=he om
    rcases q2 with q2|q2
    ·rw [q2] at z1;revert z1;decide
    ·exact z2 q2
   |two e he' hm' h2 h3=>
    have hx:isDig (bAt l (i+e))=false:=by rw [hB _ om om,show i+e-i=e from by omega];rcases hm' with q|q<;>rw [q]<;>decide
    have hs:spanE isDig l i=i+e:=span_eq _ _ (fun j a b=>by rw [hB j a om];exact h2 _ om) om fun _=>hx
    have hs2:spanE isDig l (i+e+1)=i+e+1+(t.text.length-(e+1)):=span_eq _ _ (fun j a b=>by rw [hB j om om];exact h3 _ om om) om fun z=>by rw [show i+e+1+(t.text.length-(e+1))=i+t.text.length from by omega] at z⊢;exact hE z
    unfold numE
    rw [hs,if_pos,hs2]
    ·omega
    ·refine⟨by omega,?_,?_⟩
     ·rw [hB _ om om,show i+e-i=e from by omega];exact hm'
     ·rw [hB _ om om];exact h3 _ om om
  unfold stepT
  rw [e0,c1,if_neg (by simp),if_neg c2,c3,if_neg (by simp),if_pos hd0,hn,if_neg (fun z=>by
   have:=he z.1
   rcases z.2 with q|q
   ·rw [this.1] at q;cases q
   ·exact this.2 q),k]
 |sgn k h0 h1=>
  have e0:bAt l i=bAt t.text 0:=hm 0 om
  obtain⟨c1,c2,c3,c4,_⟩:=sgn_cls h1
  unfold stepT
  rw [e0,c1,if_neg (by simp),if_neg c2,c3,if_neg (by simp),c4,if_neg (by simp),if_pos h1,h0,k]
end Go.PN
namespace Go.PN
open Go.AI
def endB (l:BS):Prop:=l=[]∨isIns (bAt l 0)=false∧bAt l 0≠47
inductive Lx:BS→List TK→Prop where
 |nil:Lx [] []
 |blank (b:UInt8) (l:BS) (ts:List TK):isBlk b.toNat=true→Lx l ts→Lx (b::l) ts
 |note (c l:BS) (ts:List TK):(∀x∈c,x.toNat≠10)→Lx l ts→Lx (35::(c++10::l)) ts
 |tok (t:TK) (l:BS) (ts:List TK):LexOk t→endB l→Lx l ts→Lx (t.text++l) (t::ts)
 |sgn (b:UInt8) (l:BS) (ts:List TK):isSgn b.toNat=true→Lx l ts→Lx (b::l) (⟨2,[b]⟩::ts)
theorem bAt_app {a l:BS} (i:Nat) (h:a.length=i) (j:Nat):bAt (a++l) (i+j)=bAt l j:=by
 subst h
 unfold bAt
 rw [List.getD_eq_getElem?_getD,List.getD_eq_getElem?_getD,List.getElem?_append_right om,Nat.add_sub_cancel_left]
theorem bAt_app0 {a l:BS}:bAt (a++l) a.length=bAt l 0:=by
 have:=bAt_app (a:=a) (l:=l) a.length rfl 0
 simpa using this
theorem bAt_left {a l:BS} {j:Nat} (h:j<a.length):bAt (a++l) j=bAt a j:=by
 unfold bAt
 rw [List.getD_eq_getElem?_getD,List.getD_eq_getElem?_getD,List.getElem?_append_left h]
theorem LexOk.pos {t:TK} (h:LexOk t):0<t.text.length:=by
 cases h with
 |word _ h0=>exact h0
 |num _ h0=>exact h0
 |sgn _ h0=>omega
theorem splitT_lx {m:BS} {ts:List TK} (h:Lx m ts):∀(pre:BS) (n:Nat) (out:List TK),m.length≤n→splitT (pre++m) n pre.length out=(0,out++ts):=by
 induction h with
 |nil=>
  intro pre n out _
  cases n with
  |zero=>unfold splitT;rw [List.append_nil]
  |succ n=>unfold splitT;rw [if_neg (by simp),List.append_nil]
 |blank b l ts hb _ ih=>
  intro pre n out hn
  rw [List.length_cons] at hn
  obtain⟨n,rfl⟩:∃k,n=k+1:=⟨n-1,by omega⟩
  have hs:stepT (pre++b::l) pre.length=.skip (pre.length+1):=by
   unfold stepT
   rw [bAt_app0,show bAt (b::l) 0=b.toNat from rfl,if_pos hb]
  unfold splitT
  rw [if_pos (by simp),hs]
  have:=ih (pre++[b]) n out om
  rw [List.append_assoc,List.length_append] at this
  exact this
 |note c l ts hc _ ih=>
  intro pre n out hn
  rw [List.length_cons,List.length_append,List.length_cons] at hn
  obtain⟨n,rfl⟩:∃k,n=k+2:=⟨n-2,by omega⟩
  have hsp:spanE (fun b=>b !=10) (pre++35::(c++10::l)) pre.length=pre.length+(c.length+1):=by
   refine span_eq _ _ (fun j a b=> ?_) (by simp) fun _=> ?_
   ·have e:=bAt_app (a:=pre) (l:=35::(c++10::l)) pre.length rfl (j-pre.length)
    rw [show pre.length+(j-pre.length)=j from by omega] at e
    rw [e]
    by_cases h0:j=pre.length
    ·rw [show j-pre.length=0 from by omega];rfl
    ·obtain⟨k,hk⟩:∃k,j-pre.length=k+1:=⟨j-pre.length-1,by omega⟩
     rw [hk]
     have e2:bAt (35::(c++10::l)) (k+1)=bAt (c++10::l) k:=rfl
     have hk2:k<c.length:=by omega
     rw [e2,bAt_left hk2,bAt_get hk2]
     simpa using hc _ (List.getElem_mem hk2)
   ·rw [bAt_app (a:=pre) pre.length rfl (c.length+1)]
    have e2:bAt (35::(c++10::l)) (c.length+1)=bAt (c++10::l) c.length:=rfl
    rw [e2,bAt_app0]
    rfl
  have hs:stepT (pre++35::(c++10::l)) pre.length=.skip (pre.length+(c.length+1)):=by
   unfold stepT
   rw [bAt_app0,show bAt (35::(c++10::l)) 0=35 from rfl,if_neg (by decide),if_pos rfl,hsp]
  have e3:pre++35::(c++10::l)=(pre++35::c)++10::l:=by simp
  have e4:(pre++35::c).length=pre.length+(c.length+1):=by simp
  have hs2:stepT (pre++35::(c++10::l)) (pre.length+(c.length+1))=.skip (pre.length+(c.length+1)+1):=by
   unfold stepT
   rw [e3,←e4,bAt_app0,if_pos (show isBlk (bAt (10::l) 0)=true from rfl)]
  have hlen:(pre++35::(c++10::l)).length=pre.length+(c.length+1)+1+l.length:=by simp;omega
  unfold splitT
  rw [if_pos om,hs]
  show splitT _ (n+1) _ out=_
  unfold splitT
  rw [if_pos om,hs2]
  have:=ih (pre++35::c++[10]) n out om
  rw [List.length_append,e4,List.append_assoc,List.singleton_append,←e3] at this
  exact this
 |tok t l ts hok he _ ih=>
  intro pre n out hn
  have hp:=hok.pos
  rw [List.length_append] at hn
  obtain⟨n,rfl⟩:∃k,n=k+1:=⟨n-1,by omega⟩
  have hs:stepT (pre++(t.text++l)) pre.length=.tok t.kind (pre.length+t.text.length):=by
   refine relex hok (by simp) (fun j hj=> ?_) fun hlt=> ?_
   ·rw [bAt_app (a:=pre) pre.length rfl j,bAt_left hj]
   ·rw [bAt_app (a:=pre) pre.length rfl,bAt_app0]
    rcases he with e|e
    ·subst e;simp at hlt
    ·exact e
  have hc:cutS (pre++(t.text++l)) pre.length (pre.length+t.text.length)=t.text:=by
   unfold cutS
   rw [List.drop_left,Nat.add_sub_cancel_left,List.take_left]
  unfold splitT
  rw [if_pos (by simp;omega),hs]
  dsimp only
  rw [hc]
  have:=ih (pre++t.text) n (out++[t]) om
  rw [List.append_assoc,List.length_append,List.append_assoc] at this
  exact this
 |sgn b l ts hb _ ih=>
  intro pre n out hn
  rw [List.length_cons] at hn
  obtain⟨n,rfl⟩:∃k,n=k+1:=⟨n-1,by omega⟩
  obtain⟨c1,c2,c3,c4,_⟩:=sgn_cls hb
  have hs:stepT (pre++b::l) pre.length=.tok 2 (pre.length+1):=by
   unfold stepT
   rw [bAt_app0,show bAt (b::l) 0=b.toNat from rfl,c1,if_neg (by simp),if_neg c2,c3,if_neg (by simp),c4,if_neg (by simp),if_pos hb]
  have hc:cutS (pre++b::l) pre.length (pre.length+1)=[b]:=by
   unfold cutS
   rw [List.drop_left,Nat.add_sub_cancel_left];rfl
  unfold splitT
  rw [if_pos (by simp),hs]
  dsimp only
  rw [hc]
  have:=ih (pre++[b]) n (out++[⟨2,[b]⟩]) om
  rw [List.append_assoc,List.length_append,List.append_assoc] at this
  exact this
theorem splitS_lx {m:BS} {ts:List TK} (h:Lx m ts) (hl:m.length≤65536):splitS m=(0,ts):=by
 unfold splitS
 rw [if_neg om]
 have:=splitT_lx h [] m.length [] (Nat.le_refl _)
 simpa using this
end Go.PN
namespace Go.PN
open Go.AI
variable {α β : Type}
theorem bnd_at {f:PS→α×PS} {k:α→PS→β×PS} {s s':PS} {v:α} (h:f s=(v,s')):PN.bnd f k s=k v s':=by unfold PN.bnd;rw [h]
theorem wordT_at (w:BS) (r:List TK):wordS ⟨⟨0,w⟩::r,0⟩=(w,⟨r,0⟩):=rfl
theorem exp_at (k:Nat) (w:BS) (r:List TK) (hk:k≠1):expS w ⟨⟨k,w⟩::r,0⟩=⟨r,0⟩:=by
 unfold expS takeS isS
 simp [hk]
theorem num_at {t:BS} (hv:valC t=0) (r:List TK):numS ⟨⟨1,t⟩::r,0⟩=(valR t,⟨r,0⟩):=by
 unfold numS
 rw [take_cons (s:=⟨⟨1,t⟩::r,0⟩) rfl rfl]
 show(if(0:Int)=0 then(valR t,if valC t=0 then(⟨r,0⟩:PS) else⟨r,valC t⟩) else(rd0,⟨r,0⟩))=_
 rw [if_pos rfl,if_pos hv]
theorem whole_at {t:BS} {n:Int} (hv:valC t=0) (hq:valR t=rd (n:Rat)) (h0:0≤n) (h1:n≤1073741824) (r:List TK):wholeS ⟨⟨1,t⟩::r,0⟩=(n,⟨r,0⟩):=by
 unfold wholeS
 rw [num_at hv,hq]
 have hq:intQ (rd (n:Rat)).q=some n:=by
  have e1:((n:Int):Rat).num=n:=Rat.num_intCast n
  have e2:((n:Int):Rat).den=1:=Rat.den_intCast n
  rw [rd_q]
  unfold intQ
  rw [e1,e2]
  exact if_pos ⟨rfl,by omega,by omega⟩
 dsimp only
 rw [if_pos rfl,hq]
 dsimp only
 rw [if_pos ⟨h0,h1⟩]
theorem lp_at {c:PS→Bool} {b:α→PS→α×PS} {a a':α} {s s':PS} (hd:∀a,Con (b a)) (h0:s.e=0) (hc:c s=true) (hb:b a s=(a',s')):lpS c b a s=lpS c b a' s':=by
 rw [lpS_step (fun a s e _=>hd a s e) h0 hc,hb]
theorem lp_list {c:PS→Bool} {b:α→PS→α×PS} (hd:∀a,Con (b a)) (T:β→List TK) (g:α→β→α) (P:β→Prop) (h:∀a x r,P x→c ⟨T x++r,0⟩=true∧b a ⟨T x++r,0⟩=(g a x,⟨r,0⟩)):∀(L:List β) (a:α) (r:List TK),(∀x∈L,P x)→lpS c b a ⟨L.flatMap T++r,0⟩=lpS c b (L.foldl g a) ⟨r,0⟩
 |[],_,_,_=>rfl
 |x::L,a,r,hL=>by
  obtain⟨h1,h2⟩:=h a x (L.flatMap T++r) (hL x List.mem_cons_self)
  rw [List.flatMap_cons,List.append_assoc,lp_at hd rfl h1 h2]
  exact lp_list hd T g P h L _ r fun y hy=>hL y (List.mem_cons_of_mem _ hy)
theorem fold_snoc (L:List β) (f:β→α):∀a:List α,L.foldl (fun a x=>a++[f x]) a=a++L.map f:=by
 induction L with
 |nil=>intro a;simp
 |cons x L ih=>intro a;rw [List.foldl_cons,ih];simp
abbrev semiT:TK:=⟨2,kSemi⟩
def inT (i:BS):List TK:=if bAt i 0=64 then [⟨2,kAt⟩,⟨0,i.drop 1⟩] else [⟨0,i⟩]
def partT (w:BS) (r:RD):List TK:=if signQ r.q=0 then [] else [⟨0,w⟩,⟨1,rtxt r⟩]
def evT (x:EvD):List TK:=⟨0,kEvent⟩::⟨0,x.name⟩::(partT kP x.p++(partT kFail x.fail++(partT kRepair x.rep++(partT kCost (rd (x.cost:Rat))++[semiT]))))
def hsT' (x:HsD):List TK:=[⟨0,kHouse⟩,⟨0,x.name⟩,⟨0,if x.on then kOn else kOff⟩,semiT]
def gtT (g:GtD):List TK:=⟨0,kGate⟩::⟨0,g.name⟩::⟨0,kindW g.kind⟩::((if g.kind=2 then [⟨1,itoaB g.k⟩] else if g.kind=7 then [⟨1,rtxt g.dorm⟩] else [])++(g.inputs.flatMap inT++[semiT]))
def headT (k name top:BS):List TK:=⟨0,k⟩::⟨0,name⟩::⟨0,kTop⟩::(inT top++[⟨2,kOpen⟩])
def pgT (x:PgD):List TK:=headT kPage x.name x.top++(x.gates.flatMap gtT++[⟨2,kClose⟩])
def grT' (x:GrD):List TK:=⟨0,kGroup⟩::⟨0,x.name⟩::⟨0,if x.kind=1 then kGreek else kBeta⟩::(x.factors.flatMap (fun r=>[⟨1,rtxt r⟩])++⟨2,kColon⟩::(x.members.flatMap (fun n=>[⟨0,n⟩])++[semiT]))
def vlT (v:VlD):List TK:=[⟨0,v.event⟩,⟨1,rtxt v.p⟩,semiT]
def phT (x:PhD):List TK:=headT kPhase x.name x.top++(x.values.flatMap vlT++[⟨2,kClose⟩])
def textT (m:MdD):List TK:=⟨0,kModel⟩::⟨0,m.name⟩::semiT::(m.events.flatMap evT++(m.houses.flatMap hsT'++(m.gates.flatMap gtT++(m.pages.flatMap pgT++(m.groups.flatMap grT'++(m.phases.flatMap phT++⟨0,kTop⟩::(inT m.top++[semiT])))))))
structure NumOk (r:RD):Prop where
 w:r.wf 1073741824
 v:r.valid=true
 q:0≤r.q
 l:(rtxt r).length≤100
def EvOk (x:EvD):Prop:=nameOk x.name=true∧NumOk x.p∧NumOk x.fail∧NumOk x.rep∧0≤x.cost∧x.cost≤1073741824
def InpOk (i:BS):Prop:=(bAt i 0=64∧nameOk (i.drop 1)=true∧0<i.length)∨nameOk i=true
def GtOk (g:GtD):Prop:=nameOk g.name=true∧0≤g.kind∧g.kind≤8∧0≤g.k∧g.k≤16∧(g.kind≠2→g.k=0)∧NumOk g.dorm∧(g.kind≠7→g.dorm=rd0)∧∀i∈g.inputs,InpOk i
def PgOk (x:PgD):Prop:=nameOk x.name=true∧InpOk x.top∧∀g∈x.gates,GtOk g
def GrOk (x:GrD):Prop:=nameOk x.name=true∧(x.kind=0∨x.kind=1)∧(∀n∈x.members,nameOk n=true)∧∀r∈x.factors,NumOk r
def VlOk (v:VlD):Prop:=nameOk v.event=true∧NumOk v.p
def PhOk (x:PhD):Prop:=nameOk x.name=true∧InpOk x.top∧∀v∈x.values,VlOk v
structure MdB (m:MdD):Prop where
 nm:nameOk m.name=true
 tp:InpOk m.top
 ev:∀x∈m.events,EvOk x
 hs:∀x∈m.houses,nameOk x.name=true
 gt:∀x∈m.gates,GtOk x
 pg:∀x∈m.pages,PgOk x
 gr:∀x∈m.groups,GrOk x
 ph:∀x∈m.phases,PhOk x
theorem dg_at {s:BS} (h:s.all dgB=true) {i:Nat} (hi:i<s.length):isDig (bAt s i)=true:=by
 rw [bAt_get hi]
 exact List.all_eq_true.1 h _ (List.getElem_mem hi)
theorem num_dgs {s:BS} (h0:0<s.length) (hd:∀i,i<s.length→isDig (bAt s i)=true) (hl:s.length≤100):valC s=0∧valR s=rd (natB s:Rat):=by
 have hs:spanE isDig s 0=s.length:=by
  have:=span_eq (p:=isDig) (l:=s) s.length 0 (fun j _ b=>hd j om) om (fun z=>by omega)
  omega
 have hn:isNum s=true:=by
  unfold isNum numE
  rw [hs,hd 0 h0,if_neg (fun z=>by omega)]
  simp [h0]
 obtain⟨x1,x2⟩:=ix_all hd
 have hc:valC s=0:=by
  unfold valC
  rw [if_neg om,hn,if_neg (by simp),if_neg om]
 refine⟨hc,?_⟩
 unfold valR valQ
 rw [if_pos hc,if_neg om,x2,List.take_length,List.drop_of_length_le om,List.append_nil]
 congr 1
 simp
 grind
theorem num_dec {n:Nat} (hl:(decB n).length≤100):LexOk ⟨1,decB n⟩∧valC (decB n)=0∧valR (decB n)=rd (n:Rat):=by
 have h0:=decB_pos n
 have hd:∀i,i<(decB n).length→isDig (bAt (decB n) i)=true:=fun i hi=>dg_at (decB_dig n) hi
 obtain⟨n1,n2⟩:=num_dgs h0 hd hl
 rw [decB_nat] at n2
 exact⟨.num rfl h0 (hd 0 h0) (.all hd),n1,n2⟩
theorem num_frac {A B:BS} (hA:A.all dgB=true) (hB:B.all dgB=true) (a0:0<A.length) (b0:0<B.length) (hz:natB B≠0) (hl:(A++47::B).length≤100):LexOk ⟨1,A++47::B⟩∧valC (A++47::B)=0∧valR (A++47::B)=rd ((natB A:Rat)/(natB B:Rat)):=by
 have hlen:(A++47::B).length=A.length+1+B.length:=by simp;omega
 have x1:∀j,j<A.length→bAt (A++47::B) j=bAt A j:=fun j hj=>bAt_left hj
 have x2:bAt (A++47::B) A.length=47:=by rw [bAt_app0];rfl
 have x3:∀j,bAt (A++47::B) (A.length+1+j)=bAt B j:=fun j=>by
  have:=bAt_app (a:=A) (l:=47::B) A.length rfl (j+1)
  rw [show A.length+(j+1)=A.length+1+j from by omega] at this
  rw [this];rfl
 have dA:∀j,j<A.length→isDig (bAt (A++47::B) j)=true:=fun j hj=>by rw [x1 j hj];exact dg_at hA hj
 have dB:∀j,A.length<j→j<(A++47::B).length→isDig (bAt (A++47::B) j)=true:=fun j h1 h2=>by
  have:=x3 (j-(A.length+1))
  rw [show A.length+1+(j-(A.length+1))=j from by omega] at this
  rw [this];exact dg_at hB om
 have hix:idxB 47 (A++47::B)=A.length:=by
  unfold idxB
  rw [List.takeWhile_append_of_pos]
  ·rw [List.takeWhile_cons_of_neg (by simp),List.append_nil]
  ·intro a ha
   have:=List.all_eq_true.1 hA a ha
   have h3:isDig a.toNat=true:=this
   simp only [bne_iff_ne,ne_eq]
   intro e
   subst e
   revert h3;decide
 have hdr:(A++47::B).drop (A.length+1)=B:=by
  rw [←List.drop_drop,List.drop_left];rfl
 have hs1:spanE isDig (A++47::B) 0=A.length:=by
  have:=span_eq (p:=isDig) (l:=A++47::B) A.length 0 (fun j _ b=>dA j om) om (fun _=>by rw [Nat.zero_add,x2];rfl)
  omega
 have hs2:spanE isDig (A++47::B) (A.length+1)=(A++47::B).length:=by
  have:=span_eq (p:=isDig) (l:=A++47::B) B.length (A.length+1) (fun j a b=>dB j om om) om (fun z=>by omega)
  omega
 have hn:isNum (A++47::B)=true:=by
  unfold isNum numE
  rw [hs1,dA 0 a0,if_pos ⟨by omega,.inr x2,dB (A.length+1) om om⟩,hs2]
  simp
  omega
 have hc:valC (A++47::B)=0:=by
  unfold valC
  rw [if_neg om,hn,if_neg (by simp),hix,hdr,if_neg (fun z=>hz z.2)]
 refine⟨.num rfl (by dsimp only;omega) (dA 0 a0) (.two A.length (by dsimp only;omega) (.inr x2) dA dB),hc,?_⟩
 unfold valR valQ
 rw [if_pos hc,hix,if_pos om,hdr,List.take_left]
theorem num_txt {r:RD} (h:NumOk r):LexOk ⟨1,rtxt r⟩∧valC (rtxt r)=0∧valR (rtxt r)=r:=by
 obtain⟨hw,hv,hq,hl⟩:=h
 have hd:=RD.pd_ne hw
 have hps:r.ps=false:=by
  by_cases hs:r.some=true
  ·obtain⟨s1,s2,s3,s4,s5⟩:=RD.some_spec hw hs
   have hpn:r.pn≠0:=by unfold RD.pn;rw [if_pos hs];exact s3
   cases hp:r.ps with
   |false=>rfl
   |true=>
    exfalso
    have:r.q.num<0:=by
     unfold RD.q sq
     rw [hp,(mkRat_nd hd).1]
     have hg:0<(sgn true r.pn).natAbs.gcd r.pd:=Nat.gcd_pos_of_pos_right _ om
     have hdv:(((sgn true r.pn).natAbs.gcd r.pd:Nat):Int)∣sgn true r.pn:=by
      exact Int.ofNat_dvd_left.2 (Nat.gcd_dvd_left _ _)
     have h2:sgn true r.pn<0:=by unfold sgn;rw [if_pos rfl];omega
     exact Int.ediv_neg_of_neg_of_pos h2 om
    have:=Rat.num_nonneg.2 hq
    omega
  ·unfold RD.ps;rw [if_neg hs]
 have hqe:r.q=(r.pn:Rat)/(r.pd:Rat):=by
  unfold RD.q sq
  rw [hps,Rat.mkRat_eq_div];rfl
 have he:rtxt r=decB r.pn++(if r.pd=1 then [] else 47::decB r.pd):=by
  unfold rtxt
  rw [hps,if_neg (by simp),txtN_dec,txtN_dec];rfl
 have hr:=rd_self hw hv
 by_cases h1:r.pd=1
 ·rw [he,if_pos h1,List.append_nil] at hl⊢
  obtain⟨a,b,c⟩:=num_dec hl
  refine⟨a,b,?_⟩
  rw [c]
  conv=>rhs;rw [←hr,hqe,h1]
  congr 1
  grind
 ·rw [he,if_neg h1] at hl⊢
  obtain⟨a,b,c⟩:=num_frac (decB_dig r.pn) (decB_dig r.pd) (decB_pos _) (decB_pos _) (by rw [decB_nat];exact hd) hl
  refine⟨a,b,?_⟩
  rw [c,decB_nat,decB_nat,←hqe,hr]
theorem sign_zero {r:RD} (h:NumOk r) (hs:signQ r.q=0):r=rd0:=by
 have hq:r.q=0:=by
  unfold signQ at hs
  split at hs
  ·assumption
  ·split at hs<;>cases hs
 have:=rd_self h.w h.v
 rw [hq] at this
 rw [←this];decide+kernel
end Go.PN
namespace Go.PN
open Go.AI
theorem name_ne {n:BS} (h:nameOk n=true):n≠kSemi∧n≠kClose∧n≠kColon∧bAt n 0≠64:=by
 have hl:isLet (bAt n 0)=true:=by
  unfold nameOk at h
  simp only [Bool.and_eq_true] at h
  exact h.1.2
 refine⟨?_,?_,?_,?_⟩<;>intro e
 ·subst e;revert hl;decide
 ·subst e;revert hl;decide
 ·subst e;revert hl;decide
 ·rw [e] at hl;revert hl;decide
theorem name_is {n w:BS} (h:n≠w) (k:Nat) (r:List TK):isS ⟨⟨k,n⟩::r,0⟩ w=false:=by
 show(true&&(k !=1&&n==w))=false
 rw [beq_eq_false_iff_ne.2 h]
 simp
theorem input_at {i:BS} (h:InpOk i) (r:List TK):inputS ⟨inT i++r,0⟩=(i,⟨r,0⟩)∧isS ⟨inT i++r,0⟩ kSemi=false:=by
 by_cases h0:bAt i 0=64
 ·have hi:0<i.length∧nameOk (i.drop 1)=true:=by
   rcases h with h|h
   ·exact⟨h.2.2,h.2.1⟩
   ·exact absurd h0 (name_ne h).2.2.2
  have e:i=64::i.drop 1:=by
   cases i with
   |nil=>simp at hi
   |cons a l=>
    have:a=64:=UInt8.toNat_inj.1 h0
    subst this;rfl
  unfold inT
  rw [if_pos h0]
  refine⟨?_,rfl⟩
  have:inputS ⟨⟨2,kAt⟩::⟨0,i.drop 1⟩::r,0⟩=(64::i.drop 1,⟨r,0⟩):=rfl
  rw [List.cons_append,List.singleton_append,this,←e]
 ·have hn:nameOk i=true:=by
   rcases h with h|h
   ·exact absurd h.1 h0
   ·exact h
  unfold inT
  rw [if_neg h0]
  refine⟨?_,name_is (name_ne hn).1 0 r⟩
  have ha:isS ⟨⟨0,i⟩::r,0⟩ kAt=false:=name_is (fun e=>by subst e;exact h0 rfl) 0 r
  show inputS ⟨⟨0,i⟩::r,0⟩=_
  unfold inputS
  rw [ha,if_neg (by simp),wordT_at]
theorem ins_at {L:List BS} (h:∀i∈L,InpOk i) (r:List TK):insS ⟨L.flatMap inT++semiT::r,0⟩=(L,⟨r,0⟩):=by
 have h1:=lp_list (c:=fun s=> !isS s kSemi) (b:=inB) con_inB inT (fun a x=>a++[x]) InpOk (fun a x r hx=>⟨by rw [(input_at hx r).2];rfl,by unfold inB;rw [(input_at hx r).1]⟩) L [] (semiT::r) h
 unfold insS
 rw [h1,lpS_end (fun z=>absurd (show false=true from z.2) (by decide))]
 have h2:=fold_snoc L (fun x:BS=>x) []
 dsimp only
 rw [h2,exp_at _ _ _ (by decide)]
 simp
def seenP (w:BS) (r:RD) (l:List BS):List BS:=if signQ r.q=0 then l else w::l
theorem seen_no {w w':BS} {r:RD} {l:List BS} (h:l.contains w'=false) (hw:(w'==w)=false):(seenP w r l).contains w'=false:=by
 unfold seenP
 split
 ·exact h
 ·rw [List.contains_cons,hw,h];rfl
abbrev cSemi:PS→Bool:=fun s=> !isS s kSemi
theorem ev_p {sn:List BS} {r:RD} (hs:sn.contains kP=false) (h:NumOk r) (nm:BS) (f p:RD) (c:Int) (t:List TK):lpS cSemi evB (sn,⟨nm,rd0,f,p,c⟩) ⟨partT kP r++t,0⟩=lpS cSemi evB (seenP kP r sn,⟨nm,r,f,p,c⟩) ⟨t,0⟩:=by
 unfold partT seenP
 by_cases h0:signQ r.q=0
 ·rw [if_pos h0,if_pos h0,sign_zero h h0];rfl
 ·rw [if_neg h0,if_neg h0]
  obtain⟨_,n2,n3⟩:=num_txt h
  refine lp_at con_evB rfl rfl ?_
  show(if sn.contains kP=true then _ else((kP::sn,(⟨nm,(numS ⟨⟨1,rtxt r⟩::t,0⟩).1,f,p,c⟩:EvD)),(numS ⟨⟨1,rtxt r⟩::t,0⟩).2))=_
  rw [if_neg (by rw [hs];simp),num_at n2,n3]
theorem ev_f {sn:List BS} {r:RD} (hs:sn.contains kFail=false) (h:NumOk r) (nm:BS) (f p:RD) (c:Int) (t:List TK):lpS cSemi evB (sn,⟨nm,f,rd0,p,c⟩) ⟨partT kFail r++t,0⟩=lpS cSemi evB (seenP kFail r sn,⟨nm,f,r,p,c⟩) ⟨t,0⟩:=by
 unfold partT seenP
 by_cases h0:signQ r.q=0
 ·rw [if_pos h0,if_pos h0,sign_zero h h0];rfl
 ·rw [if_neg h0,if_neg h0]
  obtain⟨_,n2,n3⟩:=num_txt h
  refine lp_at con_evB rfl rfl ?_
  show(if sn.contains kFail=true then _ else((kFail::sn,(⟨nm,f,(numS ⟨⟨1,rtxt r⟩::t,0⟩).1,p,c⟩:EvD)),(numS ⟨⟨1,rtxt r⟩::t,0⟩).2))=_
  rw [if_neg (by rw [hs];simp),num_at n2,n3]
theorem ev_r {sn:List BS} {r:RD} (hs:sn.contains kRepair=false) (h:NumOk r) (nm:BS) (f p:RD) (c:Int) (t:List TK):lpS cSemi evB (sn,⟨nm,f,p,rd0,c⟩) ⟨partT kRepair r++t,0⟩=lpS cSemi evB (seenP kRepair r sn,⟨nm,f,p,r,c⟩) ⟨t,0⟩:=by
 unfold partT seenP
 by_cases h0:signQ r.q=0
 ·rw [if_pos h0,if_pos h0,sign_zero h h0];rfl
 ·rw [if_neg h0,if_neg h0]
  obtain⟨_,n2,n3⟩:=num_txt h
  refine lp_at con_evB rfl rfl ?_
  show(if sn.contains kRepair=true then _ else((kRepair::sn,(⟨nm,f,p,(numS ⟨⟨1,rtxt r⟩::t,0⟩).1,c⟩:EvD)),(numS ⟨⟨1,rtxt r⟩::t,0⟩).2))=_
  rw [if_neg (by rw [hs];simp),num_at n2,n3]
theorem decB_len:∀(k n:Nat),n<10^(k+1)→(decB n).length≤k+1
 |0,n,h=>by rw [decB_lt (by simpa using h)];simp
 |k+1,n,h=>by
  by_cases h10:n<10
  ·rw [decB_lt h10];simp
  ·have:=decB_len k (n/10) (by rw [Nat.pow_succ] at h;omega)
   rw [decB_ge om,List.length_append]
   simp;omega
theorem rtxt_int {c:Int} (h0:0<c):rtxt (rd (c:Rat))=decB c.natAbs:=by
 have e1:((c:Int):Rat).num=c:=Rat.num_intCast c
 have e2:((c:Int):Rat).den=1:=Rat.den_intCast c
 have hr:rd (c:Rat)=⟨false,words c.natAbs,words 1⟩:=by
  unfold rd
  rw [e1,e2,if_neg om,decide_eq_false om]
 have hne:(words c.natAbs).length≠0:=by
  intro e
  have:=val_words c.natAbs
  rw [List.length_eq_zero_iff.1 e] at this
  have:0=c.natAbs:=this
  omega
 have hs:(rd (c:Rat)).some=true:=by
  unfold RD.some
  rw [rd_valid,hr]
  simpa using hne
 have a1:(rd (c:Rat)).ps=false:=by unfold RD.ps;rw [if_pos hs,hr]
 have a2:(rd (c:Rat)).pn=c.natAbs:=by unfold RD.pn;rw [if_pos hs,hr];exact val_words _
 have a3:(rd (c:Rat)).pd=1:=by unfold RD.pd;rw [if_pos hs,hr];exact val_words _
 unfold rtxt
 rw [a1,a2,a3,if_neg (by simp),if_pos rfl,List.append_nil,txtN_dec]
theorem sign_int (c:Int):signQ (rd (c:Rat)).q=0↔c=0:=by
 rw [rd_q]
 unfold signQ
 constructor
 ·intro h
  split at h
  ·rename_i e;exact_mod_cast e
  ·split at h<;>cases h
 ·intro h
  subst h
  rw [if_pos (by rfl)]
theorem ev_c {sn:List BS} {c:Int} (hs:sn.contains kCost=false) (h0:0≤c) (h1:c≤1073741824) (nm:BS) (f p r:RD) (t:List TK):lpS cSemi evB (sn,⟨nm,f,p,r,0⟩) ⟨partT kCost (rd (c:Rat))++t,0⟩=lpS cSemi evB (seenP kCost (rd (c:Rat)) sn,⟨nm,f,p,r,c⟩) ⟨t,0⟩:=by
 unfold partT seenP
 by_cases hc:c=0
 ·rw [if_pos ((sign_int c).2 hc),if_pos ((sign_int c).2 hc),hc];rfl
 ·have hn:¬signQ (rd (c:Rat)).q=0:=fun e=>hc ((sign_int c).1 e)
  rw [if_neg hn,if_neg hn,rtxt_int om]
  have hl:=decB_len 9 c.natAbs (by show c.natAbs<10000000000;omega)
  obtain⟨_,n2,n3⟩:=num_dec (n:=c.natAbs) om
  have e:((c.natAbs:Nat):Rat)=(c:Rat):=by
   have:((c.natAbs:Nat):Int)=c:=by omega
   rw [←this];rfl
  rw [e] at n3
  refine lp_at con_evB rfl rfl ?_
  show(if sn.contains kCost=true then _ else((kCost::sn,(⟨nm,f,p,r,(wholeS ⟨⟨1,decB c.natAbs⟩::t,0⟩).1⟩:EvD)),(wholeS ⟨⟨1,decB c.natAbs⟩::t,0⟩).2))=_
  rw [if_neg (by rw [hs];simp),whole_at n2 n3 h0 h1]
theorem event_at {x:EvD} (h:EvOk x) (t:List TK):eventS ⟨⟨0,x.name⟩::(partT kP x.p++(partT kFail x.fail++(partT kRepair x.rep++(partT kCost (rd (x.cost:Rat))++semiT::t)))),0⟩=(x,⟨t,0⟩):=by
 obtain⟨_,h1,h2,h3,h4,h5⟩:=h
 rw [eventS_eq,bnd_at (wordT_at _ _)]
 have s1:(seenP kP x.p []).contains kFail=false:=seen_no rfl (by decide)
 have s2:(seenP kFail x.fail (seenP kP x.p [])).contains kRepair=false:=seen_no (seen_no rfl (by decide)) (by decide)
 have s3:(seenP kRepair x.rep (seenP kFail x.fail (seenP kP x.p []))).contains kCost=false:=seen_no (seen_no (seen_no rfl (by decide)) (by decide)) (by decide)
 have e:=(ev_p (sn:=[]) rfl h1 x.name rd0 rd0 0 _).trans ((ev_f s1 h2 x.name x.p rd0 0 _).trans ((ev_r s2 h3 x.name x.p x.fail 0 _).trans (ev_c s3 h4 h5 x.name x.p x.fail x.rep (semiT::t))))
 have e2:=e.trans (lpS_end (fun z=>absurd (show false=true from z.2) (by decide)))
 rw [bnd_at e2]
 unfold evK
 rw [bnd_at (s':=⟨t,0⟩) (v:=()) (by rw [exp_at _ _ _ (by decide)])]
theorem house_at {x:HsD} (t:List TK):houseS ⟨⟨0,x.name⟩::⟨0,if x.on then kOn else kOff⟩::semiT::t,0⟩=(x,⟨t,0⟩):=by
 obtain⟨n,on⟩:=x
 cases on<;>rfl
theorem kind_at {k:Int} (h0:0≤k) (h8:k≤8) (r:List TK):gkS ⟨⟨0,kindW k⟩::r,0⟩=(some k,⟨r,0⟩):=by
 have:k=0∨k=1∨k=2∨k=3∨k=4∨k=5∨k=6∨k=7∨k=8:=by omega
 rcases this with h|h|h|h|h|h|h|h|h<;>subst h<;>rfl
theorem gate_at {g:GtD} (h:GtOk g) (t:List TK):gateS ⟨⟨0,g.name⟩::⟨0,kindW g.kind⟩::((if g.kind=2 then [⟨1,itoaB g.k⟩] else if g.kind=7 then [⟨1,rtxt g.dorm⟩] else [])++(g.inputs.flatMap inT++semiT::t)),0⟩=(g,⟨t,0⟩):=by
 obtain⟨_,h1,h2,h3,h4,h5,h6,h7,h8⟩:=h
 rw [gateS_eq,bnd_at (wordT_at _ _),bnd_at (kind_at h1 h2 _)]
 unfold gtK
 by_cases k2:g.kind=2
 ·have hl:=decB_len 9 g.k.natAbs (by show g.k.natAbs<10000000000;omega)
  obtain⟨_,n2,n3⟩:=num_dec (n:=g.k.natAbs) om
  have e:((g.k.natAbs:Nat):Rat)=(g.k:Rat):=by
   have:((g.k.natAbs:Nat):Int)=g.k:=by omega
   rw [←this];rfl
  rw [e] at n3
  have hi:itoaB g.k=decB g.k.natAbs:=by unfold itoaB;rw [if_neg om]
  have k7:¬(some g.kind=some (7:Int)):=by rw [k2];decide
  rw [if_pos k2,hi]
  rw [bnd_at (s':=⟨g.inputs.flatMap inT++semiT::t,0⟩) (v:=g.k) (by rw [if_pos (by rw [k2]),List.singleton_append,whole_at n2 n3 h3 om])]
  rw [bnd_at (s':=⟨g.inputs.flatMap inT++semiT::t,0⟩) (v:=rd0) (by rw [if_neg k7])]
  rw [bnd_at (ins_at h8 t)]
  rw [←h7 om];rfl
 ·have z2:¬(some g.kind=some (2:Int)):=fun e=>k2 (Option.some.inj e)
  have hk:=h5 k2
  by_cases k7:g.kind=7
  ·obtain⟨_,n2,n3⟩:=num_txt h6
   rw [if_neg k2,if_pos k7]
   rw [bnd_at (s':=⟨⟨1,rtxt g.dorm⟩::(g.inputs.flatMap inT++semiT::t),0⟩) (v:=0) (by rw [if_neg z2];rfl)]
   rw [bnd_at (s':=⟨g.inputs.flatMap inT++semiT::t,0⟩) (v:=g.dorm) (by rw [if_pos (by rw [k7]),num_at n2,n3])]
   rw [bnd_at (ins_at h8 t)]
   rw [←hk];rfl
  ·have z7:¬(some g.kind=some (7:Int)):=fun e=>k7 (Option.some.inj e)
   rw [if_neg k2,if_neg k7]
   rw [bnd_at (s':=⟨g.inputs.flatMap inT++semiT::t,0⟩) (v:=0) (by rw [if_neg z2];rfl)]
   rw [bnd_at (s':=⟨g.inputs.flatMap inT++semiT::t,0⟩) (v:=rd0) (by rw [if_neg z7])]
   rw [bnd_at (ins_at h8 t)]
   rw [←hk,←h7 k7];rfl
theorem top_at {α:Type} {top:BS} (h:InpOk top) (k:BS→PS→α×PS) (t:List TK):topK k ⟨⟨0,kTop⟩::(inT top++⟨2,kOpen⟩::t),0⟩=k top ⟨t,0⟩:=by
 unfold topK
 rw [bnd_at (v:=()) (s':=⟨inT top++⟨2,kOpen⟩::t,0⟩) (by rw [exp_at _ _ _ (by decide)]),bnd_at (input_at h _).1,bnd_at (v:=()) (s':=⟨t,0⟩) (by rw [exp_at _ _ _ (by decide)])]
theorem page_at {x:PgD} (h:PgOk x) (t:List TK):pageS ⟨⟨0,x.name⟩::⟨0,kTop⟩::(inT x.top++⟨2,kOpen⟩::(x.gates.flatMap gtT++⟨2,kClose⟩::t)),0⟩=(x,⟨t,0⟩):=by
 obtain⟨_,h1,h2⟩:=h
 have hl:=lp_list (c:=fun s=> !isS s kClose) (b:=pgB) con_pgB gtT (fun a x=>a++[x]) GtOk (fun a g r hg=>⟨rfl,by
  have hs:=gate_at hg r
  unfold pgB gtT
  have he:expS kGate ⟨⟨0,kGate⟩::⟨0,g.name⟩::⟨0,kindW g.kind⟩::((if g.kind=2 then [⟨1,itoaB g.k⟩] else if g.kind=7 then [⟨1,rtxt g.dorm⟩] else [])++(g.inputs.flatMap inT++semiT::r)),0⟩=⟨⟨0,g.name⟩::⟨0,kindW g.kind⟩::((if g.kind=2 then [⟨1,itoaB g.k⟩] else if g.kind=7 then [⟨1,rtxt g.dorm⟩] else [])++(g.inputs.flatMap inT++semiT::r)),0⟩:=exp_at _ _ _ (by decide)
  have ha:(⟨0,kGate⟩::⟨0,g.name⟩::⟨0,kindW g.kind⟩::((if g.kind=2 then [⟨1,itoaB g.k⟩] else if g.kind=7 then [⟨1,rtxt g.dorm⟩] else [])++(g.inputs.flatMap inT++[semiT])):List TK)++r=⟨0,kGate⟩::⟨0,g.name⟩::⟨0,kindW g.kind⟩::((if g.kind=2 then [⟨1,itoaB g.k⟩] else if g.kind=7 then [⟨1,rtxt g.dorm⟩] else [])++(g.inputs.flatMap inT++semiT::r)):=by
   simp only [List.cons_append,List.append_assoc,List.nil_append]
  rw [ha,he,hs]⟩) x.gates [] (⟨2,kClose⟩::t) h2
 replace hl:=hl.trans (lpS_end (fun z=>absurd (show false=true from z.2) (by decide)))
 rw [fold_snoc x.gates (fun x:GtD=>x) [],List.nil_append,List.map_id'] at hl
 rw [pageS_eq,bnd_at (wordT_at _ _),top_at h1,bnd_at hl]
 unfold pgK
 rw [bnd_at (s':=⟨t,0⟩) (v:=()) (by rw [exp_at _ _ _ (by decide)])]
theorem phase_at {x:PhD} (h:PhOk x) (t:List TK):phaseS ⟨⟨0,x.name⟩::⟨0,kTop⟩::(inT x.top++⟨2,kOpen⟩::(x.values.flatMap vlT++⟨2,kClose⟩::t)),0⟩=(x,⟨t,0⟩):=by
 obtain⟨_,h1,h2⟩:=h
 have hl:=lp_list (c:=fun s=> !isS s kClose) (b:=vlB) con_vlB vlT (fun a x=>a++[x]) VlOk (fun a v r hv=>⟨by
  show(!isS ⟨⟨0,v.event⟩::_,0⟩ kClose)=true
  rw [name_is (name_ne hv.1).2.1];rfl,by
  obtain⟨_,n2,n3⟩:=num_txt hv.2
  rw [vlB_eq]
  show PN.bnd wordS _ ⟨⟨0,v.event⟩::⟨1,rtxt v.p⟩::semiT::r,0⟩=_
  rw [bnd_at (wordT_at _ _),bnd_at (num_at n2 _),n3,bnd_at (s':=⟨r,0⟩) (v:=()) (by rw [exp_at _ _ _ (by decide)])]⟩) x.values [] (⟨2,kClose⟩::t) h2
 replace hl:=hl.trans (lpS_end (fun z=>absurd (show false=true from z.2) (by decide)))
 rw [fold_snoc x.values (fun x:VlD=>x) [],List.nil_append,List.map_id'] at hl
 rw [phaseS_eq,bnd_at (wordT_at _ _),top_at h1,bnd_at hl]
 unfold phK
 rw [bnd_at (s':=⟨t,0⟩) (v:=()) (by rw [exp_at _ _ _ (by decide)])]
theorem group_at {x:GrD} (h:GrOk x) (t:List TK):groupS ⟨⟨0,x.name⟩::⟨0,if x.kind=1 then kGreek else kBeta⟩::(x.factors.flatMap (fun r=>[⟨1,rtxt r⟩])++⟨2,kColon⟩::(x.members.flatMap (fun n=>[⟨0,n⟩])++semiT::t)),0⟩=(x,⟨t,0⟩):=by
 obtain⟨_,h1,h2,h3⟩:=h
 have hf:=lp_list (c:=fun s=>kindS s 1) (b:=facB) con_facB (fun r=>[⟨1,rtxt r⟩]) (fun a x=>a++[x]) NumOk (fun a v r hv=>⟨rfl,by
  obtain⟨_,n2,n3⟩:=num_txt hv
  unfold facB
  rw [List.singleton_append,num_at n2,n3]⟩) x.factors [] (⟨2,kColon⟩::(x.members.flatMap (fun n=>[⟨0,n⟩])++semiT::t)) h3
 replace hf:=hf.trans (lpS_end (fun z=>absurd (show false=true from z.2) (by decide)))
 rw [fold_snoc x.factors (fun x:RD=>x) [],List.nil_append,List.map_id'] at hf
 have hm:=lp_list (c:=fun s=>kindS s 0) (b:=memB) con_memB (fun n=>[⟨0,n⟩]) (fun a x=>a++[x]) (fun n=>nameOk n=true) (fun a v r hv=>⟨rfl,rfl⟩) x.members [] (semiT::t) h2
 replace hm:=hm.trans (lpS_end (fun z=>absurd (show false=true from z.2) (by decide)))
 rw [fold_snoc x.members (fun x:BS=>x) [],List.nil_append,List.map_id'] at hm
 have hg:grT ⟨⟨0,if x.kind=1 then kGreek else kBeta⟩::(x.factors.flatMap (fun r=>[⟨1,rtxt r⟩])++⟨2,kColon⟩::(x.members.flatMap (fun n=>[⟨0,n⟩])++semiT::t)),0⟩=(x.kind,⟨x.factors.flatMap (fun r=>[⟨1,rtxt r⟩])++⟨2,kColon⟩::(x.members.flatMap (fun n=>[⟨0,n⟩])++semiT::t),0⟩):=by
  rcases h1 with e|e<;>rw [e]<;>rfl
 rw [groupS_eq,bnd_at (wordT_at _ _),bnd_at hg]
 unfold grF grM
 rw [bnd_at hf,bnd_at (s':=⟨x.members.flatMap (fun n=>[⟨0,n⟩])++semiT::t,0⟩) (v:=()) (by rw [exp_at _ _ _ (by decide)]),bnd_at hm,bnd_at (s':=⟨t,0⟩) (v:=()) (by rw [exp_at _ _ _ (by decide)])]
abbrev cTop:PS→Bool:=fun s=> !isS s kTop
theorem read_text {m:MdD} (h:MdB m):readS ⟨textT m,0⟩=(m,⟨[],0⟩):=by
 have st:∀{m':MdD} {w:BS} {s s':PS} {x:MdD},stM s=true→takeS (stM s) s=(w,s')→stW m' w s'=(x,⟨[],0⟩)∨True→True:=fun _ _ _=>trivial
 have l1:=fun(a:MdD) r=>lp_list (c:=cTop) (b:=stB) con_stB evT (fun a x=>{a with events:=a.events++[x]}) EvOk (fun a x r hx=>⟨rfl,by
  have e:=event_at hx r
  have ha:evT x++r=⟨0,kEvent⟩::⟨0,x.name⟩::(partT kP x.p++(partT kFail x.fail++(partT kRepair x.rep++(partT kCost (rd (x.cost:Rat))++semiT::r)))):=by
   unfold evT;simp only [List.cons_append,List.append_assoc,List.nil_append]
  rw [ha]
  generalize (⟨0,x.name⟩::(partT kP x.p++(partT kFail x.fail++(partT kRepair x.rep++(partT kCost (rd (x.cost:Rat))++semiT::r))):List TK))=l at*
  show({a with events:=a.events++[(eventS ⟨l,0⟩).1]},(eventS ⟨l,0⟩).2)=_
  rw [e]⟩) m.events a r h.ev
 have l2:=fun(a:MdD) r=>lp_list (c:=cTop) (b:=stB) con_stB hsT' (fun a x=>{a with houses:=a.houses++[x]}) (fun x=>nameOk x.name=true) (fun a x r hx=>⟨rfl,by
  have e:=house_at (x:=x) r
  have ha:hsT' x++r=⟨0,kHouse⟩::⟨0,x.name⟩::⟨0,if x.on then kOn else kOff⟩::semiT::r:=rfl
  rw [ha]
  generalize (⟨0,x.name⟩::⟨0,if x.on then kOn else kOff⟩::semiT::r:List TK)=l at*
  show({a with houses:=a.houses++[(houseS ⟨l,0⟩).1]},(houseS ⟨l,0⟩).2)=_
  rw [e]⟩) m.houses a r h.hs
 have l3:=fun(a:MdD) r=>lp_list (c:=cTop) (b:=stB) con_stB gtT (fun a x=>{a with gates:=a.gates++[x]}) GtOk (fun a g r hx=>⟨rfl,by
  have e:=gate_at hx r
  have ha:gtT g++r=⟨0,kGate⟩::⟨0,g.name⟩::⟨0,kindW g.kind⟩::((if g.kind=2 then [⟨1,itoaB g.k⟩] else if g.kind=7 then [⟨1,rtxt g.dorm⟩] else [])++(g.inputs.flatMap inT++semiT::r)):=by
   unfold gtT;simp only [List.cons_append,List.append_assoc,List.nil_append]
  rw [ha]
  generalize (⟨0,g.name⟩::⟨0,kindW g.kind⟩::((if g.kind=2 then [⟨1,itoaB g.k⟩] else if g.kind=7 then [⟨1,rtxt g.dorm⟩] else [])++(g.inputs.flatMap inT++semiT::r)):List TK)=l at*
  show({a with gates:=a.gates++[(gateS ⟨l,0⟩).1]},(gateS ⟨l,0⟩).2)=_
  rw [e]⟩) m.gates a r h.gt
 have l4:=fun(a:MdD) r=>lp_list (c:=cTop) (b:=stB) con_stB pgT (fun a x=>{a with pages:=a.pages++[x]}) PgOk (fun a x r hx=>⟨rfl,by
  have e:=page_at hx r
  have ha:pgT x++r=⟨0,kPage⟩::⟨0,x.name⟩::⟨0,kTop⟩::(inT x.top++⟨2,kOpen⟩::(x.gates.flatMap gtT++⟨2,kClose⟩::r)):=by
   unfold pgT headT;simp only [List.cons_append,List.append_assoc,List.nil_append]
  rw [ha]
  generalize (⟨0,x.name⟩::⟨0,kTop⟩::(inT x.top++⟨2,kOpen⟩::(x.gates.flatMap gtT++⟨2,kClose⟩::r)):List TK)=l at*
  show({a with pages:=a.pages++[(pageS ⟨l,0⟩).1]},(pageS ⟨l,0⟩).2)=_
  rw [e]⟩) m.pages a r h.pg
 have l5:=fun(a:MdD) r=>lp_list (c:=cTop) (b:=stB) con_stB grT' (fun a x=>{a with groups:=a.groups++[x]}) GrOk (fun a x r hx=>⟨rfl,by
  have e:=group_at hx r
  have ha:grT' x++r=⟨0,kGroup⟩::⟨0,x.name⟩::⟨0,if x.kind=1 then kGreek else kBeta⟩::(x.factors.flatMap (fun r=>[⟨1,rtxt r⟩])++⟨2,kColon⟩::(x.members.flatMap (fun n=>[⟨0,n⟩])++semiT::r)):=by
   unfold grT';simp only [List.cons_append,List.append_assoc,List.nil_append]
  rw [ha]
  generalize (⟨0,x.name⟩::⟨0,if x.kind=1 then kGreek else kBeta⟩::(x.factors.flatMap (fun r=>[⟨1,rtxt r⟩])++⟨2,kColon⟩::(x.members.flatMap (fun n=>[⟨0,n⟩])++semiT::r)):List TK)=l at*
  show({a with groups:=a.groups++[(groupS ⟨l,0⟩).1]},(groupS ⟨l,0⟩).2)=_
  rw [e]⟩) m.groups a r h.gr
 have l6:=fun(a:MdD) r=>lp_list (c:=cTop) (b:=stB) con_stB phT (fun a x=>{a with phases:=a.phases++[x]}) PhOk (fun a x r hx=>⟨rfl,by
  have e:=phase_at hx r
  have ha:phT x++r=⟨0,kPhase⟩::⟨0,x.name⟩::⟨0,kTop⟩::(inT x.top++⟨2,kOpen⟩::(x.values.flatMap vlT++⟨2,kClose⟩::r)):=by
   unfold phT headT;simp only [List.cons_append,List.append_assoc,List.nil_append]
  rw [ha]
  generalize (⟨0,x.name⟩::⟨0,kTop⟩::(inT x.top++⟨2,kOpen⟩::(x.values.flatMap vlT++⟨2,kClose⟩::r)):List TK)=l at*
  show({a with phases:=a.phases++[(phaseS ⟨l,0⟩).1]},(phaseS ⟨l,0⟩).2)=_
  rw [e]⟩) m.phases a r h.ph
 have f1:∀(L:List EvD) (a:MdD),L.foldl (fun a x=>{a with events:=a.events++[x]}) a={a with events:=a.events++L}:=fun L=>by
  induction L with
  |nil=>intro a;simp
  |cons x L ih=>intro a;rw [List.foldl_cons,ih];simp
 have f2:∀(L:List HsD) (a:MdD),L.foldl (fun a x=>{a with houses:=a.houses++[x]}) a={a with houses:=a.houses++L}:=fun L=>by
  induction L with
  |nil=>intro a;simp
  |cons x L ih=>intro a;rw [List.foldl_cons,ih];simp
 have f3:∀(L:List GtD) (a:MdD),L.foldl (fun a x=>{a with gates:=a.gates++[x]}) a={a with gates:=a.gates++L}:=fun L=>by
  induction L with
  |nil=>intro a;simp
  |cons x L ih=>intro a;rw [List.foldl_cons,ih];simp
 have f4:∀(L:List PgD) (a:MdD),L.foldl (fun a x=>{a with pages:=a.pages++[x]}) a={a with pages:=a.pages++L}:=fun L=>by
  induction L with
  |nil=>intro a;simp
  |cons x L ih=>intro a;rw [List.foldl_cons,ih];simp
 have f5:∀(L:List GrD) (a:MdD),L.foldl (fun a x=>{a with groups:=a.groups++[x]}) a={a with groups:=a.groups++L}:=fun L=>by
  induction L with
  |nil=>intro a;simp
  |cons x L ih=>intro a;rw [List.foldl_cons,ih];simp
 have f6:∀(L:List PhD) (a:MdD),L.foldl (fun a x=>{a with phases:=a.phases++[x]}) a={a with phases:=a.phases++L}:=fun L=>by
  induction L with
  |nil=>intro a;simp
  |cons x L ih=>intro a;rw [List.foldl_cons,ih];simp
 clear st
 rw [readS_eq]
 unfold textT
 rw [bnd_at (v:=()) (s':=⟨⟨0,m.name⟩::semiT::_,0⟩) (by rw [exp_at _ _ _ (by decide)]),bnd_at (wordT_at _ _),bnd_at (v:=()) (s':=⟨_,0⟩) (by rw [exp_at _ _ _ (by decide)])]
 have e1:=(l1 {md0 with name:=m.name} _).trans ((l2 _ _).trans ((l3 _ _).trans ((l4 _ _).trans ((l5 _ _).trans (l6 _ (⟨0,kTop⟩::(inT m.top++[semiT])))))))
 have e2:=e1.trans (lpS_end (fun z=>absurd (show false=true from z.2) (by decide)))
 rw [bnd_at e2,f1,f2,f3,f4,f5,f6]
 unfold rdK
 rw [bnd_at (v:=()) (s':=⟨inT m.top++[semiT],0⟩) (by rw [exp_at _ _ _ (by decide)]),bnd_at (input_at h.tp _).1,bnd_at (v:=()) (s':=⟨[],0⟩) (by rw [exp_at _ _ _ (by decide)])]
 rfl
end Go.PN
