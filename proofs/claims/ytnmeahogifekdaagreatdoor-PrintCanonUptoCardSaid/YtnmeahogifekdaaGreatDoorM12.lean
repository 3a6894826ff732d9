/- Parts of one proof, laid by a program. -/
import Derived.Test.YtnmeahogifekdaaGreatDoorM00
import Derived.Test.YtnmeahogifekdaaGreatDoorM11
set_option linter.unusedSimpArgs false
set_option linter.unusedVariables false
set_option maxRecDepth 100000
set_option maxHeartbeats 12800000
namespace Go.AI
section
variable {P : Program} {h : Heap} {ρ : Operand → AV}
theorem POk.capNil {t el size bytes:Nat} {x:Operand} (ht:tElem P t=some (el,size,bytes)) (hx:ρ x=.c (.raw (.slice none 0 0))):POk P h ρ (.call {callee:=.builtin .cap,args:= #[x],argTypes:= #[t]}) (.c (.int .i64 0)):=fun S w e _ ho _=>by
 have h2:e x=.slice none 0 0:=by have:=ho x (by simp [Op.operands,Call.operands]);rw [hx] at this;exact this
 obtain⟨hu,_⟩:=tElem_spec ht
 exact⟨.int .i64 0,fun o hop=>by simp [execOp,hop,resolve,invoke,Go.builtin,Builtin.cap_,h2,run_underlying hu,goInt],rfl⟩
theorem gsR_gs {S:Bool→Nat→Prop} {w:World} {u:Value} {og:Option Nat} {n:Nat} (h:Rep S w (.c (gsR og n)) u):Rep S w (.c (gs og 1 n)) u:=by
 cases og with
 |none=>exact⟨none,h⟩
 |some g=>exact h
end
section
variable {E : Env} {K : List It} {σ σ' : Sl} {h : Heap}
theorem aw_shrink {x:Nat×AObj} {g n m:Nat} {ty:TypeId} {f:Nat→CV} (hm:m≤n) (k:aw E K σ (x::(g,.cells ty m f)::h)):aw E K σ (x::(g,.cells ty n f)::h):=fun a w s=>by
 refine k a w ⟨s.size,s.defers,s.slots,fun g' o' hq=> ?_,s.nodup,s.keys,s.frame⟩
 rcases List.mem_cons.1 hq with e|hq
 ·exact s.heap g' o' (List.mem_cons.2 (.inl e))
 ·rcases List.mem_cons.1 hq with e|hq
  ·injection e with e1 e2
   subst e1 e2
   obtain⟨cs,hb,hn,hj⟩:=s.heap g' _ (List.mem_cons_of_mem _ (List.mem_cons_self ..))
   exact⟨cs,hb,Nat.le_trans hm hn,fun j hjm=>hj j (Nat.lt_of_lt_of_le hjm hm)⟩
  ·exact s.heap g' o' (List.mem_cons_of_mem _ (List.mem_cons_of_mem _ hq))
end
end Go.AI
namespace Go.PN
open Go.AI
theorem byte_push (B:List UInt8) (c:UInt8):∀j,j<(B.length+1)*1→appF (byF B) (B.length*1) (ofL [.int .u8 (c.toNat:Int)]) j=byF (B++[c]) j:=fun j _=>by
 rw [Nat.mul_one,←byF_app]
 unfold appF
 split
 ·rfl
 ·rename_i h1
  by_cases e:j=B.length
  ·subst e;rw [Nat.sub_self];rfl
  ·omega
end Go.PN
namespace Go.Proofs.YtnmeahogifekdaaGreatDoor
open Go.AI Go.PN
attribute [local irreducible] aw Fa Fh DrK
theorem wbyteG_fh {ty:TypeId} {r:List CV} (hB:BlkB ty r) (gB:Nat) (a:CV) (og:Option Nat) (B:List UInt8) (c:UInt8) (hbd:BdOk a gB og B) (hlen:B.length+1≤100000000000):
  Fh Tryz.prog 92 (bdH ty r gB a og B) [.c (.optr gB 0),.c (.int .u8 (c.toNat:Int))]
   (fun x h=>∃og',BdOk (.optr gB 0) gB og' (B++[c])∧x=.c .nilI∧h=bdH ty r gB (.optr gB 0) og' (B++[c])):=by
 obtain⟨ha,hog⟩:=hbd
 have hcc:=copyCheckG_fh hB gB a (gsR og B.length) ha
 refine fh_of_body Tryz.func92 rfl rfl (by simp [Tryz.ntmps92]) fun C hC=> ?_
 simp only [initS,Nat.reduceAdd]
 refine xG ?_
 refine aw_callh (hc:=[bldG ty r gB a (gsR og B.length)]) (hr:=gh og 5 B.length (byF B)) hcc rfl rfl rfl (.refl _) eL ?_
 rintro _ _ ⟨rfl,rfl⟩ _
 refine xSG ?_
 refine aw_conv (t:=11) (v:=.c (gs og 1 B.length)) (fun S w u h=>gsR_gs h) rfl ?_
 refine xS ?_
 refine aw_perm (h':=[bldG ty r gB (.optr gB 0) (gsR og B.length)]++gh og 5 (B.length*1) (byF B)) (by rw [Nat.mul_one];exact .refl _) ?_
 refine aw_push (pre:=[bldG ty r gB (.optr gB 0) (gsR og B.length)]) rfl rfl rfl rfl rfl rfl rfl eE eE (by rfl) om om eE om (by exact hog) eE (by rfl) (by rfl) (by first|rfl|simp only [Nat.mul_one,List.nil_append,List.cons_append]<;>rfl) (by unfold maxLen;omega) om (by exact byte_push B c) fun g hn_g=> ?_
 replace hn_g:=Heap.ne_of hn_g
 first|dsimp only [Heap.ne,gh] at hn_g|dsimp only [Heap.ne] at hn_g|skip
 refine yS hn_g ?_
 rw [show B.length+1=(B++[c]).length from by simp]
 refine(?_:aw _ _ _ (bldG ty r gB (.optr gB 0) (gsR og B.length)::gh (some g) 5 (B++[c]).length (byF (B++[c]))))
 refine yG hn_g ?_
 refine aw_store rfl rfl rfl rfl (zE hn_g) (zE hn_g) (zE hn_g) (zE hn_g) (fun _ e=>by cases e) (by rfl) (by rfl) om rfl ?_
 refine yS hn_g ?_
 refine aw_conv1 (f':=ofL (.optr gB 0::gsR (some g) (B++[c]).length::r)) (fun j hj=>by match j,hj with|0,_=>rfl|1,_=>rfl|j+2,_=>rfl) ?_
 refine yG hn_g ?_
 refine yU hn_g ?_
 exact⟨some g,⟨.inr rfl,fun e=>by cases e⟩,rfl,rfl⟩
theorem lenG_fh {ty:TypeId} {r:List CV} (gB:Nat) (a:CV) (og:Option Nat) (B:List UInt8) (hog:og=none→B.length=0):
  Fh Tryz.prog 34 (bdH ty r gB a og B) [.c (.optr gB 0)] (fun x h=>x=.c (.int .i64 B.length)∧h=bdH ty r gB a og B):=by
 cases og with
 |none=>
  have hB:=List.length_eq_zero_iff.1 (hog rfl)
  subst hB
  refine fh_of_body Tryz.func34 rfl rfl (by simp [Tryz.ntmps34]) fun C hC=> ?_
  simp only [initS,Nat.reduceAdd]
  refine xG ?_
  refine aw_pok (POk.lenNil (by exact tya_e_75) eE) rfl rfl ?_
  refine xSGU ?_
  exact⟨rfl,rfl⟩
 |some g=>
  refine(?_:Fh _ _ (bldG ty r gB a (.osl g 1 0 B.length)::[(g,.cells 5 B.length (byF B))]) _ _)
  refine fh_of_body Tryz.func34 rfl rfl (by simp [Tryz.ntmps34]) fun C hC=> ?_
  simp only [initS,Nat.reduceAdd]
  refine xG ?_
  refine xU ?_
  exact⟨rfl,rfl⟩
theorem grow_fh {ty:TypeId} {r:List CV} (gB n:Nat) (a:CV) (hn:n≤140737488355328):
  Fh Tryz.prog 209 [bldG ty r gB a (gsR none 0)] [.c (.optr gB 0),.c (.int .i64 n)]
   (fun x h=>∃g,x=.tup []∧h=bdH ty r gB a (some g) []):=by
 refine(?_:Fh _ _ [bldG ty r gB a (.raw (.slice none 0 0))] _ _)
 have h20:(2:Int)*0+(n:Int)=n:=by omega
 refine fh_of_body Tryz.func209 rfl rfl (by simp [Tryz.ntmps209]) fun C hC=> ?_
 simp only [initS,Nat.reduceAdd]
 refine yG h20 ?_
 refine aw_cw [bldG ty r gB a (.raw (.slice none 0 0))] [(0,0),(1,0),(2,0),(3,0),(4,0),(5,0),(6,0),(7,0),(9,0),(10,0),(11,0),(12,0),(13,0),(8,1),(14,0),(15,0)] ty_mixed (by kernel_rfl) (has0_cons (List.mem_cons_self ..) has0_nil) ?_
 refine yG h20 ?_
 refine cw_pok rfl (fun _ _=>POk.capNil (by exact tya_e_75) (zE h20)) rfl rfl ?_
 refine ySG h20 ?_
 refine cw_pok rfl (fun _ _=>POk.lenNil (by exact tya_e_75) (zE h20)) rfl rfl ?_
 refine ySG h20 ?_
 refine cw_mnz (n:=n) rfl Tryz.func254 rfl rfl rfl rfl Tryz.underlying75 rfl rfl rfl (fun _=>rfl) (zE h20) hn (has0_cons (List.mem_cons_self ..) has0_nil) (fun g hn_g=> ?_) (.inr ⟨rfl,rfl⟩)
 replace hn_g:=Heap.ne_of hn_g
 dsimp only [Heap.ne] at hn_g
 have J1:=oj h20 hn_g
 refine ySG J1 ?_
 refine aw_conv (t:=24) (v:=.c .nils) (fun S w u h=>⟨none,h⟩) rfl ?_
 refine aw_copyS (n:=0) (k:=0) (q:=0) (m:=n) (f2:=fun _=>.any) rfl rfl rfl (by exact tya_e_75) (zE J1) (zE J1) (zE J1) .nils rfl om rfl (zE J1) ?_
 refine ySG J1 ?_
 refine yW J1 ?_
 refine yS J1 ?_
 refine aw_perm (List.Perm.swap _ _ _) ?_
 refine aw_shrink (m:=0) (Nat.zero_le _) ?_
 refine aw_perm (List.Perm.swap _ _ _) ?_
 refine aw_conv1 (f':=byF []) (fun j hj=>absurd hj (Nat.not_lt_zero j)) ?_
 refine aw_perm (List.Perm.swap _ _ _) ?_
 refine aw_conv1 (f':=ofL (a::.osl g 1 0 0::r)) (fun j hj=>by match j,hj with|0,_=>rfl|1,_=>rfl|j+2,_=>rfl) ?_
 refine yG J1 ?_
 refine yV J1 ?_
 exact⟨g,rfl,rfl⟩
theorem growG_fh {ty:TypeId} {r:List CV} (hB:BlkB ty r) (gB n:Nat) (a:CV) (ha:a=.raw (.pointer none)∨a=.optr gB 0) (h0:0<n) (hn:n≤140737488355328):
  Fh Tryz.prog 139 [bldG ty r gB a (gsR none 0)] [.c (.optr gB 0),.c (.int .i64 n)]
   (fun x h=>∃g,x=.tup []∧h=bdH ty r gB (.optr gB 0) (some g) []):=by
 have hcc:=copyCheckG_fh hB gB a (gsR none 0) ha
 have hgr:=grow_fh (ty:=ty) (r:=r) gB n (.optr gB 0) hn
 have d0:decide (0<n)=true:=decide_eq_true h0
 have d1:decide (n<0)=false:=decide_eq_false (Nat.not_lt_zero n)
 have d2:(0:Int)-0=0:=rfl
 refine fh_of_body Tryz.func139 rfl rfl (by simp [Tryz.ntmps139]) fun C hC=> ?_
 simp only [initS,Nat.reduceAdd]
 have J1:=oj d0 (oj d1 d2)
 refine yG J1 ?_
 refine aw_callh (hc:=[bldG ty r gB a (gsR none 0)]) (hr:=[]) hcc rfl rfl rfl (.refl _) (zL J1) ?_
 rintro _ _ ⟨rfl,rfl⟩ _
 refine ySG J1 ?_
 refine(?_:aw _ _ _ [bldG ty r gB (.optr gB 0) (.raw (.slice none 0 0))])
 refine yN J1 ?_
 refine yG J1 ?_
 refine aw_dr 13 ty_mixed (by kernel_rfl) ?_
 refine yG J1 ?_
 refine drk_pok (POk.capNil (by exact tya_e_75) (zE J1)) rfl rfl ?_
 refine ySG J1 ?_
 refine drk_pok (POk.lenNil (by exact tya_e_75) (zE J1)) rfl rfl ?_
 refine ySG J1 ?_
 refine yP J1 ?_
 refine yG J1 ?_
 refine aw_callh (hc:=[bldG ty r gB (.optr gB 0) (gsR none 0)]) (hr:=[]) hgr rfl rfl rfl (.refl _) (zL J1) ?_
 rintro _ _ ⟨g,rfl,rfl⟩ _
 refine ySGV J1 ?_
 exact⟨g,rfl,rfl⟩
theorem bstrG_fh {ty:TypeId} {r:List CV} (gB:Nat) (a:CV) (og:Option Nat) (B:List UInt8) (h0:og=none→B=[]) (h1:B=[]→og=none) (hlen:B.length≤100000000000):
  Fh Tryz.prog 35 (bdH ty r gB a og B) [.c (.optr gB 0)] (fun x h=>x=.c (.str (sB B))∧h=[]):=by
 cases og with
 |none=>
  have hB:=h0 rfl
  subst hB
  refine fh_of_body Tryz.func35 rfl rfl (by simp [Tryz.ntmps35]) fun C hC=> ?_
  simp only [initS,Nat.reduceAdd]
  refine xG ?_
  refine aw_dr 11 ty_mixed (by kernel_rfl) ?_
  refine xG ?_
  refine drk_pok (POk.sliceDataN eE) rfl rfl ?_
  refine xSG ?_
  refine drk_pok (POk.lenNil (by exact tya_e_75) eE) rfl rfl ?_
  refine xSG ?_
  refine drk_pok (POk.unsafeStr0 eE eE) rfl rfl ?_
  refine xSG ?_
  refine aw_weak (Sl.le_refl _) (List.nil_sublist _) ?_
  refine xU ?_
  exact⟨rfl,rfl⟩
 |some g=>
  have hB:B≠[]:=fun e=>by have:=h1 e;cases this
  have hB':0<B.length:=List.length_pos_iff.2 hB
  refine(?_:Fh _ _ (bldG ty r gB a (.osl g 1 0 B.length)::[(g,.cells 5 B.length (byF B))]) _ _)
  refine fh_of_body Tryz.func35 rfl rfl (by simp [Tryz.ntmps35]) fun C hC=> ?_
  simp only [initS,Nat.reduceAdd]
  refine aw_nd fun hnd=> ?_
  have hne:gB≠g:=fun e=>by subst e;simp [Heap.keys] at hnd
  have hne':(gB=g)=False:=eq_false hne
  refine yG hne' ?_
  refine aw_cw [bldG ty r gB a (.osl g 1 0 B.length)] [(0,0),(1,0),(2,0),(3,0),(4,0),(5,0),(6,0),(7,0),(8,0),(9,0),(10,2),(11,0)] ty_mixed (by kernel_rfl) (has0_cons (List.mem_cons_self ..) has0_nil) ?_
  refine yG hne' ?_
  refine cw_pok rfl (fun _ _=>POk.sliceData (zE hne') hB') rfl rfl ?_
  refine ySG hne' ?_
  refine cw_unsafeStr (FP':=[]) (bs:=B) (h':=[bldG ty r gB a (.osl g 1 0 B.length)]) rfl rfl rfl rfl und_u8p (by kernel_rfl) (zE hne') (zE hne') (zE hne') (Nat.le_refl _) hB om (fun _ _=>rfl) (zE hne') has0_nil ?_
  refine ySG hne' ?_
  refine aw_weak (Sl.le_refl _) (List.nil_sublist _) ?_
  refine yU hne' ?_
  exact⟨rfl,rfl⟩
end Go.Proofs.YtnmeahogifekdaaGreatDoor
namespace Go.PN
open Go.AI
def sumW (l:List BS) (j:Nat):Nat:=((l.take j).map List.length).sum
theorem take_one (l:List BS) (j:Nat) (hj:j<l.length):l.take (j+1)=l.take j++[l.getD j []]:=by
 rw [List.take_add_one,List.getElem?_eq_getElem hj,List.getD_eq_getElem?_getD,List.getElem?_eq_getElem hj]
 rfl
theorem sumW_succ (l:List BS) (j:Nat) (hj:j<l.length):sumW l (j+1)=sumW l j+(l.getD j []).length:=by
 unfold sumW
 rw [take_one l j hj,List.map_append,List.sum_append]
 rfl
theorem sumW_le (l:List BS) (k:Nat):∀j,j+k=l.length→sumW l j≤sumW l l.length:=by
 induction k with
 |zero=>intro j hj;rw [←hj];exact Nat.le_refl _
 |succ k ih=>
  intro j hj
  have h1:=ih (j+1) om
  have h2:=sumW_succ l j om
  omega
def catW (x:BS) (l:List BS) (j:Nat):BS:=x++(l.take j).flatMap fun y=>32::y
theorem catW_succ (x:BS) (l:List BS) (j:Nat) (hj:j<l.length):catW x l (j+1)=catW x l j++[32]++l.getD j []:=by
 unfold catW
 rw [take_one l j hj,List.flatMap_append,List.append_assoc,List.append_assoc,←List.append_assoc]
 simp
theorem catW_len (x:BS) (l:List BS) (j:Nat) (hj:j≤l.length):(catW x l j).length=x.length+j+sumW l j:=by
 induction j with
 |zero=>simp [catW,sumW]
 |succ j ih=>rw [catW_succ x l j om,sumW_succ l j om,List.length_append,List.length_append,ih om];simp;omega
end Go.PN
namespace Go.Proofs.YtnmeahogifekdaaGreatDoor
open Go.AI Go.PN
attribute [local irreducible] aw Fa Fh DrK
theorem join_fa (t:Bool) (l:List BS) (hl:l.length+sumW l l.length≤10000000000):Fa Tryz.prog 93 [.c (strs t l),.c (.str (sB [32]))] (.c (.str (sB (joinW l)))):=by
 match l,hl with
 |[],_=>
  refine fa_of_body Tryz.func93 rfl rfl (by simp [Tryz.ntmps93]) fun C hC=> ?_
  simp only [initS,Nat.reduceAdd]
  repeat' first|refine zV o0 ?_|refine zH o0 (fun hb=>?_) fun hb=>?_|fail
  refine xT hC ?_
  exact .one (.c (.str _))
 |[x],_=>
  have e:joinW [x]=x:=by simp [joinW]
  rw [e]
  refine fa_of_body Tryz.func93 rfl rfl (by simp [Tryz.ntmps93]) fun C hC=> ?_
  simp only [initS,Nat.reduceAdd]
  repeat' first|refine zV o0 ?_|refine zH o0 (fun hb=>?_) fun hb=>?_|fail
  refine xT hC ?_
  exact .one (.c (.str _))
 |x::y::r,hl=>
  obtain⟨l,hl0⟩:∃l,l=x::y::r:=⟨_,rfl⟩
  rw [←hl0] at hl⊢
  obtain⟨N,hN⟩:∃N,l.length=N:=⟨_,rfl⟩
  have h2N:2≤N:=by rw [←hN,hl0];simp
  rw [hN] at hl
  refine(?_:Fa _ _ [.c (.row t 1 l.length (strsF l)),_] _)
  rw [hN]
  have h1:((N:Int)==0)=false:=by rw [beq_eq_false_iff_ne];omega
  have h2:((N:Int)==1)=false:=by rw [beq_eq_false_iff_ne];omega
  have hq0:quoZ .i64 9223372036854775807 ((N:Int)-1)=((9223372036854775807/(N-1):Nat):Int):=by
   rw [quoZ_eq,show((N:Int)-1)=((N-1:Nat):Int) from by omega]
   show IntKind.i64.wrap (Int.tdiv _ _)=_
   rw [show(9223372036854775807:Int).tdiv ((N-1:Nat):Int)=((9223372036854775807/(N-1):Nat):Int) from rfl]
   exact wrap_inRange (by have:=Nat.div_le_self 9223372036854775807 (N-1);generalize 9223372036854775807/(N-1)=q at*;simp only [inRange];omega)
  have hq1:2≤9223372036854775807/(N-1):=(Nat.le_div_iff_mul_le om).2 om
  have hq:decide (1≥quoZ .i64 9223372036854775807 ((N:Int)-1))=false:=decide_eq_false (by rw [hq0];generalize 9223372036854775807/(N-1)=q at hq1⊢;omega)
  obtain⟨T,hT⟩:∃T:Nat→Nat,∀j,T j=N-1+sumW l j:=⟨_,fun _=>rfl⟩
  have hi0:(0:Int)+1*((N:Int)-1)=((T 0:Nat):Int):=by rw [hT,show sumW l 0=0 from rfl];clear hq0 hq1 hq;omega
  refine fa_of_body Tryz.func93 rfl rfl (by simp [Tryz.ntmps93]) fun C hC=> ?_
  simp only [initS,Nat.reduceAdd]
  all_goals try(have Z:=(oj h1 (oj h2 (oj hq hi0)));(repeat' first|refine zV Z ?_|refine zH Z (fun hb=>?_) fun hb=>?_|fail);all_goals clear Z)
  refine aw_lp (fun j:Nat=>[(0,.c (.row t 1 N (strsF l))),(1,.c (.str (sB [32]))),(5,.c (.int .i64 (T j:Int))),(39,.c (.row t 1 N (strsF l))),(40,.c (.int .i64 N)),(41,.c (.int .i64 j))]) (fun _=>[]) (fun j=>j≤N) (fun j=>N-j) 0 (zB (oj h1 (oj h2 (oj hq hi0)))) zZ (Nat.zero_le _) ?_
  rintro j hj
  by_cases hjN:j<N
  ·have d1:decide (j<N)=true:=decide_eq_true hjN
   have s1:=sumW_succ l j om
   have s2:=sumW_le l (N-(j+1)) (j+1) om
   rw [hN] at s2
   have s3:(T j:Int)+((l.getD j []).length:Int)=(T (j+1):Int):=by rw [hT,hT];omega
   have s4:T j+(l.getD j []).length≤10000000000:=by rw [hT];omega
   all_goals try(have Z:=(oj h1 (oj h2 (oj hq (oj hi0 (oj d1 s3)))));(repeat' first|refine zV Z ?_|refine zH Z (fun hb=>?_) fun hb=>?_|fail);all_goals clear Z)
   ·exact absurd hb om
   ·exact aw_stop ⟨j+1,by omega,(zB (oj h1 (oj h2 (oj hq (oj hi0 (oj d1 s3)))))),zZ,by omega⟩
  ·have d1:decide (j<N)=false:=decide_eq_false hjN
   have e:j=N:=by omega
   subst e
   have hTj:T j≤10000000000:=by rw [hT];omega
   have hT0:0<T j:=by rw [hT];omega
   have g0:l.getD 0 []=x:=by rw [hl0];rfl
   have g1:∀i,l.getD (1+i) []=(y::r).getD i []:=fun i=>by rw [hl0,Nat.add_comm];rfl
   have hr1:(y::r).length=j-1:=by rw [←hN,hl0];simp
   have c0:catW x (y::r) 0=x:=by simp [catW]
   have cN:joinW l=catW x (y::r) (j-1):=by rw [hl0,←hr1];unfold catW;rw [List.take_length];rfl
   have hcl:∀i,i≤j-1→(catW x (y::r) i).length≤10000000000:=fun i hi=>by
    rw [catW_len x (y::r) i om]
    have a1:=sumW_le (y::r) (j-1-i) i om
    have a2:sumW l j=x.length+sumW (y::r) (y::r).length:=by rw [←hN,hl0];unfold sumW;rw [List.take_length,List.take_length];rfl
    rw [hr1] at a1 a2
    omega
   have hxl:x.length≤10000000000:=by have:=hcl 0 (Nat.zero_le _);rwa [c0] at this
   all_goals try(have Z:=(oj h1 (oj h2 (oj hq (oj hi0 (oj d1 g0)))));(repeat' first|refine zV Z ?_|refine zH Z (fun hb=>?_) fun hb=>?_|fail);all_goals clear Z)
   refine aw_allocR (vs:=[.pointer none,.slice none 0 0]) rfl rfl rfl (by kernel_rfl) fun gB hn_gB=> ?_
   refine(?_:aw _ _ _ [bldG 77 [] gB (.raw (.pointer none)) (gsR none 0)])
   have J1:=oj h1 (oj h2 (oj hq (oj hi0 (oj d1 g0))))
   refine ySG J1 ?_
   refine aw_callh (hc:=[bldG 77 [] gB (.raw (.pointer none)) (gsR none 0)]) (hr:=[]) (growG_fh blkB gB (T j) _ (.inl rfl) hT0 om) rfl rfl rfl (.refl _) (zL J1) ?_
   rintro _ _ ⟨g,rfl,rfl⟩ _
   refine ySG J1 ?_
   refine aw_callh (hc:=bdH 77 [] gB (.optr gB 0) (some g) []) (hr:=[]) (wstrG_fh blkB gB _ (some g) [] x ⟨.inr rfl,fun e=>by cases e⟩ (by rw [List.length_nil];omega)) rfl rfl rfl (.refl _) (zL J1) ?_
   rintro _ _ ⟨og,h3,rfl,rfl⟩ _
   refine ySG J1 ?_
   rw [List.nil_append] at h3
   refine aw_lp (fun z:Nat×Option Nat=>[(1,.c (.str (sB [32]))),(8,.c (.optr gB 0)),(63,.c (.row t 1 (j-1) fun q=>.str (sB (l.getD (1+q) [])))),(64,.c (.int .i64 ((j-1:Nat):Int))),(65,.c (.int .i64 z.1))]) (fun z=>bdH 77 [] gB (.optr gB 0) z.2 (catW x (y::r) z.1)) (fun z=>z.1≤j-1∧BdOk (.optr gB 0) gB z.2 (catW x (y::r) z.1)) (fun z=>j-1-z.1) (0,og) (zB J1) (by dsimp only;rw [c0];exact List.Sublist.refl _) ⟨Nat.zero_le _,by rw [c0];exact h3⟩ ?_
   rintro ⟨q,og2⟩ ⟨hq2,hbd⟩
   dsimp only at hq2 hbd⊢
   have hcq:=hcl q hq2
   by_cases hqN:q<j-1
   ·have e1:decide (q<j-1)=true:=decide_eq_true hqN
    have hcs:=catW_succ x (y::r) q om
    have hcq2:=hcl (q+1) om
    have g2:=g1 q
    all_goals try(have Z:=(oj h1 (oj h2 (oj hq (oj hi0 (oj d1 (oj g0 (oj e1 g2)))))));(repeat' first|refine zV Z ?_|refine zH Z (fun hb=>?_) fun hb=>?_|fail);all_goals clear Z)
    refine aw_callh (hc:=bdH 77 [] gB (.optr gB 0) og2 (catW x (y::r) q)) (hr:=[]) (wstrG_fh blkB gB _ og2 (catW x (y::r) q) [32] hbd (by simp;omega)) rfl rfl rfl (by rw [List.append_nil]) (zL (oj h1 (oj h2 (oj hq (oj hi0 (oj d1 (oj g0 (oj e1 g2)))))))) ?_
    rintro _ _ ⟨og3,h4,rfl,rfl⟩ _
    have J2:=oj h1 (oj h2 (oj hq (oj hi0 (oj d1 (oj g0 (oj e1 g2))))))
    refine ySG J2 ?_
    refine aw_callh (hc:=bdH 77 [] gB (.optr gB 0) og3 (catW x (y::r) q++[32])) (hr:=[]) (wstrG_fh blkB gB _ og3 (catW x (y::r) q++[32]) ((y::r).getD q []) h4 (by rw [←List.length_append,←hcs];omega)) rfl rfl rfl (by rw [List.append_nil]) (zL J2) ?_
    rintro _ _ ⟨og4,h5,rfl,rfl⟩ _
    rw [←hcs] at h5⊢
    refine ySG J2 ?_
    exact aw_stop ⟨(q+1,og4),by dsimp only;omega,(zB J2),zZ,by dsimp only;omega,h5⟩
   ·have e1:decide (q<j-1)=false:=decide_eq_false hqN
    have e2:q=j-1:=by omega
    subst e2
    have hne:0<(catW x (y::r) (j-1)).length:=by rw [catW_len x (y::r) (j-1) om];omega
    all_goals try(have Z:=(oj h1 (oj h2 (oj hq (oj hi0 (oj d1 (oj g0 e1))))));(repeat' first|refine zV Z ?_|refine zH Z (fun hb=>?_) fun hb=>?_|fail);all_goals clear Z)
    refine aw_callh (hc:=bdH 77 [] gB (.optr gB 0) og2 (catW x (y::r) (j-1))) (hr:=[]) (bstrG_fh gB _ og2 _ (fun e=>List.length_eq_zero_iff.1 (hbd.2 e)) (fun e=>by rw [e] at hne;simp at hne) om) rfl rfl rfl (by rw [List.append_nil]) (zL (oj h1 (oj h2 (oj hq (oj hi0 (oj d1 (oj g0 e1))))))) ?_
    rintro _ _ ⟨rfl,rfl⟩ _
    have J3:=oj h1 (oj h2 (oj hq (oj hi0 (oj d1 (oj g0 e1)))))
    refine ySG J3 ?_
    rw [cN]
    refine yT hC J3 ?_
    exact .one (.c (.str _))
end Go.Proofs.YtnmeahogifekdaaGreatDoor
namespace Go.PN
open Go.AI
def nineF (n j:Nat) (q:Nat):CV:=if 9≤q+j then .int .u8 ((48+n/10^(8-q)%10:Nat):Int) else .int .u8 0
theorem nineF_end (n:Nat):∀q,q<9→nineF n 9 q=byF (nineL n) q:=fun q hq=>by
 unfold nineF byF nineL
 rw [if_pos om,List.getD_eq_getElem?_getD,List.getElem?_map,List.getElem?_range hq]
 show _=CV.int .u8 ((UInt8.ofNat (48+n/10^(8-q)%10)).toNat:Int)
 have h:48+n/10^(8-q)%10<2^8:=by have:=Nat.mod_lt (n/10^(8-q)) (show 0<10 by omega);omega
 rw [UInt8.toNat_ofNat',Nat.mod_eq_of_lt h]
theorem nineF_step (n j:Nat) (hj:j<9):∀q,q<9→updF (nineF n j) (8-j) [.int .u8 ((48+n/10^j%10:Nat):Int)] q=nineF n (j+1) q:=fun q hq=>by
 show(if q=8-j then CV.int .u8 ((48+n/10^j%10:Nat):Int) else nineF n j q)=_
 unfold nineF
 by_cases e:q=8-j
 ·subst e
  rw [if_pos rfl,if_pos om,show 8-(8-j)=j from by omega]
 ·rw [if_neg e]
  by_cases h:9≤q+j
  ·rw [if_pos h,if_pos om]
  ·rw [if_neg h,if_neg om]
end Go.PN
namespace Go.Proofs.YtnmeahogifekdaaGreatDoor
open Go.AI Go.PN
attribute [local irreducible] aw Fa Fh DrK
theorem trimByte_fa (l:List UInt8) (c:UInt8) (hl:l.length≤100000000000):Fa Tryz.prog 250 [.c (.str (sB l)),.c (.int .u8 (c.toNat:Int))] (.c (.str (sB (l.dropWhile (·==c))))):=by
 refine fa_of_body Tryz.func250 rfl rfl (by simp [Tryz.ntmps250]) fun C hC=> ?_
 simp only [initS,Nat.reduceAdd]
 refine xG ?_
 refine aw_lp (fun m:List UInt8=>[(0,.c (.str (sB m))),(1,.c (.int .u8 (c.toNat:Int)))]) (fun _=>[]) (fun m=>m.length≤l.length∧l.dropWhile (·==c)=m.dropWhile (·==c)) (fun m=>m.length) l eB zZ ⟨Nat.le_refl _,rfl⟩ ?_
 rintro m ⟨hm,he⟩
 cases m with
 |nil=>
  repeat' first|refine yA1 o0 ?_|refine zW o0 ?_|refine yP o0 ?_|refine yN o0 ?_|refine zC o0 (fun hb=>?_) fun hb=>?_|refine zG o0 (fun hb=>?_) fun hb=>?_|refine zD o0 (fun hb=>?_) fun hb=>?_
  rw [he]
  refine xT hC ?_
  exact .one (.c (.str _))
 |cons a r=>
  repeat' first|refine yA1 o0 ?_|refine zW o0 ?_|refine yP o0 ?_|refine yN o0 ?_|refine zC o0 (fun hb=>?_) fun hb=>?_|refine zG o0 (fun hb=>?_) fun hb=>?_|refine zD o0 (fun hb=>?_) fun hb=>?_
  ·have hac:(a==c)=true:=by
    have:a.toNat=c.toNat:=hb
    exact beq_iff_eq.2 (UInt8.toNat_inj.1 this)
   have hcut:cutS (a::r) 1 (r.length+1)=r:=by
    unfold cutS
    exact List.take_of_length_le (by simp)
   exact aw_stop ⟨r,by simp,(zB hcut),zZ,by simp at hm;omega,by rw [he,List.dropWhile_cons,if_pos hac]⟩
  ·have hac:(a==c)=false:=by
    refine Bool.eq_false_iff.2 fun e=> ?_
    exact hb (by rw [eq_of_beq e];rfl)
   rw [he,List.dropWhile_cons,if_neg (by rw [hac];simp)]
   refine xT hC ?_
   exact .one (.c (.str _))
  ·exact absurd hb om
theorem trimLeft_fa (l:List UInt8) (hl:l.length≤100000000000):Fa Tryz.prog 205 [.c (.str (sB l)),.c (.str (sB [48]))] (.c (.str (sB (l.dropWhile (·==48))))):=by
 have h48:strEq (sB [48]) ⟨#[]⟩=false:=by rw [show(⟨#[]⟩:ByteArray)=sB [] from rfl,sb_eq];rfl
 have f0:Fa Tryz.prog 250 [.c (.str (sB l)),.c (.int .u8 48)] (.c (.str (sB (l.dropWhile (·==48))))):=trimByte_fa l 48 hl
 have h11:((1:Int)==1)=true:=rfl
 have h128:decide ((48:Int)<128)=true:=rfl
 have h480:bAt [48] 0=48:=rfl
 refine fa_of_body Tryz.func205 rfl rfl (by simp [Tryz.ntmps205]) fun C hC=> ?_
 simp only [initS,Nat.reduceAdd]
 all_goals try(have Z:=(oj h48 (oj h11 (oj h128 h480)));(repeat' first|refine yA1 Z ?_|(refine yC2 Z (f0) ?_)|(refine yD2 Z (f0) ?_)|refine zW Z ?_|refine yP Z ?_|refine yN Z ?_|refine zC Z (fun hb=>?_) fun hb=>?_|refine zG Z (fun hb=>?_) fun hb=>?_|refine zD Z (fun hb=>?_) fun hb=>?_);all_goals clear Z)
 ·rw [hb]
  refine yT hC (oj h48 (oj h11 (oj h128 h480))) ?_
  exact .one (.c (.str _))
 ·refine yT hC (oj h48 (oj h11 (oj h128 h480))) ?_
  exact .one (.c (.str _))
theorem und_a9:Tryz.prog.underlying 273=some (.array 9 5):=Tryz.underlying273
theorem und_u8s:Tryz.prog.underlying 75=some (.slice 5):=Tryz.underlying75
theorem und_u8:Tryz.prog.underlying 5=some (.int .u8):=Tryz.underlying5
theorem bytesStr' {P:Program} {h:Heap} {ρ:Operand→AV} {s d el ty:TypeId} {x:Operand} {g m n:Nat} {f:Nat→CV} {l:List UInt8} (hs:P.underlying s=some (.slice el)) (he:P.underlying el=some (.int .u8)) (hd:P.underlying d=some .string) (hn:n=l.length) (hx:ρ x=.c (.osl g 1 0 n))
  (hg:h.get g=some (.cells ty m f)) (hm:n≤m) (hf:∀j,j<n→f j=byF l j):POk P h ρ (.convert s d x) (.c (.str ⟨l.toArray⟩)):=by
 subst hn
 exact POk.bytesStr hs he hd hx hg hm hf
theorem wrap8 {a:Nat} (h:a<256):wrapZ .u8 (a:Int)=(a:Int):=by rw [wrapZ_eq];exact wrap_inRange (by simp only [inRange];omega)
theorem rem10 (a:Nat):remZ (a:Int) 10=((a%10:Nat):Int):=rem_nat a 10
theorem quo10 (a:Nat) (ha:a<4294967296):quoZ .u32 (a:Int) 10=((a/10:Nat):Int):=quo_u32 a 10 ha
theorem nine_fa (n:Nat) (hn:n<4294967296):Fa Tryz.prog 204 [.c (.int .u32 (n:Int))] (.c (.str (sB (nineL n)))):=by
 refine fa_of_body Tryz.func204 rfl rfl (by simp [Tryz.ntmps204]) fun C hC=> ?_
 simp only [initS,Nat.reduceAdd]
 refine xG ?_
 refine xA fun g3 hn_g3=>?_
 refine aw_conv1 (f':=nineF n 0) (fun q hq=>by match q,hq with|0,_=>rfl|1,_=>rfl|2,_=>rfl|3,_=>rfl|4,_=>rfl|5,_=>rfl|6,_=>rfl|7,_=>rfl|8,_=>rfl) ?_
 refine yG hn_g3 ?_
 refine aw_lp (fun j:Nat=>[(0,.c (.int .u32 ((n/10^j:Nat):Int))),(3,.c (.optr g3 0)),(4,.c (.int .i64 (8-(j:Int))))]) (fun j=>[(g3,.cells 273 9 (nineF n j))]) (fun j=>j≤9) (fun j=>9-j) 0 (by refine yS hn_g3 ?_;simp) zZ (Nat.zero_le _) ?_
 rintro j hj
 refine yG hn_g3 ?_
 refine yF hn_g3 (fun h1=>?_) fun h1=>?_
 ·have h1':j<9:=dT h1
  have hlt:n/10^j<4294967296:=Nat.lt_of_le_of_lt (Nat.div_le_self _ _) hn
  have hst:=nineF_step n j h1'
  have hq10:n/10^j/10=n/10^(j+1):=by rw [Nat.div_div_eq_div_mul,←Nat.pow_succ]
  generalize n/10^j=a at*
  refine yG hn_g3 ?_
  rw [rem10]
  refine yG hn_g3 ?_
  rw [show(48:Int)+((a%10:Nat):Int)=((48+a%10:Nat):Int) from by omega]
  refine yG hn_g3 ?_
  rw [wrap8 (show 48+a%10<256 by omega)]
  refine aw_pok (POk.indexArr und_a9 (by kernel_rfl) (zE hn_g3) (zE hn_g3) om om) rfl rfl ?_
  rw [show(8-(j:Int)).toNat=8-j from by omega]
  refine ySG hn_g3 ?_
  refine yW hn_g3 ?_
  refine yS hn_g3 ?_
  refine aw_conv1 (f':=nineF n (j+1)) hst ?_
  refine yG hn_g3 ?_
  rw [quo10 a hlt,hq10]
  refine yG hn_g3 ?_
  rw [show(8:Int)-(j:Int)-1=8-((j+1:Nat):Int) from by omega]
  exact aw_stop ⟨j+1,by omega,(zB hn_g3),zZ,by omega⟩
 ·have h1':j=9:=dF h1
  subst h1'
  refine yG hn_g3 ?_
  refine aw_pok (POk.sliceArr und_a9 (by kernel_rfl) (by kernel_rfl) (zE hn_g3) (zE hn_g3) (Nat.le_refl _) (by unfold maxLen;omega)) rfl rfl ?_
  refine ySG hn_g3 ?_
  refine aw_pok (bytesStr' (l:=nineL n) und_u8s und_u8 und_str (nineL_len n).symm (zE hn_g3) (zE hn_g3) om (fun q hq=>nineF_end n q hq)) rfl rfl ?_
  refine ySG hn_g3 ?_
  refine yT hC hn_g3 ?_
  exact .one (.c (.str _))
end Go.Proofs.YtnmeahogifekdaaGreatDoor
namespace Go.PN
open Go.AI
def strF (G:List (List UInt8)) (j:Nat):CV:=.str (sB (G.getD j []))
@[go_sem] theorem strF_at (G:List (List UInt8)) (j:Nat):strF G j=.str (sB (G.getD j [])):=rfl
theorem str_push {zs:List (List UInt8)} {n:Nat} (hn:zs.length=n) (x:List UInt8):∀j,j<(n+1)*1→appF (strF zs) (n*1) (ofL [.str (sB x)]) j=strF (zs++[x]) j:=fun j hj=>by
 subst hn
 unfold appF
 by_cases h:j<zs.length*1
 ·rw [if_pos h]
  show CV.str (sB (zs.getD j []))=CV.str (sB ((zs++[x]).getD j []))
  rw [List.getD_eq_getElem?_getD,List.getD_eq_getElem?_getD,List.getElem?_append_left om]
 ·have e:j=zs.length:=by omega
  subst e
  rw [if_neg h]
  show ofL [.str (sB x)] (zs.length-zs.length*1)=CV.str (sB ((zs++[x]).getD zs.length []))
  rw [Nat.mul_one,Nat.sub_self,List.getD_eq_getElem?_getD,List.getElem?_append_right (Nat.le_refl _),Nat.sub_self]
  rfl
def bA (gB:Nat):Nat→CV
 |0=>.raw (.pointer none)
 |_+1=>.optr gB 0
theorem bA_or (gB i:Nat):bA gB i=.raw (.pointer none)∨bA gB i=.optr gB 0:=by cases i;exact .inl rfl;exact .inr rfl
end Go.PN
namespace Go.Proofs.YtnmeahogifekdaaGreatDoor
open Go.AI Go.PN
attribute [local irreducible] aw Fa Fh DrK
theorem ntext_fa (xs:List Nat) (hx:∀x∈xs,x<4294967296) (hl:xs.length≤1000000):Fa Tryz.prog 120 [.c (ws false xs)] (.c (.str (sB (txtN (val xs))))):=by
 have hgb:=grps_bound hx
 have hwl:=words_val_len xs hx
 have hnine:=grps_nine _ (val xs) (Nat.le_refl _)
 have htx:txtN (val xs)=if((catTo (grps (val xs)) (grps (val xs)).length).dropWhile (·==48))==[] then [48] else(catTo (grps (val xs)) (grps (val xs)).length).dropWhile (·==48):=rfl
 refine fa_of_body Tryz.func120 rfl rfl (by simp [Tryz.ntmps120]) fun C hC=> ?_
 simp only [initS,Nat.reduceAdd]
 refine xG ?_
 refine xC (trim_fa xs hx ?_) ?_
 ·omega
 refine xG ?_
 generalize val xs=N at*
 refine aw_lp (fun x:Option Nat×List (List UInt8)×Nat=>[(0,.c (ws true (words x.2.2))),(3,.c (gs x.1 1 x.2.1.length))]) (fun x=>gh x.1 9 (x.2.1.length*1) (strF x.2.1))
  (fun x=>grps N=x.2.1++grps x.2.2∧x.2.2≤N∧(x.1=none→x.2.1.length=0)) (fun x=>x.2.2) (none,[],N) eB zZ ⟨rfl,Nat.le_refl _,fun _=>rfl⟩ ?_
 rintro ⟨og,G,v⟩ ⟨hG,hv,hog⟩
 dsimp only at hG hv hog⊢
 have hGl:G.length+(grps v).length≤2*xs.length:=by rw [←List.length_append,←hG];exact hgb
 have hvl:=words_len_mono hv
 refine xG ?_
 refine xF (fun h1=>?_) fun h1=>?_
 ·have h1':v≠0:=by
   intro e
   subst e
   rw [words_zero] at h1
   simp at h1
  have hst:=grps_cons h1'
  have hnl:(nineL (v%1000000000)).length=9:=nineL_len _
  refine xG ?_
  have hsm:=small_fa (words v) 1000000000 (words_lt v) om om om
  rw [val_words] at hsm
  refine xC (hsm) ?_
  refine xG ?_
  refine xC (nine_fa (v%1000000000) ?_) ?_
  ·omega
  refine xG ?_
  refine aw_push (pre:=[]) rfl rfl rfl rfl rfl rfl rfl eE eE (by rfl) om om eE om (by exact hog) eE (by rfl) (by rfl) (by first|rfl|simp only [Nat.mul_one,List.nil_append,List.cons_append]<;>rfl) (by unfold maxLen;omega) om (by exact str_push rfl _) fun g hn_g=> ?_
  replace hn_g:=Heap.ne_of hn_g
  first|dsimp only [Heap.ne,gh] at hn_g|dsimp only [Heap.ne] at hn_g|skip
  refine ySG hn_g ?_
  have e:(G++[nineL (v%1000000000)]).length=G.length+1:=by simp
  refine aw_stop ⟨(some g,G++[nineL (v%1000000000)],v/1000000000),by dsimp only;omega,?_,?_,by dsimp only;rw [List.append_assoc,hG,hst];rfl,by dsimp only;omega,fun e=>by cases e⟩
  ·dsimp only
   rw [e]
   exact(zB hn_g)
  ·dsimp only
   rw [e]
   exact zZ
 ·have h1':v=0:=by
   apply Classical.byContradiction
   intro e
   have:=of_decide_eq_false h1
   rw [words_cons e] at this
   simp at this
  subst h1'
  rw [grps_zero,List.append_nil] at hG
  have hcl:=catTo_len hnine
  rw [hG] at hgb hnine htx hcl
  refine aw_perm (h':=gh og 9 (G.length*1) (strF G)++[]) (by rw [List.append_nil,Nat.mul_one]) ?_
  refine aw_frzGT (t:=3) (f':=strF G) hog rfl eE (fun g _=>hC g) (fun _ _=>rfl) rfl ?_
  refine xSG ?_
  refine aw_allocR (vs:=[.pointer none,.slice none 0 0]) rfl rfl rfl (by kernel_rfl) fun gB hn_gB=> ?_
  refine(?_:aw _ _ _ [bldO gB (bA gB 0) (gsR none 0)])
  refine xSG ?_
  refine aw_lp (fun x:Option Nat×Nat=>[(3,.c (.row true 1 G.length (strF G))),(6,.c (.optr gB 0)),(7,.c (.int .i64 ((G.length:Int)-1-(x.2:Int))))]) (fun x=>bldO gB (bA gB x.2) (gsR x.1 (catTo G x.2).length)::gh x.1 5 (catTo G x.2).length (byF (catTo G x.2)))
   (fun x=>x.2≤G.length∧(x.1=none→x.2=0)∧(x.2=0→x.1=none)) (fun x=>G.length-x.2) (none,0) (by refine xS ?_;simp) zZ ⟨Nat.zero_le _,fun _=>rfl,fun _=>rfl⟩ ?_
  rintro ⟨og2,i⟩ ⟨hi,hn1,hn2⟩
  dsimp only at hi hn1 hn2⊢
  have hci:=hcl i hi
  refine xG ?_
  refine xF (fun h2=>?_) fun h2=>?_
  ·have h2':i<G.length:=dT h2
   obtain⟨q,hq⟩:∃q:Nat,q=G.length-1-i:=⟨_,rfl⟩
   have hqi:(G.length:Int)-1-(i:Int)=(q:Int):=by omega
   have hcat:catTo G (i+1)=catTo G i++G.getD q []:=by rw [catTo,hq]
   have hl9:(G.getD q []).length=9:=by
    rw [List.getD_eq_getElem?_getD,List.getElem?_eq_getElem om]
    exact hnine _ (List.getElem_mem _)
   have hci2:=hcl (i+1) om
   rw [hqi]
   refine xG ?_
   refine aw_callh (hc:=bldO gB (bA gB i) (gsR og2 (catTo G i).length)::gh og2 5 (catTo G i).length (byF (catTo G i))) (hr:=[]) (wstr_fh gB _ (bA_or gB i) og2 (catTo G i) (G.getD q []) (fun e=>by rw [hn1 e];rfl) om) rfl rfl rfl (by rw [List.append_nil]) eL ?_
   rintro _ _ ⟨og',h3,rfl,rfl⟩ _
   rw [←hcat,List.append_nil] at*
   refine xSG ?_
   rw [show(q:Int)-1=(G.length:Int)-1-((i+1:Nat):Int) from by omega]
   exact aw_stop ⟨(og',i+1),by dsimp only;omega,eB,zZ,by dsimp only;omega,fun e=>by have:=h3 e;omega,fun e=>by dsimp only at e;omega⟩
  ·have h2':i=G.length:=dF h2
   subst h2'
   refine xG ?_
   refine aw_callh (hc:=bldO gB (bA gB G.length) (gsR og2 (catTo G G.length).length)::gh og2 5 (catTo G G.length).length (byF (catTo G G.length))) (hr:=[]) (bstr_fh gB _ og2 (catTo G G.length) (fun e=>by rw [hn1 e];rfl) (fun e=>hn2 (by rw [e] at hci;simp only [List.length_nil] at hci;omega)) om) rfl rfl rfl (by rw [List.append_nil]) eL ?_
   rintro _ _ ⟨rfl,rfl⟩ _
   generalize catTo G G.length=B at*
   refine xSG ?_
   refine xC (trimLeft_fa B ?_) ?_
   ·omega
   refine xG ?_
   refine xF (fun h5=>?_) fun h5=>?_
   ·refine xG ?_
    rw [htx,if_pos h5]
    refine xT hC ?_
    exact .one (.c (.str _))
   ·refine xG ?_
    rw [htx,if_neg (by rw [h5];simp)]
    refine xT hC ?_
    exact .one (.c (.str _))
end Go.Proofs.YtnmeahogifekdaaGreatDoor
namespace Go.Proofs.YtnmeahogifekdaaGreatDoor
open Go.AI Go.PN
attribute [local irreducible] aw Fa Fh DrK
theorem rtext_fa (r:RD) (hw:r.wf 100000):Fa Tryz.prog 68 [.agg (rdc r)] (.c (.str (sB (rtxt r)))):=by
 obtain⟨hl1,hl2⟩:=RD.p_len hw om
 have t1:=ntext_fa (words r.pn) (words_lt _) om
 have t2:=ntext_fa (words r.pd) (words_lt _) om
 have z1:=txtN_le hl1
 have z2:=txtN_le hl2
 rw [val_words] at t1 t2
 have hr:rtxt r=(if r.ps then [45]++txtN r.pn else txtN r.pn)++(if r.pd=1 then [] else [47]++txtN r.pd):=rfl
 generalize txtN r.pn=T1 at*
 generalize txtN r.pd=T2 at*
 have hcm:Fa Tryz.prog 121 [.c (ws false (words r.pd)),.c (ws false [1])] (.c (.int .i64 (cmpN r.pd 1))):=by
  have:=cmpW r.pd 1 om (by rw [words_cons om];simp [words_zero])
  rwa [show words 1=[1] from by rw [words_cons om];simp [words_zero]] at this
 have h1:cmpN r.pd 1=0↔r.pd=1:=by
  unfold cmpN
  constructor
  ·intro h
   repeat' split at h
   all_goals first|assumption|cases h
  ·intro h
   rw [h];rfl
 have f1:=rparts_fa r (wf_mono hw om)
 have f2:=one_fa
 refine fa_of_body Tryz.func68 rfl rfl (by simp [Tryz.ntmps68]) fun C hC=> ?_
 simp only [initS,Nat.reduceAdd]
 repeat' first|refine yA1 o0 ?_|refine zW o0 ?_|refine yP o0 ?_|refine yN o0 ?_|refine zC o0 (fun hb=>?_) fun hb=>?_|refine zG o0 (fun hb=>?_) fun hb=>?_|refine zD o0 (fun hb=>?_) fun hb=>?_
 refine xB fun g1 hn_g1=>?_
 repeat' first|refine yA1 hn_g1 ?_|(refine yC2 hn_g1 (f1) ?_)|(refine yD2 hn_g1 (f1) ?_)|(refine yC2 hn_g1 (t1) ?_)|(refine yD2 hn_g1 (t1) ?_)|(refine yC2 hn_g1 (t2) ?_)|(refine yD2 hn_g1 (t2) ?_)|(refine yC2 hn_g1 (f2) ?_)|(refine yD2 hn_g1 (f2) ?_)|(refine yC2 hn_g1 (hcm) ?_)|(refine yD2 hn_g1 (hcm) ?_)|refine zW hn_g1 ?_|refine yP hn_g1 ?_|refine yN hn_g1 ?_|refine zC hn_g1 (fun hb=>?_) fun hb=>?_|refine zG hn_g1 (fun hb=>?_) fun hb=>?_|refine zD hn_g1 (fun hb=>?_) fun hb=>?_
 all_goals
  rename_i q0
  first|rw [if_pos q0] at hr|rw [if_neg (by rw [q0];simp)] at hr
  first|rw [if_pos (h1.1 hb),List.append_nil] at hr|rw [if_neg (fun e=>hb (h1.2 e))] at hr
  rw [hr]
  refine yT hC hn_g1 ?_
  exact .one (.c (.str _))
end Go.Proofs.YtnmeahogifekdaaGreatDoor
namespace Go.PN
theorem joinW_len:∀l:List BS,(joinW l).length≤l.length+sumW l l.length
 |[]=>Nat.zero_le _
 |x::l=>by
  have h:=catW_len x l l.length (Nat.le_refl _)
  have e:catW x l l.length=joinW (x::l):=by unfold catW;rw [List.take_length];rfl
  rw [e] at h
  have a2:sumW (x::l) (x::l).length=x.length+sumW l l.length:=by unfold sumW;rw [List.take_length,List.take_length];rfl
  rw [h,a2,List.length_cons];omega
end Go.PN
namespace Go.Proofs.YtnmeahogifekdaaGreatDoor
open Go.AI Go.PN
attribute [local irreducible] aw Fa Fh DrK
theorem line_fa (t:Bool) (l:List BS) (hl:l.length+sumW l l.length≤10000000000):Fa Tryz.prog 30 [.c (strs t l)] (.c (.str (sB (lineW l)))):=by
 have f1:=join_fa t l hl
 have hj:=joinW_len l
 refine fa_of_body Tryz.func30 rfl rfl (by simp [Tryz.ntmps30]) fun C hC=> ?_
 simp only [initS,Nat.reduceAdd]
 repeat' first|refine zV o0 ?_|(refine yC2 o0 (f1) ?_)|(refine yD2 o0 (f1) ?_)|refine zH o0 (fun hb=>?_) fun hb=>?_|fail
 refine xT hC ?_
 exact .one (.c (.str _))
abbrev kWs:List BS:=[kAnd,kOr,kVote,kNot,kXor,kInhibit,kPand,kSpare,kDepend]
theorem pword_fa (k:Int) (h1: -9223372036854775808≤k) (h2:k<9223372036854775808):Fa Tryz.prog 66 [.c (.int .i64 k)] (.c (.str (sB (kindW k)))):=by
 by_cases h:k<0∨k≥9
 ·have e:kindW k=kNone:=if_pos h
  rw [e]
  refine fa_of_body Tryz.func66 rfl rfl (by simp [Tryz.ntmps66]) fun C hC=> ?_
  simp only [initS,Nat.reduceAdd]
  refine xG ?_
  refine aw_buildSlice (xs:=kWs.map fun w=>Operand.const (.string (sB w))) (cells:=kWs.map fun w=>.str (sB w)) rfl rfl rfl eE (by refine xS ?_;rfl) rfl om om (by intro z hz;simp only [kWs,List.map_cons,List.map_nil,List.mem_cons,List.not_mem_nil,or_false] at hz;rcases hz with rfl|rfl|rfl|rfl|rfl|rfl|rfl|rfl|rfl<;>exact⟨rfl,rfl,rfl⟩) rfl fun g3 hn_g3=> ?_
  refine xS ?_
  repeat' first|refine zV o0 ?_|refine zH o0 (fun hb=>?_) fun hb=>?_|fail
  ·refine xT hC ?_
   exact .one (.c (.str _))
  ·refine xT hC ?_
   exact .one (.c (.str _))
  ·exfalso;omega
 ·have e:k=0∨k=1∨k=2∨k=3∨k=4∨k=5∨k=6∨k=7∨k=8:=by omega
  rcases e with rfl|rfl|rfl|rfl|rfl|rfl|rfl|rfl|rfl
  all_goals
   refine fa_of_body Tryz.func66 rfl rfl (by simp [Tryz.ntmps66]) fun C hC=> ?_
   simp only [initS,Nat.reduceAdd]
   refine xG ?_
   refine aw_buildSlice (xs:=kWs.map fun w=>Operand.const (.string (sB w))) (cells:=kWs.map fun w=>.str (sB w)) rfl rfl rfl eE (by refine xS ?_;rfl) rfl om om (by intro z hz;simp only [kWs,List.map_cons,List.map_nil,List.mem_cons,List.not_mem_nil,or_false] at hz;rcases hz with rfl|rfl|rfl|rfl|rfl|rfl|rfl|rfl|rfl<;>exact⟨rfl,rfl,rfl⟩) rfl fun g3 hn_g3=> ?_
   refine xS ?_
   repeat' first|refine zV o0 ?_|refine zH o0 (fun hb=>?_) fun hb=>?_|fail
   refine xT hC ?_
   exact .one (.c (.str _))
end Go.Proofs.YtnmeahogifekdaaGreatDoor
namespace Go.AI
section
variable {E : Env} {K : List It} {σ : Sl} {h : Heap} {all rest : List Oper} {o : Oper}
theorem aw_appendG {t e size bytes n k:Nat} {z:List CV} {og:Option Nat} {f f2 f':Nat→CV} {s x:Operand} {cx:CV} {pre:Heap} (hop:o.op=.call {callee:=.builtin .append,args:= #[s,x],argTypes:= #[t,t]}) (hw:wantA all σ o=some true) (hd:dstOk E.N o.dst=true)
  (ht:tElem E.P t=some (e,size,bytes)) (hz:tZero E.P e=some z) (hzl:z.length=size) (hs0:0<size) (hs:ev σ s=.c (gs og size n)) (hog:og=none→n=0) (hx:ev σ x=.c cx) (hsrc:∀h:Heap,Src h size cx k f2) (hsol:∀j,j<k*size→(f2 j).solid=true) (hh:h=pre++gh og e (n*size) f)
  (h63:n+k≤maxLen) (hby:(n+k)*bytes≤140737488355328) (hf:∀j,j<(n+k)*size→appF f (n*size) f2 j=f' j)
  (kk:∀og',(og'=none→n+k=0)→(∀g,og'=some g→g∉pre.keys)→aw E (.ops all rest::K) (σ.setO o.dst (.c (gs og' size (n+k)))) (pre++gh og' e ((n+k)*size) f')):aw E (.ops all (o::rest)::K) σ h:=by
 subst hh
 rcases Nat.eq_zero_or_pos k with hk|hk
 ·subst hk
  refine aw_nd fun hnd=> ?_
  refine aw_append0 (cs:=gs og size n) (σ':=σ.setO o.dst (.c (gs og size n))) hop hw hd ht hs (by cases og<;>rfl) hx (hsrc _) rfl ?_
  cases og with
  |none=>exact kk none hog (fun g e=>by cases e)
  |some g=>
   have hnp:g∉pre.keys:=fun hm=>by
    simp only [Heap.keys,gh,List.map_append,List.map_cons,List.map_nil] at hnd
    exact(List.nodup_append.1 hnd).2.2 g hm g (by simp) rfl
   refine aw_perm (h':=(g,.cells e (n*size) f)::pre) (List.perm_append_singleton _ _) ?_
   refine aw_conv1 (f':=f') (fun j hj=>by rw [←hf j hj];simp [appF,hj]) ?_
   refine aw_perm (h':=pre++gh (some g) e (n*size) f') (List.perm_append_singleton _ _).symm ?_
   exact kk (some g) (fun e=>by cases e) (fun g' e=>by injection e with e;subst e;exact hnp)
 ·cases og with
  |none=>
   obtain rfl:n=0:=hog rfl
   refine aw_appendN hop hw hd ht hz hzl hs0 hs hx (hsrc _) hk om (by rwa [Nat.zero_add] at hby) fun g' hg'=> ?_
   refine aw_conv1 (f':=f') (fun j hj=>by rw [←hf j (by rwa [Nat.zero_add])];simp [appF]) ?_
   refine aw_perm (h':=pre++gh (some g') e (k*size) f') ?_ ?_
   ·simp only [gh,List.append_nil];exact(List.perm_append_singleton _ _).symm
   ·have:=kk (some g') (fun e=>by cases e) (fun g e=>by injection e with e;subst e;exact fun hm=>hg' (by simpa [Heap.keys,gh] using hm))
    rw [Nat.zero_add] at this
    exact this
  |some g=>
   refine aw_nd fun hnd=> ?_
   have hnp:g∉pre.keys:=fun hm=>by
    simp only [Heap.keys,gh,List.map_append,List.map_cons,List.map_nil] at hnd
    exact(List.nodup_append.1 hnd).2.2 g hm g (by simp) rfl
   refine aw_append (g:=g) (m:=n*size) (f:=f) (h2:=pre) hop hw hd ht hz hzl hs0 hs (Heap.get_app hnp) (Nat.le_refl _) hx (hsrc _) hsol hk h63 hby (Heap.del_app hnp) fun g' hg'=> ?_
   refine aw_conv1 (f':=f') (fun j hj=>hf j hj) ?_
   refine aw_perm (h':=pre++gh (some g') e ((n+k)*size) f') (List.perm_append_singleton _ _).symm ?_
   exact kk (some g') (fun e=>by cases e) (fun g'' e=>by injection e with e;subst e;exact hg')
theorem aw_conv2 {x:Nat×AObj} {g n:Nat} {ty:TypeId} {f f':Nat→CV} {h:Heap} (hf:∀j,j<n→f j=f' j) (k:aw E K σ (x::(g,.cells ty n f')::h)):aw E K σ (x::(g,.cells ty n f)::h):=fun a w s=>by
 refine k a w ⟨s.size,s.defers,s.slots,fun g' o' hm=> ?_,s.nodup,s.keys,s.frame⟩
 rcases List.mem_cons.1 hm with e|hm
 ·exact s.heap g' o' (List.mem_cons.2 (.inl e))
 ·rcases List.mem_cons.1 hm with e|hm
  ·injection e with e1 e2
   subst e1 e2
   exact ORep.cong hf (s.heap _ _ (List.mem_cons_of_mem _ (List.mem_cons_self ..)))
  ·exact s.heap g' o' (List.mem_cons_of_mem _ (List.mem_cons_of_mem _ hm))
end
end Go.AI
namespace Go.PN
open Go.AI
theorem strs_app (a b:List BS):∀j,j<(a.length+b.length)*1→appF (strsF a) (a.length*1) (strsF b) j=strsF (a++b) j:=fun j hj=>by
 unfold appF
 rw [strsF_0,strsF_0,strsF_0,Nat.mul_one]
 split
 ·rename_i h
  rw [List.getD_eq_getElem?_getD,List.getD_eq_getElem?_getD,List.getElem?_append_left h]
 ·rename_i h
  rw [List.getD_eq_getElem?_getD,List.getD_eq_getElem?_getD,List.getElem?_append_right om]
theorem strs_push1 (a:List BS) (w:BS):∀j,j<(a.length+1)*1→appF (strsF a) (a.length*1) (ofL [.str (sB w)]) j=strsF (a++[w]) j:=fun j hj=>by
 rw [←strs_app a [w] j hj]
 unfold appF
 split
 ·rfl
 ·rw [strsF_0,show j-a.length*1=0 from by omega];rfl
end Go.PN
namespace Go.Proofs.YtnmeahogifekdaaGreatDoor
open Go.AI Go.PN
attribute [local irreducible] aw Fa Fh DrK
theorem gateX_fa (g:GtD) (hk1: -9223372036854775808≤g.kind) (hk2:g.kind<9223372036854775808) (hk:g.kind=2→0≤g.k∧g.k<100) (hw:g.dorm.wf 100000) (hl:(gateW g).length+sumW (gateW g) (gateW g).length≤10000000000):Fa Tryz.prog 17 [.agg (gtc g)] (.c (.str (sB (gateX g)))):=by
 have f1:=pword_fa g.kind hk1 hk2
 have hil:g.inputs.length≤10000000000:=by have:(gateW g).length≥g.inputs.length:=by unfold gateW;simp;omega
                                          omega
 refine fa_of_body Tryz.func17 rfl rfl (by simp [Tryz.ntmps17]) fun C hC=> ?_
 simp only [initS,Nat.reduceAdd]
 refine xG ?_
 refine xB fun g1 hn_g1=>?_
 refine yG hn_g1 ?_
 refine aw_cw [(g1,.cells 60 7 (ofL (gtc g)))] [(0,0),(1,0),(2,0),(3,0),(4,0),(5,1),(6,0)] ty_mixed (by kernel_rfl) (has0_cons (List.mem_cons_self ..) has0_nil) ?_
 refine yG hn_g1 ?_
 refine cw_callq rfl f1 rfl rfl rfl (fun _ _=>(zL hn_g1)) ?_
 refine ySG hn_g1 ?_
 refine cw_buildSlice (xs:=[.const (.string (sB kGate)),.tmp 5,.tmp 8]) (cells:=[.str (sB kGate),.str (sB g.name),.str (sB (kindW g.kind))]) rfl rfl rfl rfl (zE hn_g1) (by refine yS hn_g1 ?_;rfl) rfl om om (by intro z hz;simp only [List.mem_cons,List.not_mem_nil,or_false] at hz;rcases hz with rfl|rfl|rfl<;>exact⟨rfl,rfl,rfl⟩) rfl (by intro z hz;simp only [List.mem_cons,List.not_mem_nil,or_false] at hz;rcases hz with rfl|rfl|rfl<;>simp [Op.operands]) (has0_cons (List.mem_cons_self ..) has0_nil) (fun g9 hn_g9=> ?_) (.inr ⟨rfl,rfl⟩)
 replace hn_g9:=Heap.ne_of hn_g9
 dsimp only [Heap.ne] at hn_g9
 refine ySG (oj hn_g1 hn_g9) ?_
 refine aw_perm (List.Perm.swap _ _ _) ?_
 refine aw_conv2 (f':=strsF [kGate,g.name,kindW g.kind]) (fun j hj=>by match j,hj with|0,_=>rw [strsF_0];rfl|1,_=>rw [strsF_0];rfl|2,_=>rw [strsF_0];rfl) ?_
 by_cases c2:g.kind=2
 ·have d2:(g.kind==2)=true:=by simpa using c2
  obtain⟨n,hn⟩:∃n:Nat,g.k=(n:Int):=⟨g.k.toNat,by have:=hk c2;omega⟩
  have f2:=itoa_fa n (by have:=hk c2;omega)
  have eI:itoaB g.k=decB n:=by rw [hn];unfold itoaB;rw [if_neg om];rfl
  have eL:gateW g=[kGate,g.name,kindW g.kind]++[decB n]++g.inputs:=by unfold gateW;rw [if_pos c2,eI];rfl
  have eX:gateX g=lineW ([kGate,g.name,kindW g.kind]++[decB n]++g.inputs):=by rw [←eL];rfl
  all_goals try(have Z:=(oj hn_g1 (oj hn_g9 (oj d2 hn)));(repeat' first|refine zV Z ?_|(refine yC2 Z (f2) ?_)|(refine yD2 Z (f2) ?_)|refine zH Z (fun hb=>?_) fun hb=>?_|fail);all_goals clear Z)
  refine aw_perm (h':=[(g1,.cells 60 7 (ofL (gtc g)))]++gh (some g9) 9 (3*1) (strsF [kGate,g.name,kindW g.kind])) (.refl _) ?_
  refine aw_push (og:=some g9) (n:=3) (size:=1) (f:=strsF [kGate,g.name,kindW g.kind]) (v:=.c (.str (sB (decB n)))) (f':=strsF ([kGate,g.name,kindW g.kind]++[(decB n)])) (pre:=[(g1,.cells 60 7 (ofL (gtc g)))]) rfl rfl rfl rfl rfl rfl rfl (by exact tya_e_52) (by exact tya_z_9) (by rfl) om om (zE (oj hn_g1 (oj hn_g9 (oj d2 hn)))) om (fun e=>by cases e) (zE (oj hn_g1 (oj hn_g9 (oj d2 hn)))) (by rfl) (by rfl) rfl (by unfold maxLen;omega) om (by exact strs_push1 [kGate,g.name,kindW g.kind] (decB n)) fun g19 hn_g19=> ?_
  replace hn_g19:=Heap.ne_of hn_g19
  dsimp only [Heap.ne] at hn_g19
  refine(?_:aw _ _ _ [(g1,.cells 60 7 (ofL (gtc g))),(g19,.cells 9 4 (strsF ([kGate,g.name,kindW g.kind]++[(decB n)])))])
  have J1:=oj hn_g1 (oj hn_g9 (oj d2 (oj hn hn_g19)))
  refine yS J1 ?_
  all_goals try(have Z:=J1;(repeat' first|refine zV Z ?_|refine zH Z (fun hb=>?_) fun hb=>?_|fail);all_goals clear Z)
  refine aw_perm (h':=[(g1,.cells 60 7 (ofL (gtc g)))]++gh (some g19) 9 (4*1) (strsF ([kGate,g.name,kindW g.kind]++[decB n]))) (.refl _) ?_
  refine aw_appendG (size:=1) (n:=4) (k:=g.inputs.length) (f:=strsF ([kGate,g.name,kindW g.kind]++[decB n])) (f2:=strsF g.inputs) (f':=strsF (([kGate,g.name,kindW g.kind]++[decB n])++g.inputs)) (og:=some g19) (pre:=[(g1,.cells 60 7 (ofL (gtc g)))]) rfl rfl rfl (by exact tya_e_52) (by exact tya_z_9) rfl om (zE J1) (fun e=>by cases e) (zE J1) (fun _=>.row) (fun j _=>strsF_solid _ j) rfl (by unfold maxLen;omega) om (strs_app ([kGate,g.name,kindW g.kind]++[decB n]) g.inputs) fun og' hn' hg'=> ?_
  rw [show 4+g.inputs.length=(([kGate,g.name,kindW g.kind]++[decB n])++g.inputs).length from by simp;omega] at hn'⊢
  rw [Nat.mul_one]
  generalize ([kGate,g.name,kindW g.kind]++[decB n])++g.inputs=W at*
  have fL:=line_fa false W (by rw [←eL];exact hl)
  refine yS J1 ?_
  refine aw_nd fun hnd=> ?_
  refine aw_callq fL rfl rfl rfl (by refine yS J1 ?_;exact .c (le_gst (pre:=[(g1,.cells 60 7 (ofL (gtc g)))]) hn' hnd)) ?_
  refine ySG J1 ?_
  rw [eX]
  refine yT hC J1 ?_
  exact .one (.c (.str _))
 ·have d2:(g.kind==2)=false:=by simpa using c2
  by_cases c7:g.kind=7
  ·have d7:(g.kind==7)=true:=by simpa using c7
   have f2:=rtext_fa g.dorm hw
   have eL:gateW g=[kGate,g.name,kindW g.kind]++[rtxt g.dorm]++g.inputs:=by unfold gateW;rw [if_neg c2,if_pos c7];rfl
   have eX:gateX g=lineW ([kGate,g.name,kindW g.kind]++[rtxt g.dorm]++g.inputs):=by rw [←eL];rfl
   all_goals try(have Z:=(oj hn_g1 (oj hn_g9 (oj d2 d7)));(repeat' first|refine zV Z ?_|(refine yC2 Z (f2) ?_)|(refine yD2 Z (f2) ?_)|refine zH Z (fun hb=>?_) fun hb=>?_|fail);all_goals clear Z)
   refine aw_perm (h':=[(g1,.cells 60 7 (ofL (gtc g)))]++gh (some g9) 9 (3*1) (strsF [kGate,g.name,kindW g.kind])) (.refl _) ?_
   refine aw_push (og:=some g9) (n:=3) (size:=1) (f:=strsF [kGate,g.name,kindW g.kind]) (v:=.c (.str (sB (rtxt g.dorm)))) (f':=strsF ([kGate,g.name,kindW g.kind]++[(rtxt g.dorm)])) (pre:=[(g1,.cells 60 7 (ofL (gtc g)))]) rfl rfl rfl rfl rfl rfl rfl (by exact tya_e_52) (by exact tya_z_9) (by rfl) om om (zE (oj hn_g1 (oj hn_g9 (oj d2 d7)))) om (fun e=>by cases e) (zE (oj hn_g1 (oj hn_g9 (oj d2 d7)))) (by rfl) (by rfl) rfl (by unfold maxLen;omega) om (by exact strs_push1 [kGate,g.name,kindW g.kind] (rtxt g.dorm)) fun g19 hn_g19=> ?_
   replace hn_g19:=Heap.ne_of hn_g19
   dsimp only [Heap.ne] at hn_g19
   refine(?_:aw _ _ _ [(g1,.cells 60 7 (ofL (gtc g))),(g19,.cells 9 4 (strsF ([kGate,g.name,kindW g.kind]++[(rtxt g.dorm)])))])
   have J2:=oj hn_g1 (oj hn_g9 (oj d2 (oj d7 hn_g19)))
   refine yS J2 ?_
   all_goals try(have Z:=J2;(repeat' first|refine zV Z ?_|refine zH Z (fun hb=>?_) fun hb=>?_|fail);all_goals clear Z)
   refine aw_perm (h':=[(g1,.cells 60 7 (ofL (gtc g)))]++gh (some g19) 9 (4*1) (strsF ([kGate,g.name,kindW g.kind]++[rtxt g.dorm]))) (.refl _) ?_
   refine aw_appendG (size:=1) (n:=4) (k:=g.inputs.length) (f:=strsF ([kGate,g.name,kindW g.kind]++[rtxt g.dorm])) (f2:=strsF g.inputs) (f':=strsF (([kGate,g.name,kindW g.kind]++[rtxt g.dorm])++g.inputs)) (og:=some g19) (pre:=[(g1,.cells 60 7 (ofL (gtc g)))]) rfl rfl rfl (by exact tya_e_52) (by exact tya_z_9) rfl om (zE J2) (fun e=>by cases e) (zE J2) (fun _=>.row) (fun j _=>strsF_solid _ j) rfl (by unfold maxLen;omega) om (strs_app ([kGate,g.name,kindW g.kind]++[rtxt g.dorm]) g.inputs) fun og' hn' hg'=> ?_
   rw [show 4+g.inputs.length=(([kGate,g.name,kindW g.kind]++[rtxt g.dorm])++g.inputs).length from by simp;omega] at hn'⊢
   rw [Nat.mul_one]
   generalize ([kGate,g.name,kindW g.kind]++[rtxt g.dorm])++g.inputs=W at*
   have fL:=line_fa false W (by rw [←eL];exact hl)
   refine yS J2 ?_
   refine aw_nd fun hnd=> ?_
   refine aw_callq fL rfl rfl rfl (by refine yS J2 ?_;exact .c (le_gst (pre:=[(g1,.cells 60 7 (ofL (gtc g)))]) hn' hnd)) ?_
   refine ySG J2 ?_
   rw [eX]
   refine yT hC J2 ?_
   exact .one (.c (.str _))
  ·have d7:(g.kind==7)=false:=by simpa using c7
   have eL:gateW g=[kGate,g.name,kindW g.kind]++g.inputs:=by unfold gateW;rw [if_neg c2,if_neg c7];rfl
   have eX:gateX g=lineW ([kGate,g.name,kindW g.kind]++g.inputs):=by rw [←eL];rfl
   all_goals try(have Z:=(oj hn_g1 (oj hn_g9 (oj d2 d7)));(repeat' first|refine zV Z ?_|refine zH Z (fun hb=>?_) fun hb=>?_|fail);all_goals clear Z)
   refine aw_perm (h':=[(g1,.cells 60 7 (ofL (gtc g)))]++gh (some g9) 9 (3*1) (strsF [kGate,g.name,kindW g.kind])) (.refl _) ?_
   refine aw_appendG (size:=1) (n:=3) (k:=g.inputs.length) (f:=strsF [kGate,g.name,kindW g.kind]) (f2:=strsF g.inputs) (f':=strsF ([kGate,g.name,kindW g.kind]++g.inputs)) (og:=some g9) (pre:=[(g1,.cells 60 7 (ofL (gtc g)))]) rfl rfl rfl (by exact tya_e_52) (by exact tya_z_9) rfl om (zE (oj hn_g1 (oj hn_g9 (oj d2 d7)))) (fun e=>by cases e) (zE (oj hn_g1 (oj hn_g9 (oj d2 d7)))) (fun _=>.row) (fun j _=>strsF_solid _ j) rfl (by unfold maxLen;omega) om (strs_app [kGate,g.name,kindW g.kind] g.inputs) fun og' hn' hg'=> ?_
   rw [show 3+g.inputs.length=([kGate,g.name,kindW g.kind]++g.inputs).length from by simp;omega] at hn'⊢
   rw [Nat.mul_one]
   generalize [kGate,g.name,kindW g.kind]++g.inputs=W at*
   have fL:=line_fa false W (by rw [←eL];exact hl)
   have J3:=oj hn_g1 (oj hn_g9 (oj d2 d7))
   refine yS J3 ?_
   refine aw_nd fun hnd=> ?_
   refine aw_callq fL rfl rfl rfl (by refine yS J3 ?_;exact .c (le_gst (pre:=[(g1,.cells 60 7 (ofL (gtc g)))]) hn' hnd)) ?_
   refine ySG J3 ?_
   rw [eX]
   refine yT hC J3 ?_
   exact .one (.c (.str _))
end Go.Proofs.YtnmeahogifekdaaGreatDoor
namespace Go.AI
theorem rowAt_more {P:Program} {fits:TypeId→Bool} {d count:Nat} {e:TypeId} (h1:1≤count) (h:rowAt P fits d e 1 0 1=true):rowAt P fits d e count 0 1=true:=by
 cases d with
 |zero=>cases h
 |succ d=>
  unfold rowAt at h⊢
  dsimp only at h⊢
  by_cases hs:P.cellsOf e=0
  ·rw [if_pos hs] at h;cases h
  ·rw [if_neg hs] at h⊢
   rw [Bool.or_eq_true] at h⊢
   rcases h with h|h
   ·left
    simp only [Bool.and_eq_true,decide_eq_true_eq] at h⊢
    exact⟨⟨h.1.1,by omega⟩,h.2⟩
   ·right
    rw [Bool.and_eq_true] at h⊢
    exact⟨by rw [decide_eq_true_eq,Nat.zero_div];omega,h.2⟩
theorem liesAt_head {P:Program} {e u:TypeId} {count:Nat} (h1:1≤count) (h:rowAt P (fun x=>sameLayout P P.depth x u) P.depth e 1 0 1=true):liesAt P P.depth e count 0 u 1=true:=by
 have hd:P.depth=(2*(P.types.size+Made.depth)+1)+1:=rfl
 have h2:=rowAt_more h1 h
 rw [hd]
 simp only [liesAt,Bool.or_eq_true]
 exact .inl h2
end Go.AI
namespace Go.Proofs.YtnmeahogifekdaaGreatDoor
open Go.AI Go.PN
attribute [local irreducible] aw Fa Fh DrK
theorem blkP (lo:Bool):BlkB 79 [.bool lo]:=⟨fun count h=>liesAt_head h (by kernel_rfl),by kernel_rfl,rfl⟩
theorem put_fh (lo:Bool) (gB:Nat) (a:CV) (og:Option Nat) (B l:List UInt8) (hbd:BdOk a gB og B) (hlen:B.length+l.length+1≤100000000000):
  Fh Tryz.prog 29 (bdH 79 [.bool lo] gB a og B) [.c (.optr gB 0),.c (.str (sB l))]
   (fun x h=>∃og',BdOk (.optr gB 0) gB og' (B++l++[10])∧x=.tup []∧h=bdH 79 [.bool lo] gB (.optr gB 0) og' (B++l++[10])):=by
 refine fh_of_body Tryz.func29 rfl rfl (by simp [Tryz.ntmps29]) fun C hC=> ?_
 simp only [initS,Nat.reduceAdd]
 refine xG ?_
 refine aw_callh (hc:=bdH 79 [.bool lo] gB a og B) (hr:=[]) (wstrG_fh (blkP lo) gB a og B l hbd om) rfl rfl rfl (by rw [List.append_nil]) eL ?_
 rintro _ _ ⟨og1,h1,rfl,rfl⟩ _
 rw [List.append_nil]
 refine xSG ?_
 refine aw_callh (hc:=bdH 79 [.bool lo] gB (.optr gB 0) og1 (B++l)) (hr:=[]) (wbyteG_fh (blkP lo) gB _ og1 (B++l) 10 h1 (by rw [List.length_append];omega)) rfl rfl rfl (by rw [List.append_nil]) eL ?_
 rintro _ _ ⟨og2,h2,rfl,rfl⟩ _
 rw [List.append_nil]
 refine xSG ?_
 refine xV ?_
 exact⟨og2,h2,rfl,rfl⟩
theorem pnumber_fh (lo:Bool) (gB:Nat) (a b:CV) (r:RD) (hw:r.wf 100000):
  Fh Tryz.prog 33 [bldG 79 [.bool lo] gB a b] [.c (.optr gB 0),.agg (rdc r)]
   (fun x h=>x=.c (.str (sB (rtxt r)))∧h=[bldG 79 [.bool (lo||longR r)] gB a b]):=by
 have f1:=rtext_fa r hw
 refine fh_of_body Tryz.func33 rfl rfl (by simp [Tryz.ntmps33]) fun C hC=> ?_
 simp only [initS,Nat.reduceAdd]
 refine xG ?_
 refine xB fun g3 hn_g3=>?_
 repeat' first|refine zV hn_g3 ?_|(refine yC2 hn_g3 (f1) ?_)|(refine yD2 hn_g3 (f1) ?_)|refine zH hn_g3 (fun hb=>?_) fun hb=>?_|fail
 ·subst hb
  refine aw_rethw (h':=[bldG 79 [.bool true] gB a b]) rfl sL fun R r=>?_;simp only[go_sem,hn_g3];refine r _ rfl ?_;clear r R
  exact⟨rfl,rfl⟩
 ·subst hb
  refine aw_rethw (h':=[bldG 79 [.bool (longR r)] gB a b]) rfl sL fun R r=>?_;simp only[go_sem,hn_g3];refine r _ rfl ?_;clear r R
  exact⟨rfl,rfl⟩
theorem pgate_fh (lo:Bool) (gB:Nat) (a b:CV) (g:GtD) (hk1: -9223372036854775808≤g.kind) (hk2:g.kind<9223372036854775808) (hk:g.kind=2→0≤g.k∧g.k<100) (hw:g.dorm.wf 100000) (hl:(gateW g).length+sumW (gateW g) (gateW g).length≤10000000000):
  Fh Tryz.prog 32 [bldG 79 [.bool lo] gB a b] [.c (.optr gB 0),.agg (gtc g)]
   (fun x h=>x=.c (.str (sB (gateX g)))∧h=[bldG 79 [.bool (lo||(decide (g.kind=7)&&longR g.dorm))] gB a b]):=by
 have f1:=gateX_fa g hk1 hk2 hk hw hl
 refine fh_of_body Tryz.func32 rfl rfl (by simp [Tryz.ntmps32]) fun C hC=> ?_
 simp only [initS,Nat.reduceAdd]
 refine xG ?_
 refine xB fun g3 hn_g3=>?_
 by_cases c7:g.kind=7
 ·have d7:(g.kind==7)=true:=by simpa using c7
  have e7:(lo||(decide (g.kind=7)&&longR g.dorm))=(lo||longR g.dorm):=by rw [decide_eq_true c7];rfl
  rw [e7]
  all_goals try(have Z:=(oj hn_g3 d7);(repeat' first|refine zV Z ?_|refine zH Z (fun hb=>?_) fun hb=>?_|fail);all_goals clear Z)
  refine aw_callh (hc:=[bldG 79 [.bool lo] gB a b]) (hr:=[(g3,.cells 60 7 (ofL (gtc g)))]) (pnumber_fh lo gB a b g.dorm hw) rfl rfl rfl (List.Perm.swap _ _ _) (zL (oj hn_g3 d7)) ?_
  rintro _ _ ⟨rfl,rfl⟩ _
  refine(?_:aw _ _ _ [bldG 79 [.bool (lo||longR g.dorm)] gB a b,(g3,.cells 60 7 (ofL (gtc g)))])
  refine yS (oj hn_g3 d7) ?_
  all_goals try(have Z:=(oj hn_g3 d7);(repeat' first|refine zV Z ?_|(refine yC2 Z (f1) ?_)|(refine yD2 Z (f1) ?_)|refine zH Z (fun hb=>?_) fun hb=>?_|fail);all_goals clear Z)
  refine aw_perm (List.Perm.swap _ _ _) ?_
  refine aw_rethw (h':=[bldG 79 [.bool (lo||longR g.dorm)] gB a b]) rfl sL fun R r=>?_;simp only[go_sem,hn_g3,d7];refine r _ rfl ?_;clear r R
  exact⟨rfl,rfl⟩
 ·have d7:(g.kind==7)=false:=by simpa using c7
  have e7:(lo||(decide (g.kind=7)&&longR g.dorm))=lo:=by rw [decide_eq_false c7];simp
  rw [e7]
  all_goals try(have Z:=(oj hn_g3 d7);(repeat' first|refine zV Z ?_|(refine yC2 Z (f1) ?_)|(refine yD2 Z (f1) ?_)|refine zH Z (fun hb=>?_) fun hb=>?_|fail);all_goals clear Z)
  refine aw_rethw (h':=[bldG 79 [.bool lo] gB a b]) rfl sL fun R r=>?_;simp only[go_sem,hn_g3,d7];refine r _ rfl ?_;clear r R
  exact⟨rfl,rfl⟩
end Go.Proofs.YtnmeahogifekdaaGreatDoor
namespace Go.AI
section
variable {E : Env} {K : List It} {l : List Oper} {FP FP' : Heap} {σ σ' : Sl} {h : Heap} {o : Oper}
theorem cw_appendO {i mk:Nat} {cs:List (Nat×Nat)} {t e size bytes n k m g:Nat} {z:List CV} {f f2:Nat→CV} {s x:Operand} {cx:CV} {h2:Heap} (ho:l[i]?=some o) (hop:o.op=.call {callee:=.builtin .append,args:= #[s,x],argTypes:= #[t,t]}) (hw:wantA l σ o=some true) (hd:dstOk E.N o.dst=true)
  (ht:tElem E.P t=some (e,size,bytes)) (hz:tZero E.P e=some z) (hzl:z.length=size) (hs0:0<size) (hs:ev σ s=.c (.osl g size 0 n)) (hg:h.get g=some (.cells e m f)) (hm:n*size≤m) (hx:ev σ x=.c cx) (hsrc:Src h size cx k f2) (hsol:∀j,j<k*size→(f2 j).solid=true) (hk:0<k)
  (h63:n+k≤maxLen) (hby:(n+k)*bytes≤140737488355328) (hh2:h.del g=h2) (hFP:Has0 FP' h2)
  (kk:∀g',g'∉h2.keys→CW E l K FP' cs (σ.setO o.dst (.c (.osl g' size 0 (n+k)))) ((g',.cells e ((n+k)*size) (appF f (n*size) f2))::h2)) (hmk:mk=2∨mk=1∧FP'=FP:=by first|exact .inl rfl|exact .inr ⟨rfl,rfl⟩):CW E l K FP ((i,mk)::cs) σ h:=by
 refine .pin ho hmk (R:=fun r hh=>∃g',g'∉h2.keys∧r=.c (.osl g' size 0 (n+k))∧hh=(g',.cells e ((n+k)*size) (appF f (n*size) f2))::h2) (fun σ' K hsm=> ?_) ?_ ?_
 ·exact aw_append hop ((want_same hsm).trans hw) hd ht hz hzl hs0 ((ev_same (by rw [hop];simp [Op.operands,Call.operands]) hsm).trans hs) hg hm ((ev_same (by rw [hop];simp [Op.operands,Call.operands]) hsm).trans hx) hsrc hsol hk h63 hby hh2 fun g' hg'=>aw_ops_nil (aw_stop ⟨_,⟨g',hg',rfl,rfl⟩,rfl⟩)
 ·rintro r hh ⟨g',_,_,rfl⟩;exact fun p hp=>List.mem_cons_of_mem _ (hFP p hp)
 ·rintro r hh ⟨g',hg',rfl,rfl⟩;exact kk g' hg'
end
end Go.AI
namespace Go.PN
open Go.AI
def evP (x:EvD):List VlD:=[⟨kP,x.p⟩,⟨kFail,x.fail⟩,⟨kRepair,x.rep⟩,⟨kCost,rd (x.cost:Rat)⟩]
theorem evP_F (x:EvD) (j:Nat) (hj:j<16):ofL ((evP x).flatMap vlc) j=vlsF (evP x) j:=by
 match j,hj with
 |0,_|1,_|2,_|3,_|4,_|5,_|6,_|7,_|8,_|9,_|10,_|11,_|12,_|13,_|14,_|15,_=>rfl
 |n+16,h=>exact absurd h om
def evWL (x:EvD) (j:Nat):List BS:=[kEvent,x.name]++((evP x).take j).flatMap fun v=>partW v.event v.p
def evLo (lo:Bool) (x:EvD) (j:Nat):Bool:=lo||((evP x).take j).any fun v=>decide (signQ v.p.q≠0)&&longR v.p
theorem evP_take (x:EvD) (j:Nat) (hj:j<4):(evP x).take (j+1)=(evP x).take j++[(evP x).getD j vl0]:=by
 match j,hj with
 |0,_|1,_|2,_|3,_=>rfl
theorem evWL_succ (x:EvD) (j:Nat) (hj:j<4):evWL x (j+1)=evWL x j++partW ((evP x).getD j vl0).event ((evP x).getD j vl0).p:=by
 unfold evWL
 rw [evP_take x j hj,List.flatMap_append,←List.append_assoc]
 simp
theorem evLo_succ (lo:Bool) (x:EvD) (j:Nat) (hj:j<4):evLo lo x (j+1)=(evLo lo x j||(decide (signQ ((evP x).getD j vl0).p.q≠0)&&longR ((evP x).getD j vl0).p)):=by
 unfold evLo
 rw [evP_take x j hj,List.any_append,←Bool.or_assoc]
 simp
theorem evWL_len (x:EvD):∀j,j≤4→(evWL x j).length≤2+2*j
 |0,_=>Nat.le_refl _
 |j+1,h=>by
  have ih:=evWL_len x j om
  rw [evWL_succ x j om,List.length_append]
  have:(partW ((evP x).getD j vl0).event ((evP x).getD j vl0).p).length≤2:=by unfold partW;split<;>simp
  omega
theorem evWL_end (x:EvD):evWL x 4=evW x:=by
 unfold evWL evW evP
 simp [List.flatMap_cons]
end Go.PN
namespace Go.Proofs.YtnmeahogifekdaaGreatDoor
open Go.AI Go.PN
theorem evP_wf (x:EvD) (hp:x.p.wf 100000) (hf:x.fail.wf 100000) (hr:x.rep.wf 100000) (hc1: -9223372036854775808≤x.cost) (hc2:x.cost<9223372036854775808) (j:Nat) (hj:j<4):((evP x).getD j vl0).p.wf 100000:=by
 match j,hj with
 |0,_=>exact hp
 |1,_=>exact hf
 |2,_=>exact hr
 |3,_=>
  refine wf_mono (L:=2) (rd_wf ⟨?_,by simp⟩) om
  rw [show((x.cost:Int):Rat).num=x.cost from by simp]
  show _<18446744073709551616
  omega
attribute [local irreducible] aw Fa Fh DrK
theorem pevent_fh (lo:Bool) (gB:Nat) (a b:CV) (x:EvD) (hp:x.p.wf 100000) (hf:x.fail.wf 100000) (hr:x.rep.wf 100000) (hc1: -9223372036854775808≤x.cost) (hc2:x.cost<9223372036854775808) (hl:(evW x).length+sumW (evW x) (evW x).length≤10000000000):
  Fh Tryz.prog 31 [bldG 79 [.bool lo] gB a b] [.c (.optr gB 0),.agg (evc x)]
   (fun r h=>r=.c (.str (sB (lineW (evW x))))∧h=[bldG 79 [.bool (evLo lo x 4)] gB a b]):=by
 refine fh_of_body Tryz.func31 rfl rfl (by simp [Tryz.ntmps31]) fun C hC=> ?_
 simp only [initS,Nat.reduceAdd]
 refine xG ?_
 refine xB fun g3 hn_g3=>?_
 repeat' first|refine zV hn_g3 ?_|refine zH hn_g3 (fun hb=>?_) fun hb=>?_|fail
 refine aw_buildSlice (xs:=[.const (.string (sB kEvent)),.tmp 9]) (cells:=[.str (sB kEvent),.str (sB x.name)]) rfl rfl rfl (zE hn_g3) (by refine yS hn_g3 ?_;rfl) rfl om om (by intro z hz;simp only [List.mem_cons,List.not_mem_nil,or_false] at hz;rcases hz with rfl|rfl<;>exact⟨rfl,rfl,rfl⟩) rfl fun g10 hn_g10=> ?_
 replace hn_g10:=Heap.ne_of hn_g10
 dsimp only [Heap.ne] at hn_g10
 have J1:=oj hn_g3 hn_g10
 refine ySG J1 ?_
 refine aw_cw [(g3,.cells 49 11 (ofL (evc x)))] [(0,0),(1,0),(2,0),(3,0),(4,0),(5,0),(6,0),(7,0),(8,0),(9,0),(10,0),(11,0),(12,0),(15,0),(13,1),(14,0)] ty_mixed (by kernel_rfl) (has0_cons (by simp) has0_nil) ?_
 refine yG J1 ?_
 refine cw_callq rfl (rof_fa x.cost hc1 om) rfl rfl rfl (fun _ _=>(zL J1)) ?_
 refine ySG J1 ?_
 refine cw_buildSlice (xs:=[.tmp 13,.tmp 16,.tmp 19,.tmp 23]) (cells:=(evP x).flatMap vlc) rfl rfl rfl rfl (zE J1) (by refine yS J1 ?_;rfl) rfl om om (by intro z hz;simp only [List.mem_cons,List.not_mem_nil,or_false] at hz;rcases hz with rfl|rfl|rfl|rfl<;>exact⟨rfl,rfl,rfl⟩) rfl (by intro z hz;simp only [List.mem_cons,List.not_mem_nil,or_false] at hz;rcases hz with rfl|rfl|rfl|rfl<;>simp [Op.operands]) (has0_cons (by simp) has0_nil) (fun g24 hn_g24=> ?_) (.inr ⟨rfl,rfl⟩)
 replace hn_g24:=Heap.ne_of hn_g24
 dsimp only [Heap.ne] at hn_g24
 have J2:=oj hn_g3 (oj hn_g10 hn_g24)
 refine ySG J2 ?_
 refine aw_conv1 (f':=vlsF (evP x)) (fun j hj=>evP_F x j hj) ?_
 refine aw_conv2 (f':=strsF (evWL x 0)) (fun j hj=>by match j,hj with|0,_=>rw [strsF_0];rfl|1,_=>rw [strsF_0];rfl) ?_
 refine aw_lp (fun z:Nat×Nat=>[(0,.c (.optr gB 0)),(5,.c (.osl z.2 1 0 (evWL x z.1).length)),(24,.c (.osl g24 4 0 4)),(25,.c (.int .i64 4)),(26,.c (.int .i64 z.1))]) (fun z=>[(g24,.cells 140 16 (vlsF (evP x))),(z.2,.cells 9 (evWL x z.1).length (strsF (evWL x z.1))),bldG 79 [.bool (evLo lo x z.1)] gB a b]) (fun z=>z.1≤4) (fun z=>4-z.1) (0,g10) (zB J2) (by dsimp only;exact .cons_cons _ (.cons_cons _ (.cons _ (by unfold evLo;simp)))) (Nat.zero_le _) ?_
 rintro ⟨j,g⟩ hj
 dsimp only at hj⊢
 refine aw_nd fun hnd=> ?_
 by_cases hj4:j<4
 ·have d1:decide (j<4)=true:=decide_eq_true hj4
  have hv5:((evP x).getD j vl0).p.wf 100000:=evP_wf x hp hf hr hc1 hc2 j hj4
  have hv:((evP x).getD j vl0).p.wf 1073741824:=wf_mono hv5 om
  have fs:=rsign_fa _ hv
  simp only [Heap.keys,List.map_cons,List.map_nil,List.nodup_cons,List.mem_cons,List.not_mem_nil,or_false,not_or] at hnd
  obtain⟨⟨a1,a2⟩,a3,_⟩:=hnd
  have b1:=eq_false a1
  have b2:=eq_false a2
  have b3:=eq_false a3
  have b4:=eq_false (Ne.symm a1)
  have b5:=eq_false (Ne.symm a2)
  have b6:=eq_false (Ne.symm a3)
  all_goals try(have Z:=(oj hn_g3 (oj hn_g10 (oj hn_g24 (oj d1 (oj b1 (oj b2 (oj b3 (oj b4 (oj b5 b6)))))))));(repeat' first|refine zV Z ?_|(refine yC2 Z (fs) ?_)|(refine yD2 Z (fs) ?_)|refine zH Z (fun hb=>?_) fun hb=>?_|fail);all_goals clear Z)
  refine yA (oj hn_g3 (oj hn_g10 (oj hn_g24 (oj d1 (oj b1 (oj b2 (oj b3 (oj b4 (oj b5 b6))))))))) fun g7 hn_g7=>?_
  all_goals try(have Z:=(oj hn_g3 (oj hn_g10 (oj hn_g24 (oj d1 (oj b1 (oj b2 (oj b3 (oj b4 (oj b5 (oj b6 hn_g7))))))))));(repeat' first|refine zV Z ?_|(refine yC2 Z (fs) ?_)|(refine yD2 Z (fs) ?_)|refine zH Z (fun hb=>?_) fun hb=>?_|fail);all_goals clear Z)
  ·have eW:evWL x (j+1)=evWL x j++[((evP x).getD j vl0).event,rtxt ((evP x).getD j vl0).p]:=by rw [evWL_succ x j hj4];unfold partW;rw [if_neg hb]
   have eL:evLo lo x (j+1)=(evLo lo x j||longR ((evP x).getD j vl0).p):=by rw [evLo_succ lo x j hj4,decide_eq_true hb];rfl
   have hwl:=evWL_len x j hj
   have hnp:=pnumber_fh (evLo lo x j) gB a b ((evP x).getD j vl0).p hv5
   generalize (evP x).getD j vl0=v at*
   refine aw_cw [(g7,.cells 140 4 (ofL (vlc v)))] [(0,0),(1,0),(2,0),(3,0),(4,0),(5,0),(6,1),(7,1),(8,1),(9,0)] ty_mixed (by kernel_rfl) (has0_cons (by simp) has0_nil) ?_
   have J3:=oj hn_g3 (oj hn_g10 (oj hn_g24 (oj d1 (oj b1 (oj b2 (oj b3 (oj b4 (oj b5 (oj b6 hn_g7)))))))))
   refine yG J3 ?_
   refine cw_callh (hc:=[bldG 79 [.bool (evLo lo x j)] gB a b]) (hr:=[(g7,.cells 140 4 (ofL (vlc v))),(g24,.cells 140 16 (vlsF (evP x))),(g,.cells 9 (evWL x j).length (strsF (evWL x j)))]) rfl hnp rfl rfl rfl (List.perm_append_comm (l₁:=[_,_,_]) (l₂:=[_])) (zL J3) (fun _ _ hq=>by obtain⟨_,rfl⟩:=hq;exact has0_cons (by simp) has0_nil) ?_ (hm:=.inr ⟨rfl,rfl⟩)
   rintro _ _ ⟨rfl,rfl⟩ _
   refine ySG J3 ?_
   refine cw_buildSlice (xs:=[.tmp 36,.tmp 40]) (cells:=[.str (sB v.event),.str (sB (rtxt v.p))]) rfl rfl rfl rfl (zE J3) (by refine yS J3 ?_;rfl) rfl om om (by intro z hz;simp only [List.mem_cons,List.not_mem_nil,or_false] at hz;rcases hz with rfl|rfl<;>exact⟨rfl,rfl,rfl⟩) rfl (by intro z hz;simp only [List.mem_cons,List.not_mem_nil,or_false] at hz;rcases hz with rfl|rfl<;>simp [Op.operands]) (has0_cons (by simp) has0_nil) (fun g41 hn_g41=> ?_) (.inr ⟨rfl,rfl⟩)
   replace hn_g41:=Heap.ne_of hn_g41
   dsimp only [Heap.ne] at hn_g41
   have J4:=oj hn_g3 (oj hn_g10 (oj hn_g24 (oj d1 (oj b1 (oj b2 (oj b3 (oj b4 (oj b5 (oj b6 (oj hn_g7 hn_g41))))))))))
   refine ySG J4 ?_
   refine cw_appendO (size:=1) (n:=(evWL x j).length) (k:=2) (m:=(evWL x j).length) (g:=g) (f:=strsF (evWL x j)) (f2:=strsF [v.event,rtxt v.p]) (cx:=.osl g41 1 0 2) (h2:=[(g41,.cells 9 2 (ofL [.str (sB v.event),.str (sB (rtxt v.p))])),bldG 79 [.bool (evLo lo x j||longR v.p)] gB a b,(g7,.cells 140 4 (ofL (vlc v))),(g24,.cells 140 16 (vlsF (evP x)))]) rfl rfl rfl rfl (by exact tya_e_52) (by exact tya_z_9) rfl om (zE J4) (zE J4) om (zE J4)
    (.osl (m:=2) (ty:=9) (f':=ofL [.str (sB v.event),.str (sB (rtxt v.p))]) (zE J4) om (fun q hq=>by match q,hq with|0,_=>rw [strsF_0];rfl|1,_=>rw [strsF_0];rfl)) (fun q _=>strsF_solid _ q) om (by unfold maxLen;omega) om (zE J4) (has0_cons (by simp) has0_nil) (fun g42 hn_g42=> ?_) (.inr ⟨rfl,rfl⟩)
   refine ySG J4 ?_
   refine aw_weak (h':=[(g42,.cells 9 ((evWL x j).length+2) (appF (strsF (evWL x j)) (evWL x j).length (strsF [v.event,rtxt v.p]))),bldG 79 [.bool (evLo lo x j||longR v.p)] gB a b,(g24,.cells 140 16 (vlsF (evP x)))]) (Sl.le_refl _) (.cons_cons _ (.cons _ (.cons_cons _ (.cons _ (.cons_cons _ .slnil))))) ?_
   refine aw_conv1 (f':=strsF (evWL x (j+1))) (fun q hq=>by rw [eW];have:=strs_app (evWL x j) [v.event,rtxt v.p] q (by simpa using hq);simpa using this) ?_
   rw [show(evWL x j).length+2=(evWL x (j+1)).length from by rw [eW];simp]
   refine aw_perm (List.perm_append_comm (l₁:=[_,_]) (l₂:=[_])) ?_
   exact aw_stop ⟨(j+1,g42),by dsimp only;omega,(zB J4),by dsimp only;rw [eL];exact List.Sublist.refl _,by dsimp only;omega⟩
  ·have eW:evWL x (j+1)=evWL x j:=by rw [evWL_succ x j hj4];unfold partW;rw [if_pos hb,List.append_nil]
   have eL:evLo lo x (j+1)=evLo lo x j:=by rw [evLo_succ lo x j hj4,decide_eq_false (fun e=>e hb)];simp
   refine aw_stop ⟨(j+1,g),by dsimp only;omega,?_,?_,by dsimp only;omega⟩
   ·dsimp only;rw [eW];exact(zB (oj hn_g3 (oj hn_g10 (oj hn_g24 (oj d1 (oj b1 (oj b2 (oj b3 (oj b4 (oj b5 (oj b6 hn_g7)))))))))))
   ·dsimp only;rw [eW,eL];exact List.sublist_cons_self _ _
 ·have d1:decide (j<4)=false:=decide_eq_false hj4
  have e4:j=4:=by omega
  subst e4
  rw [evWL_end]
  have fL:=line_fa false (evW x) hl
  all_goals try(have Z:=(oj hn_g3 (oj hn_g10 (oj hn_g24 d1)));(repeat' first|refine zV Z ?_|refine zH Z (fun hb=>?_) fun hb=>?_|fail);all_goals clear Z)
  refine aw_perm (h':=[(g24,.cells 140 16 (vlsF (evP x))),bldG 79 [.bool (evLo lo x 4)] gB a b]++gh (some g) 9 (evW x).length (strsF (evW x))) (List.Perm.cons _ (List.Perm.swap _ _ _)) ?_
  refine aw_nd fun hnd2=> ?_
  refine aw_callq fL rfl rfl rfl (by refine yS (oj hn_g3 (oj hn_g10 (oj hn_g24 d1))) ?_;exact .c (le_gst (og:=some g) (pre:=[(g24,.cells 140 16 (vlsF (evP x))),bldG 79 [.bool (evLo lo x 4)] gB a b]) (fun e=>by cases e) hnd2)) ?_
  have J5:=oj hn_g3 (oj hn_g10 (oj hn_g24 d1))
  refine ySG J5 ?_
  refine aw_weak (h':=[bldG 79 [.bool (evLo lo x 4)] gB a b]) (Sl.le_refl _) (.cons _ (.cons_cons _ (.cons _ .slnil))) ?_
  refine yU J5 ?_
  exact⟨rfl,rfl⟩
end Go.Proofs.YtnmeahogifekdaaGreatDoor
namespace Go.PN
open Go.AI
theorem splitT_len {l:BS} (B:Nat):∀(n i:Nat) (out:List TK),out.length+(l.length-i)≤B→(splitT l n i out).2.length≤B
 |0,_,_,h=>by unfold splitT;dsimp only;omega
 |n+1,i,out,h=>by
  unfold splitT
  by_cases hi:i<l.length
  ·rw [if_pos hi]
   cases hs:stepT l i with
   |err c=>exact Nat.zero_le _
   |skip e=>
    have:=stepT_skip hi hs
    exact splitT_len B n e out om
   |tok k e=>
    have:=stepT_tok hi hs
    exact splitT_len B n e _ (by rw [List.length_append,List.length_singleton];omega)
  ·rw [if_neg hi];dsimp only;omega
theorem splitT_txt {l:BS}:∀(n i:Nat) (out:List TK),(∀t∈out,t.text.length≤l.length)→∀t∈(splitT l n i out).2,t.text.length≤l.length
 |0,_,_,h=>h
 |n+1,i,out,h=>by
  unfold splitT
  by_cases hi:i<l.length
  ·rw [if_pos hi]
   cases hs:stepT l i with
   |err c=>exact fun _ h=>by cases h
   |skip e=>exact splitT_txt n e out h
   |tok k e=>
    have hh:=stepT_tok hi hs
    refine splitT_txt n e _ fun t ht=> ?_
    rcases List.mem_append.1 ht with e'|e'
    ·exact h t e'
    ·rw [List.mem_singleton.1 e']
     show(cutS l i e).length≤_
     rw [cutS_len hh.2];omega
  ·rw [if_neg hi];exact h
theorem splitS_len (l:BS):(splitS l).2.length≤65536:=by
 unfold splitS
 split
 ·exact Nat.zero_le _
 ·exact splitT_len 65536 _ _ _ (by simp;omega)
theorem splitS_txt (l:BS):∀t∈(splitS l).2,t.text.length≤65536:=by
 unfold splitS
 split
 ·exact fun _ h=>by cases h
 ·exact fun t ht=>Nat.le_trans (splitT_txt _ _ _ (fun _ h=>by cases h) t ht) om
end Go.PN
namespace Go.PN
open Go.AI
inductive LexOk (t:TK):Prop where
 |word (k:t.kind=0) (h0:0<t.text.length) (h1:t.text.length≤24) (h2:isLet (bAt t.text 0)=true) (h3:∀j,j<t.text.length→isIns (bAt t.text j)=true)
 |num (k:t.kind=1) (h0:0<t.text.length) (hd:isDig (bAt t.text 0)=true) (h1:NumF t.text)
 |sgn (k:t.kind=2) (h0:t.text.length=1) (h1:isSgn (bAt t.text 0)=true)
end Go.PN
namespace Go.PN
open Go.AI
def endB (l:BS):Prop:=l=[]∨isIns (bAt l 0)=false∧bAt l 0≠47
inductive Lx:BS→List TK→Prop where
 |nil:Lx [] []
 |blank (b:UInt8) (l:BS) (ts:List TK):isBlk b.toNat=true→Lx l ts→Lx (b::l) ts
 |note (c l:BS) (ts:List TK):(∀x∈c,x.toNat≠10)→Lx l ts→Lx (35::(c++10::l)) ts
 |tok (t:TK) (l:BS) (ts:List TK):LexOk t→endB l→Lx l ts→Lx (t.text++l) (t::ts)
 |sgn (b:UInt8) (l:BS) (ts:List TK):isSgn b.toNat=true→Lx l ts→Lx (b::l) (⟨2,[b]⟩::ts)
end Go.PN
namespace Go.PN
open Go.AI
variable {α β : Type}
structure NumOk (r:RD):Prop where
 w:r.wf 1073741824
 v:r.valid=true
 q:0≤r.q
 l:(rtxt r).length≤100
def EvOk (x:EvD):Prop:=nameOk x.name=true∧NumOk x.p∧NumOk x.fail∧NumOk x.rep∧0≤x.cost∧x.cost≤1073741824
def InpOk (i:BS):Prop:=(bAt i 0=64∧nameOk (i.drop 1)=true∧0<i.length)∨nameOk i=true
def GtOk (g:GtD):Prop:=nameOk g.name=true∧0≤g.kind∧g.kind≤8∧0≤g.k∧g.k≤16∧(g.kind≠2→g.k=0)∧NumOk g.dorm∧(g.kind≠7→g.dorm=rd0)∧∀i∈g.inputs,InpOk i
def PgOk (x:PgD):Prop:=nameOk x.name=true∧InpOk x.top∧∀g∈x.gates,GtOk g
def GrOk (x:GrD):Prop:=nameOk x.name=true∧(x.kind=0∨x.kind=1)∧(∀n∈x.members,nameOk n=true)∧∀r∈x.factors,NumOk r
def VlOk (v:VlD):Prop:=nameOk v.event=true∧NumOk v.p
def PhOk (x:PhD):Prop:=nameOk x.name=true∧InpOk x.top∧∀v∈x.values,VlOk v
structure MdB (m:MdD):Prop where
 nm:nameOk m.name=true
 tp:InpOk m.top
 ev:∀x∈m.events,EvOk x
 hs:∀x∈m.houses,nameOk x.name=true
 gt:∀x∈m.gates,GtOk x
 pg:∀x∈m.pages,PgOk x
 gr:∀x∈m.groups,GrOk x
 ph:∀x∈m.phases,PhOk x
theorem sign_zero {r:RD} (h:NumOk r) (hs:signQ r.q=0):r=rd0:=by
 have hq:r.q=0:=by
  unfold signQ at hs
  split at hs
  ·assumption
  ·split at hs<;>cases hs
 have:=rd_self h.w h.v
 rw [hq] at this
 rw [←this];decide+kernel
end Go.PN
namespace Go.PN
open Go.AI
theorem decB_len:∀(k n:Nat),n<10^(k+1)→(decB n).length≤k+1
 |0,n,h=>by rw [decB_lt (by simpa using h)];simp
 |k+1,n,h=>by
  by_cases h10:n<10
  ·rw [decB_lt h10];simp
  ·have:=decB_len k (n/10) (by rw [Nat.pow_succ] at h;omega)
   rw [decB_ge om,List.length_append]
   simp;omega
theorem rtxt_int {c:Int} (h0:0<c):rtxt (rd (c:Rat))=decB c.natAbs:=by
 have e1:((c:Int):Rat).num=c:=Rat.num_intCast c
 have e2:((c:Int):Rat).den=1:=Rat.den_intCast c
 have hr:rd (c:Rat)=⟨false,words c.natAbs,words 1⟩:=by
  unfold rd
  rw [e1,e2,if_neg om,decide_eq_false om]
 have hne:(words c.natAbs).length≠0:=by
  intro e
  have:=val_words c.natAbs
  rw [List.length_eq_zero_iff.1 e] at this
  have:0=c.natAbs:=this
  omega
 have hs:(rd (c:Rat)).some=true:=by
  unfold RD.some
  rw [rd_valid,hr]
  simpa using hne
 have a1:(rd (c:Rat)).ps=false:=by unfold RD.ps;rw [if_pos hs,hr]
 have a2:(rd (c:Rat)).pn=c.natAbs:=by unfold RD.pn;rw [if_pos hs,hr];exact val_words _
 have a3:(rd (c:Rat)).pd=1:=by unfold RD.pd;rw [if_pos hs,hr];exact val_words _
 unfold rtxt
 rw [a1,a2,a3,if_neg (by simp),if_pos rfl,List.append_nil,txtN_dec]
theorem sign_int (c:Int):signQ (rd (c:Rat)).q=0↔c=0:=by
 rw [rd_q]
 unfold signQ
 constructor
 ·intro h
  split at h
  ·rename_i e;exact_mod_cast e
  ·split at h<;>cases h
 ·intro h
  subst h
  rw [if_pos (by rfl)]
end Go.PN
namespace Go.PN
open Go.AI
variable {β : Type}
def Wd (w:BS) (ts:List TK):Prop:=∀l us,endB l→Lx l us→Lx (w++l) (ts++us)
inductive WL:List BS→List TK→Prop where
 |nil:WL [] []
 |cons {w:BS} {t:List TK} {ws:List BS} {ts:List TK}:Wd w t→WL ws ts→WL (w::ws) (t++ts)
theorem WL.app {ws vs:List BS} {ts us:List TK} (h:WL ws ts) (h2:WL vs us):WL (ws++vs) (ts++us):=by
 induction h with
 |nil=>exact h2
 |cons hw _ ih=>rw [List.cons_append,List.append_assoc];exact .cons hw ih
end Go.PN
namespace Go.Proofs.YtnmeahogifekdaaGreatDoor
open Go.AI Go.PN
attribute [local irreducible] aw Fa Fh DrK
theorem resolve_fa (m:MdD) (k:Nat) (n:BS) (hk:k≤m.pages.length) (hm:MdOk m) (hw2:MdWf2 m) (h0:0<n.length) (hn:n.length≤1099511627776) (hpg:bAt n 0=64→0≤pgI m (n.drop 1)):Fa Tryz.prog 137 [.agg (mdc true m),.c (.int .i64 ((k:Int)-1)),.c (.str (sB n))] (thA (resP m k n)):=by
 have hpl:=hw2.pl
 refine fa_of_body Tryz.func137 rfl rfl (by simp [Tryz.ntmps137]) fun C hC=> ?_
 simp only [initS,Nat.reduceAdd]
 repeat' first|refine zV o0 ?_|refine zH o0 (fun hb=>?_) fun hb=>?_|fail
 refine xB fun g1 hn_g1=>?_
 repeat' first|refine zV hn_g1 ?_|refine zH hn_g1 (fun hb=>?_) fun hb=>?_|fail
 refine yA hn_g1 fun g2 hn_g2=>?_
 all_goals try(have Z:=(oj hn_g1 hn_g2);(repeat' first|refine zV Z ?_|refine zH Z (fun hb=>?_) fun hb=>?_|fail);all_goals clear Z)
 ·have h64:=hb
  obtain⟨q,hq⟩:∃q:Nat,pgI m (n.drop 1)=q:=⟨(pgI m (n.drop 1)).toNat,by have:=hpg h64;omega⟩
  have hql:q<m.pages.length:=by
   have:=fidx_lt (fun x:PgD=>x.name==n.drop 1) m.pages
   rw [show fidx (fun x:PgD=>x.name==n.drop 1) m.pages=(q:Int) from hq] at this
   omega
  have f1:=page_fa m (cutS n 1 n.length) hm.pg
  rw [cutS_drop,show fidx (fun x:PgD=>x.name==n.drop 1) m.pages=(q:Int) from hq,←cutS_drop] at f1
  have e1:resP m k n=resA m (q+1) (m.pages.getD q pg0).top:=by
   unfold resP resK resN
   rw [if_pos h64,if_pos h64,hq]
   rfl
  rw [e1]
  have hgl:=gtsK_len hw2 (q+1)
  have f4:=gatesOf_fa m (q+1) om hm.pg
  rw [show((q+1:Nat):Int)-1=q from by omega] at f4
  refine aw_dr 5 ty_mixed (by kernel_rfl) ?_
  all_goals try(have Z:=(oj hn_g1 hn_g2);(repeat' first|refine zV Z ?_|(refine yC2 Z (f1) ?_)|(refine yD2 Z (f1) ?_)|refine zH Z (fun hb=>?_) fun hb=>?_|fail);all_goals clear Z)
  generalize hN:(m.pages.getD q pg0).top=N at*
  have f2:=event_fa m N hm.ev
  have f3:=house_fa m N hm.hs
  have f5:=gate_fa (gtsK m (q+1)) N om
  all_goals try(have Z:=(oj hn_g1 hn_g2);(repeat' first|refine zV Z ?_|(refine yC2 Z (f2) ?_)|(refine yD2 Z (f2) ?_)|(refine yC2 Z (f3) ?_)|(refine yD2 Z (f3) ?_)|(refine yC2 Z (f4) ?_)|(refine yD2 Z (f4) ?_)|(refine yC2 Z (f5) ?_)|(refine yD2 Z (f5) ?_)|refine zH Z (fun hb=>?_) fun hb=>?_|fail);all_goals clear Z)
  ·refine yT hC (oj hn_g1 hn_g2) ?_
   rw [show resA m (q+1) N=(0,0,evI m N) from if_pos hb]
   exact .one (.agg ⟨.int _ _,.int _ _,.int _ _,trivial⟩)
  ·rename_i h1
   refine yT hC (oj hn_g1 hn_g2) ?_
   rw [show resA m (q+1) N=(1,0,hsI m N) from(if_neg h1).trans (if_pos hb)]
   exact .one (.agg ⟨.int _ _,.int _ _,.int _ _,trivial⟩)
  ·rename_i h1
   refine yT hC (oj hn_g1 hn_g2) ?_
   rw [show resA m (q+1) N=(2,(((q+1):Nat):Int)-1,gtI (gtsK m (q+1)) N) from(if_neg h1).trans (if_neg hb)]
   exact .one (.agg ⟨.int _ _,ler_int (by dsimp only;omega),.int _ _,trivial⟩)
 ·have e1:resP m k n=resA m k n:=by
   unfold resP resK resN
   rw [if_neg hb,if_neg hb]
  rw [e1]
  clear e1 hpg
  generalize n=N at*
  have hgl:=gtsK_len hw2 k
  have f4:=gatesOf_fa m k hk hm.pg
  have f2:=event_fa m N hm.ev
  have f3:=house_fa m N hm.hs
  have f5:=gate_fa (gtsK m k) N om
  all_goals try(have Z:=(oj hn_g1 hn_g2);(repeat' first|refine zV Z ?_|(refine yC2 Z (f2) ?_)|(refine yD2 Z (f2) ?_)|(refine yC2 Z (f3) ?_)|(refine yD2 Z (f3) ?_)|(refine yC2 Z (f4) ?_)|(refine yD2 Z (f4) ?_)|(refine yC2 Z (f5) ?_)|(refine yD2 Z (f5) ?_)|refine zH Z (fun hb=>?_) fun hb=>?_|fail);all_goals clear Z)
  ·refine yT hC (oj hn_g1 hn_g2) ?_
   rw [show resA m k N=(0,0,evI m N) from if_pos hb]
   exact .one (.agg ⟨.int _ _,.int _ _,.int _ _,trivial⟩)
  ·rename_i h1
   refine yT hC (oj hn_g1 hn_g2) ?_
   rw [show resA m k N=(1,0,hsI m N) from(if_neg h1).trans (if_pos hb)]
   exact .one (.agg ⟨.int _ _,.int _ _,.int _ _,trivial⟩)
  ·rename_i h1
   refine yT hC (oj hn_g1 hn_g2) ?_
   rw [show resA m k N=(2,((k:Nat):Int)-1,gtI (gtsK m k) N) from(if_neg h1).trans (if_neg hb)]
   exact .one (.agg ⟨.int _ _,.int _ _,.int _ _,trivial⟩)
end Go.Proofs.YtnmeahogifekdaaGreatDoor
namespace Go.AI
def kvSet {α:Type} [DecidableEq α] (a:α) (v:Value):List (α×Value)→List (α×Value)
 |[]=>[]
 |p::kv=>if a=p.1 then(p.1,v)::kv else p::kvSet a v kv
theorem modSpec {α:Type} [DecidableEq α] {K:α→Value} (a:α) (v:Value):∀(kv:List (α×Value)) (es:List MapEntry) (n i:Nat) (x:Value),es.map (fun e=>(e.key,e.val))=kv.map (fun p=>(K p.1,p.2))→fAsk a (kv.map (·.1)) es n=some (i,x)→∃j,i=n+j∧(es[j]?).map (·.key)=some (K a)∧(es.modify j (fun e=>{e with key:=K a,val:=v})).map (fun e=>(e.key,e.val))=(kvSet a v kv).map (fun p=>(K p.1,p.2))
 |[],[],_,_,_,_,h=>by cases h
 |[],_::_,_,_,_,h,_=>by simp at h
 |_::_,[],_,_,_,h,_=>by simp at h
 |p::kv,e::es,n,i,x,h,hf=>by
  simp only [List.map_cons,List.cons.injEq,Prod.mk.injEq] at h
  simp only [List.map_cons,fAsk] at hf
  split at hf
  ·rename_i ha
   injection hf with hf
   injection hf with h1 h2
   refine⟨0,h1.symm,?_,?_⟩
   ·simp [h.1.1,ha]
   ·simp only [kvSet,if_pos ha]
    simp [h.2,ha]
  ·rename_i ha
   obtain⟨j,hj,hk,hm⟩:=modSpec a v kv es (n+1) i x h.2 hf
   refine⟨j+1,by omega,by simpa using hk,?_⟩
   simp only [kvSet,if_neg ha]
   simp [hm,h.1.1,h.1.2]
section
variable {E : Env} {K : List It} {σ σ' : Sl} {h : Heap} {all rest : List Oper} {o : Oper}
theorem aw_mapSet {α:Type} [DecidableEq α] {Kf:α→Value} {t kt et g:TypeId} {kv:List (α×Value)} {x ky vl:Operand} {ck cv:AV} {a:α} {v:Value} (hop:o.op=.mapUpdate t x ky vl) (hdn:o.dst=none) (hw:wantA all σ o=some true)
  (ht:tMap E.P t=some (kt,et)) (hK:KeyOk E.P kt Kf) (hsb:Instr.sameBits 10000 (Kf a) (Kf a)=true) (hx:ev σ x=.c (.raw (.map (some g)))) (hg:h.get g=some (.gen (MapI Kf kv))) (hk:ev σ ky=ck) (hka:∀S w u,Rep S w ck u→u=Kf a) (hv:ev σ vl=cv) (hva:∀S w u,Rep S w cv u→u=v)
  (hold:(kvGet a kv).isSome=true) {h':Heap} (hh:h.set g (.gen (MapI Kf (kvSet a v kv)))=h') (k:aw E (.ops all rest::K) σ h'):aw E (.ops all (o::rest)::K) σ h:=by
 subst hh
 refine aw_step hw (fun ac w s=> ?_) k
 have h1:=ev_rep s x
 rw [hx] at h1
 have h1':ac.eval x=.map (some g):=h1
 have h2:=ev_rep s ky
 rw [hk] at h2
 have h2':=hka _ _ _ h2
 have h3:=ev_rep s vl
 rw [hv] at h3
 have h3':=hva _ _ _ h3
 obtain⟨ob,hb,es,c,rfl,hes⟩:=s.heap g _ (Heap.get_mem hg)
 have hkeys:es.toList.map (·.key)=(kv.map (·.1)).map Kf:=by
  have:=congrArg (List.map Prod.fst) hes
  rw [List.map_map,List.map_map] at this
  rw [List.map_map]
  exact this
 have hfind:=hK.find a (kv.map (·.1)) es.toList w hkeys
 have hget:=fAsk_get (K:=Kf) a kv es.toList 0 hes
 obtain⟨i,y,hsome⟩:∃i y,fAsk a (kv.map (·.1)) es.toList 0=some (i,y):=by
  cases hf:fAsk a (kv.map (·.1)) es.toList 0 with
  |none=>rw [hf] at hget;rw [←hget] at hold;cases hold
  |some p=>exact⟨p.1,p.2,rfl⟩
 obtain⟨j,hj,hkj,hmod⟩:=modSpec (K:=Kf) a v kv es.toList 0 i y hes hsome
 rw [Nat.zero_add] at hj
 subst hj
 have hgl:g<w.heap.size:=(Array.getElem?_eq_some_iff.1 hb).1
 let w':World:={w with heap:=w.heap.setIfInBounds g (.map (es.modify i fun e=>{e with key:=Kf a,val:=v}) c)}
 have hki:((es[i]?).map (·.key)).getD (Kf a)=Kf a:=by
  rw [←Array.getElem?_toList,hkj];rfl
 have hrun:(Instr.mapUpdate t (ac.eval x) (ac.eval ky) (ac.eval vl)).run E.P w=.ok () w':=by
  rw [h1',h2',h3']
  unfold Instr.mapUpdate
  simp only [Sem.run_bind,run_underlying (tMap_spec ht),Result.andThen_ok,runGet hb,hK.check,hfind,hsome,hki]
  unfold Instr.keyThatStays
  rw [if_pos hsb]
  simp only [Sem.run_pure,Result.andThen_ok,runSet _ hb]
  rfl
 refine⟨undef,w',.inr ⟨?_,rfl⟩,?_⟩
 ·simp only [execOp,hop,Sem.run_bind,hrun,Result.andThen_ok]
  rfl
 ·rw [hdn]
  have hfr:Fr (fun b=>b=g) w w':=by
   refine⟨rfl,rfl,rfl,by simp [w'],Nat.le_refl _,fun b _ hne=> ?_,fun g' m hh=> ?_⟩
   ·simp only [w'];rw [Array.getElem?_setIfInBounds_ne (fun e=>hne e.symm)]
   ·obtain⟨cs,ty,⟨fr,hc⟩,hs⟩:=hh
    refine⟨cs,ty,⟨fr,?_⟩,hs⟩
    have hne:g'≠g:=fun e=>by rw [e,hb] at hc;cases hc
    simp only [w']
    rw [Array.getElem?_setIfInBounds_ne (fun e=>hne e.symm)];exact hc
  refine s.setObj hg hfr ⟨_,by simp only [w'];rw [Array.getElem?_setIfInBounds_self_of_lt hgl],_,_,rfl,?_⟩
  rw [Array.toList_modify]
  exact hmod
end
end Go.AI
namespace Go.PN
open Go.AI
def keyT (t:Th):Value:=keyZ [t.1,t.2.1,t.2.2]
theorem keyT_ok {P:Program} {kt:TypeId} (ht:tEqS P kt=some 3):KeyOk P kt keyT:=by
 have h:=keyZ_ok ht
 have hj:∀a b:Th,((⟨[a.1,a.2.1,a.2.2],rfl⟩:{l:List Int//l.length=3})=⟨[b.1,b.2.1,b.2.2],rfl⟩)↔a=b:=fun a b=>by
  obtain⟨a1,a2,a3⟩:=a
  obtain⟨b1,b2,b3⟩:=b
  simp
 refine⟨fun b a w=>h.check b ⟨[a.1,a.2.1,a.2.2],rfl⟩ w,fun a ks es w he=> ?_⟩
 have:=h.find ⟨[a.1,a.2.1,a.2.2],rfl⟩ (ks.map fun k=>⟨[k.1,k.2.1,k.2.2],rfl⟩) es w (by rw [he,List.map_map];rfl)
 have e:∀(ks:List Th) (es:List MapEntry) (i:Nat),fAsk (⟨[a.1,a.2.1,a.2.2],rfl⟩:{l:List Int//l.length=3}) (ks.map fun k=>⟨[k.1,k.2.1,k.2.2],rfl⟩) es i=fAsk a ks es i:=by
  intro ks
  induction ks with
  |nil=>intro es i;rfl
  |cons k ks ih=>
   intro es i
   cases es with
   |nil=>rfl
   |cons x es=>
    simp only [List.map_cons,fAsk,hj]
    rw [ih]
 rw [e] at this
 exact this
theorem keyT_bits (t:Th):Instr.sameBits 10000 (keyT t) (keyT t)=true:=by
 show Instr.sameBits (9999+1) (keyT t) (keyT t)=true
 unfold Instr.sameBits keyT keyZ
 simp [Instr.sameBits]
def kvT (st:List (Th×Int)):List (Th×Value):=st.map fun p=>(p.1,.int .i64 p.2)
theorem kvT_get (t:Th):∀st:List (Th×Int),(kvGet t (kvT st)).getD (.int .i64 0)=.int .i64 (stGet t st)
 |[]=>rfl
 |p::st=>by
  show(if t=p.1 then some (Value.int .i64 p.2) else kvGet t (kvT st)).getD (.int .i64 0)=Value.int .i64 (if t=p.1 then p.2 else stGet t st)
  split
  ·rfl
  ·exact kvT_get t st
theorem kvT_none {t:Th}:∀{st:List (Th×Int)},t∉st.map (·.1)→kvGet t (kvT st)=none
 |[],_=>rfl
 |p::st,h=>by
  show(if t=p.1 then some (Value.int .i64 p.2) else kvGet t (kvT st))=none
  rw [if_neg (fun e=>h (by rw [e];exact List.mem_cons_self))]
  exact kvT_none fun z=>h (List.mem_cons_of_mem _ z)
theorem kvT_some {t:Th}:∀{st:List (Th×Int)},t∈st.map (·.1)→(kvGet t (kvT st)).isSome=true
 |p::st,h=>by
  show(if t=p.1 then some (Value.int .i64 p.2) else kvGet t (kvT st)).isSome=true
  split
  ·rfl
  ·rename_i e
   exact kvT_some ((List.mem_cons.1 h).resolve_left e)
theorem kvT_set (t:Th) (v:Int):∀st:List (Th×Int),kvSet t (.int .i64 v) (kvT st)=kvT (stSet t v st)
 |[]=>rfl
 |p::st=>by
  show(if t=p.1 then _ else _)=kvT (if t=p.1 then _ else _)
  split
  ·rfl
  ·show _::kvSet t (.int .i64 v) (kvT st)=_::kvT (stSet t v st)
   rw [kvT_set t v st]
theorem kvT_app (st:List (Th×Int)) (t:Th) (v:Int):kvT st++[(t,.int .i64 v)]=kvT (st++[(t,v)]):=by
 unfold kvT;rw [List.map_append];rfl
theorem thA_rep {S:Bool→Nat→Prop} {w:World} {t:Th} {v:Value} (h:Rep S w (thA t) v):v=keyT t:=by
 obtain⟨cs,rfl,h⟩:=h
 match cs,h with
 |[a,b,c],⟨h1,h2,h3,_⟩=>
  have h1:a=_:=h1
  have h2:b=_:=h2
  have h3:c=_:=h3
  subst h1 h2 h3
  rfl
structure CyOk (m:MdD):Prop where
 ok:Go.Proofs.YtnmeahogifekdaaGreatDoor.MdOk m
 w2:MdWf2 m
 ins:InsOk m
 len:∀k i j,(((gtsK m k).getD i gt0).inputs.getD j []).length≤1099511627776
end Go.PN
namespace Go.Proofs.YtnmeahogifekdaaGreatDoor
open Go.AI Go.PN
attribute [local irreducible] aw Fa Fh DrK
theorem ty_thing:tMap Tryz.prog 131=some (134,3):=by kernel_rfl
theorem ty_thingK:tEqS Tryz.prog 134=some 3:=by kernel_rfl
theorem ty_int0:tZ1 Tryz.prog 3=some (.int .i64 0):=by kernel_rfl
abbrev fvN (f:FuncId):AV:=.c (.raw (.func (.func f) #[] #[]))
theorem walk_fg (m:MdD) (hc:CyOk m) (fE:FuncId) (hE:∀t:Th,Fa Tryz.prog fE [thA t] (.tup [])) (g:Nat):∀(n:Nat) (st:List (Th×Int)) (stk fin:List Th) (t:Th),DInv leafT (sucT m) (nodesT m) st stk fin→(nodesT m).length<n+st.length→(leafT t=true∨t∈nodesT m)→(∀h,stk.head?=some h→t∈sucT m h)→
  Fg Tryz.prog 89 g (.gen (MapI keyT (kvT st))) [.agg (mdc true m),thA t,.c (.raw (.map (some g))),fvN fE] (.c (.bool (walkT m n st t).1)) (.gen (MapI keyT (kvT (walkT m n st t).2))):=by
 intro n
 induction n with
 |zero=>
  intro st stk fin t hi hn _ _
  have:=nodup_len hi.nd hi.sub
  rw [List.length_map] at this
  omega
 |succ n ih=>
  intro st stk fin t hi hn ht hh
  have hE':=hE t
  unfold Fg
  by_cases hl:leafT t=true
  ·have ht2:t.1≠2:=by unfold leafT at hl;simpa using hl
   have hr:walkT m (n+1) st t=(false,st):=by
    unfold walkT walkD
    rw [if_pos hl]
   rw [hr]
   refine fh_of_body Tryz.func89 rfl rfl (by simp [Tryz.ntmps89]) fun C hC=> ?_
   simp only [initS,Nat.reduceAdd]
   repeat' first|refine zV o0 ?_|refine zH o0 (fun hb=>?_) fun hb=>?_|fail
   refine xB fun g4 hn_g4=>?_
   repeat' first|refine zV hn_g4 ?_|refine zH hn_g4 (fun hb=>?_) fun hb=>?_|fail
   refine yB hn_g4 fun g5 hn_g5=>?_
   all_goals try(have Z:=(oj hn_g4 hn_g5);(repeat' first|refine zV Z ?_|refine zH Z (fun hb=>?_) fun hb=>?_|fail);all_goals clear Z)
   ·refine aw_callqv hE' rfl rfl rfl (zE (oj hn_g4 hn_g5)) (zL (oj hn_g4 hn_g5)) ?_
    refine yS (oj hn_g4 hn_g5) ?_
    all_goals try(have Z:=(oj hn_g4 hn_g5);(repeat' first|refine zV Z ?_|refine zH Z (fun hb=>?_) fun hb=>?_|fail);all_goals clear Z)
    refine aw_rethw (h':=[(g,.gen (MapI keyT (kvT st)))]) rfl sL fun R r=>?_;simp only[go_sem,hn_g4,hn_g5];refine r _ rfl ?_;clear r R
    exact⟨rfl,rfl⟩
   ·exfalso;exact ht2 hb
  have htn:t∈nodesT m:=ht.resolve_left hl
  have hsuc:∀x∈sucT m t,leafT x=true∨x∈nodesT m:=suc_nodes hc.ins t htn
  have hw:=walk_ok leaf_nodes (suc_nodes hc.ins) (n+1) st stk fin t hi hn ht hh
  obtain⟨k,i,hk,hil,he⟩:=mem_nodesT.1 htn
  have hgt:(gtsK m k).getD i gt0=gtOf m t:=by
   rw [he]
   unfold gtOf
   dsimp only
   rw [show((k:Int)-1+1).toNat=k from by omega,Int.toNat_natCast]
  have hkk:(t.2.1+1).toNat=k:=by rw [he];dsimp only;omega
  have hthA:thA t=.agg [.int .i64 2,.int .i64 ((k:Int)-1),.int .i64 (i:Int)]:=by rw [he]
  have hstep:walkT m (n+1) st t=(if stGet t st=1 then(true,st) else if stGet t st=2 then(false,st) else
   if(goD (walkT m n) (sucT m t) (st++[(t,1)])).1=true then goD (walkT m n) (sucT m t) (st++[(t,1)]) else(false,stSet t 2 (goD (walkT m n) (sucT m t) (st++[(t,1)])).2)):=by
   show walkD leafT (sucT m) (n+1) st t=_
   unfold walkD
   rw [if_neg hl]
   rfl
  rw [hstep]
  have hRe:∀{S:Bool→Nat→Prop} {w:World} {v:Value},Rep S w (.agg [.int .i64 2,.int .i64 ((k:Int)-1),.int .i64 (i:Int)]) v→v=keyT t:=fun h=>thA_rep (by rw [hthA];exact h)
  have hsl:sucT m t=(gtOf m t).inputs.map (resP m k):=by unfold sucT;rw [hkk]
  have hin:=hc.ins k hk i hil
  have hlen:=hc.len k i
  have hw2:=hc.w2
  have hil2:(gtOf m t).inputs.length≤1099511627776:=by rw [←hgt];exact(hw2.gt k i).2.2
  have hgk:=gtsK_len hw2 k
  rw [hthA] at hE'
  rw [hthA]
  refine fh_of_body Tryz.func89 rfl rfl (by simp [Tryz.ntmps89]) fun C hC=> ?_
  simp only [initS,Nat.reduceAdd]
  repeat' first|refine zV o0 ?_|refine zH o0 (fun hb=>?_) fun hb=>?_|fail
  refine xB fun g4 hn_g4=>?_
  repeat' first|refine zV hn_g4 ?_|refine zH hn_g4 (fun hb=>?_) fun hb=>?_|fail
  refine yB hn_g4 fun g5 hn_g5=>?_
  all_goals try(have Z:=(oj hn_g4 hn_g5);(repeat' first|refine zV Z ?_|refine zH Z (fun hb=>?_) fun hb=>?_|fail);all_goals clear Z)
  refine aw_lookup (a:=t) (kv:=kvT st) (Kf:=keyT) (z:=.int .i64 0) rfl rfl rfl ty_thing (keyT_ok ty_thingK) ty_int0 (zE (oj hn_g4 hn_g5)) (zE (oj hn_g4 hn_g5)) (zE (oj hn_g4 hn_g5)) (fun _ _ _ h=>hRe h) ?_
  rw [kvT_get]
  dsimp only [cstC]
  refine yS (oj hn_g4 hn_g5) ?_
  all_goals try(have Z:=(oj hn_g4 hn_g5);(repeat' first|refine zV Z ?_|refine zH Z (fun hb=>?_) fun hb=>?_|fail);all_goals clear Z)
  ·refine aw_rethw (h':=[(g,.gen (MapI keyT (kvT st)))]) rfl sL fun R r=>?_;simp only[go_sem,hn_g4,hn_g5];refine r _ rfl ?_;clear r R
   rw [if_pos hb]
   exact⟨rfl,rfl⟩
  ·rename_i h1
   refine aw_rethw (h':=[(g,.gen (MapI keyT (kvT st)))]) rfl sL fun R r=>?_;simp only[go_sem,hn_g4,hn_g5];refine r _ rfl ?_;clear r R
   rw [if_neg h1,if_pos hb]
   exact⟨rfl,rfl⟩
  rename_i h1
  have h2:=hb
  rw [if_neg h1,if_neg h2]
  have htk:t∉st.map (·.1):=fun h=>((hi.key t).1 h).elim (fun z=>h1 ((hi.gray t).2 z)) fun z=>h2 ((hi.black t).2 z)
  refine aw_mapNew (a:=t) (kv:=kvT st) (Kf:=keyT) (v:=.int .i64 1) rfl rfl rfl ty_thing (keyT_ok ty_thingK) (zE (oj hn_g4 hn_g5)) (zE (oj hn_g4 hn_g5)) (zE (oj hn_g4 hn_g5)) (fun _ _ _ h=>hRe h) (cv:=.c (.int .i64 1)) (zE (oj hn_g4 hn_g5)) (fun _ _ _ h=>h) (kvT_none htk) (zE (oj hn_g4 hn_g5)) ?_
  rw [kvT_app]
  have J1:=oj hn_g4 hn_g5
  refine yS J1 ?_
  all_goals try(have Z:=J1;(repeat' first|refine zV Z ?_|refine zH Z (fun hb=>?_) fun hb=>?_|fail);all_goals clear Z)
  refine aw_callqv hE' rfl rfl rfl (zE J1) (zL J1) ?_
  refine yS J1 ?_
  all_goals try(have Z:=J1;(repeat' first|refine zV Z ?_|refine zH Z (fun hb=>?_) fun hb=>?_|fail);all_goals clear Z)
  have f4:=gatesOf_fa m k hk hc.ok.pg
  refine aw_dr 11 ty_mixed (by kernel_rfl) ?_
  all_goals try(have Z:=J1;(repeat' first|refine zV Z ?_|(refine yC2 Z (f4) ?_)|(refine yD2 Z (f4) ?_)|refine zH Z (fun hb=>?_) fun hb=>?_|fail);all_goals clear Z)
  rw [hgt]
  have htF:t∉fin:=fun z=>h2 ((hi.black t).2 z)
  have hi0:=hi.push hl htn htk htF hh
  have hlen0:(st++[(t,1)]).length=st.length+1:=by rw [List.length_append];rfl
  generalize hR:goD (walkT m n) (sucT m t) (st++[(t,1)])=R
  rw [hgt] at hin hlen
  generalize hG:gtOf m t=G at*
  clear hw hstep hgt h1 h2 htk hE' J1
  refine aw_lp (fun x:Nat×List (Th×Int)×List Th=>[(2,.c (.raw (.map (some g)))),(3,fvN fE),(4,.c (.optr g4 0)),(5,.c (.optr g5 0)),(37,.c (strs true G.inputs)),(38,.c (.int .i64 G.inputs.length)),(39,.c (.int .i64 x.1))]) (fun x=>[(g5,.cells 134 3 (ofL [.int .i64 2,.int .i64 ((k:Int)-1),.int .i64 (i:Int)])),(g4,.cells 29 8 (ofL (mdc true m))),(g,.gen (MapI keyT (kvT x.2.1)))]) (fun x=>x.1≤G.inputs.length∧goD (walkT m n) ((sucT m t).drop x.1) x.2.1=R∧DInv leafT (sucT m) (nodesT m) x.2.1 (t::stk) x.2.2∧st.length+1≤x.2.1.length) (fun x=>G.inputs.length-x.1) (0,st++[(t,1)],fin) (zB (oj hn_g4 hn_g5)) zZ ⟨Nat.zero_le _,hR,hi0,by rw [hlen0];exact Nat.le_refl _⟩ ?_
  rintro ⟨j,st1,fin1⟩ ⟨hj,hgo,hi1,hl1⟩
  dsimp only at hj hgo hi1 hl1⊢
  all_goals try(have Z:=(oj hn_g4 hn_g5);(repeat' first|refine zV Z ?_|refine zH Z (fun hb=>?_) fun hb=>?_|fail);all_goals clear Z)
  ·have hj':=hb
   have hmem:G.inputs.getD j []∈G.inputs:=by
    rw [List.getD_eq_getElem?_getD,List.getElem?_eq_getElem hj'];exact List.getElem_mem hj'
   obtain⟨n1,n2,n3⟩:=hin _ hmem
   have hnl:=hlen j
   have hx:(sucT m t).drop j=resP m k (G.inputs.getD j [])::(sucT m t).drop (j+1):=by
    rw [hsl,List.drop_eq_getElem_cons (by rw [List.length_map];exact hj'),List.getElem_map,List.getD_eq_getElem?_getD,List.getElem?_eq_getElem hj'];rfl
   rw [hx] at hgo
   have hxs:resP m k (G.inputs.getD j [])∈sucT m t:=by rw [hsl];exact List.mem_map_of_mem hmem
   generalize hN:G.inputs.getD j []=N at*
   have f5:=resolve_fa m k N hk hc.ok hw2 n1 hnl n2
   generalize resP m k N=X at*
   have f6:=ih st1 (t::stk) fin1 X hi1 om n3 (fun h e=>by simp at e;subst e;exact hxs)
   have ho:=walk_ok leaf_nodes (suc_nodes hc.ins) n st1 (t::stk) fin1 X hi1 om n3 (fun h e=>by simp at e;subst e;exact hxs)
   change DOut leafT (sucT m) (nodesT m) st1 (t::stk) fin1 (walkT m n st1 X) _ at ho
   have hgo2:(if(walkT m n st1 X).1=true then walkT m n st1 X else goD (walkT m n) ((sucT m t).drop (j+1)) (walkT m n st1 X).2)=R:=hgo
   clear hgo
   generalize hr:walkT m n st1 X=r at*
   refine aw_cw ([(g4,.cells 29 8 (ofL (mdc true m))),(g5,.cells 134 3 (ofL [.int .i64 2,.int .i64 ((k:Int)-1),.int .i64 (i:Int)]))]) [(0,0),(1,0),(2,0),(3,0),(4,0),(5,0),(6,0),(7,0),(8,1)] ty_mixed (by kernel_rfl) eI ?_
   have J2:=oj hn_g4 hn_g5
   refine yG J2 ?_
   refine cw_callq rfl f5 rfl rfl rfl (fun _ _=>(zL J2)) ?_
   refine ySG J2 ?_
   refine cw_cg rfl f6 rfl rfl rfl (zE J2) (zL J2) (by refine yS J2 ?_;exact has0_cons (List.mem_cons_of_mem _ (List.mem_cons_self ..)) (has0_cons (List.mem_cons_self ..) has0_nil)) ?_
   refine ySG J2 ?_
   all_goals try(have Z:=J2;(repeat' first|refine zV Z ?_|refine zH Z (fun hb=>?_) fun hb=>?_|fail);all_goals clear Z)
   ·refine aw_rethw (h':=[(g,.gen (MapI keyT (kvT r.2)))]) rfl sL fun R r=>?_;simp only[go_sem,hn_g4,hn_g5];refine r _ rfl ?_;clear r R
    rw [if_pos hb] at hgo2
    rw [←hgo2,if_pos hb]
    exact⟨by rw [hb],rfl⟩
   ·have hrf:r.1=false:=hb
    rw [if_neg (by rw [hrf];decide)] at hgo2
    obtain⟨fin2,q1,_,q3,_⟩:=ho.2 hrf
    refine aw_stop ⟨(j+1,r.2,fin2),?_⟩
    and_intros
    all_goals first|rfl|exact List.Sublist.refl _|exact True.intro|exact hgo2|exact q1|(dsimp only;omega)
  ·have hge:(sucT m t).drop j=[]:=List.drop_of_length_le (by rw [hsl,List.length_map];omega)
   rw [hge] at hgo
   have hgo2:(false,st1)=R:=hgo
   subst hgo2
   have htk1:t∈st1.map (·.1):=(hi1.key t).2 (.inl List.mem_cons_self)
   refine aw_mapSet (a:=t) (kv:=kvT st1) (Kf:=keyT) (v:=.int .i64 2) rfl rfl rfl ty_thing (keyT_ok ty_thingK) (keyT_bits t) (zE (oj hn_g4 hn_g5)) (zE (oj hn_g4 hn_g5)) (zE (oj hn_g4 hn_g5)) (fun _ _ _ h=>hRe h) (cv:=.c (.int .i64 2)) (zE (oj hn_g4 hn_g5)) (fun _ _ _ h=>h) (kvT_some htk1) (zE (oj hn_g4 hn_g5)) ?_
   rw [kvT_set]
   refine yS (oj hn_g4 hn_g5) ?_
   all_goals try(have Z:=(oj hn_g4 hn_g5);(repeat' first|refine zV Z ?_|refine zH Z (fun hb=>?_) fun hb=>?_|fail);all_goals clear Z)
   refine aw_rethw (h':=[(g,.gen (MapI keyT (kvT (stSet t 2 st1))))]) rfl sL fun R r=>?_;simp only[go_sem,hn_g4,hn_g5];refine r _ rfl ?_;clear r R
   exact⟨rfl,rfl⟩
end Go.Proofs.YtnmeahogifekdaaGreatDoor
namespace Go.PN
open Go.AI
theorem nodesF_step (m:MdD) {k:Nat} (h:k≤m.pages.length):nodesF m k (m.pages.length+1-k)=nodesK m k++nodesF m (k+1) (m.pages.length+1-(k+1)):=by
 rw [show m.pages.length+1-k=(m.pages.length+1-(k+1))+1 from by omega];rfl
theorem nodesK_drop (m:MdD) {k i:Nat} (h:i<(gtsK m k).length):(nodesK m k).drop i=((2,(k:Int)-1,(i:Int)):Th)::(nodesK m k).drop (i+1):=by
 have hl:i<(nodesK m k).length:=by unfold nodesK;rw [List.length_map,List.length_range];exact h
 rw [List.drop_eq_getElem_cons hl]
 congr 1
 simp only [nodesK,List.getElem_map,List.getElem_range]
theorem nodesK_len (m:MdD) (k:Nat):(nodesK m k).length=(gtsK m k).length:=by unfold nodesK;rw [List.length_map,List.length_range]
theorem MdO.cy {m:MdD} (h:MdO m) (h0:mcode0 m=0):CyOk m:=⟨h.ok,h.wf2,ins_ok (mcode0_ok h0),h.inl⟩
end Go.PN
namespace Go.Proofs.YtnmeahogifekdaaGreatDoor
open Go.AI Go.PN
attribute [local irreducible] aw Fa Fh DrK
theorem nop_fa (t:Th):Fa Tryz.prog 90 [thA t] (.tup []):=by
 refine fa_of_body Tryz.func90 rfl rfl (by simp [Tryz.ntmps90]) fun C hC=> ?_
 simp only [initS,Nat.reduceAdd]
 repeat' first|refine zV o0 ?_|refine zH o0 (fun hb=>?_) fun hb=>?_|fail
 refine xB fun g1 hn_g1=>?_
 repeat' first|refine zV hn_g1 ?_|refine zH hn_g1 (fun hb=>?_) fun hb=>?_|fail
 refine aw_endq hC rfl fun R r=>?_
 refine yS hn_g1 ?_
 refine r _ rfl ?_
 exact .tup trivial
theorem cyclic_fa (m:MdD) (hc:CyOk m):Fa Tryz.prog 28 [.agg (mdc true m)] (.c (.bool (cycB m))):=by
 have hpl:=hc.w2.pl
 refine fa_of_body Tryz.func28 rfl rfl (by simp [Tryz.ntmps28]) fun C hC=> ?_
 simp only [initS,Nat.reduceAdd]
 repeat' first|refine zV o0 ?_|refine zH o0 (fun hb=>?_) fun hb=>?_|fail
 refine xB fun g1 hn_g1=>?_
 repeat' first|refine zV hn_g1 ?_|refine zH hn_g1 (fun hb=>?_) fun hb=>?_|fail
 refine aw_makeMap (Kf:=keyT) rfl rfl rfl fun g hn_g=> ?_
 replace hn_g:=Heap.ne_of hn_g
 dsimp only [Heap.ne] at hn_g
 have J1:=oj hn_g1 hn_g
 refine yS J1 ?_
 all_goals try(have Z:=J1;(repeat' first|refine zV Z ?_|refine zH Z (fun hb=>?_) fun hb=>?_|fail);all_goals clear Z)
 have hcy:cycB m=(goD (walkT m ((nodesT m).length+1)) (nodesF m 0 (m.pages.length+1-0)) []).1:=rfl
 rw [hcy]
 generalize hR:goD (walkT m ((nodesT m).length+1)) (nodesF m 0 (m.pages.length+1-0)) []=R
 refine aw_lp (fun x:Nat×List (Th×Int)×List Th=>[(1,.c (.optr g1 0)),(3,.c (.raw (.map (some g)))),(4,.c (.int .i64 ((x.1:Int)-1)))]) (fun x=>[(g,.gen (MapI keyT (kvT x.2.1))),(g1,.cells 29 8 (ofL (mdc true m)))]) (fun x=>x.1≤m.pages.length+1∧goD (walkT m ((nodesT m).length+1)) (nodesF m x.1 (m.pages.length+1-x.1)) x.2.1=R∧DInv leafT (sucT m) (nodesT m) x.2.1 [] x.2.2) (fun x=>m.pages.length+1-x.1) (0,[],[]) (zB J1) zZ ⟨Nat.zero_le _,hR,dinv_nil⟩ ?_
 clear hR hcy J1
 rintro ⟨k,st,fin⟩ ⟨hk,hgo,hi⟩
 dsimp only at hk hgo hi⊢
 all_goals try(have Z:=(oj hn_g1 hn_g);(repeat' first|refine zV Z ?_|refine zH Z (fun hb=>?_) fun hb=>?_|fail);all_goals clear Z)
 ·have hk':k≤m.pages.length:=by omega
  have f1:=gatesOf_fa m k hk' hc.ok.pg
  have hgl:=gtsK_len hc.w2 k
  rw [nodesF_step m hk'] at hgo
  all_goals try(have Z:=(oj hn_g1 hn_g);(repeat' first|refine zV Z ?_|(refine yC2 Z (f1) ?_)|(refine yD2 Z (f1) ?_)|refine zH Z (fun hb=>?_) fun hb=>?_|fail);all_goals clear Z)
  refine aw_lp (fun x:Nat×List (Th×Int)×List Th=>[(1,.c (.optr g1 0)),(3,.c (.raw (.map (some g)))),(4,.c (.int .i64 ((k:Int)-1))),(17,.c (.int .i64 (gtsK m k).length)),(18,.c (.int .i64 x.1))]) (fun x=>[(g,.gen (MapI keyT (kvT x.2.1))),(g1,.cells 29 8 (ofL (mdc true m)))]) (fun x=>x.1≤(gtsK m k).length∧goD (walkT m ((nodesT m).length+1)) ((nodesK m k).drop x.1++nodesF m (k+1) (m.pages.length+1-(k+1))) x.2.1=R∧DInv leafT (sucT m) (nodesT m) x.2.1 [] x.2.2) (fun x=>(gtsK m k).length-x.1) (0,st,fin) (zB (oj hn_g1 hn_g)) zZ ⟨Nat.zero_le _,hgo,hi⟩ ?_
  clear hgo hi
  rintro ⟨i,st,fin⟩ ⟨hil,hgo,hi⟩
  dsimp only at hil hgo hi⊢
  all_goals try(have Z:=(oj hn_g1 hn_g);(repeat' first|refine zV Z ?_|refine zH Z (fun hb=>?_) fun hb=>?_|fail);all_goals clear Z)
  ·have hi':=hb
   have hmem:((2,(k:Int)-1,(i:Int)):Th)∈nodesT m:=mem_nodesT.2 ⟨k,i,hk',hi',rfl⟩
   have f2:=walk_fg m hc 90 nop_fa g ((nodesT m).length+1) st [] fin (2,(k:Int)-1,(i:Int)) hi om (.inr hmem) (fun h e=>by simp at e)
   have ho:=walk_ok leaf_nodes (suc_nodes hc.ins) ((nodesT m).length+1) st [] fin (2,(k:Int)-1,(i:Int)) hi om (.inr hmem) (fun h e=>by simp at e)
   change DOut leafT (sucT m) (nodesT m) st [] fin (walkT m ((nodesT m).length+1) st (2,(k:Int)-1,(i:Int))) _ at ho
   rw [nodesK_drop m hi',List.cons_append] at hgo
   have hgo2:(if(walkT m ((nodesT m).length+1) st (2,(k:Int)-1,(i:Int))).1=true then walkT m ((nodesT m).length+1) st (2,(k:Int)-1,(i:Int)) else goD (walkT m ((nodesT m).length+1)) ((nodesK m k).drop (i+1)++nodesF m (k+1) (m.pages.length+1-(k+1))) (walkT m ((nodesT m).length+1) st (2,(k:Int)-1,(i:Int))).2)=R:=hgo
   clear hgo
   generalize hr:walkT m ((nodesT m).length+1) st (2,(k:Int)-1,(i:Int))=r at*
   all_goals try(have Z:=(oj hn_g1 hn_g);(repeat' first|refine zV Z ?_|(refine zg Z (f2) ?_)|refine zH Z (fun hb=>?_) fun hb=>?_|fail);all_goals clear Z)
   ·refine yT hC (oj hn_g1 hn_g) ?_
    rw [if_pos hb] at hgo2
    rw [←hgo2]
    exact .one (.c (ler_bool hb.symm))
   ·have hrf:r.1=false:=hb
    rw [if_neg (by rw [hrf];decide)] at hgo2
    obtain⟨fin2,q1,_,q3,_⟩:=ho.2 hrf
    refine aw_stop ⟨(i+1,r.2,fin2),?_⟩
    and_intros
    all_goals first|rfl|exact List.Sublist.refl _|exact True.intro|exact hgo2|exact q1|(dsimp only;omega)
  ·rw [List.drop_of_length_le (by rw [nodesK_len];omega),List.nil_append] at hgo
   all_goals try(have Z:=(oj hn_g1 hn_g);(repeat' first|refine zV Z ?_|refine zH Z (fun hb=>?_) fun hb=>?_|fail);all_goals clear Z)
   refine aw_stop ⟨(k+1,st,fin),?_⟩
   and_intros
   all_goals first|rfl|exact List.Sublist.refl _|exact True.intro|exact hgo|exact hi|exact c_int om|(dsimp only;omega)
 ·have hk1:k=m.pages.length+1:=by omega
  subst hk1
  rw [Nat.sub_self] at hgo
  have hgo2:(false,st)=R:=hgo
  subst hgo2
  refine yT hC (oj hn_g1 hn_g) ?_
  exact .one (.c (.bool _))
end Go.Proofs.YtnmeahogifekdaaGreatDoor
