/- Parts of one proof, laid by a program. -/
import Derived.Test.YtngjgahldnnapaaGreatDoorM00
import Derived.Test.YtngjgahldnnapaaGreatDoorM05
import Derived.Sort.Statements
import Derived.Sort.Row
import Derived.Sort.Grow
import Derived.Deep.Draws
import Derived.Shelf.SlSortCmp.WholeK
import Derived.Lib.Bytealg
import Derived.Shelf.Sort.Plain
import Derived.Test.YtngjgahldnnapaaGreatDoorProg
set_option linter.unusedSimpArgs false
set_option linter.unusedVariables false
set_option maxRecDepth 100000
set_option maxHeartbeats 12800000
namespace Go.AI
section
variable {P : Program} {h : Qa} {ρ : Operand → AV}
theorem QA.capNil {t el size bytes:Nat} {x:Operand} (ht:QR P t=some (el,size,bytes)) (hx:ρ x=.c (.raw (.slice none 0 0))):QA P h ρ (.call {callee:=.builtin .cap,args:= #[x],argTypes:= #[t]}) (.c (.int .i64 0)):=fun S w e _ ho _=>by
 have h2:e x=.slice none 0 0:=by have:=ho x (by simp [Op.operands,Call.operands]);rw [hx] at this;exact this
 obtain⟨hu,_⟩:=Xg ht
 exact⟨.int .i64 0,fun o hop=>by simp [execOp,hop,resolve,invoke,Go.builtin,Builtin.cap_,h2,run_underlying hu,goInt],rfl⟩
theorem QwP {S:Bool→Nat→Prop} {w:World} {u:Value} {og:Option Nat} {n:Nat} (h:VK S w (.c (Jq og n)) u):VK S w (.c (gs og 1 n)) u:=by
 cases og with
 |none=>exact⟨none,h⟩
 |some g=>exact h
end
section
variable {E : Vl} {K : List It} {σ σ' : Sl} {h : Qa}
theorem QoV {x:Nat×XD} {g n m:Nat} {ty:TypeId} {f:Nat→CV} (hm:m≤n) (k:aw E K σ (x::(g,.cells ty m f)::h)):aw E K σ (x::(g,.cells ty n f)::h):=fun a w s=>by
 refine k a w ⟨s.size,s.defers,s.slots,fun g' o' hq=> ?_,s.nodup,s.keys,s.frame⟩
 rcases Lb.1 hq with e|hq
 ·exact s.heap g' o' (Lb.2 (.inl e))
 ·rcases Lb.1 hq with e|hq
  ·injection e with e1 e2
   subst e1 e2
   obtain⟨cs,hb,hn,hj⟩:=s.heap g' _ (Lm _ (Lf ..))
   exact⟨cs,hb,Lt hm hn,fun j hjm=>hj j (Ae hjm hm)⟩
  ·exact s.heap g' o' (Lm _ (Lm _ hq))
end
end Go.AI
namespace Go.PN
open Go.AI
theorem QoW (B:List UInt8) (c:UInt8):∀j,j<(B.length+1)*1→Xq (UZ B) (B.length*1) (ofL [.int .u8 (c.toNat:Int)]) j=UZ (B++[c]) j:=fun j _=>by
 rw [Ad,←QhK]
 unfold Xq
 split
 ·rfl
 ·rename_i h1
  by_cases e:j=B.length
  ·subst e;rw [Nat.sub_self];rfl
  ·omega
end Go.PN
namespace Go.Proofs.YtngjgahldnnapaaGreatDoor
open Go.AI Go.PN Proofs.Tryz
attribute [local irreducible] aw Fa ZN ZZ Fh YE
theorem QoX {ty:TypeId} {r:List CV} (hB:Qlr ty r) (gB:Nat) (a:CV) (og:Option Nat) (B:List UInt8) (c:UInt8) (hbd:Qa6 a gB og B) (hlen:B.length+1≤100000000000):
  Fh prog 123 (KS ty r gB a og B) [.c (.optr gB 0),.c (.int .u8 (c.toNat:Int))]
   (fun x h=>∃og',Qa6 (.optr gB 0) gB og' (B++[c])∧x=.c .nilI∧h=KS ty r gB (.optr gB 0) og' (B++[c])):=by
 obtain⟨ha,hog⟩:=hbd
 have hcc:=U1 hB gB a (Jq og B.length) ha
 refine fH func123 fun C hC=>?_
 refine xG ?_
 refine Ql (hc:=[Yv ty r gB a (Jq og B.length)]) (hr:=gh og 5 B.length (UZ B)) hcc rfl rfl rfl (.refl _) eL ?_
 rintro _ _ ⟨rfl,rfl⟩ _
 refine Z1 ?_
 refine Zs (t:=11) (v:=.c (gs og 1 B.length)) (fun S w u h=>QwP h) rfl ?_
 refine xS ?_
 refine Qi (h':=[Yv ty r gB (.optr gB 0) (Jq og B.length)]++gh og 5 (B.length*1) (UZ B)) (by rw [Ad];exact .refl _) ?_
 refine QX (pre:=[Yv ty r gB (.optr gB 0) (Jq og B.length)]) rfl rfl rfl rfl rfl rfl rfl eE eE (by rfl) om om eE om (by exact hog) eE (by rfl) (by rfl) qb qc om (by exact QoW B c) fun g n_=> ?_
 replace n_:=Qa.ne_of n_
 first|dsimp only [Qa.ne,gh] at n_|dsimp only [Qa.ne] at n_|skip
 refine yS n_ ?_
 rw [show B.length+1=(B++[c]).length from by simp]
 refine(?_:aw _ _ _ (Yv ty r gB (.optr gB 0) (Jq og B.length)::gh (some g) 5 (B++[c]).length (UZ (B++[c]))))
 refine yG n_ ?_
 refine KV rfl rfl rfl rfl (zE n_) (zE n_) (zE n_) (zE n_) (fun _ e=>by cases e) (by rfl) (by rfl) om rfl ?_
 refine yS n_ ?_
 refine QU (f':=ofL (.optr gB 0::Jq (some g) (B++[c]).length::r)) (fun j hj=>by match j,hj with|0,_=>rfl|1,_=>rfl|j+2,_=>rfl) ?_
 refine yG n_ ?_
 refine yU n_ ?_
 exact⟨some g,⟨.inr rfl,fun e=>by cases e⟩,rfl,rfl⟩
theorem Qun {ty:TypeId} {r:List CV} (gB:Nat) (a:CV) (og:Option Nat) (B:List UInt8) (hog:og=none→B.length=0):
  Fh prog 59 (KS ty r gB a og B) [.c (.optr gB 0)] (fun x h=>x=.c (.int .i64 B.length)∧h=KS ty r gB a og B):=by
 cases og with
 |none=>
  have hB:=Lh.1 (hog rfl)
  subst hB
  refine fH func59 fun C hC=>?_
  refine xG ?_
  refine QT (QA.lenNil (by exact VY) eE) rfl rfl ?_
  refine Qdx ?_
  exact⟨rfl,rfl⟩
 |some g=>
  refine(?_:Fh _ _ (Yv ty r gB a (.osl g 1 0 B.length)::[(g,.cells 5 B.length (UZ B))]) _ _)
  refine fH func59 fun C hC=>?_
  refine xG ?_
  refine xU ?_
  exact⟨rfl,rfl⟩
theorem Quo {ty:TypeId} {r:List CV} (gB n:Nat) (a:CV) (hn:n≤140737488355328):
  Fh prog 295 [Yv ty r gB a (Jq none 0)] [.c (.optr gB 0),.c (.int .i64 n)]
   (fun x h=>∃g,x=.tup []∧h=KS ty r gB a (some g) []):=by
 refine(?_:Fh _ _ [Yv ty r gB a (.raw (.slice none 0 0))] _ _)
 have h20:(2:Int)*0+(n:Int)=n:=by omega
 refine fH func295 fun C hC=>?_
 refine yG h20 ?_
 refine Yf [Yv ty r gB a (.raw (.slice none 0 0))] [(0,0),(1,0),(2,0),(3,0),(4,0),(5,0),(6,0),(7,0),(9,0),(10,0),(11,0),(12,0),(13,0),(8,1),(14,0),(15,0)] Qg kR (Qm (Lf ..) Qf) ?_
 refine yG h20 ?_
 refine Vq rfl (fun _ _=>QA.capNil (by exact VY) (zE h20)) rfl rfl ?_
 refine Xp h20 ?_
 refine Vq rfl (fun _ _=>QA.lenNil (by exact VY) (zE h20)) rfl rfl ?_
 refine Xp h20 ?_
 refine QwO (n:=n) rfl func349 rfl rfl rfl rfl underlying123 rfl rfl rfl (fun _=>rfl) (zE h20) hn (Qm (Lf ..) Qf) (fun g n_=> ?_) (.inr ⟨rfl,rfl⟩)
 replace n_:=Qa.ne_of n_
 dsimp only [Qa.ne] at n_
 have J1:=oj h20 n_
 refine Xp J1 ?_
 refine Zs (t:=24) (v:=.c .nils) (fun S w u h=>⟨none,h⟩) rfl ?_
 refine Qrs (n:=0) (k:=0) (q:=0) (m:=n) (f2:=fun _=>.any) rfl rfl rfl (by exact VY) (zE J1) (zE J1) (zE J1) .nils rfl om rfl (zE J1) ?_
 refine Xp J1 ?_
 refine yW J1 ?_
 refine yS J1 ?_
 refine Qi (List.Perm.swap _ _ _) ?_
 refine QoV (m:=0) (Lz _) ?_
 refine Qi (List.Perm.swap _ _ _) ?_
 refine QU (f':=UZ []) (fun j hj=>absurd hj (Nat.not_lt_zero j)) ?_
 refine Qi (List.Perm.swap _ _ _) ?_
 refine QU (f':=ofL (a::.osl g 1 0 0::r)) (fun j hj=>by match j,hj with|0,_=>rfl|1,_=>rfl|j+2,_=>rfl) ?_
 refine yG J1 ?_
 refine yV J1 ?_
 exact⟨g,rfl,rfl⟩
theorem Qrt {ty:TypeId} {r:List CV} (hB:Qlr ty r) (gB n:Nat) (a:CV) (ha:a=.raw (.pointer none)∨a=.optr gB 0) (h0:0<n) (hn:n≤140737488355328):
  Fh prog 199 [Yv ty r gB a (Jq none 0)] [.c (.optr gB 0),.c (.int .i64 n)]
   (fun x h=>∃g,x=.tup []∧h=KS ty r gB (.optr gB 0) (some g) []):=by
 have hcc:=U1 hB gB a (Jq none 0) ha
 have hgr:=Quo (ty:=ty) (r:=r) gB n (.optr gB 0) hn
 have d0:decide (0<n)=true:=Dt h0
 have d1:decide (n<0)=false:=De (Nat.not_lt_zero n)
 have d2:(0:Int)-0=0:=rfl
 refine fH func199 fun C hC=>?_
 have J1:=oj d0 (oj d1 d2)
 refine yG J1 ?_
 refine Ql (hc:=[Yv ty r gB a (Jq none 0)]) (hr:=[]) hcc rfl rfl rfl (.refl _) (zL J1) ?_
 rintro _ _ ⟨rfl,rfl⟩ _
 refine Xp J1 ?_
 refine(?_:aw _ _ _ [Yv ty r gB (.optr gB 0) (.raw (.slice none 0 0))])
 refine yN J1 ?_
 refine yG J1 ?_
 refine Xv 13 Qg kR ?_
 refine yG J1 ?_
 refine KR (QA.capNil (by exact VY) (zE J1)) rfl rfl ?_
 refine Xp J1 ?_
 refine KR (QA.lenNil (by exact VY) (zE J1)) rfl rfl ?_
 refine Xp J1 ?_
 refine yP J1 ?_
 refine yG J1 ?_
 refine Ql (hc:=[Yv ty r gB (.optr gB 0) (Jq none 0)]) (hr:=[]) hgr rfl rfl rfl (.refl _) (zL J1) ?_
 rintro _ _ ⟨g,rfl,rfl⟩ _
 refine QiK J1 ?_
 exact⟨g,rfl,rfl⟩
theorem QjE {ty:TypeId} {r:List CV} (gB:Nat) (a:CV) (og:Option Nat) (B:List UInt8) (h0:og=none→B=[]) (h1:B=[]→og=none) (hlen:B.length≤100000000000):
  Fh prog 60 (KS ty r gB a og B) [.c (.optr gB 0)] (fun x h=>x=.c (.str (sB B))∧h=[]):=by
 cases og with
 |none=>
  have hB:=h0 rfl
  subst hB
  refine fH func60 fun C hC=>?_
  refine xG ?_
  refine Xv 11 Qg kR ?_
  refine xG ?_
  refine KR (QA.sliceDataN eE) rfl rfl ?_
  refine Z1 ?_
  refine KR (QA.lenNil (by exact VY) eE) rfl rfl ?_
  refine Z1 ?_
  refine KR (QA.unsafeStr0 eE eE) rfl rfl ?_
  refine Z1 ?_
  refine QM (Sl.le_refl _) (List.nil_sublist _) ?_
  refine xU ?_
  exact⟨rfl,rfl⟩
 |some g=>
  have hB:B≠[]:=fun e=>by have:=h1 e;cases this
  have hB':0<B.length:=List.length_pos_iff.2 hB
  refine(?_:Fh _ _ (Yv ty r gB a (.osl g 1 0 B.length)::[(g,.cells 5 B.length (UZ B))]) _ _)
  refine fH func60 fun C hC=>?_
  refine Y9 fun hnd=> ?_
  have hne:gB≠g:=fun e=>by subst e;simp [Qa.keys] at hnd
  have hne':(gB=g)=False:=eq_false hne
  refine yG hne' ?_
  refine Yf [Yv ty r gB a (.osl g 1 0 B.length)] [(0,0),(1,0),(2,0),(3,0),(4,0),(5,0),(6,0),(7,0),(8,0),(9,0),(10,2),(11,0)] Qg kR (Qm (Lf ..) Qf) ?_
  refine yG hne' ?_
  refine Vq rfl (fun _ _=>QA.sliceData (zE hne') hB') rfl rfl ?_
  refine Xp hne' ?_
  refine QbR (FP':=[]) (bs:=B) (h':=[Yv ty r gB a (.osl g 1 0 B.length)]) rfl rfl rfl rfl Qm6 kR (zE hne') (zE hne') (zE hne') (Ac _) hB om (fun _ _=>rfl) (zE hne') Qf ?_
  refine Xp hne' ?_
  refine QM (Sl.le_refl _) (List.nil_sublist _) ?_
  refine yU hne' ?_
  exact⟨rfl,rfl⟩
end Go.Proofs.YtngjgahldnnapaaGreatDoor
namespace Go.PN
open Go.AI
def VB (l:List BS) (j:Nat):Nat:=((l.take j).map List.length).sum
theorem QjF (l:List BS) (j:Nat) (hj:j<l.length):l.take (j+1)=l.take j++[l.getD j []]:=by
 rw [List.take_add_one,Li hj,Lg,Li hj]
 rfl
theorem QcQ (l:List BS) (j:Nat) (hj:j<l.length):VB l (j+1)=VB l j+(l.getD j []).length:=by
 unfold VB
 rw [QjF l j hj,List.map_append,List.sum_append]
 rfl
theorem Qm9 (l:List BS) (k:Nat):∀j,j+k=l.length→VB l j≤VB l l.length:=by
 induction k with
 |zero=>intro j hj;rw [←hj];exact Ac _
 |succ k ih=>
  intro j hj
  have h1:=ih (j+1) om
  have h2:=QcQ l j om
  omega
def Uy (x:BS) (l:List BS) (j:Nat):BS:=x++(l.take j).flatMap fun y=>32::y
theorem QgA (x:BS) (l:List BS) (j:Nat) (hj:j<l.length):Uy x l (j+1)=Uy x l j++[32]++l.getD j []:=by
 unfold Uy
 rw [QjF l j hj,List.flatMap_append,Lo,Lo,←Lo]
 simp
theorem QbV (x:BS) (l:List BS) (j:Nat) (hj:j≤l.length):(Uy x l j).length=x.length+j+VB l j:=by
 induction j with
 |zero=>simp [Uy,VB]
 |succ j ih=>rw [QgA x l j om,QcQ l j om,La,La,ih om];simp;omega
end Go.PN
namespace Go.Proofs.YtngjgahldnnapaaGreatDoor
open Go.AI Go.PN Proofs.Tryz
attribute [local irreducible] aw Fa ZN ZZ Fh YE
theorem Qup (t:Bool) (l:List BS) (hl:l.length+VB l l.length≤10000000000):Fa prog 124 [.c (X0 t l),.c (.str (sB [32]))] (.c (.str (sB (Uc l)))):=by
 match l,hl with
 |[],_=>
  refine fA func124 fun C hC=>?_
  refine zA o0 ?_
  refine xT hC ?_
  exact .one (.c (.str _))
 |[x],_=>
  have e:Uc [x]=x:=by simp [Uc]
  rw [e]
  refine fA func124 fun C hC=>?_
  refine zA o0 ?_
  refine xT hC ?_
  exact .one (.c (.str _))
 |x::y::r,hl=>
  obtain⟨l,hl0⟩:∃l,l=x::y::r:=⟨_,rfl⟩
  rw [←hl0] at hl⊢
  obtain⟨N,hN⟩:∃N,l.length=N:=⟨_,rfl⟩
  have h2N:2≤N:=by rw [←hN,hl0];simp
  rw [hN] at hl
  refine(?_:Fa _ _ [.c (.row t 1 l.length (Qe l)),_] _)
  rw [hN]
  have h1:((N:Int)==0)=false:=by rw [beq_eq_false_iff_ne];omega
  have h2:((N:Int)==1)=false:=by rw [beq_eq_false_iff_ne];omega
  have hq0:QkN .i64 9223372036854775807 ((N:Int)-1)=((9223372036854775807/(N-1):Nat):Int):=by
   rw [QdJ,show((N:Int)-1)=((N-1:Nat):Int) from by omega]
   show IntKind.i64.wrap (Int.tdiv _ _)=_
   rw [show(9223372036854775807:Int).tdiv ((N-1:Nat):Int)=((9223372036854775807/(N-1):Nat):Int) from rfl]
   exact XV (by have:=Nat.div_le_self 9223372036854775807 (N-1);generalize 9223372036854775807/(N-1)=q at*;simp only [XH];omega)
  have hq1:2≤9223372036854775807/(N-1):=(Nat.le_div_iff_mul_le om).2 om
  have hq:decide (1≥QkN .i64 9223372036854775807 ((N:Int)-1))=false:=De (by rw [hq0];generalize 9223372036854775807/(N-1)=q at hq1⊢;omega)
  obtain⟨T,hT⟩:∃T:Nat→Nat,∀j,T j=N-1+VB l j:=⟨_,fun _=>rfl⟩
  have hi0:(0:Int)+1*((N:Int)-1)=((T 0:Nat):Int):=by rw [hT,show VB l 0=0 from rfl];clear hq0 hq1 hq;omega
  refine fA func124 fun C hC=>?_
  refine zA (oj h1 (oj h2 (oj hq hi0))) ?_
  refine Qh (fun j:Nat=>[(0,.c (.row t 1 N (Qe l))),(1,.c (.str (sB [32]))),(5,.c (.int .i64 (T j:Int))),(39,.c (.row t 1 N (Qe l))),(40,.c (.int .i64 N)),(41,.c (.int .i64 j))]) (fun _=>[]) (fun j=>j≤N) (fun j=>N-j) 0 (zB (oj h1 (oj h2 (oj hq hi0)))) zZ (Lz _) ?_
  rintro j hj
  by_cases hjN:j<N
  ·have d1:decide (j<N)=true:=Dt hjN
   have s1:=QcQ l j om
   have s2:=Qm9 l (N-(j+1)) (j+1) om
   rw [hN] at s2
   have s3:(T j:Int)+((l.getD j []).length:Int)=(T (j+1):Int):=by rw [hT,hT];omega
   have s4:T j+(l.getD j []).length≤10000000000:=by rw [hT];omega
   all_goals try(have Z:=(oj h1 (oj h2 (oj hq (oj hi0 (oj d1 s3)))));(repeat' first|refine zV Z ?_|refine zH Z ?_ ?_<;>intro hb|fail);all_goals clear Z)
   ·exact absurd hb om
   ·exact Qb ⟨j+1,by omega,(zB (oj h1 (oj h2 (oj hq (oj hi0 (oj d1 s3)))))),zZ,by omega⟩
  ·have d1:decide (j<N)=false:=De hjN
   have e:j=N:=by omega
   subst e
   have hTj:T j≤10000000000:=by rw [hT];omega
   have hT0:0<T j:=by rw [hT];omega
   have g0:l.getD 0 []=x:=by rw [hl0];rfl
   have g1:∀i,l.getD (1+i) []=(y::r).getD i []:=fun i=>by rw [hl0,Nat.add_comm];rfl
   have hr1:(y::r).length=j-1:=by rw [←hN,hl0];simp
   have c0:Uy x (y::r) 0=x:=by simp [Uy]
   have cN:Uc l=Uy x (y::r) (j-1):=by rw [hl0,←hr1];unfold Uy;rw [Lk];rfl
   have hcl:∀i,i≤j-1→(Uy x (y::r) i).length≤10000000000:=fun i hi=>by
    rw [QbV x (y::r) i om]
    have a1:=Qm9 (y::r) (j-1-i) i om
    have a2:VB l j=x.length+VB (y::r) (y::r).length:=by rw [←hN,hl0];unfold VB;rw [Lk,Lk];rfl
    rw [hr1] at a1 a2
    omega
   have hxl:x.length≤10000000000:=by have:=hcl 0 (Lz _);rwa [c0] at this
   refine zA (oj h1 (oj h2 (oj hq (oj hi0 (oj d1 g0))))) ?_
   refine Qgw (vs:=[.pointer none,.slice none 0 0]) rfl rfl rfl kR fun gB n_B=> ?_
   refine(?_:aw _ _ _ [Yv 125 [] gB (.raw (.pointer none)) (Jq none 0)])
   have J1:=oj h1 (oj h2 (oj hq (oj hi0 (oj d1 g0))))
   refine Xp J1 ?_
   refine Ql (hc:=[Yv 125 [] gB (.raw (.pointer none)) (Jq none 0)]) (hr:=[]) (Qrt Qum gB (T j) _ (.inl rfl) hT0 om) rfl rfl rfl (.refl _) (zL J1) ?_
   rintro _ _ ⟨g,rfl,rfl⟩ _
   refine Xp J1 ?_
   refine Ql (hc:=KS 125 [] gB (.optr gB 0) (some g) []) (hr:=[]) (QbU Qum gB _ (some g) [] x ⟨.inr rfl,fun e=>by cases e⟩ (by rw [Lu];omega)) rfl rfl rfl (.refl _) (zL J1) ?_
   rintro _ _ ⟨og,h3,rfl,rfl⟩ _
   refine Xp J1 ?_
   rw [Ln] at h3
   refine Qh (fun z:Nat×Option Nat=>[(1,.c (.str (sB [32]))),(8,.c (.optr gB 0)),(63,.c (.row t 1 (j-1) fun q=>.str (sB (l.getD (1+q) [])))),(64,.c (.int .i64 ((j-1:Nat):Int))),(65,.c (.int .i64 z.1))]) (fun z=>KS 125 [] gB (.optr gB 0) z.2 (Uy x (y::r) z.1)) (fun z=>z.1≤j-1∧Qa6 (.optr gB 0) gB z.2 (Uy x (y::r) z.1)) (fun z=>j-1-z.1) (0,og) (zB J1) (by dsimp only;rw [c0];exact Lr _) ⟨Lz _,by rw [c0];exact h3⟩ ?_
   rintro ⟨q,og2⟩ ⟨hq2,hbd⟩
   dsimp only at hq2 hbd⊢
   have hcq:=hcl q hq2
   by_cases hqN:q<j-1
   ·have e1:decide (q<j-1)=true:=Dt hqN
    have hcs:=QgA x (y::r) q om
    have hcq2:=hcl (q+1) om
    have g2:=g1 q
    refine zA (oj h1 (oj h2 (oj hq (oj hi0 (oj d1 (oj g0 (oj e1 g2))))))) ?_
    refine Ql (hc:=KS 125 [] gB (.optr gB 0) og2 (Uy x (y::r) q)) (hr:=[]) (QbU Qum gB _ og2 (Uy x (y::r) q) [32] hbd (by simp;omega)) rfl rfl rfl (by rw [Lp]) (zL (oj h1 (oj h2 (oj hq (oj hi0 (oj d1 (oj g0 (oj e1 g2)))))))) ?_
    rintro _ _ ⟨og3,h4,rfl,rfl⟩ _
    have J2:=oj h1 (oj h2 (oj hq (oj hi0 (oj d1 (oj g0 (oj e1 g2))))))
    refine Xp J2 ?_
    refine Ql (hc:=KS 125 [] gB (.optr gB 0) og3 (Uy x (y::r) q++[32])) (hr:=[]) (QbU Qum gB _ og3 (Uy x (y::r) q++[32]) ((y::r).getD q []) h4 (by rw [←La,←hcs];omega)) rfl rfl rfl (by rw [Lp]) (zL J2) ?_
    rintro _ _ ⟨og4,h5,rfl,rfl⟩ _
    rw [←hcs] at h5⊢
    refine Xp J2 ?_
    exact Qb ⟨(q+1,og4),by dsimp only;omega,(zB J2),zZ,by dsimp only;omega,h5⟩
   ·have e1:decide (q<j-1)=false:=De hqN
    have e2:q=j-1:=by omega
    subst e2
    have hne:0<(Uy x (y::r) (j-1)).length:=by rw [QbV x (y::r) (j-1) om];omega
    refine zA (oj h1 (oj h2 (oj hq (oj hi0 (oj d1 (oj g0 e1)))))) ?_
    refine Ql (hc:=KS 125 [] gB (.optr gB 0) og2 (Uy x (y::r) (j-1))) (hr:=[]) (QjE gB _ og2 _ (fun e=>Lh.1 (hbd.2 e)) (fun e=>by rw [e] at hne;simp at hne) om) rfl rfl rfl (by rw [Lp]) (zL (oj h1 (oj h2 (oj hq (oj hi0 (oj d1 (oj g0 e1))))))) ?_
    rintro _ _ ⟨rfl,rfl⟩ _
    have J3:=oj h1 (oj h2 (oj hq (oj hi0 (oj d1 (oj g0 e1)))))
    refine Xp J3 ?_
    rw [cN]
    refine yT hC J3 ?_
    exact .one (.c (.str _))
end Go.Proofs.YtngjgahldnnapaaGreatDoor
namespace Go.AI
open Go.Sort
theorem Quq {w w':World} (h:Fr (fun _=>False) w w'):∃q os',w'=grow (w.drewN q) os':=by
 refine⟨w'.drawn-w.drawn,w'.heap.extract w.heap.size w'.heap.size,?_⟩
 have h1:=h.os
 have h2:=h.tape
 have h3:=h.output
 have h4:=h.drawn
 have h5:=h.size
 have h6:=h.block
 have hh:w'.heap=w.heap++w'.heap.extract w.heap.size w'.heap.size:=by
  refine Array.ext_getElem? fun b=> ?_
  by_cases hb:b<w.heap.size
  ·rw [Array.getElem?_append_left hb];exact h6 b hb (fun x=>x)
  ·rw [Array.getElem?_append_right om,Array.getElem?_extract]
   by_cases hb2:b<w'.heap.size
   ·rw [iP om];congr 1;omega
   ·rw [iN om,Array.getElem?_eq_none om]
 have hd:w.drawn+(w'.drawn-w.drawn)=w'.drawn:=by omega
 cases w with
 |mk heap tape drawn os output=>
  cases w' with
  |mk heap' tape' drawn' os' output'=>
   simp only at h1 h2 h3 hh hd
   subst h1 h2 h3
   unfold grow World.drewN
   simp only [World.mk.injEq,true_and]
   exact⟨hh,hd.symm,trivial⟩
end Go.AI
namespace Go.PN
open Go.AI
section
variable {α : Type} [DecidableEq α]
def Zq (a:α):List (α×Int)→Int
 |[]=>0
 |p::st=>if a=p.1 then p.2 else Zq a st
def WF (a:α) (v:Int):List (α×Int)→List (α×Int)
 |[]=>[]
 |p::st=>if a=p.1 then(p.1,v)::st else p::WF a v st
def goD (f:List (α×Int)→α→Bool×List (α×Int)):List α→List (α×Int)→Bool×List (α×Int)
 |[],st=>(false,st)
 |x::l,st=>if(f st x).1=true then f st x else goD f l (f st x).2
def Jr (leaf:α→Bool) (succ:α→List α):Nat→List (α×Int)→α→Bool×List (α×Int)
 |0,st,_=>(false,st)
 |n+1,st,t=>if leaf t=true then(false,st) else if Zq t st=1 then(true,st) else if Zq t st=2 then(false,st) else
  let r:=goD (Jr leaf succ n) (succ t) (st++[(t,1)])
  if r.1=true then r else(false,WF t 2 r.2)
theorem QcR (a b:α) (v:Int):∀st:List (α×Int),Zq b (WF a v st)=if b=a∧a∈st.map (·.1) then v else Zq b st
 |[]=>by simp [WF,Zq]
 |p::st=>by
  have ih:=QcR a b v st
  unfold WF
  by_cases h:a=p.1
  ·rw [iP h]
   show(if b=p.1 then v else Zq b st)=(if b=a∧a∈p.1::st.map (·.1) then v else(if b=p.1 then p.2 else Zq b st))
   by_cases hb:b=p.1
   ·rw [iP hb,iP ⟨hb.trans h.symm,by rw [h];exact Lf⟩]
   ·rw [iN hb,iN (fun z=>hb (z.1.trans h)),iN hb]
  ·rw [iN h]
   show(if b=p.1 then p.2 else Zq b (WF a v st))=(if b=a∧a∈p.1::st.map (·.1) then v else(if b=p.1 then p.2 else Zq b st))
   by_cases hb:b=p.1
   ·rw [iP hb,iN (fun z=>h (z.1.symm.trans hb)),iP hb]
   ·rw [iN hb,iN hb,ih]
    have:(a∈p.1::st.map (·.1))↔a∈st.map (·.1):=by
     rw [Lb];exact⟨fun z=>z.elim (fun e=>absurd e h) id,.inr⟩
    simp only [this]
theorem QcS (a b:α) (v:Int):∀st:List (α×Int),a∉st.map (·.1)→Zq b (st++[(a,v)])=if b=a then v else Zq b st
 |[],_=>by simp [Zq]
 |p::st,h=>by
  have h1:a≠p.1:=fun e=>h (by rw [e];exact Lf)
  have ih:=QcS a b v st fun z=>h (Lm _ z)
  show(if b=p.1 then p.2 else Zq b (st++[(a,v)]))=(if b=a then v else(if b=p.1 then p.2 else Zq b st))
  by_cases hb:b=p.1
  ·rw [iP hb,iP hb,iN (fun e=>h1 (e.symm.trans hb))]
  ·rw [iN hb,iN hb,ih]
def Qru (nodes:List α) (succ:α→List α):Prop:=∃S:List α,S≠[]∧∀x∈S,x∈nodes∧∃y∈S,y∈succ x
def Qna (succ:α→List α):List α→Prop
 |[]=>True
 |[_]=>True
 |a::b::l=>a∈succ b∧Qna succ (b::l)
omit [DecidableEq α] in
theorem QjG {succ:α→List α} {t:α} {l2:List α}:∀(l1:List α) (z:α),Qna succ (l1++t::l2)→(∀h,(l1++t::l2).head?=some h→z∈succ h)→∀x∈l1++[t],∃y∈z::(l1++[t]),y∈succ x
 |[],z,_,hz,x,hx=>by
  have:x=t:=by simpa using hx
  subst this
  exact⟨z,Lf,hz x rfl⟩
 |a::l1,z,hp,hz,x,hx=>by
  rcases Lb.1 hx with h|h
  ·subst h
   exact⟨z,Lf,hz x rfl⟩
  ·have hp':Qna succ (l1++t::l2)∧∀h,(l1++t::l2).head?=some h→a∈succ h:=by
    cases l1 with
    |nil=>
     cases l2 with
     |nil=>exact⟨trivial,fun h e=>by simp at e;subst e;exact hp.1⟩
     |cons c l2=>exact⟨hp.2,fun h e=>by simp at e;subst e;exact hp.1⟩
    |cons c l1=>exact⟨hp.2,fun h e=>by simp at e;subst e;exact hp.1⟩
   obtain⟨y,hy,hys⟩:=QjG l1 a hp'.1 hp'.2 x h
   exact⟨y,Lm _ hy,hys⟩
structure DInv (leaf:α→Bool) (succ:α→List α) (nodes:List α) (st:List (α×Int)) (stk fin:List α):Prop where
 nd:(st.map (·.1)).Nodup
 sub:∀a∈st.map (·.1),a∈nodes
 key:∀a,a∈st.map (·.1)↔a∈stk∨a∈fin
 gray:∀a,Zq a st=1↔a∈stk
 black:∀a,Zq a st=2↔a∈fin
 path:Qna succ stk
 leafS:∀a∈stk,leaf a=false
 fd:fin.Nodup
 ord:∀l1 b l2,fin=l1++b::l2→∀x∈succ b,leaf x=true∨x∈l1
def Qrv (leaf:α→Bool) (succ:α→List α) (nodes:List α) (st:List (α×Int)) (stk fin:List α) (r:Bool×List (α×Int)) (P:List α→Prop):Prop:=
 (r.1=true→Qru nodes succ)∧(r.1=false→∃fin',DInv leaf succ nodes r.2 stk fin'∧(∀a∈fin,a∈fin')∧st.length≤r.2.length∧P fin')
theorem Qnb {leaf:α→Bool} {succ:α→List α} {nodes stk:List α} {f:List (α×Int)→α→Bool×List (α×Int)} {k:Nat}
  (hf:∀st fin x,DInv leaf succ nodes st stk fin→k≤st.length→(leaf x=true∨x∈nodes)→(∀h,stk.head?=some h→x∈succ h)→Qrv leaf succ nodes st stk fin (f st x) (fun fin'=>leaf x=true∨x∈fin')):
  ∀(l:List α) (st:List (α×Int)) (fin:List α),DInv leaf succ nodes st stk fin→k≤st.length→(∀x∈l,leaf x=true∨x∈nodes)→(∀x∈l,∀h,stk.head?=some h→x∈succ h)→Qrv leaf succ nodes st stk fin (goD f l st) (fun fin'=>∀x∈l,leaf x=true∨x∈fin')
 |[],st,fin,hi,_,_,_=>⟨fun h=>(by cases h),fun _=>⟨fin,hi,fun _ h=>h,Ac _,fun x hx=>(by cases hx)⟩⟩
 |x::l,st,fin,hi,hk,hl,hs=>by
  obtain⟨h1,h2⟩:=hf st fin x hi hk (hl x Lf) (hs x Lf)
  unfold goD
  by_cases hr:(f st x).1=true
  ·rw [iP hr]
   exact⟨h1,fun h=>by rw [hr] at h;cases h⟩
  ·rw [iN hr]
   obtain⟨fin1,i1,m1,l1,p1⟩:=h2 (by simpa using hr)
   obtain⟨g1,g2⟩:=Qnb hf l (f st x).2 fin1 i1 (Lt hk l1) (fun y hy=>hl y (Lm _ hy)) (fun y hy=>hs y (Lm _ hy))
   refine⟨g1,fun h=> ?_⟩
   obtain⟨fin2,i2,m2,l2,p2⟩:=g2 h
   refine⟨fin2,i2,fun a ha=>m2 a (m1 a ha),Lt l1 l2,fun y hy=> ?_⟩
   rcases Lb.1 hy with e|e
   ·subst e
    exact p1.elim .inl fun z=>.inr (m2 _ z)
   ·exact p2 y e
theorem JL:∀{l n:List α},l.Nodup→(∀a∈l,a∈n)→l.length≤n.length
 |[],_,_,_=>Lz _
 |a::l,n,hd,hs=>by
  have⟨h1,h2⟩:=List.nodup_cons.1 hd
  have ha:=hs a Lf
  have:=JL (l:=l) (n:=n.erase a) h2 fun b hb=>(List.mem_erase_of_ne (fun e:b=a=>h1 (by rw [←e];exact hb))).2 (hs b (Lm _ hb))
  rw [List.length_erase_of_mem ha] at this
  have hp:=List.length_pos_of_mem ha
  rw [Lc]
  omega
theorem Ud (a:α) (v:Int):∀st:List (α×Int),(WF a v st).map (·.1)=st.map (·.1)
 |[]=>rfl
 |p::st=>by
  unfold WF
  split
  ·rfl
  ·rw [Ld,Ld,Ud a v st]
omit [DecidableEq α] in
theorem Qls {fin l1 l2:List α} {t b:α} (h:fin++[t]=l1++b::l2):(b=t∧l1=fin)∨∃l3,fin=l1++b::l3:=by
 rcases List.eq_nil_or_concat l2 with e|⟨l3,c,e⟩
 ·subst e
  have:=List.append_inj' h rfl
  exact .inl ⟨(List.cons.inj this.2).1.symm,this.1.symm⟩
 ·subst e
  have h':fin++[t]=(l1++b::l3)++[c]:=by rw [h];simp
  exact .inr ⟨l3,(List.append_inj' h' rfl).1⟩
theorem DInv.push {leaf:α→Bool} {succ:α→List α} {nodes:List α} {st:List (α×Int)} {stk fin:List α} {t:α} (hi:DInv leaf succ nodes st stk fin) (hl:¬leaf t=true) (htn:t∈nodes) (htk:t∉st.map (·.1)) (htF:t∉fin) (hh:∀h,stk.head?=some h→t∈succ h):DInv leaf succ nodes (st++[(t,1)]) (t::stk) fin:=by
 refine⟨?_,?_,?_,?_,?_,?_,?_,hi.fd,hi.ord⟩
 ·rw [List.map_append]
  exact List.nodup_append.2 ⟨hi.nd,by simp,fun a ha b hb e=>by simp at hb;exact htk (by rw [←hb,←e];exact ha)⟩
 ·intro a ha
  rw [List.map_append] at ha
  rcases List.mem_append.1 ha with h|h
  ·exact hi.sub a h
  ·rw [Lv.1 h];exact htn
 ·intro a
  rw [List.map_append,List.mem_append,hi.key a,Lb]
  simp only [Ld,List.map_nil,Lv]
  exact⟨fun z=>z.elim (fun w=>w.elim (fun u=>.inl (.inr u)) .inr) fun w=>.inl (.inl w),fun z=>z.elim (fun w=>w.elim .inr fun u=>.inl (.inl u)) fun w=>.inl (.inr w)⟩
 ·intro a
  rw [QcS t a 1 st htk,Lb]
  by_cases e:a=t
  ·rw [iP e];exact⟨fun _=>.inl e,fun _=>rfl⟩
  ·rw [iN e,hi.gray a];exact⟨.inr,fun z=>z.resolve_left e⟩
 ·intro a
  rw [QcS t a 1 st htk]
  by_cases e:a=t
  ·rw [iP e];exact⟨fun z=>absurd z Af,fun z=>absurd (e▸z) htF⟩
  ·rw [iN e,hi.black a]
 ·cases stk with
  |nil=>trivial
  |cons b l=>exact⟨hh b rfl,hi.path⟩
 ·intro a ha
  rcases Lb.1 ha with h|h
  ·rw [h];simpa using hl
  ·exact hi.leafS a h
theorem Qas {leaf:α→Bool} {succ:α→List α} {nodes:List α} (hnl:∀t∈nodes,leaf t=false) (hcl:∀t∈nodes,∀x∈succ t,leaf x=true∨x∈nodes):∀(n:Nat) (st:List (α×Int)) (stk fin:List α) (t:α),DInv leaf succ nodes st stk fin→nodes.length<n+st.length→(leaf t=true∨t∈nodes)→(∀h,stk.head?=some h→t∈succ h)→Qrv leaf succ nodes st stk fin (Jr leaf succ n st t) (fun fin'=>leaf t=true∨t∈fin')
 |0,st,stk,fin,t,hi,hn,_,_=>by
  have:=JL hi.nd hi.sub
  rw [Lw] at this
  omega
 |n+1,st,stk,fin,t,hi,hn,ht,hh=>by
  unfold Jr
  by_cases hl:leaf t=true
  ·rw [iP hl]
   exact⟨fun h=>(by cases h),fun _=>⟨fin,hi,fun _ h=>h,Ac _,.inl hl⟩⟩
  rw [iN hl]
  have htn:t∈nodes:=ht.resolve_left hl
  by_cases h1:Zq t st=1
  ·rw [iP h1]
   refine⟨fun _=> ?_,fun h=>(by cases h)⟩
   obtain⟨l1,l2,hs⟩:=List.append_of_mem ((hi.gray t).1 h1)
   have hp:=hi.path
   rw [hs] at hp hh
   have hc:=QjG l1 t hp hh
   refine⟨l1++[t],by simp,fun x hx=>⟨hi.sub x ((hi.key x).2 (.inl ?_)),?_⟩⟩
   ·rw [hs]
    rcases List.mem_append.1 hx with h|h
    ·exact List.mem_append_left _ h
    ·rw [Lv.1 h];simp
   ·obtain⟨y,hy,hys⟩:=hc x hx
    refine⟨y,?_,hys⟩
    rcases Lb.1 hy with h|h
    ·rw [h];simp
    ·exact h
  rw [iN h1]
  by_cases h2:Zq t st=2
  ·rw [iP h2]
   exact⟨fun h=>(by cases h),fun _=>⟨fin,hi,fun _ h=>h,Ac _,.inr ((hi.black t).1 h2)⟩⟩
  rw [iN h2]
  have htk:t∉st.map (·.1):=fun h=>((hi.key t).1 h).elim (fun z=>h1 ((hi.gray t).2 z)) fun z=>h2 ((hi.black t).2 z)
  have htS:t∉stk:=fun z=>h1 ((hi.gray t).2 z)
  have htF:t∉fin:=fun z=>h2 ((hi.black t).2 z)
  have hi2:=hi.push hl htn htk htF hh
  obtain⟨g1,g2⟩:=Qnb (f:=Jr leaf succ n) (k:=st.length+1) (stk:=t::stk) (nodes:=nodes) (fun st' fin' x i' hk' hx hs'=>Qas hnl hcl n st' (t::stk) fin' x i' om hx hs') (succ t) (st++[(t,1)]) fin hi2 (by rw [La];exact Ac _) (hcl t htn) (fun x hx h e=>by simp at e;subst e;exact hx)
  dsimp only
  by_cases hr:(goD (Jr leaf succ n) (succ t) (st++[(t,1)])).1=true
  ·rw [iP hr]
   exact⟨g1,fun h=>by rw [hr] at h;cases h⟩
  rw [iN hr]
  obtain⟨fin1,i1,m1,l1,p1⟩:=g2 (by simpa using hr)
  generalize goD (Jr leaf succ n) (succ t) (st++[(t,1)])=r at*
  refine⟨fun h=>(by cases h),fun _=>⟨fin1++[t],?_,fun a ha=>List.mem_append_left _ (m1 a ha),?_,.inr (by simp)⟩⟩
  ·have htk1:t∈r.2.map (·.1):=(i1.key t).2 (.inl Lf)
   have ht1:Zq t r.2=1:=(i1.gray t).2 Lf
   have htF1:t∉fin1:=fun z=>by have:=(i1.black t).2 z;rw [ht1] at this;cases this
   refine⟨?_,?_,?_,?_,?_,?_,fun a ha=>i1.leafS a (Lm _ ha),List.nodup_append.2 ⟨i1.fd,by simp,fun a ha b hb e=>by simp at hb;exact htF1 (by rw [←hb,←e];exact ha)⟩,?_⟩
   ·rw [Ud];exact i1.nd
   ·rw [Ud];exact i1.sub
   ·intro a
    rw [Ud,i1.key a,Lb,List.mem_append,Lv]
    exact⟨fun z=>z.elim (fun w=>w.elim (fun u=>.inr (.inr u)) .inl) fun w=>.inr (.inl w),fun z=>z.elim (fun w=>.inl (.inr w)) fun w=>w.elim .inr fun u=>.inl (.inl u)⟩
   ·intro a
    rw [QcR]
    by_cases e:a=t
    ·rw [iP ⟨e,htk1⟩];exact⟨fun z=>absurd z Af,fun z=>absurd (e▸z) htS⟩
    ·rw [iN (fun z=>e z.1),i1.gray a,Lb];exact⟨fun z=>z.resolve_left e,.inr⟩
   ·intro a
    rw [QcR,List.mem_append,Lv]
    by_cases e:a=t
    ·rw [iP ⟨e,htk1⟩];exact⟨fun _=>.inr e,fun _=>rfl⟩
    ·rw [iN (fun z=>e z.1),i1.black a];exact⟨.inl,fun z=>z.resolve_right e⟩
   ·have hp:=i1.path
    cases stk with
    |nil=>trivial
    |cons b l=>exact hp.2
   ·intro a1 b a2 hs x hx
    rcases Qls hs with ⟨e1,e2⟩|⟨a3,e⟩
    ·subst e1 e2
     exact p1 x hx
    ·exact i1.ord a1 b a3 e x hx
  ·have:(WF t 2 r.2).length=r.2.length:=by rw [←Lw (·.1),Ud,Lw]
   rw [La] at l1
   dsimp only
   omega
end
end Go.PN
namespace Go.PN
open Go.AI
def OC (uses:List (List Nat)) (off:List Bool) (i:Nat):List Bool:=off.set i (off.getD i false||(uses.getD i []).all fun u=>off.getD u false)
def QoY (uses:List (List Nat)) (off:List Bool) (n:Nat):List Bool:=(List.range n).foldl (OC uses) off
def QdA (uses:List (List Nat)) (n:Nat):Nat→List Bool→List Bool
 |0,off=>off
 |r+1,off=>QdA uses n r (QoY uses off n)
theorem QjH (uses:List (List Nat)) (off:List Bool) (i:Nat):(OC uses off i).length=off.length:=by unfold OC;exact List.length_set ..
theorem Qfd (uses:List (List Nat)) (off:List Bool) (i u:Nat):(OC uses off i).getD u false=if i=u∧i<off.length then(off.getD i false||(uses.getD i []).all fun u=>off.getD u false) else off.getD u false:=by
 unfold OC
 rw [Lg,List.getElem?_set]
 by_cases h:i=u
 ·subst h
  by_cases hl:i<off.length
  ·rw [iP rfl,iP hl,iP ⟨rfl,hl⟩];rfl
  ·rw [iP rfl,iN hl,iN (fun z=>hl z.2),Lg,List.getElem?_eq_none om]
 ·rw [iN h,iN (fun z=>h z.1),Lg]
theorem QgB {uses:List (List Nat)} {off:List Bool} {i u:Nat} (h:off.getD u false=true):(OC uses off i).getD u false=true:=by
 rw [Qfd]
 split
 ·rename_i e
  rw [e.1,h];rfl
 ·exact h
theorem QbW (uses:List (List Nat)):∀(l:List Nat) (off:List Bool),(l.foldl (OC uses) off).length=off.length
 |[],_=>rfl
 |i::l,off=>by rw [List.foldl_cons,QbW uses l,QjH]
theorem QgC {uses:List (List Nat)} {u:Nat}:∀(l:List Nat) (off:List Bool),off.getD u false=true→(l.foldl (OC uses) off).getD u false=true
 |[],_,h=>h
 |i::l,off,h=>by rw [List.foldl_cons];exact QgC l _ (QgB h)
theorem QgD {uses:List (List Nat)} {i:Nat}:∀(l:List Nat) (off:List Bool),i∈l→i<off.length→(∀u∈uses.getD i [],off.getD u false=true)→(l.foldl (OC uses) off).getD i false=true
 |[],_,h,_,_=>by cases h
 |j::l,off,h,hl,hu=>by
  rw [List.foldl_cons]
  by_cases e:i=j
  ·subst e
   refine QgC l _ ?_
   rw [Qfd,iP ⟨rfl,hl⟩,List.all_eq_true.2 fun u hu'=>by simpa using hu u hu',Bool.or_true]
  ·exact QgD l _ ((Lb.1 h).resolve_left e) (by rw [QjH];exact hl) fun u hu'=>QgB (hu u hu')
theorem QjI {uses:List (List Nat)} {bad:Nat→Prop} (hb:∀i,bad i→∃u∈uses.getD i [],bad u):∀(l:List Nat) (off:List Bool),(∀i,bad i→off.getD i false=false)→∀i,bad i→(l.foldl (OC uses) off).getD i false=false
 |[],_,h=>h
 |j::l,off,h=>by
  rw [List.foldl_cons]
  refine QjI hb l _ fun i hi=> ?_
  rw [Qfd]
  split
  ·rename_i e
   obtain⟨e,_⟩:=e
   subst e
   obtain⟨u,hu,hbu⟩:=hb j hi
   rw [h j hi,Bool.false_or]
   refine Bool.eq_false_iff.2 fun z=> ?_
   have:=List.all_eq_true.1 z u hu
   rw [h u hbu] at this
   cases this
  ·exact h i hi
theorem QjJ {uses:List (List Nat)} {n:Nat} {bad:Nat→Prop} (hb:∀i,bad i→∃u∈uses.getD i [],bad u):∀(r:Nat) (off:List Bool),(∀i,bad i→off.getD i false=false)→∀i,bad i→(QdA uses n r off).getD i false=false
 |0,_,h=>h
 |r+1,off,h=>QjJ hb r _ (QjI hb _ off h)
theorem QjK (uses:List (List Nat)) (n:Nat):∀(r:Nat) (off:List Bool),(QdA uses n r off).length=off.length
 |0,_=>rfl
 |r+1,off=>by unfold QdA;rw [QjK uses n r];exact QbW uses _ off
theorem QgE {uses:List (List Nat)} {n:Nat} {pl:Nat→Nat} (hp:∀i,i<n→∀u∈uses.getD i [],u<n∧pl u<pl i):∀(r k:Nat) (off:List Bool),off.length=n→(∀i,i<n→pl i<k→off.getD i false=true)→∀i,i<n→pl i<k+r→(QdA uses n r off).getD i false=true
 |0,_,_,_,h=>h
 |r+1,k,off,hl,h=>fun i hi hk=>by
  refine QgE hp r (k+1) (QoY uses off n) (by unfold QoY;rw [QbW];exact hl) (fun j hj hjk=> ?_) i hi om
  exact QgD _ off (List.mem_range.2 hj) om fun u hu=>h u (hp j hj u hu).1 (by have:=(hp j hj u hu).2;omega)
end Go.PN
namespace Go.PN
open Go.AI
section
variable {α : Type} [DecidableEq α]
theorem Qfe {leaf:α→Bool} {succ:α→List α} {nodes:List α}:DInv leaf succ nodes [] [] []:=
 ⟨List.nodup_nil,fun _ h=>(by cases h),fun a=>(by simp),fun a=>(by simp [Zq]),fun a=>(by simp [Zq]),trivial,fun _ h=>(by cases h),List.nodup_nil,fun l1 b l2 h=>(by simp at h)⟩
theorem Qrw {l:List α} {a:α}:∀{l1 l2:List α},l=l1++a::l2→a∉l1→∀x∈l1,l.idxOf x<l.idxOf a:=by
 intro l1 l2 h hn x hx
 subst h
 rw [List.idxOf_append,List.idxOf_append,iP hx,iN hn]
 have:=List.idxOf_lt_length_iff.2 hx
 omega
theorem QwQ {leaf:α→Bool} {succ:α→List α} {nodes:List α} {uses:List (List Nat)} (hnd:nodes.Nodup) (hnl:∀t∈nodes,leaf t=false) (hcl:∀t∈nodes,∀x∈succ t,leaf x=true∨x∈nodes)
  (hu:uses=nodes.map fun x=>((succ x).filter fun y=> !leaf y).map fun y=>nodes.idxOf y):
  (goD (Jr leaf succ (nodes.length+1)) nodes []).1= !((QdA uses nodes.length nodes.length (List.replicate nodes.length false)).all id):=by
 have hlen:uses.length=nodes.length:=by rw [hu,Lw]
 have hget:∀x∈nodes,uses.getD (nodes.idxOf x) []=((succ x).filter fun y=> !leaf y).map fun y=>nodes.idxOf y:=fun x hx=>by
  have hl:=List.idxOf_lt_length_iff.2 hx
  rw [Lg,hu,List.getElem?_map,Li hl,List.getElem_idxOf hl];rfl
 have hno:∀i,nodes.length≤i→uses.getD i []=[]:=fun i hi=>by
  rw [Lg,List.getElem?_eq_none om];rfl
 have hrl:(QdA uses nodes.length nodes.length (List.replicate nodes.length false)).length=nodes.length:=by rw [QjK,List.length_replicate]
 obtain⟨h1,h2⟩:=Qnb (f:=Jr leaf succ (nodes.length+1)) (k:=0) (stk:=[]) (nodes:=nodes) (leaf:=leaf) (succ:=succ) (fun st fin x hi _ hx hs=>Qas hnl hcl _ st [] fin x hi om hx hs) nodes [] [] Qfe (Lz _) (fun x hx=>.inr hx) (fun x _ h e=>by simp at e)
 generalize goD (Jr leaf succ (nodes.length+1)) nodes []=r at*
 generalize hR:QdA uses nodes.length nodes.length (List.replicate nodes.length false)=R at*
 cases hr:r.1 with
 |true=>
  obtain⟨S,hS,hc⟩:=h1 hr
  have hbad:=QjJ (uses:=uses) (n:=nodes.length) (bad:=fun i=>∃x∈S,nodes.idxOf x=i) (by
   rintro i ⟨x,hx,rfl⟩
   obtain⟨hxn,y,hy,hys⟩:=hc x hx
   refine⟨nodes.idxOf y,?_,y,hy,rfl⟩
   rw [hget x hxn]
   exact List.mem_map.2 ⟨y,List.mem_filter.2 ⟨hys,by rw [hnl y (hc y hy).1];rfl⟩,rfl⟩) nodes.length (List.replicate nodes.length false) (by
   rintro i ⟨x,hx,rfl⟩
   have hl:=List.idxOf_lt_length_iff.2 (hc x hx).1
   rw [Lg,List.getElem?_replicate,iP hl];rfl)
  obtain⟨x,hx⟩:=List.exists_mem_of_ne_nil S hS
  have hb:=hbad (nodes.idxOf x) ⟨x,hx,rfl⟩
  rw [hR] at hb
  have hl:=List.idxOf_lt_length_iff.2 (hc x hx).1
  have:R.all id=false:=by
   rw [Bool.eq_false_iff]
   intro ha
   have hm:=List.all_eq_true.1 ha (R[nodes.idxOf x]'om) (Le _)
   rw [Lg,Li om] at hb
   simp at hb hm
   rw [hb] at hm;cases hm
  rw [this];rfl
 |false=>
  obtain⟨fin,hi,_,_,hf⟩:=h2 hr
  have hfn:∀x∈nodes,x∈fin:=fun x hx=>(hf x hx).resolve_left (by rw [hnl x hx];simp)
  have hnf:∀x∈fin,x∈nodes:=fun x hx=>hi.sub x ((hi.key x).2 (.inr hx))
  have hfl:=JL hi.fd hnf
  have hgood:=QgE (uses:=uses) (n:=nodes.length) (pl:=fun i=>if h:i<nodes.length then fin.idxOf nodes[i] else 0) (by
   intro i hil u hu'
   have hx:nodes[i]∈nodes:=Le hil
   have hix:nodes.idxOf nodes[i]=i:=hnd.idxOf_getElem _ _
   have:=hget _ hx
   rw [hix] at this
   rw [this] at hu'
   obtain⟨y,hy,rfl⟩:=List.mem_map.1 hu'
   obtain⟨hy1,hy2⟩:=List.mem_filter.1 hy
   have hyl:leaf y=false:=by simpa using hy2
   have hyn:y∈nodes:=(hcl _ hx y hy1).resolve_left (by rw [hyl];simp)
   have hul:=List.idxOf_lt_length_iff.2 hyn
   refine⟨hul,?_⟩
   simp only [dif_pos hil,dif_pos hul,List.getElem_idxOf hul]
   obtain⟨l1,l2,hs⟩:=List.append_of_mem (hfn _ hx)
   have hn1:nodes[i]∉l1:=fun hm=>by
    have:=hi.fd
    rw [hs] at this
    exact(List.nodup_append.1 this).2.2 _ hm _ Lf rfl
   exact Qrw hs hn1 y ((hi.ord l1 _ l2 hs y hy1).resolve_left (by rw [hyl];simp))) nodes.length 0 (List.replicate nodes.length false) List.length_replicate (fun i _ h=>absurd h (Nat.not_lt_zero _))
  have:R.all id=true:=by
   refine List.all_eq_true.2 fun b hb=> ?_
   obtain⟨i,hil,rfl⟩:=List.getElem_of_mem hb
   have hin:i<nodes.length:=by omega
   have:=hgood i hin (by
    simp only [dif_pos hin]
    have:=List.idxOf_lt_length_iff.2 (hfn _ (Le hin))
    omega)
   rw [hR,Lg,Li hil] at this
   exact this
  rw [this];rfl
end
end Go.PN
namespace Go.PN
open Go.AI
def QcT (m:Qv) (k:Nat) (n:BS):Nat:=if XF n 0=64 then(Oz m (n.drop 1)+1).toNat else k
def WG (m:Qv) (n:BS):BS:=if XF n 0=64 then(m.pages.getD (Oz m (n.drop 1)).toNat pg0).top else n
def W9 (m:Qv) (k:Nat) (n:BS):Int×Int×Int:=if VH m n≥0 then(0,0,VH m n) else if hsI m n≥0 then(1,0,hsI m n) else(2,(k:Int)-1,Oy (Qt m k) n)
def KG (m:Qv) (k:Nat) (n:BS):Int×Int×Int:=W9 m (QcT m k n) (WG m n)
abbrev thA (t:Int×Int×Int):AV:=.agg [.int .i64 t.1,.int .i64 t.2.1,.int .i64 t.2.2]
end Go.PN
namespace Go.PN
open Go.AI
abbrev Th:=Int×Int×Int
def QbX (m:Qv) (t:Th):Xe:=(Qt m (t.2.1+1).toNat).getD t.2.2.toNat gt0
def Zr (t:Th):Bool:=decide (t.1≠2)
def YL (m:Qv) (k:Nat):List Th:=(List.range (Qt m k).length).map fun(i:Nat)=>((2:Int),(k:Int)-1,(i:Int))
def Vs (m:Qv) (k:Nat):Nat→List Th
 |0=>[]
 |n+1=>YL m k++Vs m (k+1) n
def Q5 (m:Qv):List Th:=Vs m 0 (m.pages.length+1)
theorem Qff {m:Qv} {k:Nat} {t:Th}:t∈YL m k↔∃i:Nat,i<(Qt m k).length∧t=(2,(k:Int)-1,(i:Int)):=by
 unfold YL
 rw [List.mem_map]
 exact⟨fun⟨i,h1,h2⟩=>⟨i,List.mem_range.1 h1,h2.symm⟩,fun⟨i,h1,h2⟩=>⟨i,List.mem_range.2 h1,h2.symm⟩⟩
theorem Qa7 {m:Qv} {t:Th}:∀{n k:Nat},t∈Vs m k n↔∃j i:Nat,k≤j∧j<k+n∧i<(Qt m j).length∧t=(2,(j:Int)-1,(i:Int))
 |0,k=>⟨fun h=>(by cases h),fun⟨j,i,h1,h2,_⟩=>om⟩
 |n+1,k=>by
  show t∈YL m k++Vs m (k+1) n↔_
  rw [List.mem_append,Qff,Qa7]
  constructor
  ·rintro (⟨i,h1,h2⟩|⟨j,i,h1,h2,h3,h4⟩)
   ·exact⟨k,i,Ac _,by omega,h1,h2⟩
   ·exact⟨j,i,by omega,by omega,h3,h4⟩
  ·rintro ⟨j,i,h1,h2,h3,h4⟩
   by_cases e:j=k
   ·subst e;exact .inl ⟨i,h3,h4⟩
   ·exact .inr ⟨j,i,by omega,by omega,h3,h4⟩
theorem Y4 {m:Qv} {t:Th}:t∈Q5 m↔∃j i:Nat,j≤m.pages.length∧i<(Qt m j).length∧t=(2,(j:Int)-1,(i:Int)):=by
 unfold Q5
 rw [Qa7]
 exact⟨fun⟨j,i,_,h2,h3⟩=>⟨j,i,by omega,h3⟩,fun⟨j,i,h2,h3⟩=>⟨j,i,by omega,by omega,h3⟩⟩
theorem Oa (m:Qv):∀n k,(Vs m k n).Nodup
 |0,_=>List.nodup_nil
 |n+1,k=>by
  refine List.nodup_append.2 ⟨?_,Oa m n (k+1),fun a ha b hb e=> ?_⟩
  ·unfold YL
   refine(List.pairwise_map).2 (List.Pairwise.imp (fun {a b} h e=>h ?_) List.nodup_range)
   simp only [Ab] at e
   omega
  ·subst e
   obtain⟨i,_,h1⟩:=Qff.1 ha
   obtain⟨j,i2,h2,_,_,h3⟩:=Qa7.1 hb
   rw [h1] at h3
   simp only [Ab] at h3
   omega
def Z2 (m:Qv) (t:Th):List Th:=(QbX m t).inputs.map (KG m (t.2.1+1).toNat)
def Zk (m:Qv):Nat→List (Th×Int)→Th→Bool×List (Th×Int):=Jr Zr (Z2 m)
def QaF (m:Qv):Bool:=(goD (Zk m ((Q5 m).length+1)) (Q5 m) []).1
def QwR (m:Qv) (k:Nat) (n:BS):Prop:=0<n.length∧(XF n 0=64→0≤Oz m (n.drop 1))∧(Zr (KG m k n)=true∨KG m k n∈Q5 m)
def Qnc (m:Qv):Prop:=∀k,k≤m.pages.length→∀i,i<(Qt m k).length→∀n∈((Qt m k).getD i gt0).inputs,QwR m k n
theorem Ue {m:Qv}:∀t∈Q5 m,Zr t=false:=fun t h=>by
 obtain⟨j,i,_,_,rfl⟩:=Y4.1 h
 rfl
theorem KH {m:Qv} (h:Qnc m):∀t∈Q5 m,∀x∈Z2 m t,Zr x=true∨x∈Q5 m:=fun t ht x hx=>by
 obtain⟨j,i,h1,h2,rfl⟩:=Y4.1 ht
 have e:Z2 m (2,(j:Int)-1,(i:Int))=((Qt m j).getD i gt0).inputs.map (KG m j):=by
  unfold Z2 QbX
  dsimp only
  rw [show((j:Int)-1+1).toNat=j from by omega,Int.toNat_natCast]
 rw [e] at hx
 obtain⟨n,hn,rfl⟩:=List.mem_map.1 hx
 exact(h j h1 i h2 n hn).2.2
variable {α σ : Type}
theorem Z9 {a b:Int}:Vn a b=0↔a=0∧b=0:=by
 unfold Vn
 split
 ·rename_i h;exact⟨fun e=>⟨h,e⟩,fun e=>e.2⟩
 ·rename_i h;exact⟨fun e=>absurd e h,fun e=>absurd e.1 h⟩
theorem Qfg {f:Nat→α→Int} (d:α):∀{l:List α} {i:Nat},X2 f l i=0→∀j,j<l.length→f (i+j) (l.getD j d)=0
 |x::l,i,h,j,hj=>by
  unfold X2 at h
  split at h
  ·rename_i h0
   cases j with
   |zero=>simpa using h0
   |succ j=>
    have:=Qfg d h j (by simpa using hj)
    rw [show i+(j+1)=i+1+j from by omega]
    simpa using this
  ·rename_i h0;exact absurd h h0
theorem Qlt {f:Nat→α→σ→Int×σ} (d:α):∀{l:List α} {i:Nat} {s:σ},(X1 f l i s).1=0→∀j,j<l.length→∃s,(f (i+j) (l.getD j d) s).1=0
 |x::l,i,s,h,j,hj=>by
  unfold X1 at h
  split at h
  ·rename_i h0
   cases j with
   |zero=>exact⟨s,by simpa using h0⟩
   |succ j=>
    obtain⟨s',h'⟩:=Qlt d h j (by simpa using hj)
    refine⟨s',?_⟩
    rw [show i+(j+1)=i+1+j from by omega]
    simpa using h'
  ·rename_i h0;exact absurd h h0
theorem Qfh {f:Nat→σ→Int×σ}:∀{n i:Nat} {s:σ},(K1 f n i s).1=0→∀j,j<n→∃s,(f (i+j) s).1=0
 |n+1,i,s,h,j,hj=>by
  unfold K1 at h
  split at h
  ·rename_i h0
   cases j with
   |zero=>exact⟨s,h0⟩
   |succ j=>
    obtain⟨s',h'⟩:=Qfh h j om
    refine⟨s',?_⟩
    rw [show i+(j+1)=i+1+j from by omega]
    exact h'
  ·rename_i h0;exact absurd h h0
theorem K5 {p:α→Bool} (d:α):∀{l:List α},0≤Xu p l→∃i:Nat,Xu p l=i∧i<l.length∧p (l.getD i d)=true
 |[],h=>absurd (show(0:Int)≤ -1 from h) Af
 |x::l,h=>by
  unfold Xu at h⊢
  by_cases h0:p x=true
  ·rw [iP h0]
   exact⟨0,rfl,by simp,by simpa using h0⟩
  ·rw [iN h0] at h⊢
   by_cases h1:Xu p l<0
   ·rw [iP h1] at h;omega
   ·rw [iN h1]
    obtain⟨i,h2,h3,h4⟩:=K5 (p:=p) d (l:=l) om
    exact⟨i+1,by omega,by simpa using h3,by simpa using h4⟩
structure MdC (m:Qv):Prop where
 ev:∀i,i<m.events.length→QB (m.events.getD i ev0).name=true
 hs:∀i,i<m.houses.length→QB (m.houses.getD i hs0).name=true
 gt:∀k,k≤m.pages.length→∀i,i<(Qt m k).length→gtC m k i ((Qt m k).getD i gt0)=0
 inp:∀k,k≤m.pages.length→∀i,i<(Qt m k).length→∀n∈((Qt m k).getD i gt0).inputs,Yq m k n=true
 tp:∀k,k<m.pages.length→0≤Oy (m.pages.getD k pg0).gates (m.pages.getD k pg0).top∨0≤VH m (m.pages.getD k pg0).top
 top:Yq m 0 m.top=true
theorem WH {m:Qv} (h:Vr m=0):MdC m:=by
 unfold Vr at h
 obtain⟨_,h⟩:=Z9.1 h
 obtain⟨h1,h⟩:=Z9.1 h
 obtain⟨_,h⟩:=Z9.1 h
 obtain⟨h3,h⟩:=Z9.1 h
 obtain⟨h4,h⟩:=Z9.1 h
 obtain⟨h5,_⟩:=Z9.1 h
 unfold Uv at h1
 split at h1
 ·cases h1
 obtain⟨h1,h2⟩:=Z9.1 h1
 split at h2
 ·cases h2
 refine⟨fun i hi=> ?_,fun i hi=> ?_,fun k hk i hi=> ?_,fun k hk i hi n hn=> ?_,fun k hk=> ?_,?_⟩
 ·have:=Qfg ev0 h1 i hi
  unfold evC at this
  split at this
  ·cases this
  ·rename_i e;simpa using e
 ·have:=Qfg hs0 h2 i hi
  unfold hsC at this
  split at this
  ·cases this
  ·rename_i e;simpa using e
 ·obtain⟨_,hg⟩:=Qfh h3 k om
  rw [Nz] at hg
  have:=Qfg gt0 (show X2 (gtC m k) (Qt m k) 0=0 from hg) i hi
  rwa [Nz] at this
 ·obtain⟨s,hg⟩:=Qfh h4 k om
  rw [Nz] at hg
  unfold U6 at hg
  split at hg
  ·rename_i e
   obtain⟨s2,h6⟩:=Qlt gt0 e i hi
   obtain⟨j,hj,rfl⟩:=List.getElem_of_mem hn
   obtain⟨s3,h7⟩:=Qlt ([]:BS) (show(X1 (inI m k ((Qt m k).getD i gt0)) ((Qt m k).getD i gt0).inputs 0 s2).1=0 from h6) j hj
   rw [Nz,show((Qt m k).getD i gt0).inputs.getD j []=((Qt m k).getD i gt0).inputs[j] from by rw [Lg,Li hj];rfl] at h7
   unfold inI at h7
   split at h7
   ·cases h7
   ·rename_i e;simpa using e
  ·rename_i e;exact absurd hg e
 ·obtain⟨s,hg⟩:=Qfh h4 (k+1) om
  rw [Nz] at hg
  unfold U6 at hg
  split at hg
  ·dsimp only [tpC] at hg
   split at hg
   ·cases hg
   ·rename_i e;omega
  ·rename_i e;exact absurd hg e
 ·split at h5
  ·assumption
  ·cases h5
theorem Qfi {s:BS} (h:QB s=true):0<s.length:=by
 unfold QB at h
 simp only [Ba,Dq] at h
 exact h.1.1.1
theorem Qnd {m:Qv} {k:Nat} {n:BS} (hk:k≤m.pages.length) (h:0≤VH m n∨0≤hsI m n∨0≤Oy (Qt m k) n):Zr (W9 m k n)=true∨W9 m k n∈Q5 m:=by
 unfold W9
 by_cases h1:VH m n≥0
 ·rw [iP h1];exact .inl rfl
 ·rw [iN h1]
  by_cases h2:hsI m n≥0
  ·rw [iP h2];exact .inl rfl
  ·rw [iN h2]
   have h3:0≤Oy (Qt m k) n:=by omega
   obtain⟨i,h4,h5,_⟩:=K5 gt0 h3
   exact .inr (Y4.2 ⟨k,i,hk,h5,by rw [show Oy (Qt m k) n=i from h4]⟩)
theorem Qur {m:Qv} (h:MdC m) {k:Nat} (hk:k≤m.pages.length) {n:BS} (hi:Yq m k n=true):QwR m k n:=by
 unfold Yq at hi
 by_cases h0:0<n.length∧XF n 0=64
 ·rw [iP h0] at hi
  have hp:0≤Oz m (n.drop 1):=by simpa using hi
  obtain⟨q,h4,h5,_⟩:=K5 pg0 hp
  refine⟨h0.1,fun _=>hp,?_⟩
  unfold KG QcT WG
  rw [iP h0.2,iP h0.2,show Oz m (n.drop 1)=q from h4,show((q:Int)+1).toNat=q+1 from by omega,Int.toNat_natCast]
  refine Qnd om ?_
  rcases h.tp q h5 with e|e
  ·exact .inr (.inr e)
  ·exact .inl e
 ·rw [iN h0] at hi
  simp only [Bool.or_eq_true,Dq] at hi
  have hp:0<n.length:=by
   cases n with
   |cons=>simp
   |nil=>
    exfalso
    rcases hi with (hi|hi)|hi
    ·obtain⟨i,_,h5,h6⟩:=K5 ev0 hi
     have:=Qfi (h.ev i h5)
     rw [show(m.events.getD i ev0).name=[] from by simpa using h6] at this
     cases this
    ·obtain⟨i,_,h5,h6⟩:=K5 hs0 hi
     have:=Qfi (h.hs i h5)
     rw [show(m.houses.getD i hs0).name=[] from by simpa using h6] at this
     cases this
    ·obtain⟨i,_,h5,h6⟩:=K5 gt0 hi
     have h7:=h.gt k hk i h5
     have e:((Qt m k).getD i gt0).name=[]:=by simpa using h6
     unfold gtC at h7
     split at h7
     ·cases h7
     ·rename_i h8
      have:=Qfi (s:=((Qt m k).getD i gt0).name) (by simpa using h8)
      rw [e] at this
      cases this
  have h64:¬XF n 0=64:=fun e=>h0 ⟨hp,e⟩
  refine⟨hp,fun e=>absurd e h64,?_⟩
  unfold KG QcT WG
  rw [iN h64,iN h64]
  refine Qnd hk ?_
  rcases hi with (hi|hi)|hi
  ·exact .inl hi
  ·exact .inr (.inl hi)
  ·exact .inr (.inr hi)
theorem QcU {m:Qv} (h:MdC m):Qnc m:=fun k hk i hi n hn=>Qur h hk (h.inp k hk i hi n hn)
end Go.PN
namespace Go.Proofs.YtngjgahldnnapaaGreatDoor
open Go.AI Go.PN Proofs.Tryz
attribute [local irreducible] aw Fa ZN ZZ Fh YE
theorem Va (m:Qv) (n:BS) (hl:m.events.length≤1099511627776):Fa prog 94 [.agg (Xa true m),.c (.str (sB n))] (.c (.int .i64 (VH m n))):=by
 refine fA func94 fun C hC=>?_
 refine zA o0 ?_
 refine xB fun g2 n_2=>?_
 repeat' first|refine zV n_2 ?_|refine zH n_2 ?_ ?_<;>intro hb|fail
 refine Qh (fun i:Nat=>[(1,.c (.str (sB n))),(2,.c (.optr g2 0)),(8,.c (evs true m.events)),(9,.c (.int .i64 m.events.length)),(10,.c (.int .i64 i))]) (fun _=>[(g2,.cells 29 8 (ofL (Xa true m)))]) (fun i=>i≤m.events.length∧∀j,j<i→((fun x:X3=>x.name==n) (m.events.getD j ev0))=false) (fun i=>m.events.length-i) 0 (zB n_2) zZ ⟨Lz _,fun j hj=>absurd hj om⟩ ?_
 rintro i ⟨hi,hn⟩
 repeat' first|refine zV n_2 ?_|refine zH n_2 ?_ ?_<;>intro hb|fail
 ·have hi':=hb
  refine yA n_2 fun g6 n_6=>?_
  all_goals try(have Z:=(oj n_2 n_6);(repeat' first|refine zV Z ?_|refine zH Z ?_ ?_<;>intro hb|fail);all_goals clear Z)
  ·rw [show VH m n=(i:Int) from Zc ev0 hi' (by simpa using hb) hn]
   refine yT hC (oj n_2 n_6) ?_
   exact .one (.c (.int _ _))
  ·refine Qb ⟨i+1,?_⟩
   have hn':∀j,j<i+1→((fun x:X3=>x.name==n) (m.events.getD j ev0))=false:=fun j hj=>by
    by_cases e:j=i
    ·subst e;simpa using hb
    ·exact hn j om
   and_intros
   all_goals first|rfl|exact Lr _|exact Ls _ _|exact True.intro|exact hn'|omega
 ·rw [show VH m n= -1 from ZY ev0 fun j hj=>hn j om]
  refine yT hC n_2 ?_
  exact .one (.c (.int _ _))
theorem Qa8 (m:Qv) (n:BS) (hl:m.houses.length≤1099511627776):Fa prog 97 [.agg (Xa true m),.c (.str (sB n))] (.c (.int .i64 (hsI m n))):=by
 refine fA func97 fun C hC=>?_
 repeat' first|refine zV o0 ?_|refine zH o0 ?_ ?_<;>intro hb|fail
 refine xB fun g2 n_2=>?_
 repeat' first|refine zV n_2 ?_|refine zH n_2 ?_ ?_<;>intro hb|fail
 refine Qh (fun i:Nat=>[(1,.c (.str (sB n))),(2,.c (.optr g2 0)),(8,.c (hss true m.houses)),(9,.c (.int .i64 m.houses.length)),(10,.c (.int .i64 i))]) (fun _=>[(g2,.cells 29 8 (ofL (Xa true m)))]) (fun i=>i≤m.houses.length∧∀j,j<i→((fun x:Vx=>x.name==n) (m.houses.getD j hs0))=false) (fun i=>m.houses.length-i) 0 (zB n_2) zZ ⟨Lz _,fun j hj=>absurd hj om⟩ ?_
 rintro i ⟨hi,hn⟩
 repeat' first|refine zV n_2 ?_|refine zH n_2 ?_ ?_<;>intro hb|fail
 ·have hi':=hb
  refine yA n_2 fun g6 n_6=>?_
  all_goals try(have Z:=(oj n_2 n_6);(repeat' first|refine zV Z ?_|refine zH Z ?_ ?_<;>intro hb|fail);all_goals clear Z)
  ·rw [show hsI m n=(i:Int) from Zc hs0 hi' (by simpa using hb) hn]
   refine yT hC (oj n_2 n_6) ?_
   exact .one (.c (.int _ _))
  ·refine Qb ⟨i+1,?_⟩
   have hn':∀j,j<i+1→((fun x:Vx=>x.name==n) (m.houses.getD j hs0))=false:=fun j hj=>by
    by_cases e:j=i
    ·subst e;simpa using hb
    ·exact hn j om
   and_intros
   all_goals first|rfl|exact Lr _|exact Ls _ _|exact True.intro|exact hn'|omega
 ·rw [show hsI m n= -1 from ZY hs0 fun j hj=>hn j om]
  refine yT hC n_2 ?_
  exact .one (.c (.int _ _))
theorem QcV (m:Qv) (n:BS) (hl:m.pages.length≤1099511627776):Fa prog 98 [.agg (Xa true m),.c (.str (sB n))] (.c (.int .i64 (Oz m n))):=by
 refine fA func98 fun C hC=>?_
 repeat' first|refine zV o0 ?_|refine zH o0 ?_ ?_<;>intro hb|fail
 refine xB fun g2 n_2=>?_
 repeat' first|refine zV n_2 ?_|refine zH n_2 ?_ ?_<;>intro hb|fail
 refine Qh (fun i:Nat=>[(1,.c (.str (sB n))),(2,.c (.optr g2 0)),(8,.c (pgs true m.pages)),(9,.c (.int .i64 m.pages.length)),(10,.c (.int .i64 i))]) (fun _=>[(g2,.cells 29 8 (ofL (Xa true m)))]) (fun i=>i≤m.pages.length∧∀j,j<i→((fun x:Yz=>x.name==n) (m.pages.getD j pg0))=false) (fun i=>m.pages.length-i) 0 (zB n_2) zZ ⟨Lz _,fun j hj=>absurd hj om⟩ ?_
 rintro i ⟨hi,hn⟩
 repeat' first|refine zV n_2 ?_|refine zH n_2 ?_ ?_<;>intro hb|fail
 ·have hi':=hb
  refine yA n_2 fun g6 n_6=>?_
  all_goals try(have Z:=(oj n_2 n_6);(repeat' first|refine zV Z ?_|refine zH Z ?_ ?_<;>intro hb|fail);all_goals clear Z)
  ·rw [show Oz m n=(i:Int) from Zc pg0 hi' (by simpa using hb) hn]
   refine yT hC (oj n_2 n_6) ?_
   exact .one (.c (.int _ _))
  ·refine Qb ⟨i+1,?_⟩
   have hn':∀j,j<i+1→((fun x:Yz=>x.name==n) (m.pages.getD j pg0))=false:=fun j hj=>by
    by_cases e:j=i
    ·subst e;simpa using hb
    ·exact hn j om
   and_intros
   all_goals first|rfl|exact Lr _|exact Ls _ _|exact True.intro|exact hn'|omega
 ·rw [show Oz m n= -1 from ZY pg0 fun j hj=>hn j om]
  refine yT hC n_2 ?_
  exact .one (.c (.int _ _))
theorem QcW (l:List Xe) (n:BS) (hl:l.length≤1099511627776):Fa prog 100 [.c (gts true l),.c (.str (sB n))] (.c (.int .i64 (Oy l n))):=by
 refine fA func100 fun C hC=>?_
 repeat' first|refine zV o0 ?_|refine zH o0 ?_ ?_<;>intro hb|fail
 refine Qh (fun i:Nat=>[(1,.c (.str (sB n))),(7,.c (gts true l)),(8,.c (.int .i64 l.length)),(9,.c (.int .i64 i))]) (fun _=>[]) (fun i=>i≤l.length∧∀j,j<i→((fun x:Xe=>x.name==n) (l.getD j gt0))=false) (fun i=>l.length-i) 0 eB zZ ⟨Lz _,fun j hj=>absurd hj om⟩ ?_
 rintro i ⟨hi,hn⟩
 repeat' first|refine zV o0 ?_|refine zH o0 ?_ ?_<;>intro hb|fail
 ·have hi':=hb
  refine xA fun g6 n_6=>?_
  repeat' first|refine zV n_6 ?_|refine zH n_6 ?_ ?_<;>intro hb|fail
  ·rw [show Oy l n=(i:Int) from Zc gt0 hi' (by simpa using hb) hn]
   refine yT hC n_6 ?_
   exact .one (.c (.int _ _))
  ·refine Qb ⟨i+1,?_⟩
   have hn':∀j,j<i+1→((fun x:Xe=>x.name==n) (l.getD j gt0))=false:=fun j hj=>by
    by_cases e:j=i
    ·subst e;simpa using hb
    ·exact hn j om
   and_intros
   all_goals first|rfl|exact Lr _|exact Ls _ _|exact True.intro|exact hn'|omega
 ·rw [show Oy l n= -1 from ZY gt0 fun j hj=>hn j om]
  refine xT hC ?_
  exact .one (.c (.int _ _))
theorem KI (m:Qv) (k:Nat) (hk:k≤m.pages.length) (hl:m.pages.length≤1099511627776):Fa prog 42 [.agg (Xa true m),.c (.int .i64 ((k:Int)-1))] (.c (gts true (Qt m k))):=by
 refine fA func42 fun C hC=>?_
 repeat' first|refine zV o0 ?_|refine zH o0 ?_ ?_<;>intro hb|fail
 refine xB fun g1 n_1=>?_
 repeat' first|refine zV n_1 ?_|refine zH n_1 ?_ ?_<;>intro hb|fail
 ·have h0:k=0:=by omega
  subst h0
  refine yT hC n_1 ?_
  exact .one (.c UM)
 ·obtain⟨j,rfl⟩:∃j,k=j+1:=⟨k-1,by omega⟩
  refine yT hC n_1 ?_
  exact .one (.c UM)
end Go.Proofs.YtngjgahldnnapaaGreatDoor
namespace Go.PN
open Go.AI
def QdB (m:Qv) (k:Nat) (n:BS):Int×Int×Int:=if VH m n≥0 then(0,0,VH m n) else if hsI m n≥0 then(1,0,hsI m n) else if Oy (Qt m k) n≥0 then(2,(k:Int)-1,Oy (Qt m k) n) else(-1,0,0)
def Qlu (m:Qv) (k:Nat) (n:BS):Int×Int×Int:=if 0<n.length∧XF n 0=64 then(if Oz m (n.drop 1)<0 then(-1,0,0) else QdB m (Oz m (n.drop 1)+1).toNat (m.pages.getD (Oz m (n.drop 1)).toNat pg0).top) else QdB m k n
def Y5 (m:Qv):Nat→Int
 |0=>0
 |k+1=>Y5 m k+(Qt m k).length
def QcX (k:Int):Int×Int:=if k=0∨k=1∨k=4∨k=2 then(1,16) else if k=3 then(1,1) else if k=5 then(2,2) else if k=6∨k=7∨k=8 then(2,16) else(0,0)
theorem Qlv {m:Qv} (hl:∀k,(Qt m k).length≤1048576):∀k,0≤Y5 m k∧Y5 m k≤1048576*k
 |0=>⟨Int.le_refl _,Int.le_refl _⟩
 |k+1=>by
  have h1:=Qlv hl k
  have h2:=hl k
  unfold Y5
  omega
end Go.PN
namespace Go.Proofs.YtngjgahldnnapaaGreatDoor
open Go.AI Go.PN Proofs.Tryz
attribute [local irreducible] aw Fa ZN ZZ Fh YE
theorem Qfj (m:Qv) (k:Nat) (n:BS) (hk:k≤m.pages.length) (hev:m.events.length≤1099511627776) (hhs:m.houses.length≤1099511627776) (hpl:m.pages.length≤1099511627776) (hgl:(Qt m k).length≤1099511627776) (hn:n.length≤1099511627776) (h64:¬(0<n.length∧XF n 0=64)):Fa prog 153 [.agg (Xa true m),.c (.int .i64 ((k:Int)-1)),.c (.str (sB n))] (.tup [.c (.int .i64 (QdB m k n).1),.c (.int .i64 (QdB m k n).2.1),.c (.int .i64 (QdB m k n).2.2)]):=by
 have f1:=Va m n hev
 have f2:=Qa8 m n hhs
 have f3:=KI m k hk hpl
 have f4:=QcW (Qt m k) n hgl
 refine fA func153 fun C hC=>?_
 refine zA o0 ?_
 refine xB fun g1 n_1=>?_
 repeat' first|refine zV n_1 ?_|refine yQ n_1 f1 ?_|refine yQ n_1 f2 ?_|refine yQ n_1 f3 ?_|refine yQ n_1 f4 ?_|refine zH n_1 ?_ ?_<;>intro hb|fail
 all_goals clear f1 f2 f3 f4
 ·exfalso;exact h64 (by simp_all)
 all_goals
  refine yT hC n_1 ?_
  refine .tup ⟨.c (Qo ?_),.c (Qo ?_),.c (Qo ?_),trivial⟩
  all_goals
   unfold QdB
   repeat' split
   all_goals exact Ah
theorem Qrx (m:Qv) (k:Nat) (n:BS) (hk:k≤m.pages.length) (hev:m.events.length≤1099511627776) (hhs:m.houses.length≤1099511627776) (hpl:m.pages.length≤1099511627776) (hgl:∀k,(Qt m k).length≤1099511627776) (hn:n.length≤1099511627776)
  (htp:∀q:Nat,q<m.pages.length→(m.pages.getD q pg0).top.length≤1099511627776∧¬(0<(m.pages.getD q pg0).top.length∧XF (m.pages.getD q pg0).top 0=64)):Fa prog 153 [.agg (Xa true m),.c (.int .i64 ((k:Int)-1)),.c (.str (sB n))] (.tup [.c (.int .i64 (Qlu m k n).1),.c (.int .i64 (Qlu m k n).2.1),.c (.int .i64 (Qlu m k n).2.2)]):=by
 by_cases h64:0<n.length∧XF n 0=64
 ·have f1:=QcV m (VN n 1 n.length) hpl
  rw [V1] at f1
  have e1:Qlu m k n=if Oz m (n.drop 1)<0 then(-1,0,0) else QdB m (Oz m (n.drop 1)+1).toNat (m.pages.getD (Oz m (n.drop 1)).toNat pg0).top:=iP h64
  rw [e1]
  have hg:=QdV (fun x:Yz=>x.name==n.drop 1) m.pages
  have hlt:=QhF (fun x:Yz=>x.name==n.drop 1) m.pages
  have hd:∀(c:Prop) [Decidable c],c∨¬c:=fun c _=>Decidable.em c
  obtain⟨h0,h1⟩:=h64
  refine fA func153 fun C hC=>?_
  refine zA o0 ?_
  refine xB fun g1 n_1=>?_
  repeat' first|refine zV n_1 ?_|refine zH n_1 ?_ ?_<;>intro hb|fail
  ·refine Xv 4 Qg kR ?_
   refine zA n_1 ?_
   rw [V1]
   repeat' first|refine zV n_1 ?_|refine yQ n_1 f1 ?_|refine zH n_1 ?_ ?_<;>intro hb|fail
   ·refine yT hC n_1 ?_
    rw [iP hb]
    exact .tup ⟨.c (.int _ _),.c (.int _ _),.c (.int _ _),trivial⟩
   have hq0:¬Oz m (n.drop 1)<0:=hb
   obtain⟨q,hq⟩:∃q:Nat,Oz m (n.drop 1)=q:=⟨(Oz m (n.drop 1)).toNat,by omega⟩
   have hql:q<m.pages.length:=by
    have:(Oz m (n.drop 1))<m.pages.length:=hlt
    omega
   obtain⟨t1,t2⟩:=htp q hql
   have f2:=Qfj m (q+1) (m.pages.getD q pg0).top om hev hhs hpl (hgl _) t1 t2
   rw [show((q+1:Nat):Int)-1=q from by omega] at f2
   rw [iN hq0,hq,show((q:Int)+1).toNat=q+1 from by omega,Int.toNat_natCast]
   refine Xv 14 Qg kR ?_
   refine Zo n_1 f2 ?_
   refine yT hC n_1 ?_
   exact .tup ⟨.c (.int _ _),.c (.int _ _),.c (.int _ _),trivial⟩
  all_goals (exfalso;first|omega|exact hb h1)
 ·rw [show Qlu m k n=QdB m k n from iN h64]
  exact Qfj m k n hk hev hhs hpl (hgl k) hn h64
theorem Qa9 (m:Qv) (k:Nat) (n:BS) (hk:k≤m.pages.length) (hev:m.events.length≤1099511627776) (hhs:m.houses.length≤1099511627776) (hpl:m.pages.length≤1099511627776) (hgl:(Qt m k).length≤1099511627776) (hn:n.length≤1099511627776):Fa prog 102 [.agg (Xa true m),.c (.int .i64 ((k:Int)-1)),.c (.str (sB n))] (.c (.bool (Yq m k n))):=by
 by_cases h64:0<n.length∧XF n 0=64
 ·have f1:=QcV m (VN n 1 n.length) hpl
  rw [V1] at f1
  rw [show Yq m k n=decide (Oz m (n.drop 1)≥0) from iP h64]
  obtain⟨h0,h1⟩:=h64
  refine fA func102 fun C hC=>?_
  refine zA o0 ?_
  refine xB fun g1 n_1=>?_
  repeat' first|refine zV n_1 ?_|refine zH n_1 ?_ ?_<;>intro hb|fail
  ·refine Xv 6 Qg kR ?_
   refine zA n_1 ?_
   rw [V1]
   refine Zo n_1 f1 ?_
   refine yT hC n_1 ?_
   exact .one (.c (.bool _))
  all_goals (exfalso;first|omega|exact hb h1)
 ·have f1:=Qfj m k n hk hev hhs hpl hgl hn h64
  have e1:Yq m k n=decide ((QdB m k n).1≥0):=by
   have h1:=QdV (fun x:X3=>x.name==n) m.events
   unfold Yq QdB
   rw [iN h64]
   by_cases a:VH m n≥0
   ·rw [iP a];simp [a]
   by_cases b:hsI m n≥0
   ·rw [iN a,iP b];simp [b]
   by_cases c:Oy (Qt m k) n≥0
   ·rw [iN a,iN b,iP c];simp [c]
   ·rw [iN a,iN b,iN c];simp [a,b,c]
  rw [e1]
  refine fA func102 fun C hC=>?_
  refine zA o0 ?_
  refine xB fun g1 n_1=>?_
  repeat' first|refine zV n_1 ?_|refine yQ n_1 f1 ?_|refine zH n_1 ?_ ?_<;>intro hb|fail
  ·exfalso;exact h64 (by simp_all)
  all_goals
   refine yT hC n_1 ?_
   exact .one (.c (.bool _))
theorem QgF (r:RD) (hw:r.wf 1073741824):Fa prog 96 [.agg (Y1 r)] (.c (.bool (QaN r))):=by
 have f1:=QcF r (Zu hw Af)
 have f2:=QbB r hw
 unfold QaN
 refine fA func96 fun C hC=>?_
 refine zA o0 ?_
 refine xB fun g1 n_1=>?_
 repeat' first|refine zV n_1 ?_|refine yQ n_1 f1 ?_|refine yQ n_1 f2 ?_|refine zH n_1 ?_ ?_<;>intro hb|fail
 all_goals
  refine yT hC n_1 ?_
  refine .one (.c (Qp ?_))
  simp [hb]
theorem QoZ (r:RD) (hw:r.wf 1073741824):Fa prog 101 [.agg (Y1 r)] (.c (.bool (QbI r))):=by
 unfold QbI
 obtain⟨w1,w2⟩:r.num.length≤1073741824∧r.den.length≤1073741824:=⟨hw.2.2.1,hw.2.2.2⟩
 refine fA func101 fun C hC=>?_
 refine zA o0 ?_
 refine xB fun g1 n_1=>?_
 repeat' first|refine zV n_1 ?_|refine zH n_1 ?_ ?_<;>intro hb|fail
 all_goals
  refine yT hC n_1 ?_
  refine .one (.c (Qp ?_))
  simp_all
theorem QjL (k:Int):Fa prog 99 [.c (.int .i64 k)] (.tup [.c (.int .i64 (QcX k).1),.c (.int .i64 (QcX k).2)]):=by
 refine fA func99 fun C hC=>?_
 repeat' first|refine zV o0 ?_|refine zH o0 ?_ ?_<;>intro hb|fail
 all_goals first
  |(exfalso;omega)
  |(refine xT hC ?_
    refine .tup ⟨.c (Qo ?_),.c (Qo ?_),trivial⟩
    all_goals
     unfold QcX
     repeat' split
     all_goals first|rfl|(exfalso;omega))
theorem QjM (m:Qv) (k i:Nat) (hk:k≤m.pages.length) (hpl:m.pages.length≤1048576) (hgl:∀k,(Qt m k).length≤1048576) (hi:i≤1048576):Fa prog 154 [.agg (Xa true m),.c (.int .i64 ((k:Int)-1)),.c (.int .i64 i)] (.c (.int .i64 (Y5 m k+i))):=by
 have hN:=Qlv hgl
 refine fA func154 fun C hC=>?_
 refine zA o0 ?_
 refine xB fun g1 n_1=>?_
 refine zA n_1 ?_
 refine Qh (fun j:Nat=>[(1,.c (.int .i64 ((k:Int)-1))),(3,.c (.optr g1 0)),(7,.c (.int .i64 (Y5 m j+i))),(8,.c (.int .i64 ((j:Int)-1)))]) (fun _=>[(g1,.cells 29 8 (ofL (Xa true m)))]) (fun j=>j≤k) (fun j=>k-j) 0 (by refine yS n_1 ?_;and_intros<;>first|rfl|exact True.intro|exact Wh (by unfold Y5;omega)) zZ (Lz _) ?_
 intro j hj
 have f1:=KI m j om om
 have h1:=hN j
 have h2:=hgl j
 repeat' first|refine zV n_1 ?_|refine yQ n_1 f1 ?_|refine zH n_1 ?_ ?_<;>intro hb|fail
 ·have hjk:j<k:=by omega
  refine Qb ⟨j+1,?_⟩
  have e1:Y5 m (j+1)=Y5 m j+(Qt m j).length:=rfl
  and_intros
  all_goals first|rfl|exact Lr _|exact Ls _ _|exact True.intro|omega|exact Wh (by rw [e1];omega)|exact Wh om
 ·have:j=k:=by omega
  subst this
  refine yT hC n_1 ?_
  exact .one (.c (.int _ _))
end Go.Proofs.YtngjgahldnnapaaGreatDoor
namespace Go.PN
open Go.AI
variable {α : Type}
theorem QdW {p:α→Bool}:∀{l:List α} {i:Nat} (h:i<l.length),p l[i]=true→0≤Xu p l∧Xu p l≤i
 |x::l,i,h,hp=>by
  unfold Xu
  by_cases h0:p x=true
  ·rw [iP h0];exact⟨by omega,by omega⟩
  ·rw [iN h0]
   cases i with
   |zero=>exact absurd hp h0
   |succ i=>
    obtain⟨a,b⟩:=QdW (p:=p) (l:=l) (i:=i) (by simpa using h) (by simpa using hp)
    rw [iN om]
    omega
theorem KJ {p:α→Bool}:∀{l:List α},0≤Xu p l→∃i,∃h:i<l.length,Xu p l=(i:Int)∧p l[i]=true
 |[],h=>absurd (show(0:Int)≤ -1 from h) Af
 |x::l,h=>by
  unfold Xu at h⊢
  by_cases h0:p x=true
  ·rw [iP h0];exact⟨0,by simp,rfl,h0⟩
  ·rw [iN h0] at h⊢
   by_cases h1:Xu p l<0
   ·rw [iP h1] at h;omega
   ·rw [iN h1]
    obtain⟨i,h2,h3,h4⟩:=KJ (p:=p) (l:=l) om
    exact⟨i+1,by simpa using h2,by omega,by simpa using h4⟩
theorem JM (f:α→BS) (l:List α) (n:BS):0≤Xu (fun x=>f x==n) l↔n∈l.map f:=by
 constructor
 ·intro h
  obtain⟨i,hi,_,h2⟩:=KJ h
  exact List.mem_map.2 ⟨l[i],Le hi,by simpa using h2⟩
 ·intro h
  obtain⟨x,hx,rfl⟩:=List.mem_map.1 h
  obtain⟨i,hi,rfl⟩:=List.getElem_of_mem hx
  exact(QdW (p:=fun x=>f x==f l[i]) hi (by simp)).1
theorem Ob (f:α→BS) (l:List α):(∀j (h:j<l.length),¬Xu (fun x=>f x==f l[j]) l<(j:Int))↔(l.map f).Nodup:=by
 rw [List.nodup_iff_pairwise_ne,List.pairwise_iff_getElem]
 constructor
 ·intro h i j hi hj hij e
  rw [Lw] at hi hj
  rw [List.getElem_map,List.getElem_map] at e
  have:=(QdW (p:=fun x=>f x==f l[j]) hi (by rw [e];simp)).2
  exact h j hj om
 ·intro h j hj hlt
  have h0:=(QdW (p:=fun x=>f x==f l[j]) hj (by simp)).1
  obtain⟨i,hi,h1,h2⟩:=KJ h0
  have:=h i j (by rw [Lw];exact hi) (by rw [Lw];exact hj) om
  rw [List.getElem_map,List.getElem_map] at this
  exact this (by simpa using h2)
theorem Uf {f:Nat→α→Int}:∀(l:List α) (i:Nat),X2 f l i=0↔∀j (h:j<l.length),f (i+j) l[j]=0
 |[],i=>⟨fun _ j h=>absurd h (by simp),fun _=>rfl⟩
 |x::l,i=>by
  have ih:=Uf (f:=f) l (i+1)
  unfold X2
  constructor
  ·intro h j hj
   split at h
   ·rename_i h0
    cases j with
    |zero=>exact h0
    |succ j=>
     have:=(ih.1 h) j (by simpa using hj)
     rw [show i+(j+1)=i+1+j from by omega]
     exact this
   ·rename_i h0;exact absurd h h0
  ·intro h
   rw [iP (show f i x=0 from h 0 (by simp))]
   refine ih.2 fun j hj=> ?_
   have:=h (j+1) (by simpa using hj)
   rw [show i+(j+1)=i+1+j from by omega] at this
   exact this
theorem O4 {f:Nat→α→List BS→Int×List BS} {A:Nat→α→Prop} {g:α→List BS} (hf:∀i x s,s.Nodup→(((f i x s).1=0↔A i x∧(s++g x).Nodup)∧((f i x s).1=0→(f i x s).2=s++g x))):∀(l:List α) (i:Nat) (s:List BS),s.Nodup→(((X1 f l i s).1=0↔(∀j (h:j<l.length),A (i+j) l[j])∧(s++l.flatMap g).Nodup)∧((X1 f l i s).1=0→(X1 f l i s).2=s++l.flatMap g))
 |[],i,s,hs=>⟨⟨fun _=>⟨fun j h=>absurd h (by simp),by simpa using hs⟩,fun _=>rfl⟩,fun _=>by simp [X1]⟩
 |x::l,i,s,hs=>by
  obtain⟨h1,h2⟩:=hf i x s hs
  by_cases h0:(f i x s).1=0
  ·have hn:=h1.1 h0
   have e:=h2 h0
   obtain⟨i1,i2⟩:=O4 hf l (i+1) (s++g x) hn.2
   have hu:X1 f (x::l) i s=X1 f l (i+1) (s++g x):=by
    show(if(f i x s).1=0 then X1 f l (i+1) (f i x s).2 else f i x s)=_
    rw [iP h0,e]
   rw [hu,List.flatMap_cons,←Lo]
   refine⟨i1.trans ⟨fun h=>⟨fun j hj=> ?_,h.2⟩,fun h=>⟨fun j hj=> ?_,h.2⟩⟩,i2⟩
   ·cases j with
    |zero=>exact hn.1
    |succ j=>
     have:=h.1 j (by simpa using hj)
     rw [show i+(j+1)=i+1+j from by omega]
     exact this
   ·have:=h.1 (j+1) (by simpa using hj)
    rw [show i+(j+1)=i+1+j from by omega] at this
    exact this
  ·have hu:X1 f (x::l) i s=f i x s:=by
    show(if(f i x s).1=0 then X1 f l (i+1) (f i x s).2 else f i x s)=_
    rw [iN h0]
   rw [hu]
   refine⟨⟨fun h=>absurd h h0,fun h=> ?_⟩,fun h=>absurd h h0⟩
   refine h1.2 ⟨h.1 0 (by simp),?_⟩
   have h3:=h.2
   rw [List.flatMap_cons,←Lo] at h3
   exact(List.nodup_append.1 h3).1
theorem QjN {f:Nat→List BS→Int×List BS} {A:Nat→Prop} {g:Nat→List BS} (hf:∀i s,s.Nodup→(((f i s).1=0↔A i∧(s++g i).Nodup)∧((f i s).1=0→(f i s).2=s++g i))):∀(n i:Nat) (s:List BS),s.Nodup→((K1 f n i s).1=0↔(∀j,j<n→A (i+j))∧(s++(List.range' i n).flatMap g).Nodup)
 |0,i,s,hs=>⟨fun _=>⟨fun j h=>absurd h (by simp),by simpa using hs⟩,fun _=>rfl⟩
 |n+1,i,s,hs=>by
  obtain⟨h1,h2⟩:=hf i s hs
  rw [List.range'_succ,List.flatMap_cons,←Lo]
  by_cases h0:(f i s).1=0
  ·have hn:=h1.1 h0
   have i1:=QjN hf n (i+1) (s++g i) hn.2
   have hu:K1 f (n+1) i s=K1 f n (i+1) (s++g i):=by
    show(if(f i s).1=0 then K1 f n (i+1) (f i s).2 else f i s)=_
    rw [iP h0,h2 h0]
   rw [hu]
   refine i1.trans ⟨fun h=>⟨fun j hj=> ?_,h.2⟩,fun h=>⟨fun j hj=> ?_,h.2⟩⟩
   ·cases j with
    |zero=>exact hn.1
    |succ j=>
     have:=h.1 j om
     rw [show i+(j+1)=i+1+j from by omega]
     exact this
   ·have:=h.1 (j+1) om
    rw [show i+(j+1)=i+1+j from by omega] at this
    exact this
  ·have hu:K1 f (n+1) i s=f i s:=by
    show(if(f i s).1=0 then K1 f n (i+1) (f i s).2 else f i s)=_
    rw [iN h0]
   rw [hu]
   refine⟨fun h=>absurd h h0,fun h=> ?_⟩
   exact h1.2 ⟨h.1 0 om,(List.nodup_append.1 h.2).1⟩
abbrev Ug (m:Qv):List BS:=m.events.map X3.name
abbrev hsN (m:Qv):List BS:=m.houses.map Vx.name
abbrev pgN (m:Qv):List BS:=m.pages.map Yz.name
abbrev gnN (L:List Xe):List BS:=L.map Xe.name
def InN (m:Qv) (L:List Xe) (i:BS):Prop:=(0<i.length∧XF i 0=64)∧i.drop 1∈pgN m∨¬(0<i.length∧XF i 0=64)∧(i∈Ug m∨i∈hsN m∨i∈gnN L)
def Jg (x:Xe):List BS:=if x.kind=7 then x.inputs else []
def GtA (m:Qv) (L:List Xe) (x:Xe):Prop:=QB x.name=true∧x.name∉Ug m∧x.name∉hsN m∧Je x=0∧(∀i∈x.inputs,InN m L i)∧(x.kind=7→∀i∈x.inputs,i∈Ug m)∧(x.kind=8→∀i∈x.inputs.drop 1,i∈Ug m)
def GsA (m:Qv) (L:List Xe):Prop:=(gnN L).Nodup∧∀x∈L,GtA m L x
def EvA (x:X3):Prop:=QB x.name=true∧x.p.prob=true∧QaN x.fail=true∧QaN x.rep=true∧0≤x.cost∧x.cost≤1073741824
def GrA (m:Qv) (x:YB):Prop:=QB x.name=true∧(x.kind=0∨x.kind=1)∧(2≤(x.members.length:Int)∧(x.members.length:Int)≤(if x.kind=1 then 4 else 24)∧(x.factors.length:Int)=(if x.kind=1 then(x.members.length:Int)-1 else 1))∧(∀n∈x.members,n∈Ug m)∧x.factors.all RD.prob=true
def PhA (m:Qv) (x:V0):Prop:=QB x.name=true∧InN m m.gates x.top∧(∀v∈x.values,v.event∈Ug m∧v.p.prob=true)∧(x.values.map Zp.event).Nodup
structure Good (m:Qv):Prop where
 nm:QB m.name=true
 evl:m.events.length≤24
 ev:∀x∈m.events,EvA x
 evn:(Ug m).Nodup
 hsl:m.houses.length≤16
 hs:∀x∈m.houses,QB x.name=true∧x.name∉Ug m
 hsn:(hsN m).Nodup
 pgl:m.pages.length≤8
 gtl:gtN m≤64
 pg:∀x∈m.pages,QB x.name=true∧GsA m x.gates∧(x.top∈gnN x.gates∨x.top∈Ug m)
 pgn:(pgN m).Nodup
 gt:GsA m m.gates
 sp:((m.gates++m.pages.flatMap Yz.gates).flatMap Jg).Nodup
 tp:InN m m.gates m.top
 grl:m.groups.length≤8
 gr:∀x∈m.groups,GrA m x
 grn:(m.groups.map YB.name).Nodup
 grm:(m.groups.flatMap YB.members).Nodup
 phl:m.phases.length≤6
 ph:∀x∈m.phases,PhA m x
 phn:(m.phases.map V0.name).Nodup
theorem Kk (m:Qv) (n:BS):VH m n<0↔n∉Ug m:=by
 rw [←JM X3.name m.events n];exact⟨fun h=>by unfold VH at h;omega,fun h=>by unfold VH;omega⟩
theorem QbY (m:Qv) (n:BS):hsI m n<0↔n∉hsN m:=by
 rw [←JM Vx.name m.houses n];exact⟨fun h=>by unfold hsI at h;omega,fun h=>by unfold hsI;omega⟩
theorem Qne (L:List Xe) (n:BS):Oy L n<0↔n∉gnN L:=by
 rw [←JM Xe.name L n];exact⟨fun h=>by unfold Oy at h;omega,fun h=>by unfold Oy;omega⟩
theorem Qus (m:Qv) (n:BS):Oz m n<0↔n∉pgN m:=by
 rw [←JM Yz.name m.pages n];exact⟨fun h=>by unfold Oz at h;omega,fun h=>by unfold Oz;omega⟩
theorem QdX (m:Qv) (k:Nat) (i:BS):Yq m k i=true↔InN m (Qt m k) i:=by
 have e1:=Kk m i
 have e2:=QbY m i
 have e3:=Qne (Qt m k) i
 have e4:=Qus m (i.drop 1)
 unfold Yq InN
 by_cases h:0<i.length∧XF i 0=64
 ·rw [iP h]
  simp only [Dq]
  constructor
  ·intro z;exact .inl ⟨h,Classical.byContradiction fun y=>by have:=e4.2 y;omega⟩
  ·rintro (⟨_,z⟩|⟨z,_⟩)
   ·exact Classical.byContradiction fun y=>e4.1 om z
   ·exact absurd h z
 ·rw [iN h]
  simp only [Bool.or_eq_true,Dq]
  constructor
  ·rintro ((z|z)|z)
   ·exact .inr ⟨h,.inl (Classical.byContradiction fun y=>by have:=e1.2 y;omega)⟩
   ·exact .inr ⟨h,.inr (.inl (Classical.byContradiction fun y=>by have:=e2.2 y;omega))⟩
   ·exact .inr ⟨h,.inr (.inr (Classical.byContradiction fun y=>by have:=e3.2 y;omega))⟩
  ·rintro (⟨z,_⟩|⟨_,z|z|z⟩)
   ·exact absurd z h
   ·exact .inl (.inl (Classical.byContradiction fun y=>e1.1 om z))
   ·exact .inl (.inr (Classical.byContradiction fun y=>e2.1 om z))
   ·exact .inr (Classical.byContradiction fun y=>e3.1 om z)
end Go.PN
namespace Go.PN
open Go.AI
variable {α β : Type}
theorem Kl {c:Prop} [Decidable c] {k a:Int} (hk:k≠0):(if c then k else a)=0↔¬c∧a=0:=by
 by_cases h:c
 ·rw [iP h];exact⟨fun e=>absurd e hk,fun e=>absurd h e.1⟩
 ·rw [iN h];exact⟨fun e=>⟨h,e⟩,fun e=>e.2⟩
theorem Jy {P:α→Prop} {l:List α}:(∀j (h:j<l.length),P l[j])↔∀x∈l,P x:=by
 constructor
 ·intro h x hx
  obtain⟨i,hi,rfl⟩:=List.getElem_of_mem hx
  exact h i hi
 ·exact fun h j hj=>h _ (Le hj)
theorem Qyo (m:Qv):X2 (evC m) m.events 0=0↔(∀x∈m.events,EvA x)∧(Ug m).Nodup:=by
 rw [Uf,←Ob X3.name,←Jy]
 have h:∀(j:Nat) (x:X3),evC m j x=0↔EvA x∧¬VH m x.name<j:=fun j x=>by
  unfold evC EvA
  rw [Kl Af,Kl Af,Kl Af]
  simp only [Bool.not_eq_false,not_or,Int.not_lt]
  constructor
  ·rintro ⟨a,b,⟨c,d,e,f,g⟩,_⟩;exact⟨⟨a,c,d,e,f,by omega⟩,by omega⟩
  ·rintro ⟨⟨a,c,d,e,f,g⟩,b⟩;exact⟨a,by omega,⟨c,d,e,f,by omega⟩,trivial⟩
 constructor
 ·exact fun z=>⟨fun j hj=>((h _ _).1 (z j hj)).1,fun j hj=>by have:=((h _ _).1 (z j hj)).2;rw [Nz] at this;exact this⟩
 ·rintro ⟨a,b⟩ j hj
  exact(h _ _).2 ⟨a j hj,by rw [Nz];exact b j hj⟩
theorem Qyp (m:Qv):X2 (hsC m) m.houses 0=0↔(∀x∈m.houses,QB x.name=true∧x.name∉Ug m)∧(hsN m).Nodup:=by
 rw [Uf,←Ob Vx.name,←Jy]
 have h:∀(j:Nat) (x:Vx),hsC m j x=0↔(QB x.name=true∧x.name∉Ug m)∧¬hsI m x.name<j:=fun j x=>by
  have:=Kk m x.name
  unfold hsC
  rw [Kl Af,Kl Af,←this]
  simp only [Bool.not_eq_false,not_or]
  constructor
  ·rintro ⟨a,⟨b,c⟩,_⟩;exact⟨⟨a,by omega⟩,c⟩
  ·rintro ⟨⟨a,b⟩,c⟩;exact⟨a,⟨by omega,c⟩,trivial⟩
 constructor
 ·exact fun z=>⟨fun j hj=>((h _ _).1 (z j hj)).1,fun j hj=>by have:=((h _ _).1 (z j hj)).2;rw [Nz] at this;exact this⟩
 ·rintro ⟨a,b⟩ j hj
  exact(h _ _).2 ⟨a j hj,by rw [Nz];exact b j hj⟩
theorem Qyq (m:Qv):X2 (pgC m) m.pages 0=0↔(∀x∈m.pages,QB x.name=true)∧(pgN m).Nodup:=by
 rw [Uf,←Ob Yz.name,←Jy]
 have h:∀(j:Nat) (x:Yz),pgC m j x=0↔QB x.name=true∧¬Oz m x.name<j:=fun j x=>by
  unfold pgC
  rw [Kl Af,Kl Af]
  simp only [Bool.not_eq_false]
  exact⟨fun z=>⟨z.1,z.2.1⟩,fun z=>⟨z.1,z.2,trivial⟩⟩
 constructor
 ·exact fun z=>⟨fun j hj=>((h _ _).1 (z j hj)).1,fun j hj=>by have:=((h _ _).1 (z j hj)).2;rw [Nz] at this;exact this⟩
 ·rintro ⟨a,b⟩ j hj
  exact(h _ _).2 ⟨a j hj,by rw [Nz];exact b j hj⟩
def Gt1 (m:Qv) (L:List Xe):Prop:=(gnN L).Nodup∧∀x∈L,QB x.name=true∧x.name∉Ug m∧x.name∉hsN m∧Je x=0
theorem Qv2 (m:Qv) (k:Nat):Wy m k=0↔Gt1 m (Qt m k):=by
 unfold Wy Gt1
 rw [Uf,←Ob Xe.name,←Jy]
 have h:∀(j:Nat) (x:Xe),gtC m k j x=0↔(QB x.name=true∧x.name∉Ug m∧x.name∉hsN m∧Je x=0)∧¬Oy (Qt m k) x.name<j:=fun j x=>by
  have e1:=Kk m x.name
  have e2:=QbY m x.name
  unfold gtC
  rw [Kl Af,Kl Af,←e1,←e2]
  simp only [Bool.not_eq_false,not_or]
  constructor
  ·rintro ⟨a,⟨b,c,d⟩,e⟩;exact⟨⟨a,by omega,by omega,e⟩,d⟩
  ·rintro ⟨⟨a,b,c,e⟩,d⟩;exact⟨a,⟨by omega,by omega,d⟩,e⟩
 constructor
 ·exact fun z=>⟨fun j hj=>by have:=((h _ _).1 (z j hj)).2;rw [Nz] at this;exact this,fun j hj=>((h _ _).1 (z j hj)).1⟩
 ·rintro ⟨b,a⟩ j hj
  exact(h _ _).2 ⟨a j hj,by rw [Nz];exact b j hj⟩
theorem QgG {f:Nat→Unit→Int×Unit}:∀(n i:Nat),(K1 f n i ()).1=0↔∀j,j<n→(f (i+j) ()).1=0
 |0,i=>⟨fun _ j h=>absurd h (by simp),fun _=>rfl⟩
 |n+1,i=>by
  have ih:=QgG (f:=f) n (i+1)
  have hu:K1 f (n+1) i ()=if(f i ()).1=0 then K1 f n (i+1) () else f i ():=rfl
  rw [hu]
  constructor
  ·intro h j hj
   split at h
   ·rename_i h0
    cases j with
    |zero=>exact h0
    |succ j=>
     have:=(ih.1 h) j om
     rw [show i+(j+1)=i+1+j from by omega]
     exact this
   ·rename_i h0;exact absurd h h0
  ·intro h
   rw [iP (show(f i ()).1=0 from h 0 om)]
   refine ih.2 fun j hj=> ?_
   have:=h (j+1) om
   rw [show i+(j+1)=i+1+j from by omega] at this
   exact this
theorem Qry (m:Qv) (Q:List Xe→Prop):(∀k,k≤m.pages.length→Q (Qt m k))↔Q m.gates∧∀x∈m.pages,Q x.gates:=by
 have e:∀k (h:k<m.pages.length),Qt m (k+1)=m.pages[k].gates:=fun k h=>by
  show(m.pages.getD k pg0).gates=_
  rw [Lg,Li h];rfl
 constructor
 ·intro h
  refine⟨h 0 (Lz _),fun x hx=> ?_⟩
  obtain⟨i,hi,rfl⟩:=List.getElem_of_mem hx
  rw [←e i hi]
  exact h (i+1) om
 ·rintro ⟨a,b⟩ k hk
  cases k with
  |zero=>exact a
  |succ k=>rw [e k om];exact b _ (Le _)
theorem Qyr (m:Qv):(K1 (fun k (_:Unit)=>(Wy m k,())) (m.pages.length+1) 0 ()).1=0↔Gt1 m m.gates∧∀x∈m.pages,Gt1 m x.gates:=by
 rw [QgG,←Qry m (Gt1 m)]
 constructor
 ·intro h k hk
  have:=h k om
  rw [Nz] at this
  exact(Qv2 m k).1 this
 ·intro h j hj
  rw [Nz]
  exact(Qv2 m j).2 (h j om)
def Gt2 (m:Qv) (L:List Xe) (x:Xe):Prop:=(∀i∈x.inputs,InN m L i)∧(x.kind=7→∀i∈x.inputs,i∈Ug m)∧(x.kind=8→∀i∈x.inputs.drop 1,i∈Ug m)
theorem Qnf {s:List BS} (hs:s.Nodup) (i:BS):(s++[i]).Nodup↔s.contains i=false:=by
 rw [List.nodup_append]
 constructor
 ·rintro ⟨_,_,h⟩
  rw [Bool.eq_false_iff]
  intro e
  exact h i (List.contains_iff_mem.1 e) i (by simp) rfl
 ·intro h
  refine⟨hs,by simp,fun a ha b hb e=> ?_⟩
  rw [Lv] at hb
  subst hb e
  rw [List.contains_iff_mem.2 ha] at h
  cases h
theorem Qut (m:Qv) (k:Nat) (x:Xe) (j:Nat) (i:BS) (s:List BS) (hs:s.Nodup):
  ((inI m k x j i s).1=0↔(Yq m k i=true∧¬(Kv x j=true∧VH m i<0))∧(s++(if x.kind=7 then [i] else [])).Nodup)∧((inI m k x j i s).1=0→(inI m k x j i s).2=s++(if x.kind=7 then [i] else [])):=by
 unfold inI
 by_cases h1:Yq m k i=false
 ·rw [iP h1]
  exact⟨⟨fun e=>absurd e (by dsimp only;decide),fun e=>absurd e.1.1 (by rw [h1];simp)⟩,fun e=>absurd e (by dsimp only;decide)⟩
 rw [iN h1]
 by_cases h2:Kv x j=true∧VH m i<0
 ·rw [iP h2]
  exact⟨⟨fun e=>absurd e (by dsimp only;decide),fun e=>absurd h2 e.1.2⟩,fun e=>absurd e (by dsimp only;decide)⟩
 rw [iN h2]
 by_cases h3:x.kind=7
 ·rw [iP h3,iP h3,Qnf hs]
  by_cases h4:s.contains i=true
  ·rw [iP h4]
   exact⟨⟨fun e=>absurd e (by dsimp only;decide),fun e=>absurd e.2 (by rw [h4];simp)⟩,fun e=>absurd e (by dsimp only;decide)⟩
  ·rw [iN h4]
   exact⟨⟨fun _=>⟨⟨by simpa using h1,h2⟩,by simpa using h4⟩,fun _=>rfl⟩,fun _=>rfl⟩
 ·rw [iN h3,iN h3,Lp]
  exact⟨⟨fun _=>⟨⟨by simpa using h1,h2⟩,hs⟩,fun _=>rfl⟩,fun _=>rfl⟩
theorem Quu (x:Xe):(x.inputs.flatMap fun i=>if x.kind=7 then [i] else [])=Jg x:=by
 unfold Jg
 split
 ·induction x.inputs with
  |nil=>rfl
  |cons a l ih=>rw [List.flatMap_cons,ih];rfl
 ·induction x.inputs with
  |nil=>rfl
  |cons a l ih=>rw [List.flatMap_cons,ih];rfl
theorem QwS (m:Qv) (k:Nat) (x:Xe):(∀j (h:j<x.inputs.length),Yq m k x.inputs[j]=true∧¬(Kv x j=true∧VH m x.inputs[j]<0))↔Gt2 m (Qt m k) x:=by
 have hm:∀j,Kv x j=true↔x.kind=7∨x.kind=8∧0<j:=fun j=>by unfold Kv;simp
 have hn:∀i,(¬VH m i<0)↔i∈Ug m:=fun i=>by rw [Kk];exact Classical.not_not
 constructor
 ·intro h
  refine⟨fun i hi=> ?_,fun h7 i hi=> ?_,fun h8 i hi=> ?_⟩
  ·obtain⟨j,hj,rfl⟩:=List.getElem_of_mem hi
   exact(QdX m k _).1 (h j hj).1
  ·obtain⟨j,hj,rfl⟩:=List.getElem_of_mem hi
   exact(hn _).1 fun z=>(h j hj).2 ⟨(hm j).2 (.inl h7),z⟩
  ·obtain⟨j,hj,rfl⟩:=List.getElem_of_mem hi
   rw [List.length_drop] at hj
   rw [List.getElem_drop]
   exact(hn _).1 fun z=>(h (1+j) om).2 ⟨(hm _).2 (.inr ⟨h8,by omega⟩),z⟩
 ·rintro ⟨a,b,c⟩ j hj
  refine⟨(QdX m k _).2 (a _ (Le hj)),fun⟨z1,z2⟩=> ?_⟩
  rcases(hm j).1 z1 with h7|⟨h8,h0⟩
  ·exact(hn _).2 (b h7 _ (Le hj)) z2
  ·have:x.inputs[j]∈x.inputs.drop 1:=by
    rw [List.mem_drop_iff_getElem]
    exact⟨j-1,by omega,by congr 1;omega⟩
   exact(hn _).2 (c h8 _ this) z2
theorem Quv (m:Qv) (k:Nat) (s:List BS) (hs:s.Nodup):((U6 m k s).1=0↔((∀x∈Qt m k,Gt2 m (Qt m k) x)∧tpC m k=0)∧(s++(Qt m k).flatMap Jg).Nodup)∧((U6 m k s).1=0→(U6 m k s).2=s++(Qt m k).flatMap Jg):=by
 have h1:=O4 (f:=inG m k) (A:=fun _ x=>Gt2 m (Qt m k) x) (g:=Jg) (fun i x s hs=>by
  have h:=O4 (f:=inI m k x) (A:=fun j i=>Yq m k i=true∧¬(Kv x j=true∧VH m i<0)) (g:=fun i=>if x.kind=7 then [i] else []) (fun j i s hs=>Qut m k x j i s hs) x.inputs 0 s hs
  rw [Quu] at h
  have e:(∀j (h:j<x.inputs.length),Yq m k x.inputs[j]=true∧¬(Kv x (0+j)=true∧VH m x.inputs[j]<0))↔Gt2 m (Qt m k) x:=by
   rw [←QwS]
   simp only [Nz]
  rw [e] at h
  exact h) (Qt m k) 0 s hs
 rw [Jy (P:=fun x=>Gt2 m (Qt m k) x)] at h1
 obtain⟨h1,h2⟩:=h1
 unfold U6
 by_cases h0:(X1 (inG m k) (Qt m k) 0 s).1=0
 ·rw [iP h0]
  have h3:=h1.1 h0
  refine⟨⟨fun e=>⟨⟨h3.1,e⟩,h3.2⟩,fun e=>e.1.2⟩,fun _=>h2 h0⟩
 ·rw [iN h0]
  exact⟨⟨fun e=>absurd e h0,fun e=>h1.2 ⟨e.1.1,e.2⟩⟩,fun e=>absurd e h0⟩
theorem Qfk {f g:α→List β}:∀{l:List α},(∀x∈l,f x=g x)→l.flatMap f=l.flatMap g
 |[],_=>rfl
 |x::l,h=>by
  rw [List.flatMap_cons,List.flatMap_cons,h x Lf,Qfk fun y hy=>h y (Lm _ hy)]
theorem Qlw (F:α→List β) (d:α) (l:List α):(List.range' 1 l.length).flatMap (fun k=>F (l.getD (k-1) d))=l.flatMap F:=by
 have e:(List.range' 1 l.length).map (fun k=>l.getD (k-1) d)=l:=by
  refine List.ext_getElem (by simp) fun i h1 h2=> ?_
  rw [List.getElem_map,List.getElem_range',Lg,show 1+1*i-1=i from by omega,Li h2];rfl
 conv=>rhs;rw [←e]
 rw [List.flatMap_map]
theorem Qo0 (F:Xe→List β) (m:Qv):(List.range' 0 (m.pages.length+1)).flatMap (fun k=>(Qt m k).flatMap F)=(m.gates++m.pages.flatMap Yz.gates).flatMap F:=by
 rw [List.range'_succ,List.flatMap_cons,List.flatMap_append]
 congr 1
 rw [List.flatMap_assoc,←Qlw (fun x:Yz=>x.gates.flatMap F) pg0 m.pages]
 refine Qfk fun k hk=> ?_
 rw [List.mem_range'] at hk
 obtain⟨i,_,rfl⟩:=hk
 rw [show 0+1+1*i=i+1 from by omega,show i+1-1=i from rfl]
 rfl
theorem Qys (m:Qv):(K1 (U6 m) (m.pages.length+1) 0 []).1=0↔((∀x∈m.gates,Gt2 m m.gates x)∧∀p∈m.pages,(∀x∈p.gates,Gt2 m p.gates x)∧(p.top∈gnN p.gates∨p.top∈Ug m))∧((m.gates++m.pages.flatMap Yz.gates).flatMap Jg).Nodup:=by
 have h:=QjN (f:=U6 m) (A:=fun k=>(∀x∈Qt m k,Gt2 m (Qt m k) x)∧tpC m k=0) (g:=fun k=>(Qt m k).flatMap Jg) (fun k s hs=>Quv m k s hs) (m.pages.length+1) 0 [] List.nodup_nil
 rw [Ln,Qo0] at h
 rw [h]
 refine and_congr ?_ Iff.rfl
 have ht:∀k (h:k<m.pages.length),tpC m (k+1)=0↔(m.pages[k].top∈gnN m.pages[k].gates∨m.pages[k].top∈Ug m):=fun k h=>by
  have e:m.pages.getD k pg0=m.pages[k]:=by rw [Lg,Li h];rfl
  show(if _ then(5:Int) else 0)=0↔_
  rw [e,Kl Af,Qne,Kk,Classical.not_and_iff_not_or_not,Classical.not_not,Classical.not_not]
  exact⟨fun z=>z.1,fun z=>⟨z,rfl⟩⟩
 constructor
 ·intro h
  refine⟨by have:=(h 0 om).1;exact this,fun p hp=> ?_⟩
  obtain⟨i,hi,rfl⟩:=List.getElem_of_mem hp
  have h1:=h (i+1) om
  rw [Nz] at h1
  have e:Qt m (i+1)=m.pages[i].gates:=by
   show(m.pages.getD i pg0).gates=_
   rw [Lg,Li hi];rfl
  rw [e] at h1
  exact⟨h1.1,(ht i hi).1 h1.2⟩
 ·rintro ⟨a,b⟩ j hj
  rw [Nz]
  cases j with
  |zero=>exact⟨a,rfl⟩
  |succ j=>
   have hi:j<m.pages.length:=by omega
   have e:Qt m (j+1)=m.pages[j].gates:=by
    show(m.pages.getD j pg0).gates=_
    rw [Lg,Li hi];rfl
   obtain⟨c,d⟩:=b _ (Le hi)
   rw [e]
   exact⟨c,(ht j hi).2 d⟩
theorem Quw (m:Qv) (j:Nat) (n:BS) (s:List BS) (hs:s.Nodup):((OA m j n s).1=0↔n∈Ug m∧(s++[n]).Nodup)∧((OA m j n s).1=0→(OA m j n s).2=s++[n]):=by
 unfold OA
 rw [Qnf hs]
 by_cases h1:VH m n<0
 ·rw [iP h1]
  exact⟨⟨fun e=>absurd e (by dsimp only;decide),fun e=>absurd e.1 ((Kk m n).1 h1)⟩,fun e=>absurd e (by dsimp only;decide)⟩
 rw [iN h1]
 have h2:n∈Ug m:=Classical.byContradiction fun z=>h1 ((Kk m n).2 z)
 by_cases h4:s.contains n=true
 ·rw [iP h4]
  exact⟨⟨fun e=>absurd e (by dsimp only;decide),fun e=>absurd e.2 (by rw [h4];simp)⟩,fun e=>absurd e (by dsimp only;decide)⟩
 ·rw [iN h4]
  exact⟨⟨fun _=>⟨h2,by simpa using h4⟩,fun _=>rfl⟩,fun _=>rfl⟩
theorem Qrz (l:List α):(l.flatMap fun x=>[x])=l:=by
 induction l with
 |nil=>rfl
 |cons a l ih=>rw [List.flatMap_cons,ih];rfl
theorem Qux (m:Qv) (i:Nat) (x:YB) (s:List BS) (hs:s.Nodup):((OG m i x s).1=0↔(GrA m x∧¬Xu (fun y:YB=>y.name==x.name) m.groups<i)∧(s++x.members).Nodup)∧((OG m i x s).1=0→(OG m i x s).2=s++x.members):=by
 have hm:=O4 (f:=OA m) (A:=fun _ n=>n∈Ug m) (g:=fun n=>[n]) (fun j n s hs=>Quw m j n s hs) x.members 0 s hs
 rw [Qrz,Jy (P:=fun n=>n∈Ug m)] at hm
 obtain⟨m1,m2⟩:=hm
 have no:∀{c:Int} {p:List BS} {q:Prop},c≠0→(¬q)→(((c,p).1=0↔q)∧((c,p).1=0→(c,p).2=s++x.members)):=fun hc hq=>⟨⟨fun e=>absurd e hc,fun e=>absurd e hq⟩,fun e=>absurd e hc⟩
 unfold OG
 by_cases h1:QB x.name=false
 ·rw [iP h1]
  exact no Af fun z=>by have:=z.1.1.1;rw [h1] at this;cases this
 rw [iN h1]
 by_cases h2:Xu (fun y:YB=>y.name==x.name) m.groups<i
 ·rw [iP h2]
  exact no Af fun z=>z.1.2 h2
 rw [iN h2]
 by_cases h3:x.kind≠0∧x.kind≠1
 ·rw [iP h3]
  exact no Af fun z=>by have:=z.1.1.2.1;omega
 rw [iN h3]
 by_cases h4:(x.members.length:Int)<2∨(x.members.length:Int)>(if x.kind=1 then 4 else 24)∨(x.factors.length:Int)≠(if x.kind=1 then(x.members.length:Int)-1 else 1)
 ·rw [iP h4]
  exact no Af fun z=>by
   obtain⟨a,b,c⟩:=z.1.1.2.2.1
   rcases h4 with h4|h4|h4
   ·omega
   ·omega
   ·exact h4 c
 rw [iN h4]
 by_cases h5:(X1 (OA m) x.members 0 s).1≠0
 ·rw [iP h5]
  exact⟨⟨fun e=>absurd e h5,fun e=>m1.2 ⟨e.1.1.2.2.2.1,e.2⟩⟩,fun e=>absurd e h5⟩
 rw [iN h5]
 have h5':(X1 (OA m) x.members 0 s).1=0:=by omega
 have h6:=m1.1 h5'
 by_cases h7:x.factors.all RD.prob=false
 ·rw [iP h7]
  exact no Af fun z=>by have:=z.1.1.2.2.2.2;rw [h7] at this;cases this
 rw [iN h7]
 simp only [not_or,Int.not_lt,Classical.not_not] at h4
 refine⟨⟨fun _=>⟨⟨⟨by simpa using h1,by omega,⟨h4.1,by omega,h4.2.2⟩,h6.1,by simpa using h7⟩,h2⟩,h6.2⟩,fun _=>rfl⟩,fun _=>m2 h5'⟩
theorem Qyt (m:Qv):Y3 m=0↔m.groups.length≤8∧(∀x∈m.groups,GrA m x)∧(m.groups.map YB.name).Nodup∧(m.groups.flatMap YB.members).Nodup:=by
 unfold Y3
 rw [Kl Af]
 have h:=(O4 (f:=OG m) (A:=fun i x=>GrA m x∧¬Xu (fun y:YB=>y.name==x.name) m.groups<i) (g:=YB.members) (fun i x s hs=>Qux m i x s hs) m.groups 0 [] List.nodup_nil).1
 rw [h,Ln,←Ob YB.name,←Jy (P:=fun x=>GrA m x)]
 simp only [Nz]
 constructor
 ·rintro ⟨a,b,c⟩;exact⟨by omega,fun j hj=>(b j hj).1,fun j hj=>(b j hj).2,c⟩
 ·rintro ⟨a,b,c,d⟩;exact⟨by omega,fun j hj=>⟨b j hj,c j hj⟩,d⟩
theorem Qyu (m:Qv) (x:V0):X2 (vlC m x) x.values 0=0↔(∀v∈x.values,v.event∈Ug m∧v.p.prob=true)∧(x.values.map Zp.event).Nodup:=by
 rw [Uf,←Ob Zp.event,←Jy]
 have h:∀(j:Nat) (v:Zp),vlC m x j v=0↔(v.event∈Ug m∧v.p.prob=true)∧¬Xu (fun y:Zp=>y.event==v.event) x.values<j:=fun j v=>by
  unfold vlC
  rw [Kl Af,Kl Af,Kl Af,Kk,Classical.not_not]
  simp only [Bool.not_eq_false]
  exact⟨fun z=>⟨⟨z.1,z.2.2.1⟩,z.2.1⟩,fun z=>⟨z.1.1,z.2,z.1.2,trivial⟩⟩
 constructor
 ·exact fun z=>⟨fun j hj=>((h _ _).1 (z j hj)).1,fun j hj=>by have:=((h _ _).1 (z j hj)).2;rw [Nz] at this;exact this⟩
 ·rintro ⟨a,b⟩ j hj
  exact(h _ _).2 ⟨a j hj,by rw [Nz];exact b j hj⟩
theorem Qyv (m:Qv):Vz m=0↔m.phases.length≤6∧(∀x∈m.phases,PhA m x)∧(m.phases.map V0.name).Nodup:=by
 unfold Vz
 rw [Kl Af,Uf,←Ob V0.name,←Jy]
 have h:∀(j:Nat) (x:V0),phC m j x=0↔PhA m x∧¬Xu (fun y:V0=>y.name==x.name) m.phases<j:=fun j x=>by
  unfold phC PhA
  have e:=QdX m 0 x.top
  rw [Kl Af,Kl Af,Kl Af,Qyu]
  simp only [Bool.not_eq_false]
  rw [e]
  exact⟨fun z=>⟨⟨z.1,z.2.2.1,z.2.2.2.1,z.2.2.2.2⟩,z.2.1⟩,fun z=>⟨z.1.1,z.2,z.1.2.1,z.1.2.2.1,z.1.2.2.2⟩⟩
 constructor
 ·rintro ⟨a,z⟩
  exact⟨by omega,fun j hj=>((h _ _).1 (z j hj)).1,fun j hj=>by have:=((h _ _).1 (z j hj)).2;rw [Nz] at this;exact this⟩
 ·rintro ⟨c,a,b⟩
  exact⟨by omega,fun j hj=>(h _ _).2 ⟨a j hj,by rw [Nz];exact b j hj⟩⟩
theorem Qfl (m:Qv):Vr m=0↔Good m:=by
 unfold Vr Uv Uw
 rw [Z9,Z9,Z9,Z9,Z9,Z9,Z9,Kl (c:=m.events.length>24) (k:=4) Af,Z9,Kl (c:=m.houses.length>16) (k:=4) Af,Kl (c:=m.pages.length>8∨gtN m>64) (k:=4) Af,Qyo,Qyp,Qyq,Qyr,Qys,Qyt,Qyv]
 have et:=QdX m 0 m.top
 constructor
 ·rintro ⟨a1,⟨a2,⟨a3,a4⟩,a5,a6,a7⟩,⟨a8,a9,a10⟩,⟨a11,a12⟩,⟨⟨a13,a14⟩,a15⟩,a16,⟨a17,a18,a19,a20⟩,a21,a22,a23⟩
  have t1:QB m.name=true:=by
   by_cases z:QB m.name=true
   ·exact z
   ·rw [iN z] at a1;cases a1
  have t2:Yq m 0 m.top=true:=by
   by_cases z:Yq m 0 m.top=true
   ·exact z
   ·rw [iN z] at a16;cases a16
  refine⟨t1,by omega,a3,a4,by omega,a6,a7,by omega,by omega,fun x hx=>⟨a9 x hx,⟨(a12 x hx).1,fun g hg=> ?_⟩,(a14 x hx).2⟩,a10,⟨a11.1,fun g hg=> ?_⟩,a15,et.1 t2,a17,a18,a19,a20,a21,a22,a23⟩
  ·obtain⟨b1,b2,b3,b4⟩:=(a12 x hx).2 g hg
   exact⟨b1,b2,b3,b4,(a14 x hx).1 g hg⟩
  ·obtain⟨b1,b2,b3,b4⟩:=a11.2 g hg
   exact⟨b1,b2,b3,b4,a13 g hg⟩
 ·intro h
  have g1:∀{L:List Xe},GsA m L→Gt1 m L:=fun z=>⟨z.1,fun x hx=>⟨(z.2 x hx).1,(z.2 x hx).2.1,(z.2 x hx).2.2.1,(z.2 x hx).2.2.2.1⟩⟩
  have g2:∀{L:List Xe},GsA m L→∀x∈L,Gt2 m L x:=fun z x hx=>(z.2 x hx).2.2.2.2
  have:=h.evl
  have:=h.hsl
  have:=h.pgl
  have:=h.gtl
  refine⟨iP h.nm,⟨by omega,⟨h.ev,h.evn⟩,by omega,h.hs,h.hsn⟩,⟨by omega,fun x hx=>(h.pg x hx).1,h.pgn⟩,⟨g1 h.gt,fun x hx=>g1 (h.pg x hx).2.1⟩,⟨⟨g2 h.gt,fun x hx=>⟨g2 (h.pg x hx).2.1,(h.pg x hx).2.2⟩⟩,h.sp⟩,iP (et.2 h.tp),⟨h.grl,h.gr,h.grn,h.grm⟩,h.phl,h.ph,h.phn⟩
end Go.PN
namespace Go.PN
open Go.AI
variable {α β : Type}
abbrev VU:BS→BS→Bool:=Go.Op.bytesLess
theorem QhN:∀a:BS,VU a a=false
 |[]=>rfl
 |x::a=>by
  show(decide (x<x)||(x==x&&VU a a))=false
  rw [QhN a];simp
theorem QhO:∀{a b:BS},VU a b=false→VU b a=false→a=b
 |[],[],_,_=>rfl
 |[],_::_,h,_=>by cases h
 |_::_,[],_,h=>by cases h
 |x::a,y::b,h1,h2=>by
  replace h1:(decide (x<y)||(x==y&&VU a b))=false:=h1
  replace h2:(decide (y<x)||(y==x&&VU b a))=false:=h2
  simp only [Bool.or_eq_false_iff,decide_eq_false_iff_not,Bool.and_eq_false_iff,beq_eq_false_iff_ne] at h1 h2
  have hxy:x=y:=by
   apply UInt8.toNat_inj.1
   have a1:¬x.toNat<y.toNat:=h1.1
   have a2:¬y.toNat<x.toNat:=h2.1
   omega
  subst hxy
  rw [QhO (h1.2.resolve_left fun z=>z rfl) (h2.2.resolve_left fun z=>z rfl)]
theorem Qat:∀{a b c:BS},VU a b=true→VU b c=true→VU a c=true
 |_,_,[],_,h=>by cases ‹BS›<;>cases h
 |[],_,_::_,_,_=>rfl
 |_::_,[],_::_,h,_=>by cases h
 |x::a,y::b,z::c,h1,h2=>by
  replace h1:(decide (x<y)||(x==y&&VU a b))=true:=h1
  replace h2:(decide (y<z)||(y==z&&VU b c))=true:=h2
  show(decide (x<z)||(x==z&&VU a c))=true
  simp only [Bool.or_eq_true,Dq,Ba,beq_iff_eq] at h1 h2⊢
  rcases h1 with h1|⟨rfl,h1⟩<;>rcases h2 with h2|⟨rfl,h2⟩
  ·left
   have a1:x.toNat<y.toNat:=h1
   have a2:y.toNat<z.toNat:=h2
   show x.toNat<z.toNat
   omega
  ·exact .inl h1
  ·exact .inl h2
  ·exact .inr ⟨rfl,Qat h1 h2⟩
theorem QjO {a b:BS} (h:VU a b=true):VU b a=false:=by
 rw [Bool.eq_false_iff]
 intro e
 have:=Qat h e
 rw [QhN] at this
 cases this
theorem QcY {a b c:BS} (h1:VU b a=false) (h2:VU c b=false):VU c a=false:=by
 rw [Bool.eq_false_iff]
 intro e
 by_cases h:VU b c=true
 ·have:=Qat h e
  rw [h1] at this;cases this
 ·have e2:=QhO (by simpa using h) h2
  subst e2
  rw [h1] at e;cases e
def Jz (f:α→BS) (x:α) (l:List α):List α:=(l.reverse.dropWhile fun y=>VU (f x) (f y)).reverse++x::(l.reverse.takeWhile fun y=>VU (f x) (f y)).reverse
def Qk (f:α→BS) (l:List α):List α:=l.foldl (fun a x=>Jz f x a) []
def Qba (f:α→BS) (l:List α):Prop:=l.Pairwise fun a b=>VU (f b) (f a)=false
theorem QgH (f:α→BS) (x:α) (l:List α):(Jz f x l).Perm (x::l):=by
 unfold Jz
 refine List.perm_middle.trans (.cons _ ?_)
 have h:=List.takeWhile_append_dropWhile (p:=fun y=>VU (f x) (f y)) (l:=l.reverse)
 have h2:(l.reverse.dropWhile fun y=>VU (f x) (f y)).reverse++(l.reverse.takeWhile fun y=>VU (f x) (f y)).reverse=l:=by
  rw [←List.reverse_append,h,List.reverse_reverse]
 rw [h2]
theorem Qfm {p:α→Bool}:∀{l:List α} {a:α} {r:List α},l.dropWhile p=a::r→p a=false
 |[],_,_,h=>by cases h
 |x::l,a,r,h=>by
  rw [List.dropWhile_cons] at h
  split at h
  ·exact Qfm h
  ·rename_i e
   injection h with h1 h2
   subst h1
   simpa using e
theorem QrA {f:α→BS} (x:α) {l:List α} (h:Qba f l):Qba f (Jz f x l):=by
 have h2:(l.reverse.dropWhile fun y=>VU (f x) (f y)).reverse++(l.reverse.takeWhile fun y=>VU (f x) (f y)).reverse=l:=by
  rw [←List.reverse_append,List.takeWhile_append_dropWhile,List.reverse_reverse]
 have ht:∀y∈l.reverse.takeWhile fun y=>VU (f x) (f y),VU (f x) (f y)=true:=fun y hy=>by
  have:=List.all_takeWhile (p:=fun y=>VU (f x) (f y)) (l:=l.reverse)
  exact List.all_eq_true.1 this y hy
 have hd:∀a r,(l.reverse.dropWhile fun y=>VU (f x) (f y))=a::r→VU (f x) (f a)=false:=fun a r e=>Qfm (p:=fun y=>VU (f x) (f y)) e
 unfold Jz Qba
 unfold Qba at h
 rw [←h2,List.pairwise_append] at h
 generalize (l.reverse.dropWhile fun y=>VU (f x) (f y))=D at*
 generalize (l.reverse.takeWhile fun y=>VU (f x) (f y))=T at*
 obtain⟨h3,h4,h5⟩:=h
 have hD:∀a∈D.reverse,VU (f x) (f a)=false:=fun a ha=>by
  cases D with
  |nil=>cases ha
  |cons b r=>
   have hb:=hd b r rfl
   rw [List.reverse_cons,List.pairwise_append] at h3
   rw [List.reverse_cons,List.mem_append] at ha
   rcases ha with ha|ha
   ·exact QcY (h3.2.2 a ha b (by simp)) hb
   ·rw [Lv] at ha;rw [ha];exact hb
 rw [List.pairwise_append]
 refine⟨h3,List.pairwise_cons.2 ⟨fun y hy=>QjO (ht y (List.mem_reverse.1 hy)),h4⟩,fun a ha b hb=> ?_⟩
 rcases Lb.1 hb with rfl|hb
 ·exact hD a ha
 ·exact h5 a ha b hb
theorem Qau (f:α→BS):∀(l a:List α),(l.foldl (fun a x=>Jz f x a) a).Perm (a++l)
 |[],a=>by rw [Lp];exact .refl _
 |x::l,a=>by
  rw [List.foldl_cons]
  refine(Qau f l _).trans ?_
  refine((QgH f x a).append_right l).trans ?_
  exact(List.perm_middle (a:=x) (l₁:=a) (l₂:=l)).symm
theorem Q6 (f:α→BS) (l:List α):(Qk f l).Perm l:=by
 have:=Qau f l []
 rwa [Ln] at this
theorem QjP (f:α→BS):∀(l a:List α),Qba f a→Qba f (l.foldl (fun a x=>Jz f x a) a)
 |[],_,h=>h
 |x::l,a,h=>QjP f l _ (QrA x h)
theorem QgI (f:α→BS) (l:List α):Qba f (Qk f l):=QjP f l [] .nil
theorem Qfn {f:α→BS}:∀{l l':List α},l.Perm l'→Qba f l→Qba f l'→(∀x∈l,∀y∈l,f x=f y→x=y)→l=l'
 |[],l',hp,_,_,_=>(List.nil_perm.1 hp).symm
 |x::l,[],hp,_,_,_=>absurd hp.length_eq (by simp)
 |x::l,y::l',hp,h1,h2,hi=>by
  have hxy:x=y:=by
   have hx:x∈y::l':=hp.mem_iff.1 Lf
   have hy:y∈x::l:=hp.mem_iff.2 Lf
   rcases Lb.1 hx with e|hx
   ·exact e
   rcases Lb.1 hy with e|hy
   ·exact e.symm
   exact hi x Lf y (Lm _ hy) (QhO ((List.pairwise_cons.1 h2).1 x hx) ((List.pairwise_cons.1 h1).1 y hy))
  subst hxy
  rw [Qfn ((List.perm_cons x).1 hp) (List.pairwise_cons.1 h1).2 (List.pairwise_cons.1 h2).2 fun a ha b hb=>hi a (Lm _ ha) b (Lm _ hb)]
theorem Qlx {f:α→BS} {l:List α} (h:(l.map f).Nodup):∀x∈l,∀y∈l,f x=f y→x=y:=fun x hx y hy e=>by
 obtain⟨i,hi,rfl⟩:=List.getElem_of_mem hx
 obtain⟨j,hj,rfl⟩:=List.getElem_of_mem hy
 have:i=j:=by
  exact(List.getElem_inj (xs:=l.map f) (i:=i) (j:=j) (h₀:=by simpa using hi) (h₁:=by simpa using hj) h).1 (by rw [List.getElem_map,List.getElem_map];exact e)
 subst this;rfl
theorem JN {f:α→BS} {l l':List α} (hp:l'.Perm l) (hs:Qba f l') (h:(l.map f).Nodup):l'=Qk f l:=
 Qfn (hp.trans (Q6 f l).symm) hs (QgI f l) (Qlx ((hp.map f).nodup_iff.2 h))
theorem Quy {l l':List BS} (hp:l'.Perm l) (hs:Qba id l'):l'=Qk id l:=
 Qfn (hp.trans (Q6 id l).symm) hs (QgI id l) fun _ _ _ _ e=>e
abbrev K6 (k:Int):Prop:=k=0∨k=1∨k=2∨k=4
def QgJ (k:Int) (l:List BS):List BS:=if K6 k then Qk id l else if k=8 then l.take 1++Qk id (l.drop 1) else l
def normG (g:Xe):Xe:={g with inputs:=QgJ g.kind g.inputs}
def UP (l:List Xe):List Xe:=Qk Xe.name (l.map normG)
def normP (x:Yz):Yz:=⟨x.name,x.top,UP x.gates⟩
def normR (x:YB):YB:=⟨x.name,x.kind,Qk id x.members,x.factors⟩
def normH (x:V0):V0:=⟨x.name,x.top,Qk Zp.event x.values⟩
def Kw (m:Qv):Qv:=⟨m.name,m.top,Qk X3.name m.events,Qk Vx.name m.houses,UP m.gates,Qk Yz.name (m.pages.map normP),Qk YB.name (m.groups.map normR),m.phases.map normH⟩
end Go.PN
namespace Go.PN
open Go.AI
theorem QrB:∀(a b:BS),decide (Go.Lib.compareBytes a b<0)=VU a b
 |[],[]=>rfl
 |[],_::_=>rfl
 |_::_,[]=>rfl
 |x::a,y::b=>by
  show decide ((if x<y then(-1:Int) else if y<x then 1 else Go.Lib.compareBytes a b)<0)=(decide (x<y)||(x==y&&VU a b))
  by_cases h1:x<y
  ·rw [iP h1,Dt h1];rfl
  ·rw [iN h1,De h1,Bool.false_or]
   by_cases h2:y<x
   ·rw [iP h2]
    have:(x==y)=false:=beq_eq_false_iff_ne.2 fun e=>by subst e;exact h1 h2
    rw [this];rfl
   ·rw [iN h2,QrB a b]
    have:x=y:=by
     apply UInt8.toNat_inj.1
     have a1:¬x.toNat<y.toNat:=h1
     have a2:¬y.toNat<x.toNat:=h2
     omega
    subst this
    simp
theorem Qo1 {α β:Type} {f:α→β}:∀{l:List α} {m:List β},(l.map f).Perm m→∃l':List α,l'.Perm l∧l'.map f=m:=by
 intro l m h
 generalize hx:l.map f=x at h
 induction h generalizing l with
 |nil=>exact⟨l,.refl _,hx⟩
 |cons a _ ih=>
  cases l with
  |nil=>cases hx
  |cons b l=>
   injection hx with h1 h2
   obtain⟨l',p,e⟩:=ih h2
   exact⟨b::l',.cons b p,by rw [Ld,h1,e]⟩
 |swap a b r=>
  match l,hx with
  |c::d::l,hx=>
   simp only [Ld,List.cons.injEq] at hx
   obtain⟨h1,h2,h3⟩:=hx
   exact⟨d::c::l,.swap c d l,by rw [Ld,Ld,h1,h2,h3]⟩
 |trans _ _ ih1 ih2=>
  obtain⟨l1,p1,e1⟩:=ih1 hx
  obtain⟨l2,p2,e2⟩:=ih2 e1
  exact⟨l2,p2.trans p1,e2⟩
end Go.PN
namespace Go.AI
open Go.PN Go.Sort Go.Shelf Go.Proofs
structure OD (k:Nat) where
 nm:BS
 vs:List Value
 len:vs.length+1=k
 one:∀v∈vs,v.oneCell'=true
abbrev OD.enc {k:Nat} (x:OD k):List Value:=.string (sB x.nm)::x.vs
def OD.cf {k:Nat} (x y:OD k):Int:=Go.Lib.compareBytes x.nm y.nm
theorem OD.lt {k:Nat} (x y:OD k):ltOf OD.cf x y=VU x.nm y.nm:=QrB x.nm y.nm
theorem OD.swo {k:Nat}:SWO (ltOf (OD.cf (k:=k))) where
 irrefl x:=by rw [OD.lt];exact QhN _
 trans x y z h1 h2:=by rw [OD.lt] at*;exact Qat h1 h2
 ntrans x y z h1 h2:=by rw [OD.lt] at*;exact QcY h2 h1
def QbZ (P:Program) (f:FuncId) (k:Nat):Prop:=∀x y:OD k,Fa P f [.agg (.str (sB x.nm)::x.vs.map .raw),.agg (.str (sB y.nm)::y.vs.map .raw)] (.c (.int .i64 (Go.Lib.compareBytes x.nm y.nm)))
theorem QcZ (S:Bool→Nat→Prop) (w:World):∀l:List Value,X4 S w (l.map CV.raw) l
 |[]=>trivial
 |_::l=>⟨rfl,QcZ S w l⟩
theorem QbZ.lays {P:Program} {f:FuncId} {k:Nat} [Inhabited (OD k)] (h:QbZ P f k) (blk off size:Nat) (w:World):CmpLays P f #[] (OD.enc (k:=k)) k OD.cf blk off size w:=by
 intro m os dk _ x y
 refine((h x y).2 (fun _ _=>False) _ [.agg (OD.enc x).toArray,.agg (OD.enc y).toArray] (fun _ h=>h) (fun _ _ h=>h.elim) trivial ⟨⟨_,rfl,rfl,QcZ _ _ _⟩,⟨_,rfl,rfl,QcZ _ _ _⟩,trivial⟩).mono ?_
 rintro e w' ⟨v,rfl,hr,hfr⟩
 have hv:v=.int .i64 (Go.Lib.compareBytes x.nm y.nm):=hr
 exact⟨by rw [hv];rfl,Quq hfr⟩
theorem QrC {w:World} {g:Nat} {cs:Array Value} {ty:TypeId} {fr:Nat×Nat} (hb:w.heap[g]?=some (.cells cs ty fr)) (m:Nat) (F:Array Value) (os:Array Obj):
  (grow (putRow id (Sort.ahead w m) g 0 F) os).heap[g]?=some (.cells (putCells id 0 F cs) ty fr)∧(∀b,b<w.heap.size→b≠g→(grow (putRow id (Sort.ahead w m) g 0 F) os).heap[b]?=w.heap[b]?)∧w.heap.size≤(grow (putRow id (Sort.ahead w m) g 0 F) os).heap.size:=by
 have hg:g<w.heap.size:=(Array.getElem?_eq_some_iff.1 hb).1
 have hsz:(putRow id (Sort.ahead w m) g 0 F).heap.size=w.heap.size:=by simp [putRow,mapBlock,Sort.ahead]
 refine⟨?_,fun b hbs hne=> ?_,?_⟩
 ·rw [heap_grow_old _ _ (by rw [hsz];exact hg)]
  simp only [putRow,mapBlock,Sort.ahead,Array.getElem?_modify,if_true,hb,Option.map_some]
  rfl
 ·rw [heap_grow_old _ _ (by rw [hsz];exact hbs)]
  simp only [putRow,mapBlock,Sort.ahead,Array.getElem?_modify]
  rw [iN (fun e=>hne e.symm)]
 ·rw [size_grow,hsz]
  omega
theorem Qng:∀{l:List CV} {j:Nat} (h:j<l.length),ofL l j=l[j]
 |_::_,0,_=>rfl
 |_::l,j+1,h=>Qng (l:=l) (by simpa using h)
theorem QgK {S:Bool→Nat→Prop} {w:World}:∀{cs:List CV} {us:List Value},X4 S w cs us→cs.all CV.solid=true→∀u∈us,u.oneCell'=true
 |[],[],_,_,u,hu=>by cases hu
 |c::cs,v::us,hr,hs,u,hu=>by
  rw [List.all_cons,Ba] at hs
  rcases Lb.1 hu with rfl|hu
  ·exact Wb hs.1 hr.1
  ·exact QgK hr.2 hs.2 u hu
 |[],_::_,hr,_,_,_=>hr.elim
 |_::_,[],hr,_,_,_=>hr.elim
theorem QwT {S:Bool→Nat→Prop} {w:World} {k:Nat} (hk0:0<k) {cx r:List CV} {n:BS} (hcx:cx=.str (sB n)::r) (hlen:r.length+1=k) (hsol:r.all CV.solid=true) {cell:Nat→Option Value} (hcell:∀q,q<k→∃u,cell q=some u∧XX S w (ofL cx q) u):
  ∃e:OD k,e.nm=n∧X4 S w cx e.enc∧∀q,q<k→cell q=e.enc[q]?:=by
 have key:∀(l:List CV) (o:Nat),(∀q,q<l.length→∃u,cell (o+q)=some u∧XX S w (ofL l q) u)→∃us:List Value,X4 S w l us∧∀q,q<l.length→cell (o+q)=us[q]?:=fun l=>by
  induction l with
  |nil=>intro o _;exact⟨[],trivial,fun q hq=>absurd hq (Nat.not_lt_zero q)⟩
  |cons a l ih=>
   intro o h
   obtain⟨u,hu,hru⟩:=h 0 (by simp)
   obtain⟨us,h1,h2⟩:=ih (o+1) fun q hq=>by
    obtain⟨u,hu,hru⟩:=h (q+1) (by simpa using hq)
    exact⟨u,by rw [←hu];congr 1;omega,hru⟩
   refine⟨u::us,⟨hru,h1⟩,fun q hq=> ?_⟩
   cases q with
   |zero=>exact hu
   |succ q=>
    have:=h2 q (by simpa using hq)
    rw [←show o+1+q=o+(q+1) from by omega,this];rfl
 subst hcx
 obtain⟨us,h1,h2⟩:=key (.str (sB n)::r) 0 fun q hq=>by
  obtain⟨u,hu,hru⟩:=hcell q (by rw [Lc,hlen] at hq;exact hq)
  exact⟨u,by rw [Nz];exact hu,hru⟩
 cases us with
 |nil=>exact h1.elim
 |cons u us=>
  obtain⟨hu,hr⟩:=h1
  have hu':u=.string (sB n):=hu
  subst hu'
  exact⟨⟨n,us,by rw [X4.length hr];exact hlen,QgK hr hsol⟩,rfl,⟨hu,hr⟩,fun q hq=>by
   have:=h2 q (by rw [Lc,hlen];exact hq)
   rw [Nz] at this
   exact this⟩
theorem WI {P:Program} {ρ:Ren} (L:SlLaysF0.n6 P ρ) {α:Type} {k:Nat} (hk0:0<k) (aE:∀w,(isAgg (ρ.t 24)).run P w=.ok true w) (zE:∀w,(Go.sizeOf (ρ.t 24)).run P w=.ok k w) {fs cf:FuncId} (hfs:ρ.f 6=fs) (hcal:JR P fs) (hcmp:QbZ P cf k)
  (ty:TypeId) (c:α→List CV) (d0:α) (key:α→BS) (hc:∀x,∃r,c x=.str (sB (key x))::r∧r.length+1=k∧r.all CV.solid=true) (xs:List α) (hl:xs.length<4611686018427387904) (g:Nat):
  Fh P fs [(g,.cells ty (xs.length*k) (lf k c d0 xs))] [.c (.osl g k 0 xs.length),.c (.raw (.func (.func cf) #[] #[]))] (fun x h=>x=.tup []∧∃ys:List α,ys.Perm xs∧Qba key ys∧h=[(g,.cells ty (xs.length*k) (lf k c d0 ys))]):=by
 refine⟨hcal,fun C vs hC hnd ho hr=> ?_⟩
 match vs,hr with
 |[v1,v2],⟨h1,h2,_⟩=>
  obtain⟨c',rfl,hnc,hcm,_⟩:∃c',v1=.slice (some ⟨g,0,none⟩) xs.length c'∧xs.length≤c'∧c'≤maxLen∧Has C.w0 g (0+c'*k):=h1
  obtain rfl:v2=.func (.func cf) #[] #[]:=h2
  obtain⟨cs,hb,hcs,hj⟩:=ho g _ (Lv.2 rfl)
  have hgl:g<C.w0.heap.size:=(Array.getElem?_eq_some_iff.1 hb).1
  have hel:∀i:Fin xs.length,∃e:OD k,e.nm=key xs[i]∧X4 C.S0 C.w0 (c xs[i]) e.enc∧∀q,q<k→cs[i.val*k+q]?=e.enc[q]?:=fun i=>by
   obtain⟨r,hcx,hlen,hsol⟩:=hc xs[i]
   have hcell:∀q,q<k→∃u,cs[i.val*k+q]?=some u∧XX C.S0 C.w0 (ofL (c xs[i]) q) u:=fun q hq=>by
    have hlt:i.val*k+q<xs.length*k:=by
     have h3:(i.val+1)*k≤xs.length*k:=Nm k i.isLt
     rw [Nat.add_mul] at h3
     omega
    obtain⟨u,hu,hru⟩:=hj _ hlt
    refine⟨u,hu,?_⟩
    have e:lf k c d0 xs (i.val*k+q)=ofL (c xs[i]) q:=by
     rw [QY hq,Lg,Li i.isLt];rfl
    rw [←e];exact hru
   exact QwT hk0 hcx hlen hsol hcell
  obtain⟨E,hE⟩:=Classical.skolem.1 hel
  let d:Array (OD k):=Array.ofFn E
  have hds:d.size=xs.length:=by simp [d]
  have hinh:Inhabited (OD k):=⟨⟨[],List.replicate (k-1) (.bool false),by simp;omega,fun v hv=>by rw [List.mem_replicate] at hv;rw [hv.2];rfl⟩⟩
  have hH:HoldsK OD.enc k C.w0 g 0 d:=fun j hjl=>by
   rw [size_flatK,hds] at hjl
   have hq:j%k<k:=Nat.mod_lt _ hk0
   have hi:j/k<xs.length:=(Nat.div_lt_iff_lt_mul hk0).2 hjl
   have hjk:j/k*k+j%k=j:=by rw [Nc];exact Nat.div_add_mod j k
   have hdj:d[j/k]! =E ⟨j/k,hi⟩:=by
    rw [getElem!_pos d (j/k) (by rw [hds];exact hi)]
    simp [d]
   have h3:=(hE ⟨j/k,hi⟩).2.2 (j%k) hq
   rw [show(⟨j/k,hi⟩:Fin xs.length).val=j/k from rfl,hjk] at h3
   have hlen:(E ⟨j/k,hi⟩).enc.length=k:=(E ⟨j/k,hi⟩).len
   rw [get_flatK OD.enc k d j (by rw [hds];exact hjl),hdj,id]
   refine⟨?_,?_⟩
   ·unfold World.cell?
    simp only [hb,Option.isSome_none,Bool.false_eq_true,if_false,Nz]
    rw [h3,getElem!_pos _ (j%k) (by rw [hlen];exact hq),Li (by rw [hlen];exact hq)]
   ·unfold World.frozen?
    simp only [hb]
    simp
  have eg:∀args w,(callFunc cf args).run P w=.ok (.enter cf args) w:=fun args w=>(hcmp hinh.default hinh.default).1.run args w
  have hcon:=AnyQ.slices_SortFunc L k aE zE OD.enc (fun x=>x.len) (fun x v hv=>by rcases Lb.1 hv with rfl|hv;rfl;exact x.one v hv) OD.cf OD.swo cf #[] g 0 c' d C.w0 eg (hcmp.lays g 0 d.size C.w0) hH hgl (by rw [hds];exact hl)
  rw [hds,hfs] at hcon
  refine hcon.mono ?_
  rintro e w' ⟨rfl,d',n,os,hp,hs,rfl⟩
  obtain⟨hp1,_,hp3⟩:=hp
  have hd's:d'.size=xs.length:=by rw [hp1,hds]
  have hpl:d'.toList.Perm d.toList:=by
   rw [←hds] at hp3
   have e1:d'.extract 0 d.size=d':=by rw [←hp1];exact Array.extract_size
   have e2:d.extract 0 d.size=d:=Array.extract_size
   rw [e1,e2] at hp3
   exact hp3
  obtain⟨D,hD⟩:∃D:List (α×OD k),D=(List.finRange xs.length).map fun i=>(xs[i],E i):=⟨_,rfl⟩
  have hD1:D.map Prod.fst=xs:=by
   rw [hD,List.map_map]
   refine List.ext_getElem (by simp) fun i h1 h2=> ?_
   simp
  have hD2:D.map Prod.snd=d.toList:=by
   rw [hD,List.map_map]
   refine List.ext_getElem (by simp [d]) fun i h1 h2=> ?_
   simp [d]
  have hDp:∀p∈D,p.2.nm=key p.1∧X4 C.S0 C.w0 (c p.1) p.2.enc:=fun p hp=>by
   rw [hD] at hp
   obtain⟨i,_,rfl⟩:=List.mem_map.1 hp
   exact⟨(hE i).1,(hE i).2.1⟩
  obtain⟨D',pD,eD⟩:=Qo1 (f:=Prod.snd) (l:=D) (m:=d'.toList) (by rw [hD2];exact hpl.symm)
  have hys:(D'.map Prod.fst).Perm xs:=by
   have:=pD.map Prod.fst
   rwa [hD1] at this
  have hD'l:D'.length=xs.length:=by rw [←hys.length_eq,Lw]
  have hget:∀i,i<xs.length→∃p,p∈D'∧(D'.map Prod.fst).getD i d0=p.1∧d'[i]! =p.2:=fun i hi=>by
   have hi':i<D'.length:=by rw [hD'l];exact hi
   refine⟨D'[i],Le hi',?_,?_⟩
   ·rw [Lg,List.getElem?_map,Li hi'];rfl
   ·rw [getElem!_pos d' i (by rw [hd's];exact hi),←Array.getElem_toList]
    have:d'.toList=D'.map Prod.snd:=eD.symm
    simp only [this,List.getElem_map]
  have hsrt:Qba key (D'.map Prod.fst):=by
   unfold Qba
   rw [List.pairwise_iff_getElem]
   intro i j hi hj hij
   rw [Lw,hD'l] at hi hj
   obtain⟨p,hp,p1,p2⟩:=hget i hi
   obtain⟨q,hq,q1,q2⟩:=hget j hj
   have h1:=hs i j (Lz _) hij om
   rw [OD.lt,p2,q2,(hDp p (pD.mem_iff.1 hp)).1,(hDp q (pD.mem_iff.1 hq)).1] at h1
   rw [Lg,Li (by rw [Lw,hD'l];exact hi)] at p1
   rw [Lg,Li (by rw [Lw,hD'l];exact hj)] at q1
   have p1:(D'.map Prod.fst)[i]'(by rw [Lw,hD'l];exact hi)=p.1:=p1
   have q1:(D'.map Prod.fst)[j]'(by rw [Lw,hD'l];exact hj)=q.1:=q1
   rw [p1,q1];exact h1
  obtain⟨q1,q2,q3⟩:=QrC hb n (flatK OD.enc k d') os
  have hlen:(putCells id 0 (flatK OD.enc k d') cs).size=cs.size:=by simp [putCells]
  have hap:∀t b,C.S0 t b→b≠g:=fun t b hS e=>C.apart t b hS ((hC b).2 (by simp [Qa.keys,e]))
  have hfr:Fr C.own0 C.w0 (sortWorldK OD.enc k C.w0 g 0 n d' os):=by
   refine⟨rfl,rfl,rfl,q3,?_,fun b hbs hno=>q2 b hbs (fun e=>hno ((hC b).2 (by simp [Qa.keys,e]))),fun g' m' hh=> ?_⟩
   ·show C.w0.drawn≤C.w0.drawn+n
    omega
   ·by_cases e:g'=g
    ·subst e
     obtain⟨cs',ty',⟨fr,hc'⟩,hs'⟩:=hh
     rw [hb] at hc'
     injection hc' with hc'
     injection hc' with e1 e2 e3
     subst e1
     exact⟨_,_,⟨_,q1⟩,by rw [hlen];exact hs'⟩
    ·have hl:=hh.lt
     obtain⟨cs',ty',⟨fr,hc'⟩,hs'⟩:=hh
     exact⟨cs',ty',⟨fr,(q2 g' hl e).trans hc'⟩,hs'⟩
  have kp:YA C.S0 (QH C [(g,.cells ty (xs.length*k) (lf k c d0 (D'.map Prod.fst)))] (sortWorldK OD.enc k C.w0 g 0 n d' os)) C.w0 (sortWorldK OD.enc k C.w0 g 0 n d' os):=
   ⟨fun t b hS=>⟨.inl hS,Ae (C.lt t b hS) q3,fun hm=>hap t b hS (by simpa [Qa.keys] using hm)⟩,fun t b hS=>q2 b (C.lt t b hS) (hap t b hS),hfr.has⟩
  refine⟨.tuple #[],.tup [],[(g,.cells ty (xs.length*k) (lf k c d0 (D'.map Prod.fst)))],rfl,⟨rfl,D'.map Prod.fst,hys,hsrt,rfl⟩,by simp [Qa.keys],fun g' hg'=> ?_,⟨[],rfl,trivial⟩,fun g' o' hm'=> ?_,hfr⟩
  ·simp only [Qa.keys,Ld,List.map_nil,Lv] at hg'
   subst hg'
   exact .inl ((hC _).2 (by simp [Qa.keys]))
  ·rw [Lv] at hm'
   injection hm' with e1 e2
   subst e1 e2
   refine⟨putCells id 0 (flatK OD.enc k d') cs,q1,by rw [hlen];exact hcs,fun j hjl=> ?_⟩
   have hq:j%k<k:=Nat.mod_lt _ hk0
   have hi:j/k<xs.length:=(Nat.div_lt_iff_lt_mul hk0).2 hjl
   obtain⟨p,hp,p1,p2⟩:=hget _ hi
   have hjc:j<cs.size:=Ae hjl hcs
   have hle:p.2.enc.length=k:=p.2.len
   refine⟨p.2.enc[j%k]'(by rw [hle];exact hq),?_,XX.keep kp ?_⟩
   ·unfold putCells
    rw [Array.getElem?_mapIdx,Array.getElem?_eq_getElem hjc,Option.map_some,iP ⟨Lz _,by rw [size_flatK,hd's];omega⟩,Nat.sub_zero,get_flatK OD.enc k d' j (by rw [hd's];exact hjl),p2,getElem!_pos _ (j%k) (by rw [hle];exact hq)]
    rfl
   ·show XX C.S0 C.w0 (ofL (c ((D'.map Prod.fst).getD (j/k) d0)) (j%k)) _
    rw [p1]
    have hR:=(hDp p (pD.mem_iff.1 hp)).2
    have hcl:(c p.1).length=k:=by rw [←X4.length hR,hle]
    obtain⟨u,hu,hru⟩:=X4.get hR (j%k) ((c p.1)[j%k]'(by rw [hcl];exact hq)) (Li (by rw [hcl];exact hq))
    rw [Li (by rw [hle];exact hq)] at hu
    injection hu with hu
    rw [Qng (l:=c p.1) (j:=j%k) (by rw [hcl];exact hq),hu]
    exact hru
end Go.AI
namespace Go.PN
open Go.AI
theorem Qnh:∀(a b:List UInt8),a<b↔VU a b=true
 |[],[]=>⟨fun h=>absurd h (List.not_lt_nil _),fun h=>by cases h⟩
 |[],_::_=>⟨fun _=>rfl,fun _=>List.nil_lt_cons _ _⟩
 |_::_,[]=>⟨fun h=>absurd h (List.not_lt_nil _),fun h=>by cases h⟩
 |x::a,y::b=>by
  rw [List.cons_lt_cons_iff,Qnh a b]
  show _↔(decide (x<y)||(x==y&&VU a b))=true
  simp
theorem QhP (a b:List UInt8):decide (a≤b)= !VU b a:=by
 have h:a≤b↔¬b<a:=Iff.rfl
 rw [Bool.eq_iff_iff,Dq,h,Qnh]
 simp
theorem Qly (ss:List BS):(ss.mergeSort fun x y=>decide (x≤y))=Qk id ss:=by
 refine Quy (List.mergeSort_perm ss _) ?_
 unfold Qba
 have h:=List.pairwise_mergeSort (le:=fun x y:BS=>decide (x≤y)) (fun a b c h1 h2=>by
  rw [QhP] at*
  simp only [Bool.not_eq_true'] at*
  exact QcY h1 h2) (fun a b=>by
  rw [QhP,QhP]
  by_cases h:VU b a=true
  ·rw [h,QjO h];rfl
  ·rw [Bool.not_eq_true] at h;rw [h];rfl) ss
 refine h.imp fun {a b} h=> ?_
 rw [QhP] at h
 simpa using h
end Go.PN
namespace Go.AI
open Go.PN Go.Sort Go.Shelf Go.Proofs
theorem QrD {α:Type} [Inhabited α] {enc:α→Value} {w:World} {g off:Nat} {cs:Array Value} {ty:TypeId} {fr:Nat×Nat} (hb:w.heap[g]?=some (.cells cs ty fr)) (m:Nat) (F:Array α) (os:Array Obj):
  (grow (putRow enc (Sort.ahead w m) g off F) os).heap[g]?=some (.cells (putCells enc off F cs) ty fr)∧(∀b,b<w.heap.size→b≠g→(grow (putRow enc (Sort.ahead w m) g off F) os).heap[b]?=w.heap[b]?)∧w.heap.size≤(grow (putRow enc (Sort.ahead w m) g off F) os).heap.size:=by
 have hg:g<w.heap.size:=(Array.getElem?_eq_some_iff.1 hb).1
 have hsz:(putRow enc (Sort.ahead w m) g off F).heap.size=w.heap.size:=by simp [putRow,mapBlock,Sort.ahead]
 refine⟨?_,fun b hbs hne=> ?_,?_⟩
 ·rw [heap_grow_old _ _ (by rw [hsz];exact hg)]
  simp only [putRow,mapBlock,Sort.ahead,Array.getElem?_modify,if_true,hb,Option.map_some]
  rfl
 ·rw [heap_grow_old _ _ (by rw [hsz];exact hbs)]
  simp only [putRow,mapBlock,Sort.ahead,Array.getElem?_modify]
  rw [iN (fun e=>hne e.symm)]
 ·rw [size_grow,hsz]
  omega
theorem Qfo {P:Program} {ρ:Ren} (L:Lays.n190 P ρ) {fs:FuncId} (hfs:ρ.f 190=fs) (hcal:JR P fs) (ty:TypeId) (pre xs:List BS) (hl:xs.length<4611686018427387904) (g:Nat):
  Fh P fs [(g,.cells ty (pre.length+xs.length) (Qe (pre++xs)))] [.c (.osl g 1 pre.length xs.length)] (fun x h=>x=.tup []∧h=[(g,.cells ty (pre.length+xs.length) (Qe (pre++Qk id xs)))]):=by
 refine⟨hcal,fun C vs hC hnd ho hr=> ?_⟩
 match vs,hr with
 |[v1],⟨h1,_⟩=>
  obtain⟨c',rfl,hnc,hcm,_⟩:∃c',v1=.slice (some ⟨g,pre.length,none⟩) xs.length c'∧xs.length≤c'∧c'≤maxLen∧Has C.w0 g (pre.length+c'*1):=h1
  obtain⟨cs,hb,hcs,hj⟩:=ho g _ (Lv.2 rfl)
  have hgl:g<C.w0.heap.size:=(Array.getElem?_eq_some_iff.1 hb).1
  have hcell:∀j,j<pre.length+xs.length→cs[j]?=some (.string (sB ((pre++xs).getD j []))):=fun j hj2=>by
   obtain⟨u,hu,hru⟩:=hj j hj2
   rw [Xb] at hru
   have:u=.string (sB ((pre++xs).getD j [])):=hru
   rw [hu,this]
  have hH:Holds encStr C.w0 g pre.length xs.toArray:=fun j hjl=>by
   have hjl:j<xs.length:=by simpa using hjl
   refine⟨?_,?_⟩
   ·unfold World.cell?
    simp only [hb,Option.isSome_none,Bool.false_eq_true,if_false]
    rw [hcell _ om,Lg,List.getElem?_append_right om,Nat.add_sub_cancel_left,Li hjl,getElem!_pos xs.toArray j (by simpa using hjl)]
    rfl
   ·unfold World.frozen?
    simp only [hb]
    simp
  have hcon:=Any.slices_Sort_string L g pre.length c' xs C.w0 hH hgl hl
  rw [hfs] at hcon
  refine hcon.mono ?_
  rintro e w' ⟨rfl,n,os,rfl⟩
  rw [Qly]
  have hsl:(Qk id xs).length=xs.length:=(Q6 id xs).length_eq
  obtain⟨q1,q2,q3⟩:=QrD (enc:=encStr) (off:=pre.length) hb n (Qk id xs).toArray os
  have hlen:(putCells encStr pre.length (Qk id xs).toArray cs).size=cs.size:=by simp [putCells]
  have hap:∀t b,C.S0 t b→b≠g:=fun t b hS e=>C.apart t b hS ((hC b).2 (by simp [Qa.keys,e]))
  have hfr:Fr C.own0 C.w0 (grow (putRow encStr (Sort.ahead C.w0 n) g pre.length (Qk id xs).toArray) os):=by
   refine⟨rfl,rfl,rfl,q3,?_,fun b hbs hno=>q2 b hbs (fun e=>hno ((hC b).2 (by simp [Qa.keys,e]))),fun g' m' hh=> ?_⟩
   ·show C.w0.drawn≤C.w0.drawn+n
    omega
   ·by_cases e:g'=g
    ·subst e
     obtain⟨cs',ty',⟨fr,hc'⟩,hs'⟩:=hh
     rw [hb] at hc'
     injection hc' with hc'
     injection hc' with e1 e2 e3
     subst e1
     exact⟨_,_,⟨_,q1⟩,by rw [hlen];exact hs'⟩
    ·have hl:=hh.lt
     obtain⟨cs',ty',⟨fr,hc'⟩,hs'⟩:=hh
     exact⟨cs',ty',⟨fr,(q2 g' hl e).trans hc'⟩,hs'⟩
  refine⟨.tuple #[],.tup [],[(g,.cells ty (pre.length+xs.length) (Qe (pre++Qk id xs)))],rfl,⟨rfl,rfl⟩,by simp [Qa.keys],fun g' hg'=> ?_,⟨[],rfl,trivial⟩,fun g' o' hm'=> ?_,hfr⟩
  ·simp only [Qa.keys,Ld,List.map_nil,Lv] at hg'
   subst hg'
   exact .inl ((hC _).2 (by simp [Qa.keys]))
  ·rw [Lv] at hm'
   injection hm' with e1 e2
   subst e1 e2
   refine⟨putCells encStr pre.length (Qk id xs).toArray cs,q1,by rw [hlen];exact hcs,fun j hjl=>⟨.string (sB ((pre++Qk id xs).getD j [])),?_,?_⟩⟩
   ·have hjc:j<cs.size:=Ae hjl hcs
    unfold putCells
    rw [Array.getElem?_mapIdx,Array.getElem?_eq_getElem hjc,Option.map_some]
    by_cases hp:pre.length≤j
    ·rw [iP ⟨hp,by simp [hsl];omega⟩,getElem!_pos (Qk id xs).toArray (j-pre.length) (by simp [hsl];omega),Lg,List.getElem?_append_right hp,Li (by rw [hsl];omega)]
     rfl
    ·rw [iN (fun z=>hp z.1)]
     have h2:=hcell j hjl
     rw [Array.getElem?_eq_getElem hjc] at h2
     rw [h2,Lg,List.getElem?_append_left om,Lg,List.getElem?_append_left om]
   ·show XX _ _ (Qe _ j) _
    rw [Xb]
    rfl
end Go.AI
namespace Go.Proofs.YtngjgahldnnapaaGreatDoor
open Go.Shelf Go.Proofs Proofs.Tryz
def Qo2:Go.Shelf.Ren:=⟨fun|6=>71|15=>105|14=>138|28=>164|29=>165|20=>213|21=>214|22=>215|23=>216|24=>217|25=>218|26=>219|27=>220|46=>321|47=>269|48=>270|49=>322|50=>323|57=>365|n=>n,fun|22=>23|24=>115|25=>139|3=>3|39=>167|0=>0|53=>193|55=>39|4=>4|46=>211|45=>210|50=>216|5=>5|9=>9|66=>297|70=>301|76=>357|77=>158|n=>n,fun n=>n⟩
theorem Quz:SlLaysF0.n6 prog Qo2:=⟨by kernel_rfl,⟨"slices.SortFunc[[]faultline/api.House,faultline/api.House]",by decide,func71.trans eK⟩,⟨"slices.pdqsortCmpFunc[faultline/api.House]",by decide,func138.trans eK⟩,func105.trans eK,⟨"slices.insertionSortCmpFunc[faultline/api.House]",by decide,func213.trans eK⟩,⟨"slices.heapSortCmpFunc[faultline/api.House]",by decide,func214.trans eK⟩,⟨"slices.breakPatternsCmpFunc[faultline/api.House]",by decide,func215.trans eK⟩,⟨"slices.choosePivotCmpFunc[faultline/api.House]",by decide,func216.trans eK⟩,⟨"slices.reverseRangeCmpFunc[faultline/api.House]",by decide,func217.trans eK⟩,⟨"slices.partialInsertionSortCmpFunc[faultline/api.House]",by decide,func218.trans eK⟩,⟨"slices.partitionEqualCmpFunc[faultline/api.House]",by decide,func219.trans eK⟩,⟨"slices.partitionCmpFunc[faultline/api.House]",by decide,func220.trans eK⟩,func164.trans eK,func165.trans eK,⟨"slices.siftDownCmpFunc[faultline/api.House]",by decide,func321.trans eK⟩,func269.trans eK,func270.trans eK,⟨"slices.medianAdjacentCmpFunc[faultline/api.House]",by decide,func322.trans eK⟩,⟨"slices.medianCmpFunc[faultline/api.House]",by decide,func323.trans eK⟩,⟨"slices.order2CmpFunc[faultline/api.House]",by decide,func365.trans eK⟩,underlying0,isAgg0,sizeOf0,zeroValue0,underlying3,isAgg3,sizeOf3,zeroValue3,underlying4,isAgg4,sizeOf4,zeroValue4,underlying5,isAgg5,sizeOf5,zeroValue5,underlying9,isAgg9,sizeOf9,zeroValue9,underlying23,isAgg23,sizeOf23,zeroValue23,underlying139,isAgg139,sizeOf139,zeroValue139,underlying167,isAgg167,sizeOf167,zeroValue167,underlying210,isAgg210,sizeOf210,zeroValue210,underlying211,isAgg211,sizeOf211,zeroValue211,underlying216,isAgg216,sizeOf216,zeroValue216,underlying193,isAgg193,sizeOf193,zeroValue193,underlying39,isAgg39,sizeOf39,zeroValue39,underlying297,isAgg297,sizeOf297,zeroValue297,underlying301,isAgg301,sizeOf301,zeroValue301,underlying357,isAgg357,sizeOf357,zeroValue357,underlying158,isAgg158,sizeOf158,zeroValue158⟩
def Qo3:Go.Shelf.Ren:=⟨fun|6=>136|15=>105|14=>212|28=>164|29=>165|20=>313|21=>314|22=>315|23=>316|24=>317|25=>318|26=>319|27=>320|46=>362|47=>269|48=>270|49=>363|50=>364|57=>383|n=>n,fun|22=>24|24=>79|25=>196|3=>3|39=>167|0=>0|53=>193|55=>39|4=>4|46=>211|45=>210|50=>216|5=>5|9=>9|66=>297|70=>301|76=>357|77=>158|n=>n,fun n=>n⟩
theorem QuA:SlLaysF0.n6 prog Qo3:=⟨by kernel_rfl,⟨"slices.SortFunc[[]faultline/api.Gate,faultline/api.Gate]",by decide,func136.trans eK⟩,⟨"slices.pdqsortCmpFunc[faultline/api.Gate]",by decide,func212.trans eK⟩,func105.trans eK,⟨"slices.insertionSortCmpFunc[faultline/api.Gate]",by decide,func313.trans eK⟩,⟨"slices.heapSortCmpFunc[faultline/api.Gate]",by decide,func314.trans eK⟩,⟨"slices.breakPatternsCmpFunc[faultline/api.Gate]",by decide,func315.trans eK⟩,⟨"slices.choosePivotCmpFunc[faultline/api.Gate]",by decide,func316.trans eK⟩,⟨"slices.reverseRangeCmpFunc[faultline/api.Gate]",by decide,func317.trans eK⟩,⟨"slices.partialInsertionSortCmpFunc[faultline/api.Gate]",by decide,func318.trans eK⟩,⟨"slices.partitionEqualCmpFunc[faultline/api.Gate]",by decide,func319.trans eK⟩,⟨"slices.partitionCmpFunc[faultline/api.Gate]",by decide,func320.trans eK⟩,func164.trans eK,func165.trans eK,⟨"slices.siftDownCmpFunc[faultline/api.Gate]",by decide,func362.trans eK⟩,func269.trans eK,func270.trans eK,⟨"slices.medianAdjacentCmpFunc[faultline/api.Gate]",by decide,func363.trans eK⟩,⟨"slices.medianCmpFunc[faultline/api.Gate]",by decide,func364.trans eK⟩,⟨"slices.order2CmpFunc[faultline/api.Gate]",by decide,func383.trans eK⟩,underlying0,isAgg0,sizeOf0,zeroValue0,underlying3,isAgg3,sizeOf3,zeroValue3,underlying4,isAgg4,sizeOf4,zeroValue4,underlying5,isAgg5,sizeOf5,zeroValue5,underlying9,isAgg9,sizeOf9,zeroValue9,underlying24,isAgg24,sizeOf24,zeroValue24,underlying196,isAgg196,sizeOf196,zeroValue196,underlying167,isAgg167,sizeOf167,zeroValue167,underlying210,isAgg210,sizeOf210,zeroValue210,underlying211,isAgg211,sizeOf211,zeroValue211,underlying216,isAgg216,sizeOf216,zeroValue216,underlying193,isAgg193,sizeOf193,zeroValue193,underlying39,isAgg39,sizeOf39,zeroValue39,underlying297,isAgg297,sizeOf297,zeroValue297,underlying301,isAgg301,sizeOf301,zeroValue301,underlying357,isAgg357,sizeOf357,zeroValue357,underlying158,isAgg158,sizeOf158,zeroValue158⟩
def Qo4:Go.Shelf.Ren:=⟨fun|6=>75|15=>105|14=>141|28=>164|29=>165|20=>222|21=>223|22=>224|23=>225|24=>226|25=>227|26=>228|27=>229|46=>324|47=>269|48=>270|49=>325|50=>326|57=>366|n=>n,fun|22=>22|24=>89|25=>142|3=>3|39=>167|0=>0|53=>193|55=>39|4=>4|46=>211|45=>210|50=>216|5=>5|9=>9|66=>297|70=>301|76=>357|77=>158|n=>n,fun n=>n⟩
theorem QuB:SlLaysF0.n6 prog Qo4:=⟨by kernel_rfl,⟨"slices.SortFunc[[]faultline/api.Event,faultline/api.Event]",by decide,func75.trans eK⟩,⟨"slices.pdqsortCmpFunc[faultline/api.Event]",by decide,func141.trans eK⟩,func105.trans eK,⟨"slices.insertionSortCmpFunc[faultline/api.Event]",by decide,func222.trans eK⟩,⟨"slices.heapSortCmpFunc[faultline/api.Event]",by decide,func223.trans eK⟩,⟨"slices.breakPatternsCmpFunc[faultline/api.Event]",by decide,func224.trans eK⟩,⟨"slices.choosePivotCmpFunc[faultline/api.Event]",by decide,func225.trans eK⟩,⟨"slices.reverseRangeCmpFunc[faultline/api.Event]",by decide,func226.trans eK⟩,⟨"slices.partialInsertionSortCmpFunc[faultline/api.Event]",by decide,func227.trans eK⟩,⟨"slices.partitionEqualCmpFunc[faultline/api.Event]",by decide,func228.trans eK⟩,⟨"slices.partitionCmpFunc[faultline/api.Event]",by decide,func229.trans eK⟩,func164.trans eK,func165.trans eK,⟨"slices.siftDownCmpFunc[faultline/api.Event]",by decide,func324.trans eK⟩,func269.trans eK,func270.trans eK,⟨"slices.medianAdjacentCmpFunc[faultline/api.Event]",by decide,func325.trans eK⟩,⟨"slices.medianCmpFunc[faultline/api.Event]",by decide,func326.trans eK⟩,⟨"slices.order2CmpFunc[faultline/api.Event]",by decide,func366.trans eK⟩,underlying0,isAgg0,sizeOf0,zeroValue0,underlying3,isAgg3,sizeOf3,zeroValue3,underlying4,isAgg4,sizeOf4,zeroValue4,underlying5,isAgg5,sizeOf5,zeroValue5,underlying9,isAgg9,sizeOf9,zeroValue9,underlying22,isAgg22,sizeOf22,zeroValue22,underlying142,isAgg142,sizeOf142,zeroValue142,underlying167,isAgg167,sizeOf167,zeroValue167,underlying210,isAgg210,sizeOf210,zeroValue210,underlying211,isAgg211,sizeOf211,zeroValue211,underlying216,isAgg216,sizeOf216,zeroValue216,underlying193,isAgg193,sizeOf193,zeroValue193,underlying39,isAgg39,sizeOf39,zeroValue39,underlying297,isAgg297,sizeOf297,zeroValue297,underlying301,isAgg301,sizeOf301,zeroValue301,underlying357,isAgg357,sizeOf357,zeroValue357,underlying158,isAgg158,sizeOf158,zeroValue158⟩
def Qo5:Go.Shelf.Ren:=⟨fun|6=>77|15=>105|14=>142|28=>164|29=>165|20=>230|21=>231|22=>232|23=>233|24=>234|25=>235|26=>236|27=>237|46=>327|47=>269|48=>270|49=>328|50=>329|57=>367|n=>n,fun|22=>25|24=>91|25=>144|3=>3|39=>167|0=>0|53=>193|55=>39|4=>4|46=>211|45=>210|50=>216|5=>5|9=>9|66=>297|70=>301|76=>357|77=>158|n=>n,fun n=>n⟩
theorem QuC:SlLaysF0.n6 prog Qo5:=⟨by kernel_rfl,⟨"slices.SortFunc[[]faultline/api.Page,faultline/api.Page]",by decide,func77.trans eK⟩,⟨"slices.pdqsortCmpFunc[faultline/api.Page]",by decide,func142.trans eK⟩,func105.trans eK,⟨"slices.insertionSortCmpFunc[faultline/api.Page]",by decide,func230.trans eK⟩,⟨"slices.heapSortCmpFunc[faultline/api.Page]",by decide,func231.trans eK⟩,⟨"slices.breakPatternsCmpFunc[faultline/api.Page]",by decide,func232.trans eK⟩,⟨"slices.choosePivotCmpFunc[faultline/api.Page]",by decide,func233.trans eK⟩,⟨"slices.reverseRangeCmpFunc[faultline/api.Page]",by decide,func234.trans eK⟩,⟨"slices.partialInsertionSortCmpFunc[faultline/api.Page]",by decide,func235.trans eK⟩,⟨"slices.partitionEqualCmpFunc[faultline/api.Page]",by decide,func236.trans eK⟩,⟨"slices.partitionCmpFunc[faultline/api.Page]",by decide,func237.trans eK⟩,func164.trans eK,func165.trans eK,⟨"slices.siftDownCmpFunc[faultline/api.Page]",by decide,func327.trans eK⟩,func269.trans eK,func270.trans eK,⟨"slices.medianAdjacentCmpFunc[faultline/api.Page]",by decide,func328.trans eK⟩,⟨"slices.medianCmpFunc[faultline/api.Page]",by decide,func329.trans eK⟩,⟨"slices.order2CmpFunc[faultline/api.Page]",by decide,func367.trans eK⟩,underlying0,isAgg0,sizeOf0,zeroValue0,underlying3,isAgg3,sizeOf3,zeroValue3,underlying4,isAgg4,sizeOf4,zeroValue4,underlying5,isAgg5,sizeOf5,zeroValue5,underlying9,isAgg9,sizeOf9,zeroValue9,underlying25,isAgg25,sizeOf25,zeroValue25,underlying144,isAgg144,sizeOf144,zeroValue144,underlying167,isAgg167,sizeOf167,zeroValue167,underlying210,isAgg210,sizeOf210,zeroValue210,underlying211,isAgg211,sizeOf211,zeroValue211,underlying216,isAgg216,sizeOf216,zeroValue216,underlying193,isAgg193,sizeOf193,zeroValue193,underlying39,isAgg39,sizeOf39,zeroValue39,underlying297,isAgg297,sizeOf297,zeroValue297,underlying301,isAgg301,sizeOf301,zeroValue301,underlying357,isAgg357,sizeOf357,zeroValue357,underlying158,isAgg158,sizeOf158,zeroValue158⟩
def Qo6:Go.Shelf.Ren:=⟨fun|6=>81|15=>105|14=>144|28=>164|29=>165|20=>247|21=>248|22=>249|23=>250|24=>251|25=>252|26=>253|27=>254|46=>334|47=>269|48=>270|49=>335|50=>336|57=>369|n=>n,fun|22=>26|24=>94|25=>147|3=>3|39=>167|0=>0|53=>193|55=>39|4=>4|46=>211|45=>210|50=>216|5=>5|9=>9|66=>297|70=>301|76=>357|77=>158|n=>n,fun n=>n⟩
theorem QuD:SlLaysF0.n6 prog Qo6:=⟨by kernel_rfl,⟨"slices.SortFunc[[]faultline/api.Group,faultline/api.Group]",by decide,func81.trans eK⟩,⟨"slices.pdqsortCmpFunc[faultline/api.Group]",by decide,func144.trans eK⟩,func105.trans eK,⟨"slices.insertionSortCmpFunc[faultline/api.Group]",by decide,func247.trans eK⟩,⟨"slices.heapSortCmpFunc[faultline/api.Group]",by decide,func248.trans eK⟩,⟨"slices.breakPatternsCmpFunc[faultline/api.Group]",by decide,func249.trans eK⟩,⟨"slices.choosePivotCmpFunc[faultline/api.Group]",by decide,func250.trans eK⟩,⟨"slices.reverseRangeCmpFunc[faultline/api.Group]",by decide,func251.trans eK⟩,⟨"slices.partialInsertionSortCmpFunc[faultline/api.Group]",by decide,func252.trans eK⟩,⟨"slices.partitionEqualCmpFunc[faultline/api.Group]",by decide,func253.trans eK⟩,⟨"slices.partitionCmpFunc[faultline/api.Group]",by decide,func254.trans eK⟩,func164.trans eK,func165.trans eK,⟨"slices.siftDownCmpFunc[faultline/api.Group]",by decide,func334.trans eK⟩,func269.trans eK,func270.trans eK,⟨"slices.medianAdjacentCmpFunc[faultline/api.Group]",by decide,func335.trans eK⟩,⟨"slices.medianCmpFunc[faultline/api.Group]",by decide,func336.trans eK⟩,⟨"slices.order2CmpFunc[faultline/api.Group]",by decide,func369.trans eK⟩,underlying0,isAgg0,sizeOf0,zeroValue0,underlying3,isAgg3,sizeOf3,zeroValue3,underlying4,isAgg4,sizeOf4,zeroValue4,underlying5,isAgg5,sizeOf5,zeroValue5,underlying9,isAgg9,sizeOf9,zeroValue9,underlying26,isAgg26,sizeOf26,zeroValue26,underlying147,isAgg147,sizeOf147,zeroValue147,underlying167,isAgg167,sizeOf167,zeroValue167,underlying210,isAgg210,sizeOf210,zeroValue210,underlying211,isAgg211,sizeOf211,zeroValue211,underlying216,isAgg216,sizeOf216,zeroValue216,underlying193,isAgg193,sizeOf193,zeroValue193,underlying39,isAgg39,sizeOf39,zeroValue39,underlying297,isAgg297,sizeOf297,zeroValue297,underlying301,isAgg301,sizeOf301,zeroValue301,underlying357,isAgg357,sizeOf357,zeroValue357,underlying158,isAgg158,sizeOf158,zeroValue158⟩
def Qo7:Go.Shelf.Ren:=⟨fun|6=>83|15=>105|14=>145|28=>164|29=>165|20=>255|21=>256|22=>257|23=>258|24=>259|25=>260|26=>261|27=>262|46=>337|47=>269|48=>270|49=>338|50=>339|57=>370|n=>n,fun|22=>95|24=>99|25=>149|3=>3|39=>167|0=>0|53=>193|55=>39|4=>4|46=>211|45=>210|50=>216|5=>5|9=>9|66=>297|70=>301|76=>357|77=>158|n=>n,fun n=>n⟩
theorem QuE:SlLaysF0.n6 prog Qo7:=⟨by kernel_rfl,⟨"slices.SortFunc[[]faultline/api.PhaseValue,faultline/api.PhaseValue]",by decide,func83.trans eK⟩,⟨"slices.pdqsortCmpFunc[faultline/api.PhaseValue]",by decide,func145.trans eK⟩,func105.trans eK,⟨"slices.insertionSortCmpFunc[faultline/api.PhaseValue]",by decide,func255.trans eK⟩,⟨"slices.heapSortCmpFunc[faultline/api.PhaseValue]",by decide,func256.trans eK⟩,⟨"slices.breakPatternsCmpFunc[faultline/api.PhaseValue]",by decide,func257.trans eK⟩,⟨"slices.choosePivotCmpFunc[faultline/api.PhaseValue]",by decide,func258.trans eK⟩,⟨"slices.reverseRangeCmpFunc[faultline/api.PhaseValue]",by decide,func259.trans eK⟩,⟨"slices.partialInsertionSortCmpFunc[faultline/api.PhaseValue]",by decide,func260.trans eK⟩,⟨"slices.partitionEqualCmpFunc[faultline/api.PhaseValue]",by decide,func261.trans eK⟩,⟨"slices.partitionCmpFunc[faultline/api.PhaseValue]",by decide,func262.trans eK⟩,func164.trans eK,func165.trans eK,⟨"slices.siftDownCmpFunc[faultline/api.PhaseValue]",by decide,func337.trans eK⟩,func269.trans eK,func270.trans eK,⟨"slices.medianAdjacentCmpFunc[faultline/api.PhaseValue]",by decide,func338.trans eK⟩,⟨"slices.medianCmpFunc[faultline/api.PhaseValue]",by decide,func339.trans eK⟩,⟨"slices.order2CmpFunc[faultline/api.PhaseValue]",by decide,func370.trans eK⟩,underlying0,isAgg0,sizeOf0,zeroValue0,underlying3,isAgg3,sizeOf3,zeroValue3,underlying4,isAgg4,sizeOf4,zeroValue4,underlying5,isAgg5,sizeOf5,zeroValue5,underlying9,isAgg9,sizeOf9,zeroValue9,underlying95,isAgg95,sizeOf95,zeroValue95,underlying149,isAgg149,sizeOf149,zeroValue149,underlying167,isAgg167,sizeOf167,zeroValue167,underlying210,isAgg210,sizeOf210,zeroValue210,underlying211,isAgg211,sizeOf211,zeroValue211,underlying216,isAgg216,sizeOf216,zeroValue216,underlying193,isAgg193,sizeOf193,zeroValue193,underlying39,isAgg39,sizeOf39,zeroValue39,underlying297,isAgg297,sizeOf297,zeroValue297,underlying301,isAgg301,sizeOf301,zeroValue301,underlying357,isAgg357,sizeOf357,zeroValue357,underlying158,isAgg158,sizeOf158,zeroValue158⟩
def Qo8:Go.Shelf.Ren:=⟨fun|190=>80|125=>105|258=>143|128=>164|129=>165|302=>238|303=>239|304=>240|305=>241|306=>242|307=>243|308=>244|309=>245|310=>246|333=>330|329=>269|330=>270|334=>331|335=>332|336=>333|344=>368|n=>n,fun|31=>74|9=>9|3=>3|46=>167|0=>0|51=>193|53=>39|4=>4|183=>211|182=>210|131=>216|5=>5|218=>297|222=>301|228=>357|229=>158|n=>n,fun n=>n⟩
theorem Qni:Lays.n190 prog Qo8:=⟨by kernel_rfl,func105.trans eK,func164.trans eK,func165.trans eK,func80.trans eK,func143.trans eK,func238.trans eK,func239.trans eK,func240.trans eK,func241.trans eK,func242.trans eK,func243.trans eK,func244.trans eK,func245.trans eK,func246.trans eK,func269.trans eK,func270.trans eK,func330.trans eK,func331.trans eK,func332.trans eK,func333.trans eK,func368.trans eK,underlying0,isAgg0,sizeOf0,zeroValue0,underlying3,isAgg3,sizeOf3,zeroValue3,underlying4,isAgg4,sizeOf4,zeroValue4,underlying5,isAgg5,sizeOf5,zeroValue5,underlying9,isAgg9,sizeOf9,zeroValue9,underlying74,isAgg74,sizeOf74,zeroValue74,underlying167,isAgg167,sizeOf167,zeroValue167,underlying193,isAgg193,sizeOf193,zeroValue193,underlying39,isAgg39,sizeOf39,zeroValue39,underlying216,isAgg216,sizeOf216,zeroValue216,underlying210,isAgg210,sizeOf210,zeroValue210,underlying211,isAgg211,sizeOf211,zeroValue211,underlying297,isAgg297,sizeOf297,zeroValue297,underlying301,isAgg301,sizeOf301,zeroValue301,underlying357,isAgg357,sizeOf357,zeroValue357,underlying158,isAgg158,sizeOf158,zeroValue158⟩
end Go.Proofs.YtngjgahldnnapaaGreatDoor

namespace Go.AI
section
variable {P : Program} {h : Qa} {ρ : Operand → AV}
theorem QA.cmpExt {f:FuncId} {fn:Func} {x y:Operand} {ts:Array TypeId} {a b:ByteArray} (hf:P.funcs[f]?=some fn) (hname:(fn.name== "runtime.NumGoroutine")=false) (hb:fn.body.isNone=true) (hn:Extern.findNext fn=none) (he:Extern.find fn=some Extern.BytealgCompare.compare) (hk:ρ (.func f)=.c (.raw (.func (.func f) #[] #[]))) (hx:ρ x=.c (.str a)) (hy:ρ y=.c (.str b)):
  QA P h ρ (.call {callee:=.value (.func f),args:= #[x,y],argTypes:=ts}) (.c (.int .i64 (Lib.compareBytes a.data.toList b.data.toList))):=fun S w e _ ho _=>by
 have h1:=ho x (by simp [Op.operands,Call.operands])
 rw [hx] at h1
 have h1:e x=.string a:=h1
 have h2:=ho y (by simp [Op.operands,Call.operands])
 rw [hy] at h2
 have h2:e y=.string b:=h2
 refine⟨.int .i64 (Lib.compareBytes a.data.toList b.data.toList),fun o hop=> ?_,rfl⟩
 have:=run_callFunc_extern (P:=P) hf hname hb hn he #[e x,e y] w
 rw [h1,h2,Lib.run_compareString] at this
 have h3:=ho (.func f) (by simp [Op.operands,Call.operands])
 rw [hk] at h3
 have h3':e (.func f)=.func (.func f) #[] #[]:=h3
 simp [execOp,hop,resolve,invoke,h3',h1,h2,Deferred.ofValue,this,Result.andThen]
end
end Go.AI
namespace Go.PN
open Go.AI
abbrev Qyw:BS:=[48,49,50,51,52,53,54,55,56,57,97,98,99,100,101,102,103,104,105,106,107,108,109,110,111,112,113,114,115,116,117,118,119,120,121,122]
abbrev QjQ:BS:=[48,48,48,49,48,50,48,51,48,52,48,53,48,54,48,55,48,56,48,57,49,48,49,49,49,50,49,51,49,52,49,53,49,54,49,55,49,56,49,57,50,48,50,49,50,50,50,51,50,52,50,53,50,54,50,55,50,56,50,57,51,48,51,49,51,50,51,51,51,52,51,53,51,54,51,55,51,56,51,57,52,48,52,49,52,50,52,51,52,52,52,53,52,54,52,55,52,56,52,57,53,48,53,49,53,50,53,51,53,52,53,53,53,54,53,55,53,56,53,57,54,48,54,49,54,50,54,51,54,52,54,53,54,54,54,55,54,56,54,57,55,48,55,49,55,50,55,51,55,52,55,53,55,54,55,55,55,56,55,57,56,48,56,49,56,50,56,51,56,52,56,53,56,54,56,55,56,56,56,57,57,48,57,49,57,50,57,51,57,52,57,53,57,54,57,55,57,56,57,57]
theorem QrE:∀n:Nat,n<100→VN QjQ (n*2) (n*2+2)=[UInt8.ofNat (48+n/10),UInt8.ofNat (48+n%10)]:=by decide
theorem QrF:∀n:Nat,n<10→VN Qyw n (n+1)=[UInt8.ofNat (48+n)]:=by decide
theorem YQ {k:Nat} (x:OD k):(CV.str (sB x.nm)::x.vs.map CV.raw).all CV.solid=true:=by
 rw [List.all_cons,List.all_map]
 refine Bool.and_eq_true_iff.2 ⟨rfl,List.all_eq_true.2 fun v hv=>x.one v hv⟩
end Go.PN
namespace Go.Proofs.YtngjgahldnnapaaGreatDoor
open Go.AI Go.PN Proofs.Tryz
attribute [local irreducible] aw Fa ZN ZZ Fh YE
theorem QjR (a b:BS):Fa prog 139 [.c (.str (sB a)),.c (.str (sB b))] (.c (.int .i64 (Lib.compareBytes a b))):=by
 refine fA func139 fun C hC=>?_
 repeat' first|refine zV o0 ?_|refine zH o0 ?_ ?_<;>intro hb|fail
 refine QT (QA.cmpExt func221 rfl rfl rfl rfl rfl eE eE) rfl rfl ?_
 refine xS ?_
 repeat' first|refine zV o0 ?_|refine zH o0 ?_ ?_<;>intro hb|fail
 refine xT hC ?_
 exact .one (.c (.int _ _))
theorem V2 (a b:BS):Fa prog 73 [.c (.str (sB a)),.c (.str (sB b))] (.c (.int .i64 (Lib.compareBytes a b))):=by
 have f1:=QjR a b
 refine fA func73 fun C hC=>?_
 repeat' first|refine zV o0 ?_|refine yQ o0 f1 ?_|refine zH o0 ?_ ?_<;>intro hb|fail
 refine xT hC ?_
 exact .one (.c (.int _ _))
theorem Qyx:QbZ prog 72 2:=fun x y=>by
 have f1:=V2 x.nm y.nm
 refine fA func72 fun C hC=>?_
 repeat' first|refine zV o0 ?_|refine zH o0 ?_ ?_<;>intro hb|fail
 refine Ka (v:=.agg (.str (sB x.nm)::x.vs.map .raw)) rfl rfl rfl eE (fun _ e=>by cases e) (by exact YQ x) fun g1 n_1=> ?_
 refine xS ?_
 refine Ka (v:=.agg (.str (sB y.nm)::y.vs.map .raw)) rfl rfl rfl eE (fun _ e=>by cases e) (by exact YQ y) fun g2 n_2=> ?_
 replace n_2:=Qa.ne_of n_2
 dsimp only [Qa.ne] at n_2
 refine yS n_2 ?_
 repeat' first|refine zV n_2 ?_|refine yQ n_2 f1 ?_|refine zH n_2 ?_ ?_<;>intro hb|fail
 refine yT hC n_2 ?_
 exact .one (.c (.int _ _))
theorem Qyy:QbZ prog 76 11:=fun x y=>by
 have f1:=V2 x.nm y.nm
 refine fA func76 fun C hC=>?_
 repeat' first|refine zV o0 ?_|refine zH o0 ?_ ?_<;>intro hb|fail
 refine Ka (v:=.agg (.str (sB x.nm)::x.vs.map .raw)) rfl rfl rfl eE (fun _ e=>by cases e) (by exact YQ x) fun g1 n_1=> ?_
 refine xS ?_
 refine Ka (v:=.agg (.str (sB y.nm)::y.vs.map .raw)) rfl rfl rfl eE (fun _ e=>by cases e) (by exact YQ y) fun g2 n_2=> ?_
 replace n_2:=Qa.ne_of n_2
 dsimp only [Qa.ne] at n_2
 refine yS n_2 ?_
 repeat' first|refine zV n_2 ?_|refine yQ n_2 f1 ?_|refine zH n_2 ?_ ?_<;>intro hb|fail
 refine yT hC n_2 ?_
 exact .one (.c (.int _ _))
theorem Qyz:QbZ prog 78 3:=fun x y=>by
 have f1:=V2 x.nm y.nm
 refine fA func78 fun C hC=>?_
 repeat' first|refine zV o0 ?_|refine zH o0 ?_ ?_<;>intro hb|fail
 refine Ka (v:=.agg (.str (sB x.nm)::x.vs.map .raw)) rfl rfl rfl eE (fun _ e=>by cases e) (by exact YQ x) fun g1 n_1=> ?_
 refine xS ?_
 refine Ka (v:=.agg (.str (sB y.nm)::y.vs.map .raw)) rfl rfl rfl eE (fun _ e=>by cases e) (by exact YQ y) fun g2 n_2=> ?_
 replace n_2:=Qa.ne_of n_2
 dsimp only [Qa.ne] at n_2
 refine yS n_2 ?_
 repeat' first|refine zV n_2 ?_|refine yQ n_2 f1 ?_|refine zH n_2 ?_ ?_<;>intro hb|fail
 refine yT hC n_2 ?_
 exact .one (.c (.int _ _))
theorem QyA:QbZ prog 82 4:=fun x y=>by
 have f1:=V2 x.nm y.nm
 refine fA func82 fun C hC=>?_
 repeat' first|refine zV o0 ?_|refine zH o0 ?_ ?_<;>intro hb|fail
 refine Ka (v:=.agg (.str (sB x.nm)::x.vs.map .raw)) rfl rfl rfl eE (fun _ e=>by cases e) (by exact YQ x) fun g1 n_1=> ?_
 refine xS ?_
 refine Ka (v:=.agg (.str (sB y.nm)::y.vs.map .raw)) rfl rfl rfl eE (fun _ e=>by cases e) (by exact YQ y) fun g2 n_2=> ?_
 replace n_2:=Qa.ne_of n_2
 dsimp only [Qa.ne] at n_2
 refine yS n_2 ?_
 repeat' first|refine zV n_2 ?_|refine yQ n_2 f1 ?_|refine zH n_2 ?_ ?_<;>intro hb|fail
 refine yT hC n_2 ?_
 exact .one (.c (.int _ _))
theorem QyB:QbZ prog 84 4:=fun x y=>by
 have f1:=V2 x.nm y.nm
 refine fA func84 fun C hC=>?_
 repeat' first|refine zV o0 ?_|refine zH o0 ?_ ?_<;>intro hb|fail
 refine Ka (v:=.agg (.str (sB x.nm)::x.vs.map .raw)) rfl rfl rfl eE (fun _ e=>by cases e) (by exact YQ x) fun g1 n_1=> ?_
 refine xS ?_
 refine Ka (v:=.agg (.str (sB y.nm)::y.vs.map .raw)) rfl rfl rfl eE (fun _ e=>by cases e) (by exact YQ y) fun g2 n_2=> ?_
 replace n_2:=Qa.ne_of n_2
 dsimp only [Qa.ne] at n_2
 refine yS n_2 ?_
 repeat' first|refine zV n_2 ?_|refine yQ n_2 f1 ?_|refine zH n_2 ?_ ?_<;>intro hb|fail
 refine yT hC n_2 ?_
 exact .one (.c (.int _ _))
theorem QyC:QbZ prog 137 7:=fun x y=>by
 have f1:=V2 x.nm y.nm
 refine fA func137 fun C hC=>?_
 repeat' first|refine zV o0 ?_|refine zH o0 ?_ ?_<;>intro hb|fail
 refine Ka (v:=.agg (.str (sB x.nm)::x.vs.map .raw)) rfl rfl rfl eE (fun _ e=>by cases e) (by exact YQ x) fun g1 n_1=> ?_
 refine xS ?_
 refine Ka (v:=.agg (.str (sB y.nm)::y.vs.map .raw)) rfl rfl rfl eE (fun _ e=>by cases e) (by exact YQ y) fun g2 n_2=> ?_
 replace n_2:=Qa.ne_of n_2
 dsimp only [Qa.ne] at n_2
 refine yS n_2 ?_
 repeat' first|refine zV n_2 ?_|refine yQ n_2 f1 ?_|refine zH n_2 ?_ ?_<;>intro hb|fail
 refine yT hC n_2 ?_
 exact .one (.c (.int _ _))
theorem Qlz (n:Nat) (h:n<100):Fa prog 304 [.c (.int .i64 n)] (.c (.str (sB (VA n)))):=by
 by_cases h1:n<10
 ·have d1:decide (n<10)=true:=Dt h1
  rw [Jx h1,←QrF n h1]
  refine fA func304 fun C hC=>?_
  repeat' first|refine zV d1 ?_|refine zH d1 ?_ ?_<;>intro hb|fail
  refine yT hC d1 ?_
  exact .one (.c (.str _))
 ·have d1:decide (n<10)=false:=De h1
  have e:∀l:BS,l=QjQ→Qeg [] (AV.c (.str ⟨(VN l (n*2) (n*2+2)).toArray⟩)) (.c (.str (sB (VA n)))):=by
   rintro _ rfl
   rw [QrE n h,QbK om,Jx om]
   exact .one (.c (.str _))
  have e2:∀a:ByteArray,a=⟨QjQ.toArray⟩→((n*2+2:Nat):Int)≤(a.size:Int):=by
   rintro _ rfl
   show _≤((QjQ.length:Nat):Int)
   rw [show QjQ.length=200 from rfl];omega
  refine fA func304 fun C hC=>?_
  repeat' first|refine zV d1 ?_|refine zH d1 ?_ ?_<;>intro hb|fail
  refine QT (QA.sliceA (i:=((n*2:Nat):Int)) (j:=((n*2+2:Nat):Int)) kR rfl ⟨_,(zE d1)⟩ ⟨_,(zE d1)⟩ om om (e2 _ kR)) rfl rfl ?_
  refine yS d1 ?_
  repeat' first|refine zV d1 ?_|refine zH d1 ?_ ?_<;>intro hb|fail
  refine yT hC d1 ?_
  exact e _ kR
theorem Qo9 (n:Nat) (h:n<100):Fa prog 206 [.c (.int .i64 n),.c (.int .i64 10)] (.c (.str (sB (VA n)))):=by
 have f1:=Qlz n h
 have d1:decide (n<100)=true:=Dt h
 have d0:decide (n≥0)=true:=Dt (Lz n)
 refine fA func206 fun C hC=>?_
 all_goals try(have Z:=(oj d1 d0);(repeat' first|refine zV Z ?_|refine yQ Z f1 ?_|refine zH Z ?_ ?_<;>intro hb|fail);all_goals clear Z)
 refine yT hC (oj d1 d0) ?_
 exact .one (.c (.str _))
theorem QrG (n:Nat) (h:n<100):Fa prog 131 [.c (.int .i64 n)] (.c (.str (sB (VA n)))):=by
 have f1:=Qo9 n h
 refine fA func131 fun C hC=>?_
 repeat' first|refine zV o0 ?_|refine yQ o0 f1 ?_|refine zH o0 ?_ ?_<;>intro hb|fail
 refine xT hC ?_
 exact .one (.c (.str _))
theorem QuF (n:Nat) (h:n<100):Fa prog 66 [.c (.int .i64 n)] (.c (.str (sB (VA n)))):=by
 have f1:=QrG n h
 refine fA func66 fun C hC=>?_
 repeat' first|refine zV o0 ?_|refine yQ o0 f1 ?_|refine zH o0 ?_ ?_<;>intro hb|fail
 refine xT hC ?_
 exact .one (.c (.str _))
theorem QjS (r:RD) (hw:r.wf 100000):Fa prog 67 [.agg (Y1 r)] (.c (.str (sB (Xr r)))):=by
 obtain⟨hl1,hl2⟩:=RD.p_len hw om
 have t1:=QjC (Qc r.pn) (Qr _) om
 have t2:=QjC (Qc r.pd) (Qr _) om
 have z1:=W7 hl1
 have z2:=W7 hl2
 rw [Qd] at t1 t2
 have hr:Xr r=(if r.ps then [45]++WB r.pn else WB r.pn)++(if r.pd=1 then [] else [47]++WB r.pd):=rfl
 generalize WB r.pn=T1 at*
 generalize WB r.pd=T2 at*
 have hcm:Fa prog 134 [.c (ws false (Qc r.pd)),.c (ws false [1])] (.c (.int .i64 (ZQ r.pd 1))):=by
  have:=QtD r.pd 1 om (by rw [X5 om];simp [QC])
  rwa [show Qc 1=[1] from by rw [X5 om];simp [QC]] at this
 have h1:ZQ r.pd 1=0↔r.pd=1:=by
  unfold ZQ
  constructor
  ·intro h
   repeat' split at h
   all_goals first|assumption|cases h
  ·intro h
   rw [h];rfl
 have f1:=Zg r (Zu hw om)
 have f2:=QcD
 refine fA func67 fun C hC=>?_
 repeat' first|refine zV o0 ?_|refine zH o0 ?_ ?_<;>intro hb|fail
 refine xB fun g1 n_1=>?_
 repeat' first|refine zV n_1 ?_|refine yQ n_1 f1 ?_|refine yQ n_1 t1 ?_|refine yQ n_1 t2 ?_|refine yQ n_1 f2 ?_|refine yQ n_1 hcm ?_|refine zH n_1 ?_ ?_<;>intro hb|fail
 all_goals
  rename_i q0
  first|rw [iP q0] at hr|rw [iN (by rw [q0];simp)] at hr
  first|rw [iP (h1.1 hb),Lp] at hr|rw [iN (fun e=>hb (h1.2 e))] at hr
  rw [hr]
  refine yT hC n_1 ?_
  exact .one (.c (.str _))
end Go.Proofs.YtngjgahldnnapaaGreatDoor
namespace Go.PN
theorem Qpa:∀l:List BS,(Uc l).length≤l.length+VB l l.length
 |[]=>Lz _
 |x::l=>by
  have h:=QbV x l l.length (Ac _)
  have e:Uy x l l.length=Uc (x::l):=by unfold Uy;rw [Lk];rfl
  rw [e] at h
  have a2:VB (x::l) (x::l).length=x.length+VB l l.length:=by unfold VB;rw [Lk,Lk];rfl
  rw [h,a2,Lc];omega
end Go.PN
namespace Go.Proofs.YtngjgahldnnapaaGreatDoor
open Go.AI Go.PN Proofs.Tryz
attribute [local irreducible] aw Fa ZN ZZ Fh YE
theorem KT (t:Bool) (l:List BS) (hl:l.length+VB l l.length≤10000000000):Fa prog 55 [.c (X0 t l)] (.c (.str (sB (Xj l)))):=by
 have f1:=Qup t l hl
 have hj:=Qpa l
 refine fA func55 fun C hC=>?_
 refine Zo o0 f1 ?_
 refine xT hC ?_
 exact .one (.c (.str _))
abbrev kWs:List BS:=[QtU,kOr,kVote,kNot,kXor,kInhibit,kPand,kSpare,QdU]
theorem QrH (k:Int) (h1: -9223372036854775808≤k) (h2:k<9223372036854775808):Fa prog 65 [.c (.int .i64 k)] (.c (.str (sB (XG k)))):=by
 by_cases h:k<0∨k≥9
 ·have e:XG k=Qri:=iP h
  rw [e]
  refine fA func65 fun C hC=>?_
  refine xG ?_
  refine Qn (xs:=kWs.map fun w=>Operand.const (.string (sB w))) (cells:=kWs.map fun w=>.str (sB w)) rfl rfl rfl eE (by refine xS ?_;rfl) rfl om om (by intro z hz;simp only [kWs,Ld,List.map_nil,Lb,Lj,or_false] at hz;rcases hz with rfl|rfl|rfl|rfl|rfl|rfl|rfl|rfl|rfl<;>exact⟨rfl,rfl,rfl⟩) rfl fun g3 n_3=> ?_
  refine xS ?_
  repeat' first|refine zV o0 ?_|refine zH o0 ?_ ?_<;>intro hb|fail
  ·refine xT hC ?_
   exact .one (.c (.str _))
  ·refine xT hC ?_
   exact .one (.c (.str _))
  ·exfalso;omega
 ·have e:k=0∨k=1∨k=2∨k=3∨k=4∨k=5∨k=6∨k=7∨k=8:=by omega
  rcases e with rfl|rfl|rfl|rfl|rfl|rfl|rfl|rfl|rfl
  all_goals
   refine fA func65 fun C hC=>?_
   refine xG ?_
   refine Qn (xs:=kWs.map fun w=>Operand.const (.string (sB w))) (cells:=kWs.map fun w=>.str (sB w)) rfl rfl rfl eE (by refine xS ?_;rfl) rfl om om (by intro z hz;simp only [kWs,Ld,List.map_nil,Lb,Lj,or_false] at hz;rcases hz with rfl|rfl|rfl|rfl|rfl|rfl|rfl|rfl|rfl<;>exact⟨rfl,rfl,rfl⟩) rfl fun g3 n_3=> ?_
   refine xS ?_
   refine zA o0 ?_
   refine xT hC ?_
   exact .one (.c (.str _))
end Go.Proofs.YtngjgahldnnapaaGreatDoor
namespace Go.AI
section
variable {E : Vl} {K : List It} {σ : Sl} {h : Qa} {all rest : List Oper} {o : Oper}
theorem Qbb {t e size bytes n k:Nat} {z:List CV} {og:Option Nat} {f f2 f':Nat→CV} {s x:Operand} {cx:CV} {pre:Qa} (hop:o.op=.call {callee:=.builtin .append,args:= #[s,x],argTypes:= #[t,t]}) (hw:Qx all σ o=some true) (hd:Qw E.N o.dst=true)
  (ht:QR E.P t=some (e,size,bytes)) (hz:Qj E.P e=some z) (hzl:z.length=size) (hs0:0<size) (hs:ev σ s=.c (gs og size n)) (hog:og=none→n=0) (hx:ev σ x=.c cx) (hsrc:∀h:Qa,Src h size cx k f2) (hsol:∀j,j<k*size→(f2 j).solid=true) (hh:h=pre++gh og e (n*size) f)
  (h63:n+k≤maxLen) (hby:(n+k)*bytes≤140737488355328) (hf:∀j,j<(n+k)*size→Xq f (n*size) f2 j=f' j)
  (kk:∀og',(og'=none→n+k=0)→(∀g,og'=some g→g∉pre.keys)→aw E (.ops all rest::K) (σ.setO o.dst (.c (gs og' size (n+k)))) (pre++gh og' e ((n+k)*size) f')):aw E (.ops all (o::rest)::K) σ h:=by
 subst hh
 rcases Nat.eq_zero_or_pos k with hk|hk
 ·subst hk
  refine Y9 fun hnd=> ?_
  refine VM (cs:=gs og size n) (σ':=σ.setO o.dst (.c (gs og size n))) hop hw hd ht hs (by cases og<;>rfl) hx (hsrc _) rfl ?_
  cases og with
  |none=>exact kk none hog (fun g e=>by cases e)
  |some g=>
   have hnp:g∉pre.keys:=fun hm=>by
    simp only [Qa.keys,gh,List.map_append,Ld,List.map_nil] at hnd
    exact(List.nodup_append.1 hnd).2.2 g hm g (by simp) rfl
   refine Qi (h':=(g,.cells e (n*size) f)::pre) (List.perm_append_singleton _ _) ?_
   refine QU (f':=f') (fun j hj=>by rw [←hf j hj];simp [Xq,hj]) ?_
   refine Qi (h':=pre++gh (some g) e (n*size) f') (List.perm_append_singleton _ _).symm ?_
   exact kk (some g) (fun e=>by cases e) (fun g' e=>by injection e with e;subst e;exact hnp)
 ·cases og with
  |none=>
   obtain rfl:n=0:=hog rfl
   refine WU hop hw hd ht hz hzl hs0 hs hx (hsrc _) hk om (by rwa [Nz] at hby) fun g' hg'=> ?_
   refine QU (f':=f') (fun j hj=>by rw [←hf j (by rwa [Nz])];simp [Xq]) ?_
   refine Qi (h':=pre++gh (some g') e (k*size) f') ?_ ?_
   ·simp only [gh,Lp];exact(List.perm_append_singleton _ _).symm
   ·have:=kk (some g') (fun e=>by cases e) (fun g e=>by injection e with e;subst e;exact fun hm=>hg' (by simpa [Qa.keys,gh] using hm))
    rw [Nz] at this
    exact this
  |some g=>
   refine Y9 fun hnd=> ?_
   have hnp:g∉pre.keys:=fun hm=>by
    simp only [Qa.keys,gh,List.map_append,Ld,List.map_nil] at hnd
    exact(List.nodup_append.1 hnd).2.2 g hm g (by simp) rfl
   refine YC (g:=g) (m:=n*size) (f:=f) (h2:=pre) hop hw hd ht hz hzl hs0 hs (Qa.get_app hnp) (Ac _) hx (hsrc _) hsol hk h63 hby (Qa.del_app hnp) fun g' hg'=> ?_
   refine QU (f':=f') (fun j hj=>hf j hj) ?_
   refine Qi (h':=pre++gh (some g') e ((n+k)*size) f') (List.perm_append_singleton _ _).symm ?_
   exact kk (some g') (fun e=>by cases e) (fun g'' e=>by injection e with e;subst e;exact hg')
theorem QjT {x:Nat×XD} {g n:Nat} {ty:TypeId} {f f':Nat→CV} {h:Qa} (hf:∀j,j<n→f j=f' j) (k:aw E K σ (x::(g,.cells ty n f')::h)):aw E K σ (x::(g,.cells ty n f)::h):=fun a w s=>by
 refine k a w ⟨s.size,s.defers,s.slots,fun g' o' hm=> ?_,s.nodup,s.keys,s.frame⟩
 rcases Lb.1 hm with e|hm
 ·exact s.heap g' o' (Lb.2 (.inl e))
 ·rcases Lb.1 hm with e|hm
  ·injection e with e1 e2
   subst e1 e2
   exact Y0.cong hf (s.heap _ _ (Lm _ (Lf ..)))
  ·exact s.heap g' o' (Lm _ (Lm _ hm))
end
end Go.AI
namespace Go.AI
theorem QyD {P:Program} {f:FuncId} {args:List AV} {r:AV} (h:FaQ (fun _ _=>True) P f args r):Fa P f args r:=h
end Go.AI
namespace Go.PN
open Go.AI
theorem K7 (a b:List BS):∀j,j<(a.length+b.length)*1→Xq (Qe a) (a.length*1) (Qe b) j=Qe (a++b) j:=fun j hj=>by
 unfold Xq
 rw [Xb,Xb,Xb,Ad]
 split
 ·rename_i h
  rw [Lg,Lg,List.getElem?_append_left h]
 ·rename_i h
  rw [Lg,Lg,List.getElem?_append_right om]
theorem Qfp (a:List BS) (w:BS):∀j,j<(a.length+1)*1→Xq (Qe a) (a.length*1) (ofL [.str (sB w)]) j=Qe (a++[w]) j:=fun j hj=>by
 rw [←K7 a [w] j hj]
 unfold Xq
 split
 ·rfl
 ·rw [Xb,show j-a.length*1=0 from by omega];rfl
end Go.PN
namespace Go.Proofs.YtngjgahldnnapaaGreatDoor
open Go.AI Go.PN Proofs.Tryz
attribute [local irreducible] aw Fa ZN ZZ Fh YE
theorem Qpb {T:(Bool→Nat→Prop)→World→Prop} (g:Xe) (hk1: -9223372036854775808≤g.kind) (hk2:g.kind<9223372036854775808) (hk:g.kind=2→∀C:Vk,T C.S0 C.w0→ZZ C prog 66 [.c (.int .i64 g.k)] (.c (.str (sB (YX g.k))))) (hw:g.dorm.wf 100000) (hl:(YY g).length+VB (YY g) (YY g).length≤10000000000):FaQ T prog 33 [.agg (Zy g)] (.c (.str (sB (Zj g)))):=by
 have f1:=QrH g.kind hk1 hk2
 have hil:g.inputs.length≤10000000000:=by have:(YY g).length≥g.inputs.length:=by unfold YY;simp;omega
                                          omega
 refine OO func33 rfl rfl (by simp [ntmps33]) fun C hC hT=> ?_
 simp only [Y8,Nat.reduceAdd]
 refine xG ?_
 refine xB fun g1 n_1=>?_
 refine yG n_1 ?_
 refine Yf [(g1,.cells 79 7 (ofL (Zy g)))] [(0,0),(1,0),(2,0),(3,0),(4,0),(5,1),(6,0)] Qg kR (Qm (Lf ..) Qf) ?_
 refine yG n_1 ?_
 refine Yg rfl f1 rfl rfl rfl (fun _ _=>(zL n_1)) ?_
 refine Xp n_1 ?_
 refine Qs (xs:=[.const (.string (sB Qz)),.tmp 5,.tmp 8]) (cells:=[.str (sB Qz),.str (sB g.name),.str (sB (XG g.kind))]) rfl rfl rfl rfl (zE n_1) (by refine yS n_1 ?_;rfl) rfl om om (by intro z hz;simp only [Lb,Lj,or_false] at hz;rcases hz with rfl|rfl|rfl<;>exact⟨rfl,rfl,rfl⟩) rfl (by intro z hz;simp only [Lb,Lj,or_false] at hz;rcases hz with rfl|rfl|rfl<;>simp [Op.operands]) (Qm (Lf ..) Qf) (fun g9 n_9=> ?_) (.inr ⟨rfl,rfl⟩)
 replace n_9:=Qa.ne_of n_9
 dsimp only [Qa.ne] at n_9
 refine Xp (oj n_1 n_9) ?_
 refine Qi (List.Perm.swap _ _ _) ?_
 refine QjT (f':=Qe [Qz,g.name,XG g.kind]) (fun j hj=>by match j,hj with|0,_=>rw [Xb];rfl|1,_=>rw [Xb];rfl|2,_=>rw [Xb];rfl) ?_
 by_cases c2:g.kind=2
 ·have d2:(g.kind==2)=true:=by simpa using c2
  have f2:=hk c2 C hT
  have eL:YY g=[Qz,g.name,XG g.kind]++[YX g.k]++g.inputs:=by unfold YY;rw [iP c2];rfl
  have eX:Zj g=Xj ([Qz,g.name,XG g.kind]++[YX g.k]++g.inputs):=by rw [←eL];rfl
  all_goals try(have Z:=(oj n_1 (oj n_9 d2));(repeat' first|refine zV Z ?_|(refine yC3 Z (f2) ?_)|(refine yD3 Z (f2) ?_)|refine zH Z ?_ ?_<;>intro hb|fail);all_goals clear Z)
  refine Qi (h':=[(g1,.cells 79 7 (ofL (Zy g)))]++gh (some g9) 9 (3*1) (Qe [Qz,g.name,XG g.kind])) (.refl _) ?_
  refine QX (og:=some g9) (n:=3) (size:=1) (f:=Qe [Qz,g.name,XG g.kind]) (v:=.c (.str (sB (YX g.k)))) (f':=Qe ([Qz,g.name,XG g.kind]++[(YX g.k)])) (pre:=[(g1,.cells 79 7 (ofL (Zy g)))]) rfl rfl rfl rfl rfl rfl rfl (by exact XL) (by exact Zb) (by rfl) om om (zE (oj n_1 (oj n_9 d2))) om (fun e=>by cases e) (zE (oj n_1 (oj n_9 d2))) (by rfl) (by rfl) rfl qc om (by exact Qfp [Qz,g.name,XG g.kind] (YX g.k)) fun g19 n_19=> ?_
  replace n_19:=Qa.ne_of n_19
  dsimp only [Qa.ne] at n_19
  refine(?_:aw _ _ _ [(g1,.cells 79 7 (ofL (Zy g))),(g19,.cells 9 4 (Qe ([Qz,g.name,XG g.kind]++[(YX g.k)])))])
  have J1:=oj n_1 (oj n_9 (oj d2 n_19))
  refine yS J1 ?_
  all_goals repeat' first|refine zV J1 ?_|refine zH J1 ?_ ?_<;>intro hb|fail
  refine Qi (h':=[(g1,.cells 79 7 (ofL (Zy g)))]++gh (some g19) 9 (4*1) (Qe ([Qz,g.name,XG g.kind]++[YX g.k]))) (.refl _) ?_
  refine Qbb (size:=1) (n:=4) (k:=g.inputs.length) (f:=Qe ([Qz,g.name,XG g.kind]++[YX g.k])) (f2:=Qe g.inputs) (f':=Qe (([Qz,g.name,XG g.kind]++[YX g.k])++g.inputs)) (og:=some g19) (pre:=[(g1,.cells 79 7 (ofL (Zy g)))]) rfl rfl rfl (by exact XL) (by exact Zb) rfl om (zE J1) (fun e=>by cases e) (zE J1) (fun _=>.row) (fun j _=>Yb _ j) rfl qc om (K7 ([Qz,g.name,XG g.kind]++[YX g.k]) g.inputs) fun og' hn' hg'=> ?_
  rw [show 4+g.inputs.length=(([Qz,g.name,XG g.kind]++[YX g.k])++g.inputs).length from by simp;omega] at hn'⊢
  rw [Ad]
  generalize ([Qz,g.name,XG g.kind]++[YX g.k])++g.inputs=W at*
  have fL:=KT false W (by rw [←eL];exact hl)
  refine yS J1 ?_
  refine Y9 fun hnd=> ?_
  refine Qu fL rfl rfl rfl (by refine yS J1 ?_;exact .c (Qa5 (pre:=[(g1,.cells 79 7 (ofL (Zy g)))]) hn' hnd)) ?_
  refine Xp J1 ?_
  rw [eX]
  refine yT hC J1 ?_
  exact .one (.c (.str _))
 ·have d2:(g.kind==2)=false:=by simpa using c2
  by_cases c7:g.kind=7
  ·have d7:(g.kind==7)=true:=by simpa using c7
   have f2:=QjS g.dorm hw
   have eL:YY g=[Qz,g.name,XG g.kind]++[Xr g.dorm]++g.inputs:=by unfold YY;rw [iN c2,iP c7];rfl
   have eX:Zj g=Xj ([Qz,g.name,XG g.kind]++[Xr g.dorm]++g.inputs):=by rw [←eL];rfl
   refine Zo (oj n_1 (oj n_9 (oj d2 d7))) f2 ?_
   refine Qi (h':=[(g1,.cells 79 7 (ofL (Zy g)))]++gh (some g9) 9 (3*1) (Qe [Qz,g.name,XG g.kind])) (.refl _) ?_
   refine QX (og:=some g9) (n:=3) (size:=1) (f:=Qe [Qz,g.name,XG g.kind]) (v:=.c (.str (sB (Xr g.dorm)))) (f':=Qe ([Qz,g.name,XG g.kind]++[(Xr g.dorm)])) (pre:=[(g1,.cells 79 7 (ofL (Zy g)))]) rfl rfl rfl rfl rfl rfl rfl (by exact XL) (by exact Zb) (by rfl) om om (zE (oj n_1 (oj n_9 (oj d2 d7)))) om (fun e=>by cases e) (zE (oj n_1 (oj n_9 (oj d2 d7)))) (by rfl) (by rfl) rfl qc om (by exact Qfp [Qz,g.name,XG g.kind] (Xr g.dorm)) fun g19 n_19=> ?_
   replace n_19:=Qa.ne_of n_19
   dsimp only [Qa.ne] at n_19
   refine(?_:aw _ _ _ [(g1,.cells 79 7 (ofL (Zy g))),(g19,.cells 9 4 (Qe ([Qz,g.name,XG g.kind]++[(Xr g.dorm)])))])
   have J2:=oj n_1 (oj n_9 (oj d2 (oj d7 n_19)))
   refine yS J2 ?_
   refine zA J2 ?_
   refine Qi (h':=[(g1,.cells 79 7 (ofL (Zy g)))]++gh (some g19) 9 (4*1) (Qe ([Qz,g.name,XG g.kind]++[Xr g.dorm]))) (.refl _) ?_
   refine Qbb (size:=1) (n:=4) (k:=g.inputs.length) (f:=Qe ([Qz,g.name,XG g.kind]++[Xr g.dorm])) (f2:=Qe g.inputs) (f':=Qe (([Qz,g.name,XG g.kind]++[Xr g.dorm])++g.inputs)) (og:=some g19) (pre:=[(g1,.cells 79 7 (ofL (Zy g)))]) rfl rfl rfl (by exact XL) (by exact Zb) rfl om (zE J2) (fun e=>by cases e) (zE J2) (fun _=>.row) (fun j _=>Yb _ j) rfl qc om (K7 ([Qz,g.name,XG g.kind]++[Xr g.dorm]) g.inputs) fun og' hn' hg'=> ?_
   rw [show 4+g.inputs.length=(([Qz,g.name,XG g.kind]++[Xr g.dorm])++g.inputs).length from by simp;omega] at hn'⊢
   rw [Ad]
   generalize ([Qz,g.name,XG g.kind]++[Xr g.dorm])++g.inputs=W at*
   have fL:=KT false W (by rw [←eL];exact hl)
   refine yS J2 ?_
   refine Y9 fun hnd=> ?_
   refine Qu fL rfl rfl rfl (by refine yS J2 ?_;exact .c (Qa5 (pre:=[(g1,.cells 79 7 (ofL (Zy g)))]) hn' hnd)) ?_
   refine Xp J2 ?_
   rw [eX]
   refine yT hC J2 ?_
   exact .one (.c (.str _))
  ·have d7:(g.kind==7)=false:=by simpa using c7
   have eL:YY g=[Qz,g.name,XG g.kind]++g.inputs:=by unfold YY;rw [iN c2,iN c7];rfl
   have eX:Zj g=Xj ([Qz,g.name,XG g.kind]++g.inputs):=by rw [←eL];rfl
   refine zA (oj n_1 (oj n_9 (oj d2 d7))) ?_
   refine Qi (h':=[(g1,.cells 79 7 (ofL (Zy g)))]++gh (some g9) 9 (3*1) (Qe [Qz,g.name,XG g.kind])) (.refl _) ?_
   refine Qbb (size:=1) (n:=3) (k:=g.inputs.length) (f:=Qe [Qz,g.name,XG g.kind]) (f2:=Qe g.inputs) (f':=Qe ([Qz,g.name,XG g.kind]++g.inputs)) (og:=some g9) (pre:=[(g1,.cells 79 7 (ofL (Zy g)))]) rfl rfl rfl (by exact XL) (by exact Zb) rfl om (zE (oj n_1 (oj n_9 (oj d2 d7)))) (fun e=>by cases e) (zE (oj n_1 (oj n_9 (oj d2 d7)))) (fun _=>.row) (fun j _=>Yb _ j) rfl qc om (K7 [Qz,g.name,XG g.kind] g.inputs) fun og' hn' hg'=> ?_
   rw [show 3+g.inputs.length=([Qz,g.name,XG g.kind]++g.inputs).length from by simp;omega] at hn'⊢
   rw [Ad]
   generalize [Qz,g.name,XG g.kind]++g.inputs=W at*
   have fL:=KT false W (by rw [←eL];exact hl)
   have J3:=oj n_1 (oj n_9 (oj d2 d7))
   refine yS J3 ?_
   refine Y9 fun hnd=> ?_
   refine Qu fL rfl rfl rfl (by refine yS J3 ?_;exact .c (Qa5 (pre:=[(g1,.cells 79 7 (ofL (Zy g)))]) hn' hnd)) ?_
   refine Xp J3 ?_
   rw [eX]
   refine yT hC J3 ?_
   exact .one (.c (.str _))
theorem QjU (g:Xe) (hk1: -9223372036854775808≤g.kind) (hk2:g.kind<9223372036854775808) (hk:g.kind=2→0≤g.k∧g.k<100) (hw:g.dorm.wf 100000) (hl:(YY g).length+VB (YY g) (YY g).length≤10000000000):Fa prog 33 [.agg (Zy g)] (.c (.str (sB (Zj g)))):=
 QyD (Qpb (T:=fun _ _=>True) g hk1 hk2 (fun h C _=>by
  obtain⟨n,hn⟩:∃n:Nat,g.k=(n:Int):=⟨g.k.toNat,by have:=hk h;omega⟩
  have f2:=QuF n (by have:=hk h;omega)
  rw [hn,show YX (n:Int)=VA n by unfold YX;rw [iN om];rfl]
  exact f2.toC) hw hl)
end Go.Proofs.YtngjgahldnnapaaGreatDoor
