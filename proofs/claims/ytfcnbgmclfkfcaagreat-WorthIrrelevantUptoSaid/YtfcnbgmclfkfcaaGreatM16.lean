/- Parts of one proof, laid by a program. -/
import Derived.Test.YtfcnbgmclfkfcaaGreatM00
import Derived.Test.YtfcnbgmclfkfcaaGreatM15
set_option linter.unusedSimpArgs false
set_option linter.unusedVariables false
namespace Go.PN
open Go.AI
def okB (b:List Int):Bool:=decide (b=numsL b.length)
theorem numsL_succ (n:Nat):numsL (n+1)=numsL n++[(n:Int)+2]:=by simp [numsL,List.range_succ]
theorem okB_push (b:List Int) (r:Int):okB (b++[r])=(okB b&&decide (r-2=b.length)):=by
 unfold okB
 rw [Bool.eq_iff_iff]
 simp only [Bool.and_eq_true,decide_eq_true_eq,List.length_append,List.length_cons,List.length_nil,Nat.zero_add]
 rw [numsL_succ]
 constructor
 ·intro h
  have:=List.append_inj h (by rw [numsL_len])
  refine⟨this.1,?_⟩
  have h2:=this.2
  simp only [List.cons.injEq,and_true] at h2
  omega
 ·rintro ⟨h1,h2⟩
  rw [←h1,show r=(b.length:Int)+2 from by omega]
theorem nd6 {a b c d e f:Nat} (h:[a,b,c,d,e,f].Nodup):((a=b)=False∧(b=a)=False)∧((a=c)=False∧(c=a)=False)∧((a=d)=False∧(d=a)=False)∧((a=e)=False∧(e=a)=False)∧((a=f)=False∧(f=a)=False)∧((b=c)=False∧(c=b)=False)∧((b=d)=False∧(d=b)=False)∧((b=e)=False∧(e=b)=False)∧((b=f)=False∧(f=b)=False)∧((c=d)=False∧(d=c)=False)∧((c=e)=False∧(e=c)=False)∧((c=f)=False∧(f=c)=False)∧((d=e)=False∧(e=d)=False)∧((d=f)=False∧(f=d)=False)∧((e=f)=False∧(f=e)=False):=by
 simp only [List.nodup_cons,List.mem_cons,List.not_mem_nil,or_false,not_or] at h
 obtain⟨⟨h1,h2,h3,h4,h5⟩,⟨h6,h7,h8,h9⟩,⟨h10,h11,h12⟩,⟨h13,h14⟩,h15,_⟩:=h
 simp only [eq_false h1,eq_false h2,eq_false h3,eq_false h4,eq_false h5,eq_false h6,eq_false h7,eq_false h8,eq_false h9,eq_false h10,eq_false h11,eq_false h12,eq_false h13,eq_false h14,eq_false h15,eq_false (Ne.symm h1),eq_false (Ne.symm h2),eq_false (Ne.symm h3),eq_false (Ne.symm h4),eq_false (Ne.symm h5),eq_false (Ne.symm h6),eq_false (Ne.symm h7),eq_false (Ne.symm h8),eq_false (Ne.symm h9),eq_false (Ne.symm h10),eq_false (Ne.symm h11),eq_false (Ne.symm h12),eq_false (Ne.symm h13),eq_false (Ne.symm h14),eq_false (Ne.symm h15),and_self]
theorem mem_numF {m:Nat} {ns:List DN} (hn:NsOk m ns) {k:Nat} {r x:Int} {b:List Int} (hr:r<ns.length+2) (h1:b.Nodup) (h2:∀x∈b,2≤x∧x<ns.length+2) (hx:r<x):decide (x∈numF ns k r b)=decide (x∈b):=by
 rw [decide_eq_decide]
 constructor
 ·intro h
  rcases(numF_bd hn k r b hr h1 h2).2.2 x h with h|h
  ·exact h
  ·omega
 ·exact numF_mono k r b x
theorem getDset {l:List Bool} {i j:Nat} {v:Bool} (h:i≠j):(l.set i v).getD j false=l.getD j false:=by
 rw [List.getD_eq_getElem?_getD,List.getElem?_set_ne h,←List.getD_eq_getElem?_getD]
theorem getDset' {l:List Bool} {i:Nat} {v:Bool} (h:i<l.length):(l.set i v).getD i false=v:=by
 rw [List.getD_eq_getElem?_getD,List.getElem?_set_self h];rfl
end Go.PN
namespace Go.Proofs.YtfcnbgmclfkfcaaGreat
open Go.AI Go.PN
attribute [local irreducible] aw Fa Fh DrK
@[go_sem] theorem ty_s_fn:tSz Tryz.prog 158=some (false,1):=by kernel_rfl
@[go_sem] theorem ty_z_fn:tZero Tryz.prog 158=some [.raw .nilFunc]:=by kernel_rfl
abbrev nh (d:DG) (gs gf gd gk gn gb:Nat) (seen:List Bool) (b:List Int):Heap:=
 [(gs,.cells 94 1 (ofL [.osl gb 1 0 d.nodes.length])),(gf,.cells 158 1 (ofL [fnC 212 [gs,gf,gd,gk,gn]])),(gd,.cells 55 3 (ofL (dgc false d))),(gk,.cells 4 1 (ofL [.bool (okB b)])),(gn,.cells 3 1 (ofL [.int .i64 (b.length:Int)])),(gb,.cells 4 d.nodes.length (bsF seen))]
set_option maxRecDepth 100000 in
set_option maxHeartbeats 3200000 in
theorem numbered1_fh (d:DG) (hns:NsOk d.order.length d.nodes) (hnl:d.nodes.length≤1000000) (gs gf gd gk gn gb:Nat):∀(k:Nat) (r:Int) (b:List Int) (seen:List Bool),r.toNat≤k→0≤r→r<d.nodes.length+2→b.Nodup→(∀x∈b,2≤x∧x<d.nodes.length+2)→seen.length=d.nodes.length→
 (∀x:Int,2≤x→x≤r→seen.getD (x-2).toNat false=decide (x∈b))→
 Fh Tryz.prog 212 (nh d gs gf gd gk gn gb seen b) ([.c (.int .i64 r)]++[gs,gf,gd,gk,gn].map fun g=>.c (.optr g 0))
  (fun res h=>res=.tup []∧∃seen',h=nh d gs gf gd gk gn gb seen' (numF d.nodes k r b)∧seen'.length=d.nodes.length∧(∀x:Int,2≤x→x≤r→seen'.getD (x-2).toNat false=decide (x∈numF d.nodes k r b))∧(∀x:Int,r<x→seen'.getD (x-2).toNat false=seen.getD (x-2).toNat false)):=by
 intro k
 induction k with
 |zero=>
  intro r b seen hk h0 hr hbn hbr hsl hsb
  have hr0:r=0:=by omega
  subst hr0
  simp only [List.cons_append,List.nil_append,List.map_cons,List.map_nil]
  refine fh_of_body Tryz.func212 rfl rfl (by simp [Tryz.ntmps212]) fun C hC=> ?_
  simp only [initS,Nat.reduceAdd]
  refine xG ?_
  refine aw_split 9 eE (fun hb=> ?_) (fun hb=> ?_)<;>refine xS ?_
  ·refine xG ?_
   refine xP ?_
   refine xGU ?_
   exact⟨rfl,seen,rfl,hsl,fun x _ _=>by omega,fun _ _=>rfl⟩
  ·exact absurd hb (by decide)
 |succ k ih=>
  intro r b seen hk h0 hr hbn hbr hsl hsb
  simp only [List.cons_append,List.nil_append,List.map_cons,List.map_nil]
  refine fh_of_body Tryz.func212 rfl rfl (by simp [Tryz.ntmps212]) fun C hC=> ?_
  simp only [initS,Nat.reduceAdd]
  refine xG ?_
  refine aw_split 9 eE (fun hb=> ?_) (fun hb=> ?_)<;>refine xS ?_
  ·have hb':=of_decide_eq_true hb
   refine xG ?_
   refine xP ?_
   refine xGU ?_
   rw [numF,if_pos (.inl hb')]
   exact⟨rfl,seen,rfl,hsl,fun x _ _=>by omega,fun _ _=>rfl⟩
  ·have hb':=of_decide_eq_false hb
   refine aw_nd fun hnd=> ?_
   replace hnd:=nd6 hnd
   dsimp only at hnd
   have hsr:=hsb r om om
   have J1:=oj hnd hsr
   refine yG J1 ?_
   refine yF J1 (fun hm=>?_) fun hm=>?_
   ·have hm':=of_decide_eq_true hm
    refine yG J1 ?_
    refine yU J1 ?_
    rw [numF,if_pos (.inr hm')]
    exact⟨rfl,seen,rfl,hsl,hsb,fun _ _=>rfl⟩
   ·have hm':=of_decide_eq_false hm
    have hc:¬(r<2∨r∈b):=by rintro (h|h);exact hb' h;exact hm' h
    obtain⟨v0,v1,l0,l1,q0,q1⟩:=hns (r-2).toNat om
    obtain⟨a1,a2,a3⟩:=numF_bd hns k (d.nodes.getD (r-2).toNat dn0).lo b om hbn hbr
    obtain⟨b1,b2,b3⟩:=numF_bd hns k (d.nodes.getD (r-2).toNat dn0).hi _ om a1 a2
    have hnc:=nodup_range b1 b2
    refine yGWS J1 ?_
    rw [updF_bs om]
    refine yG J1 ?_
    refine aw_drB 8 ty_mixed (by kernel_rfl) ?_
    repeat first|(refine drb_2q true rfl (fun R hR=> ?_);simp only [go_sem,hnd,hsr];(with_reducible refine hR _ _ ?_ ?_);(focus (((try simp only [inRange])<;>and_intros<;>first|exact True.intro|omega|trivial);done));clear hR R)|fail
    refine drb_nil fun γ=> ?_
    have J2:=oj hnd hsr
    refine yS J2 ?_
    generalize hx:d.nodes.getD (r-2).toNat dn0=x at*
    have hs1:∀z:Int,2≤z→z<r→(seen.set (r-2).toNat true).getD (z-2).toNat false=decide (z∈b):=fun z z1 z2=>by
     rw [getDset om];exact hsb z z1 om
    have hs1r:(seen.set (r-2).toNat true).getD (r-2).toNat false=true:=getDset' om
    have hs1o:∀z:Int,r<z→(seen.set (r-2).toNat true).getD (z-2).toNat false=seen.getD (z-2).toNat false:=fun z z1=>getDset om
    have hs1l:(seen.set (r-2).toNat true).length=d.nodes.length:=by rw [List.length_set];exact hsl
    generalize seen.set (r-2).toNat true=seen1 at hs1 hs1r hs1o hs1l
    refine aw_callhv (hr:=[]) (ih x.lo b seen1 om l0 om hbn hbr hs1l (fun z z1 z2=>hs1 z z1 om)) rfl rfl rfl (zE J2) (by rw [List.append_nil]) (zL J2) ?_
    rintro _ _ ⟨rfl,seen2,rfl,hs2l,hs2,hs2o⟩ _
    have hs2':∀z:Int,2≤z→z<r→seen2.getD (z-2).toNat false=decide (z∈numF d.nodes k x.lo b):=fun z z1 z2=>by
     by_cases hz:z≤x.lo
     ·exact hs2 z z1 hz
     ·rw [hs2o z om,hs1 z z1 z2,mem_numF hns om hbn hbr om]
    have hs2r:seen2.getD (r-2).toNat false=true:=by rw [hs2o r om,hs1r]
    have hs2q:∀z:Int,r<z→seen2.getD (z-2).toNat false=seen.getD (z-2).toNat false:=fun z hz=>by rw [hs2o z om,hs1o z hz]
    rw [List.append_nil]
    refine ySG J2 ?_
    refine aw_drB 8 ty_mixed (by kernel_rfl) ?_
    repeat first|(refine drb_2q true rfl (fun R hR=> ?_);simp only [go_sem,hnd,hsr];(with_reducible refine hR _ _ ?_ ?_);(focus (((try simp only [inRange])<;>and_intros<;>first|exact True.intro|omega|trivial);done));clear hR R)|fail
    refine drb_nil fun γ=> ?_
    have J3:=oj hnd hsr
    refine yS J3 ?_
    rw [hx]
    refine aw_callhv (hr:=[]) (ih x.hi _ seen2 om q0 om a1 a2 hs2l (fun z z1 z2=>hs2' z z1 om)) rfl rfl rfl (zE J3) (by rw [List.append_nil]) (zL J3) ?_
    rintro _ _ ⟨rfl,seen3,rfl,hs3l,hs3,hs3o⟩ _
    have hs3':∀z:Int,2≤z→z<r→seen3.getD (z-2).toNat false=decide (z∈numF d.nodes k x.hi (numF d.nodes k x.lo b)):=fun z z1 z2=>by
     by_cases hz:z≤x.hi
     ·exact hs3 z z1 hz
     ·rw [hs3o z om,hs2' z z1 z2,mem_numF hns om a1 a2 om]
    have hs3r:seen3.getD (r-2).toNat false=true:=by rw [hs3o r om,hs2r]
    have hs3q:∀z:Int,r<z→seen3.getD (z-2).toNat false=seen.getD (z-2).toNat false:=fun z hz=>by rw [hs3o z om,hs2q z hz]
    have hnum:numF d.nodes (k+1) r b=numF d.nodes k x.hi (numF d.nodes k x.lo b)++[r]:=by rw [numF,if_neg hc,hx]
    generalize numF d.nodes k x.hi (numF d.nodes k x.lo b)=bb at*
    rw [List.append_nil]
    refine ySG J3 ?_
    have hokp:=okB_push bb r
    have hbl:(((bb++[r]).length:Nat):Int)=(bb.length:Int)+1:=by simp
    have hs3e:∀z:Int,2≤z→z≤r→seen3.getD (z-2).toNat false=decide (z∈bb++[r]):=fun z z1 z2=>by
     by_cases hz:z=r
     ·subst hz;rw [hs3r];simp
     ·rw [hs3' z z1 om];simp [hz]
    refine aw_split 39 (zE J3) (fun ho=> ?_) (fun ho=> ?_)<;>refine yS J3 ?_
    ·rw [ho,Bool.true_and] at hokp
     refine yGWSG J3 ?_
     refine yW J3 ?_
     refine ySG J3 ?_
     refine yV J3 ?_
     rw [hnum]
     exact⟨rfl,seen3,by rw [nh,hokp,hbl];rfl,hs3l,hs3e,hs3q⟩
    ·rw [ho,Bool.false_and] at hokp
     refine yGWSG J3 ?_
     refine yW J3 ?_
     refine ySG J3 ?_
     refine yV J3 ?_
     rw [hnum]
     exact⟨rfl,seen3,by rw [nh,hokp,hbl],hs3l,hs3e,hs3q⟩
end Go.Proofs.YtfcnbgmclfkfcaaGreat
namespace Go.PN
open Go.AI
theorem perm6 {α:Type} (a b c d e f:α):[a,b,c,d,e,f].Perm [b,a,f,d,e,c]:=by
 refine(List.Perm.swap _ _ _).trans (.cons _ (.cons _ ?_))
 refine(List.perm_append_comm (l₁:=[c]) (l₂:=[d,e,f])).trans ?_
 exact List.perm_middle (l₁:=[d,e]) (a:=f) (l₂:=[c])
theorem okB_end (b:List Int) (n:Nat):(okB b&&((b.length:Int)==(n:Int)))=decide (b=numsL n):=by
 unfold okB
 rw [Bool.eq_iff_iff]
 simp only [Bool.and_eq_true,decide_eq_true_eq,beq_iff_eq]
 constructor
 ·rintro ⟨h1,h2⟩
  rw [h1];congr 1;omega
 ·intro h
  have:b.length=n:=by rw [h,numsL_len]
  rw [this]
  exact⟨h,rfl⟩
end Go.PN
namespace Go.Proofs.YtfcnbgmclfkfcaaGreat
open Go.AI Go.PN
attribute [local irreducible] aw Fa Fh DrK
set_option maxRecDepth 100000 in
set_option maxHeartbeats 3200000 in
theorem numbered_fa (d:DG) (hns:NsOk d.order.length d.nodes) (hnl:d.nodes.length≤1000000) (h0:0≤d.root) (h1:d.root<d.nodes.length+2):Fa Tryz.prog 175 [.agg (dgc false d)] (.c (.bool (decide (numF d.nodes d.root.toNat d.root []=numsL d.nodes.length)))):=by
 rw [←okB_end]
 refine fa_of_body Tryz.func175 rfl rfl (by simp [Tryz.ntmps175]) fun C hC=> ?_
 simp only [initS,Nat.reduceAdd]
 refine xG ?_
 refine xB fun g1 hn_g1=>?_
 refine yG hn_g1 ?_
 refine yA hn_g1 fun g3 hn_g3=>?_
 refine yG (oj hn_g1 hn_g3) ?_
 refine yA (oj hn_g1 hn_g3) fun g4 hn_g4=>?_
 have J1:=oj hn_g1 (oj hn_g3 hn_g4)
 refine yGWSG J1 ?_
 refine yW J1 ?_
 refine ySG J1 ?_
 refine aw_make (n:=d.nodes.length) (c:=d.nodes.length) (size:=1) (z:=[.bool false]) rfl rfl rfl (zE J1) (zE J1) rfl om (zE J1) (zE J1) rfl rfl om om om fun gb hn_gb=> ?_
 replace hn_gb:=Heap.ne_of hn_gb
 dsimp only [Heap.ne] at hn_gb
 rw [make_bs d.nodes.length]
 have J2:=oj hn_g1 (oj hn_g3 (oj hn_g4 hn_gb))
 refine ySG J2 ?_
 refine yA J2 fun g5 hn_g5=>?_
 have J3:=oj hn_g1 (oj hn_g3 (oj hn_g4 (oj hn_gb hn_g5)))
 refine yGWSG J3 ?_
 refine yA J3 fun g6 hn_g6=>?_
 have J4:=oj hn_g1 (oj hn_g3 (oj hn_g4 (oj hn_gb (oj hn_g5 hn_g6))))
 refine yG J4 ?_
 refine aw_makeFunc (gs:=[g5,g6,g1,g4,g3]) rfl rfl rfl (zE J4) ?_
 refine ySGWSG J4 ?_
 clear hn_g6 hn_g5 hn_gb hn_g4 hn_g3 J1 J2 J3 J4
 refine aw_callhv (hr:=[]) (numbered1_fh d hns hnl g5 g6 g1 g4 g3 gb d.root.toNat d.root [] (List.replicate d.nodes.length false) (Nat.le_refl _) h0 h1 (by simp) (by simp) (by simp) (fun x _ _=>by simp [List.getD_eq_getElem?_getD,List.getElem?_replicate];split<;>rfl)) rfl rfl rfl (by rfl) (by rw [List.append_nil];exact perm6 _ _ _ _ _ _) (by exact⟨.c (.refl _),trivial⟩) ?_
 rintro _ _ ⟨rfl,seen,rfl,hsl,_,_⟩ _
 obtain⟨a1,a2,a3⟩:=numF_bd hns d.root.toNat d.root [] h1 (by simp) (by simp)
 have hnb:=nodup_range a1 a2
 generalize numF d.nodes d.root.toNat d.root []=bb at*
 rw [List.append_nil]
 refine aw_nd fun hnd=> ?_
 replace hnd:=nd6 hnd
 dsimp only at hnd
 refine xH ?_
 refine ySG hnd ?_
 refine aw_split 17 (zE hnd) (fun ho=> ?_) (fun ho=> ?_)<;>refine yS hnd ?_
 ·rw [ho,Bool.true_and]
  refine yGT hC hnd ?_
  exact .one (.c (.bool _))
 ·rw [ho,Bool.false_and]
  refine yGT hC hnd ?_
  exact .one (.c (.bool _))
end Go.Proofs.YtfcnbgmclfkfcaaGreat
namespace Go.PN
open Go.AI
abbrev DK:={l:List Int//l.length=3}
def dk (x:DN):DK:=⟨[x.v,x.lo,x.hi],rfl⟩
def dkV (k:DK):Value:=keyZ k.1
theorem dk_inj {x y:DN}:dk x=dk y↔x=y:=by
 cases x;cases y
 simp [dk]
def dkL (ns:List DN):List (DK×Value):=ns.map fun x=>(dk x,.bool true)
theorem dkL_get (x:DN):∀ns:List DN,kvGet (dk x) (dkL ns)=if x∈ns then some (.bool true) else none
 |[]=>rfl
 |y::ns=>by
  have ih:=dkL_get x ns
  show(if dk x=dk y then some (Value.bool true) else kvGet (dk x) (dkL ns))=_
  by_cases h:x=y
  ·subst h;simp
  ·rw [if_neg (fun e=>h (dk_inj.1 e)),ih];simp [h]
theorem dkL_cst (x:DN) (ns:List DN):cstC ((kvGet (dk x) (dkL ns)).getD (.bool false))=.bool (decide (x∈ns)):=by
 rw [dkL_get]
 by_cases h:x∈ns<;>simp [h,cstC]
theorem dkL_push (ns:List DN) (x:DN):dkL (ns++[x])=dkL ns++[(dk x,.bool true)]:=by simp [dkL]
theorem dk_rep {x:DN}:∀(S:Bool→Nat→Prop) (w:World) (u:Value),Rep S w (.agg [.int .i64 x.v,.int .i64 x.lo,.int .i64 x.hi]) u→u=dkV (dk x):=by
 rintro S w u ⟨us,rfl,h⟩
 match us,h with
 |[a,b,c],⟨h1,h2,h3,_⟩=>
  have h1:a=_:=h1
  have h2:b=_:=h2
  have h3:c=_:=h3
  rw [h1,h2,h3];rfl
theorem takeDN_push {ns:List DN} {i:Nat} (h:i<ns.length):ns.take (i+1)=ns.take i++[ns.getD i dn0]:=by
 rw [List.take_succ_eq_append_getElem h,getDN h]
end Go.PN
namespace Go.Proofs.YtfcnbgmclfkfcaaGreat
open Go.AI Go.PN
attribute [local irreducible] aw Fa Fh DrK
theorem ty_mz:tZ1 Tryz.prog 4=some (.bool false):=by kernel_rfl
theorem ty_key:tEqS Tryz.prog 145=some 3:=by kernel_rfl
theorem dk_ok:KeyOk Tryz.prog 145 dkV:=keyZ_ok ty_key
set_option maxRecDepth 100000 in
set_option maxHeartbeats 3200000 in
theorem dcheck_fa (d:DG) (hl:d.order.length≤1099511627776) (hl2:d.nodes.length≤1099511627776):Fa Tryz.prog 131 [.agg (dgc false d)] (.c (errA (dcode d))):=by
 unfold dcode
 refine fa_of_body Tryz.func131 rfl rfl (by simp [Tryz.ntmps131]) fun C hC=> ?_
 simp only [initS,Nat.reduceAdd]
 refine xG ?_
 refine xB fun g1 hn_g1=>?_
 refine yG hn_g1 ?_
 refine yC hn_g1 (positions_fa d.order hl) ?_
 refine yG hn_g1 ?_
 refine yF hn_g1 (fun hb=>?_) fun hb=>?_
 ·have hb':ocode d.order d.order.length≠0:=by simpa using hb
  rw [if_pos hb']
  refine yGT hC hn_g1 ?_
  exact .one (.c ler_err)
 ·have hb':ocode d.order d.order.length=0:=by simpa using hb
  obtain⟨hperm,h24⟩:=ocode_ok hb'
  rw [if_neg (by simp [hb']),if_pos hb']
  refine yG hn_g1 ?_
  refine yF hn_g1 (fun hc=>?_) fun hc=>?_
  ·have hc':=of_decide_eq_true hc
   rw [if_pos om]
   refine yGT hC hn_g1 ?_
   exact .one (.c (ler_errN rfl om))
  ·have hc':=of_decide_eq_false hc
   rw [if_neg om]
   refine yG hn_g1 ?_
   refine aw_makeMap (Kf:=dkV) rfl rfl rfl fun gm hn_gm=> ?_
   replace hn_gm:=Heap.ne_of hn_gm
   dsimp only [Heap.ne] at hn_gm
   have J1:=oj hn_g1 hn_gm
   refine ySG J1 ?_
   refine aw_lp (fun i:Nat=>[(1,.c (.optr g1 0)),(3,.c (is true (placesL d.order))),(5,.c (.raw (.map (some gm)))),(25,.c (dns false d.nodes)),(26,.c (.int .i64 d.nodes.length)),(27,.c (.int .i64 i))]) (fun i=>[(gm,.gen (MapI dkV (dkL (d.nodes.take i)))),(g1,.cells 55 3 (ofL (dgc false d)))]) (fun x=>x≤d.nodes.length∧(∀j,j<x→ncode d j=0)∧nfirst d x (d.nodes.length-x)=nfirst d 0 d.nodes.length) (fun x=>d.nodes.length-x) 0 (zB J1) zZ ⟨Nat.zero_le _,by omega,rfl⟩ ?_
   rintro i ⟨hi,hz,hf⟩
   refine yG J1 ?_
   refine yF J1 (fun h1=>?_) fun h1=>?_
   ·have h1':i<d.nodes.length:=dT h1
    have hno:∀j,j<i→NodeOk d.order.length j (d.nodes.getD j dn0):=fun j hj=>by
     refine nok_of (d:=d) (i:=j) fun hr=> ?_
     have:=hz j hj
     unfold ncode at this
     rw [if_pos hr] at this
     cases this
    have hnA:=ncode_A d i
    refine yG J1 ?_
    refine yA J1 fun g7 hn_g7=>?_
    have J2:=oj hn_g1 (oj hn_gm hn_g7)
    refine yGWSG J2 ?_
    refine yC J2 (checkNode_fa d i h1' h24 ?_ hno) ?_
    ·omega
    refine yG J2 ?_
    refine yF J2 (fun h2=>?_) fun h2=>?_
    ·have h2':ncodeA d i≠0:=by simpa using h2
     rw [if_pos h2'] at hnA
     refine yGT hC J2 ?_
     have h3:ncode d i≠0:=by rw [hnA];exact h2'
     rw [nfirst_at h1' h3] at hf
     rw [←hf,if_pos h3,hnA]
     exact .one (.c ler_err)
    ·have h2':ncodeA d i=0:=by simpa using h2
     rw [if_neg (by simp [h2'])] at hnA
     refine yG J2 ?_
     refine aw_lookup (a:=dk (d.nodes.getD i dn0)) (kv:=dkL (d.nodes.take i)) (Kf:=dkV) (z:=.bool false) rfl rfl rfl (kt:=145) (et:=4) (by kernel_rfl) dk_ok ty_mz (zE J2) (zE J2) (zE J2) dk_rep ?_
     rw [dkL_cst]
     refine ySG J2 ?_
     refine yF J2 (fun h3=>?_) fun h3=>?_
     ·have h3':=of_decide_eq_true h3
      rw [if_pos h3'] at hnA
      refine yGT hC J2 ?_
      have h4:ncode d i≠0:=by rw [hnA];decide
      rw [nfirst_at h1' h4] at hf
      rw [←hf,if_pos h4,hnA]
      exact .one (.c (ler_errN rfl om))
     ·have h3':=of_decide_eq_false h3
      rw [if_neg h3'] at hnA
      refine yG J2 ?_
      refine aw_mapNew (a:=dk (d.nodes.getD i dn0)) (kv:=dkL (d.nodes.take i)) (Kf:=dkV) (v:=.bool true) rfl rfl rfl (kt:=145) (et:=4) (by kernel_rfl) dk_ok (zE J2) (zE J2) (zE J2) dk_rep (cv:=.c (.bool true)) (zE J2) (fun S w u h=>h) (by rw [dkL_get,if_neg h3']) (zE J2) ?_
      rw [←dkL_push,←takeDN_push h1']
      refine ySG J2 ?_
      rw [nfirst_step h1' hnA] at hf
      refine aw_stop ⟨i+1,by omega,(zB J2),List.Sublist.cons _ (List.Sublist.refl _),by omega,fun j hj=> ?_,hf⟩
      rcases Nat.lt_succ_iff_lt_or_eq.1 hj with h|h
      ·exact hz j h
      ·rw [h];exact hnA
   ·have h1':i=d.nodes.length:=dF h1
    subst h1'
    have hns:=nok_all hz
    rw [Nat.sub_self,nfirst] at hf
    rw [←hf,if_neg (by simp)]
    refine yG J1 ?_
    refine aw_split 50 (zE J1) (fun h3=> ?_) (fun h3=> ?_)<;>refine yS J1 ?_
    ·have h3':=of_decide_eq_true h3
     rw [if_pos (.inl h3')]
     refine yGPGT hC J1 ?_
     exact .one (.c (ler_errN rfl om))
    ·have h3':=of_decide_eq_false h3
     refine yG J1 ?_
     refine yF J1 (fun h4=>?_) fun h4=>?_
     ·have h4':=of_decide_eq_true h4
      rw [if_pos (.inr h4')]
      refine yGT hC J1 ?_
      exact .one (.c (ler_errN rfl om))
     ·have h4':=of_decide_eq_false h4
      rw [if_neg om]
      refine yG J1 ?_
      refine yC J1 (numbered_fa d hns ?_ ?_ ?_) ?_
      ·omega
      ·omega
      ·omega
      refine yG J1 ?_
      refine yF J1 (fun h5=>?_) fun h5=>?_
      ·have h5':¬(numF d.nodes d.root.toNat d.root []=numsL d.nodes.length):=by simpa using h5
       rw [if_neg h5']
       refine yGT hC J1 ?_
       exact .one (.c (ler_errN rfl om))
      ·have h5':numF d.nodes d.root.toNat d.root []=numsL d.nodes.length:=by simpa using h5
       rw [if_pos h5']
       refine yGT hC J1 ?_
       exact .one (.c (ler_err0 rfl))
end Go.Proofs.YtfcnbgmclfkfcaaGreat
namespace Go.PN
open Go.AI
def exQ (p:Nat→Rat):Nat→(Nat→Rat)→Rat
 |0,g=>g 0
 |m+1,g=>(1-p m)*exQ p m g+p m*exQ p m (fun s=>g (s+2^m))
theorem ex_congr {p:Nat→Rat}:∀(m:Nat) (f g:Nat→Rat),(∀s,s<2^m→f s=g s)→exQ p m f=exQ p m g
 |0,f,g,h=>h 0 (by simp)
 |m+1,f,g,h=>by
  have e:2^(m+1)=2^m+2^m:=by rw [Nat.pow_succ];omega
  rw [exQ,exQ,ex_congr m f g fun s hs=>h s om,ex_congr m _ (fun s=>g (s+2^m)) fun s hs=>h (s+2^m) om]
theorem ex_const {p:Nat→Rat} (c:Rat):∀m:Nat,exQ p m (fun _=>c)=c
 |0=>rfl
 |m+1=>by
  rw [exQ,ex_const c m]
  grind
def Indep (m v:Nat) (f:Nat→Rat):Prop:=∀s t,s<2^m→t<2^m→(∀j,j<m→j≠v→s.testBit j=t.testBit j)→f s=f t
theorem tb_hi {s m:Nat} (h:s<2^m):(s+2^m).testBit m=true:=by
 rw [Nat.add_comm,Nat.testBit_two_pow_add_eq,Nat.testBit_lt_two_pow h];rfl
theorem tb_lo {s m j:Nat} (h:j<m):(s+2^m).testBit j=s.testBit j:=by
 rw [Nat.add_comm,Nat.testBit_two_pow_add_gt h]
theorem ex_shan {p:Nat→Rat} {v:Nat}:∀(m:Nat) (l h:Nat→Rat),v<m→Indep m v l→Indep m v h→exQ p m (fun s=>if s.testBit v then h s else l s)=(1-p v)*exQ p m l+p v*exQ p m h
 |0,_,_,hv,_,_=>by omega
 |m+1,l,h,hv,hl,hh=>by
  have e:2^(m+1)=2^m+2^m:=by rw [Nat.pow_succ];omega
  have shift:∀f,Indep (m+1) v f→Indep m v (fun s=>f (s+2^m)):=fun f hf s t hs ht hb=>hf _ _ om om fun j hj hjv=>by
   by_cases hjm:j<m
   ·rw [tb_lo hjm,tb_lo hjm];exact hb j hjm hjv
   ·have:j=m:=by omega
    subst this
    rw [tb_hi hs,tb_hi ht]
  by_cases hvm:v=m
  ·subst hvm
   have up:∀f,Indep (v+1) v f→exQ p v (fun s=>f (s+2^v))=exQ p v f:=fun f hf=>ex_congr v _ _ fun s hs=>hf _ _ om om fun j hj hjv=>tb_lo om
   rw [exQ,exQ,exQ,up l hl,up h hh]
   have e1:exQ p v (fun s=>if s.testBit v then h s else l s)=exQ p v l:=ex_congr v _ _ fun s hs=>by rw [Nat.testBit_lt_two_pow hs];rfl
   have e2:exQ p v (fun s=>if(s+2^v).testBit v then h (s+2^v) else l (s+2^v))=exQ p v h:=by
    rw [←up h hh]
    exact ex_congr v _ _ fun s hs=>by rw [tb_hi hs];rfl
   rw [e1,e2]
   grind
  ·have hvm':v<m:=by omega
   have low:∀f,Indep (m+1) v f→Indep m v f:=fun f hf s t hs ht hb=>hf s t om om fun j hj hjv=>by
    by_cases hjm:j<m
    ·exact hb j hjm hjv
    ·have:j=m:=by omega
     subst this
     rw [Nat.testBit_lt_two_pow hs,Nat.testBit_lt_two_pow ht]
   rw [exQ,exQ,exQ,ex_shan m l h hvm' (low l hl) (low h hh)]
   have e2:exQ p m (fun s=>if(s+2^m).testBit v then h (s+2^m) else l (s+2^m))=exQ p m (fun s=>if s.testBit v then h (s+2^m) else l (s+2^m)):=ex_congr m _ _ fun s hs=>by rw [tb_lo hvm']
   rw [e2,ex_shan m _ _ hvm' (shift l hl) (shift h hh)]
   grind
def sumG (f:Nat→Rat):Nat→Rat
 |0=>0
 |k+1=>sumG f k+f k
theorem sumG_congr {f g:Nat→Rat}:∀n,(∀s,s<n→f s=g s)→sumG f n=sumG g n
 |0,_=>rfl
 |n+1,h=>by rw [sumG,sumG,sumG_congr n fun s hs=>h s om,h n om]
theorem sumG_add (f:Nat→Rat) (a:Nat):∀b,sumG f (a+b)=sumG f a+sumG (fun s=>f (s+a)) b
 |0=>by rw [sumG,Nat.add_zero];grind
 |b+1=>by
  rw [←Nat.add_assoc,sumG,sumG_add f a b,sumG,Nat.add_comm b a]
  grind
theorem sumG_mul (f:Nat→Rat) (c:Rat):∀n,sumG (fun s=>f s*c) n=c*sumG f n
 |0=>by rw [sumG,sumG];grind
 |n+1=>by rw [sumG,sumG,sumG_mul f c n];grind
def wtP (p:Nat→Rat) (s:Nat):Nat→Rat
 |0=>1
 |k+1=>wtP p s k*(if s.testBit k then p k else 1-p k)
theorem wtP_lo {p:Nat→Rat} {s m:Nat}:∀k,k≤m→wtP p (s+2^m) k=wtP p s k
 |0,_=>rfl
 |k+1,h=>by rw [wtP,wtP,wtP_lo k om,tb_lo om]
theorem sum_ex {p:Nat→Rat}:∀(m:Nat) (g:Nat→Rat),sumG (fun s=>g s*wtP p s m) (2^m)=exQ p m g
 |0,g=>by
  show sumG (fun s=>g s*wtP p s 0) (2^0)=g 0
  rw [show(2:Nat)^0=0+1 from rfl,sumG,sumG,wtP]
  grind
 |m+1,g=>by
  have e:2^(m+1)=2^m+2^m:=by rw [Nat.pow_succ];omega
  rw [e,sumG_add,exQ,←sum_ex m g,←sum_ex m (fun s=>g (s+2^m))]
  rw [←sumG_mul,←sumG_mul]
  congr 1
  ·exact sumG_congr _ fun s hs=>by rw [wtP,Nat.testBit_lt_two_pow hs];simp only [Bool.false_eq_true,if_false];grind
  ·exact sumG_congr _ fun s hs=>by rw [wtP,tb_hi hs,wtP_lo m (Nat.le_refl _)];simp only [if_true];grind
def prP (ps:List RD) (i:Nat):Rat:=(ps.getD i rd0).q
theorem wtTo_P {ps:List RD} {s m:Nat} (hs:s<2^m):∀k,k≤m→wtTo s (2^m-1-s) ps k=wtP (prP ps) s k
 |0,_=>rfl
 |k+1,h=>by
  rw [wtTo,wtP,wtTo_P hs k om]
  congr 1
  unfold wfac
  have:(2^m-1-s).testBit k= !s.testBit k:=by
   rw [show 2^m-1-s=2^m-(s+1) from by omega,Nat.testBit_two_pow_sub_succ hs]
   simp;omega
  rw [this]
  cases s.testBit k with
  |true=>simp [prP]
  |false=>simp [prP]
theorem sumQ_G {ps:List RD} {tb:List Bool}:∀k,k≤2^ps.length→sumQ ps tb k=sumG (fun s=>(if tb.getD s false then 1 else 0)*wtP (prP ps) s ps.length) k
 |0,_=>rfl
 |k+1,h=>by
  rw [sumQ,sumG,sumQ_G k om]
  have:stQ ps k=wtP (prP ps) k ps.length:=wtTo_P om _ (Nat.le_refl _)
  rw [this]
  split<;>grind
theorem sumQ_ex (ps:List RD) (tb:List Bool):sumQ ps tb (2^ps.length)=exQ (prP ps) ps.length (fun s=>if tb.getD s false then 1 else 0):=by
 rw [sumQ_G _ (Nat.le_refl _),sum_ex]
end Go.PN
namespace Go.Proofs.YtfcnbgmclfkfcaaGreat
open Go.AI Go.PN
structure DgOk (d:DG):Prop where
 perm:Perm0 d.order
 o24:d.order.length≤24
 n4096:d.nodes.length≤4096
 ns:NsOk d.order.length d.nodes
 beh:∀i,i<d.nodes.length→behindB d (d.nodes.getD i dn0).lo (d.nodes.getD i dn0).v=true∧behindB d (d.nodes.getD i dn0).hi (d.nodes.getD i dn0).v=true
 r0:0≤d.root
 r1:d.root<d.nodes.length+2
theorem nfirst_zero {d:DG}:∀(k i:Nat),nfirst d i k=0→∀j,i≤j→j<i+k→ncode d j=0
 |0,i,_,j,h1,h2=>by omega
 |k+1,i,h,j,h1,h2=>by
  rw [nfirst] at h
  split at h
  ·rename_i hn;exact absurd h hn
  ·rename_i hn
   rcases Nat.eq_or_lt_of_le h1 with e|e
   ·rw [←e];simpa using hn
   ·exact nfirst_zero k (i+1) h j om om
theorem dg_ok {d:DG} (h:dcode d=0):DgOk d:=by
 unfold dcode at h
 split at h
 ·rename_i h1;exact absurd h h1
 ·rename_i h1
  split at h
  ·cases h
  ·rename_i h2
   split at h
   ·rename_i h3;exact absurd h h3
   ·rename_i h3
    split at h
    ·cases h
    ·rename_i h4
     obtain⟨hp,h24⟩:=ocode_ok (by simpa using h1)
     have hz:∀j,j<d.nodes.length→ncode d j=0:=fun j hj=>nfirst_zero d.nodes.length 0 (by simpa using h3) j om om
     refine⟨hp,h24,by omega,nok_all hz,fun i hi=> ?_,by omega,by omega⟩
     have hc:=hz i hi
     unfold ncode at hc
     split at hc
     ·cases hc
     ·split at hc
      ·cases hc
      ·split at hc
       ·cases hc
       ·rename_i hb
        simpa using hb
theorem behind_lt {d:DG} {r e:Int} (h:behindB d r e=true) (h2:2≤r):placeZ d.order e<placeZ d.order (d.nodes.getD (r-2).toNat dn0).v:=by
 unfold behindB at h
 rw [decide_eq_false om,Bool.false_or] at h
 have:=of_decide_eq_true h
 omega
theorem evalD_indep {d:DG} (ok:DgOk d) {s t:Nat} {P:Int} (hb:∀j:Nat,j<d.order.length→P<placeZ d.order j→s.testBit j=t.testBit j):∀(n:Nat) (r:Int),r.toNat≤n→0≤r→r<d.nodes.length+2→(2≤r→P<placeZ d.order (d.nodes.getD (r-2).toNat dn0).v)→evalD d.nodes s r=evalD d.nodes t r:=by
 intro n
 induction n with
 |zero=>intro r hn h0 hr hP;rw [evalD_leaf om,evalD_leaf om]
 |succ n ih=>
  intro r hn h0 hr hP
  by_cases h2:2≤r
  ·have hP':=hP h2
   obtain⟨v0,v1,l0,l1,q0,q1⟩:=ok.ns (r-2).toNat om
   obtain⟨b1,b2⟩:=ok.beh (r-2).toNat om
   have hkid:kid d.nodes s r=kid d.nodes t r:=by
    unfold kid
    rw [hb (d.nodes.getD (r-2).toNat dn0).v.toNat om (by rw [show(((d.nodes.getD (r-2).toNat dn0).v.toNat:Nat):Int)=(d.nodes.getD (r-2).toNat dn0).v from by omega];exact hP')]
   have hk:=kid_lt ok.ns (s:=t) h2 hr
   rw [evalD_step ok.ns h2 hr,evalD_step ok.ns h2 hr,hkid]
   refine ih _ om hk.1 om fun hk2=> ?_
   unfold kid at hk2⊢
   split at hk2
   ·rename_i hbit
    rw [if_pos hbit]
    have:=behind_lt b2 hk2
    omega
   ·rename_i hbit
    rw [if_neg hbit]
    have:=behind_lt b1 hk2
    omega
  ·rw [evalD_leaf om,evalD_leaf om]
def evQ (d:DG) (r:Int) (s:Nat):Rat:=if evalD d.nodes s r then 1 else 0
theorem ev_indep {d:DG} (ok:DgOk d) {r:Int} {v:Nat} (h0:0≤r) (hr:r<d.nodes.length+2) (hv:2≤r→placeZ d.order v<placeZ d.order (d.nodes.getD (r-2).toNat dn0).v):Indep d.order.length v (evQ d r):=fun s t hs ht hb=>by
 unfold evQ
 rw [evalD_indep ok (s:=s) (t:=t) (P:=placeZ d.order v) (fun j hj hp=>hb j hj (fun e=>by subst e;omega)) r.toNat r (Nat.le_refl _) h0 hr hv]
theorem vals_q {d:DG} (ok:DgOk d) {ps:List RD} (hp:ps.length=d.order.length):∀(k:Nat),k≤d.nodes.length→∀r:Int,0≤r→r<k+2→refRD (valsL ps (d.nodes.take k) []) r=rd (exQ (prP ps) d.order.length (evQ d r)):=by
 intro k
 induction k with
 |zero=>
  intro _ r h0 hr
  have:r=0∨r=1:=by omega
  unfold refRD
  rw [if_pos om]
  rcases this with rfl|rfl
  ·have e:evQ d 0=fun _=>((0:Int):Rat):=by funext s;unfold evQ;rw [evalD_leaf om];rfl
   rw [e,ex_const]
  ·have e:evQ d 1=fun _=>((1:Int):Rat):=by funext s;unfold evQ;rw [evalD_leaf om];rfl
   rw [e,ex_const]
 |succ k ih=>
  intro hk r h0 hr
  have ihk:=ih om
  have hlen:(valsL ps (d.nodes.take k) []).length=k:=by rw [vals_len];simp;omega
  by_cases hrk:r<k+2
  ·rw [←ihk r h0 hrk,vals_take om]
   unfold refRD
   by_cases h2:r<2
   ·rw [if_pos h2,if_pos h2]
   ·rw [if_neg h2,if_neg h2,List.getD_eq_getElem?_getD,List.getElem?_append_left om,←List.getD_eq_getElem?_getD]
  ·have hr':r=k+2:=by omega
   have hr2:(r-2).toNat=k:=by omega
   have h2:2≤r:=by omega
   obtain⟨v0,v1,l0,l1,q0,q1⟩:=ok.ns k om
   obtain⟨b1,b2⟩:=ok.beh k om
   rw [vals_take om]
   unfold refRD
   rw [if_neg om,hr2,List.getD_eq_getElem?_getD,List.getElem?_append_right om,hlen,Nat.sub_self]
   show rd (nodeQ ps (valsL ps (d.nodes.take k) []) (d.nodes.getD k dn0))=_
   congr 1
   unfold nodeQ
   rw [ihk _ l0 om,ihk _ q0 om,rd_q,rd_q]
   generalize hx:d.nodes.getD k dn0=x at*
   have hvn:((x.v.toNat:Nat):Int)=x.v:=by omega
   have e:exQ (prP ps) d.order.length (evQ d r)=exQ (prP ps) d.order.length (fun s=>if s.testBit x.v.toNat then evQ d x.hi s else evQ d x.lo s):=ex_congr _ _ _ fun s _=>by
    unfold evQ
    rw [evalD_step ok.ns h2 om]
    unfold kid
    rw [hr2,hx]
    cases s.testBit x.v.toNat<;>rfl
   rw [e,ex_shan d.order.length (evQ d x.lo) (evQ d x.hi) om (ev_indep ok l0 om fun h=>by rw [hvn];exact behind_lt b1 h) (ev_indep ok q0 om fun h=>by rw [hvn];exact behind_lt b2 h)]
   rfl
theorem plain_law {d:DG} (ok:DgOk d) {ps:List RD} (hp:ps.length=d.order.length):refRD (valsL ps d.nodes []) d.root=rd (sumQ ps (tabL d) (2^ps.length)):=by
 have h:=vals_q ok hp d.nodes.length (Nat.le_refl _) d.root ok.r0 (by have:=ok.r1;omega)
 rw [List.take_length] at h
 rw [h,sumQ_ex,hp]
 congr 1
 refine ex_congr _ _ _ fun s hs=> ?_
 unfold evQ tabL
 rw [List.getD_eq_getElem?_getD]
 simp [hs]
def Bl (L:Nat):Nat→Nat
 |0=>1
 |h+1=>2*Bl L h+2*L+3
theorem Bl_mono {L:Nat}:∀{a b:Nat},a≤b→Bl L a≤Bl L b
 |a,0,h=>by rw [show a=0 from by omega];exact Nat.le_refl _
 |a,b+1,h=>by
  by_cases e:a=b+1
  ·rw [e];exact Nat.le_refl _
  ·have:=Bl_mono (L:=L) (a:=a) (b:=b) om
   rw [Bl];omega
def hgt (d:DG) (r:Int):Nat:=if r<2 then 0 else(d.order.length-placeZ d.order (d.nodes.getD (r-2).toNat dn0).v).toNat
theorem hgt_lt {d:DG} {r:Int} {v:Int} (h:behindB d r v=true) (hv:placeZ d.order v<d.order.length):hgt d r<(d.order.length-placeZ d.order v).toNat:=by
 unfold hgt
 split
 ·omega
 ·rename_i h2
  have:=behind_lt h om
  omega
theorem place_lt {o:List Int} {v:Int}:placeZ o v<o.length:=by
 unfold placeZ
 split
 ·rename_i h
  have:=List.idxOf_lt_length_of_mem h
  omega
 ·omega
theorem hgt_le {d:DG} {r:Int} (hm:∀i,i<d.nodes.length→(d.nodes.getD i dn0).v∈d.order) (hr:r<d.nodes.length+2):hgt d r≤d.order.length:=by
 unfold hgt
 split
 ·omega
 ·have:=hm (r-2).toNat om
  unfold placeZ
  rw [if_pos this]
  omega
theorem vals_fits {d:DG} (ok:DgOk d) {ps:List RD} {L:Nat} (hL:1≤L) (hw:∀x∈ps,x.wf L):∀(k:Nat),k≤d.nodes.length→∀r:Int,0≤r→r<k+2→fits (refRD (valsL ps (d.nodes.take k) []) r).q (Bl L (hgt d r)):=by
 intro k
 induction k with
 |zero=>
  intro _ r h0 hr
  have:r=0∨r=1:=by omega
  unfold refRD hgt
  rw [if_pos om,if_pos om,rd_q]
  rcases this with rfl|rfl
  ·exact fits_zero
  ·exact fits_one
 |succ k ih=>
  intro hk r h0 hr
  have ihk:=ih om
  have hlen:(valsL ps (d.nodes.take k) []).length=k:=by rw [vals_len];simp;omega
  by_cases hrk:r<k+2
  ·have:=ihk r h0 hrk
   rw [vals_take om]
   unfold refRD at this⊢
   by_cases h2:r<2
   ·rw [if_pos h2] at this⊢;exact this
   ·rw [if_neg h2] at this⊢
    rw [List.getD_eq_getElem?_getD,List.getElem?_append_left om,←List.getD_eq_getElem?_getD]
    exact this
  ·have hr2:(r-2).toNat=k:=by omega
   obtain⟨v0,v1,l0,l1,q0,q1⟩:=ok.ns k om
   obtain⟨b1,b2⟩:=ok.beh k om
   have f2:=ihk _ l0 om
   have f3:=ihk _ q0 om
   have f1:=RD.fits (getD_wf hw (d.nodes.getD k dn0).v.toNat) hL
   have g1:=hgt_lt b1 place_lt
   have g2:=hgt_lt b2 place_lt
   rw [vals_take om]
   unfold refRD
   rw [if_neg om,hr2,List.getD_eq_getElem?_getD,List.getElem?_append_right om,hlen,Nat.sub_self]
   show fits (rd (nodeQ ps (valsL ps (d.nodes.take k) []) (d.nodes.getD k dn0))).q _
   have hh:hgt d r=(d.order.length-placeZ d.order (d.nodes.getD k dn0).v).toNat:=by unfold hgt;rw [if_neg om,hr2]
   rw [rd_q,hh]
   obtain⟨h,hh2⟩:∃h,(d.order.length-placeZ d.order (d.nodes.getD k dn0).v).toNat=h+1:=⟨(d.order.length-placeZ d.order (d.nodes.getD k dn0).v).toNat-1,by omega⟩
   rw [hh2,Bl]
   have m1:=Bl_mono (L:=L) (show hgt d (d.nodes.getD k dn0).lo≤h from by omega)
   have m2:=Bl_mono (L:=L) (show hgt d (d.nodes.getD k dn0).hi≤h from by omega)
   unfold nodeQ
   exact fits_mono (fits_add (fits_mul (fits_sub fits_one f1) f2) (fits_mul f1 f3)) om
theorem perm0_mem {o:List Int} (h:Perm0 o) {v:Int} (h0:0≤v) (h1:v<o.length):v∈o:=by
 have hle:((List.range o.length).map fun(i:Nat)=>(i:Int)).length≤o.length:=by simp
 refine Classical.byContradiction fun hn=> ?_
 have h2:(v::o).Nodup:=List.nodup_cons.2 ⟨hn,h.nodup⟩
 have:=nodup_le (m:=(List.range o.length).map fun(i:Nat)=>(i:Int)) h2 (fun x hx=>by
  rcases List.mem_cons.1 hx with rfl|hx
  ·exact List.mem_map.2 ⟨x.toNat,List.mem_range.2 om,by omega⟩
  ·have:=h.range x hx
   exact List.mem_map.2 ⟨x.toNat,List.mem_range.2 om,by omega⟩)
 simp at this
 omega
theorem vals_wf {d:DG} (ok:DgOk d) {ps:List RD} (hp:ps.length=d.order.length) {L M:Nat} (hL:1≤L) (hw:∀x∈ps,x.wf L) (hM:Bl L d.order.length≤M):∀k,k≤d.nodes.length→∀x∈valsL ps (d.nodes.take k) [],x.wf M:=by
 intro k hk x hx
 obtain⟨j,hj,e⟩:=List.mem_iff_getElem.1 hx
 have hlen:(valsL ps (d.nodes.take k) []).length=k:=by rw [vals_len];simp;omega
 have hf:=vals_fits ok hL hw k hk ((j:Int)+2) om om
 have hq:=vals_q ok hp k hk ((j:Int)+2) om om
 have hgl:=hgt_le (d:=d) (r:=(j:Int)+2) (fun i hi=>by
  obtain⟨v0,v1,_,_,_,_⟩:=ok.ns i hi
  exact perm0_mem ok.perm v0 v1) om
 have hB:=Bl_mono (L:=L) hgl
 have hx2:refRD (valsL ps (d.nodes.take k) []) ((j:Int)+2)=x:=by
  unfold refRD
  rw [if_neg om,show((j:Int)+2-2).toNat=j from by omega,List.getD_eq_getElem?_getD,List.getElem?_eq_getElem hj,←e];rfl
 rw [hx2] at hf hq
 rw [hq,rd_q] at hf
 rw [hq]
 exact rd_wf (fits_mono hf om)
theorem Bl46 {h:Nat} (hh:h≤6):Bl 4 h≤1000:=Nat.le_trans (Bl_mono hh) (by decide)
end Go.Proofs.YtfcnbgmclfkfcaaGreat
namespace Go.Proofs.YtfcnbgmclfkfcaaGreat
open Go.AI Go.PN
attribute [local irreducible] aw Fa Fh DrK
set_option maxHeartbeats 800000 in
theorem scheckD_fa (d:DG) (p:List RD) (hw:∀r∈p,r.wf 500000000) (hl:p.length≤1099511627776) (hl1:d.order.length≤1099511627776) (hl2:d.nodes.length≤1099511627776):Fa Tryz.prog 146 [.agg (dgc false d),.c (rats false p)] (.c (errA (dpcode d p))):=by
 unfold dpcode
 refine fa_of_body Tryz.func146 rfl rfl (by simp [Tryz.ntmps146]) fun C hC=> ?_
 simp only [initS,Nat.reduceAdd]
 refine xG ?_
 refine xB fun g2 hn_g2=>?_
 refine yG hn_g2 ?_
 refine yC hn_g2 (dcheck_fa d hl1 hl2) ?_
 refine yG hn_g2 ?_
 refine yF hn_g2 (fun hb=>?_) fun hb=>?_
 ·have hb':dcode d≠0:=by simpa using hb
  rw [if_pos hb']
  refine yGT hC hn_g2 ?_
  exact .one (.c ler_err)
 ·have hb':dcode d=0:=by simpa using hb
  rw [if_neg (by simp [hb'])]
  refine yG hn_g2 ?_
  refine yC hn_g2 (scheck_fa p d.order.length hw hl) ?_
  refine yGT hC hn_g2 ?_
  exact .one (.c ler_err)
theorem dp_ok {d:DG} {p:List RD} (h:dpcode d p=0):DgOk d∧p.length=d.order.length∧∀r∈p,r.prob=true:=by
 unfold dpcode at h
 split at h
 ·rename_i h1;exact absurd h h1
 ·rename_i h1
  unfold pcode at h
  split at h
  ·cases h
  ·rename_i h2
   split at h
   ·rename_i h3
    exact⟨dg_ok (by simpa using h1),by omega,fun r hr=>List.all_eq_true.1 h3 r hr⟩
   ·cases h
structure Small (d:DG) (p:List RD):Prop where
 w:∀r∈p,r.wf 4
 l:p.length≤100
 o:d.order.length≤100
 n:d.nodes.length≤1099511627776
 o6:dpcode d p=0→d.order.length≤6
theorem Small.w5 {d:DG} {p:List RD} (h:Small d p):∀r∈p,r.wf 500000000:=fun r hr=>wf_mono (h.w r hr) om
theorem ns_len {m:Nat} {d:DG} (ok:DgOk d) (hm:m=d.order.length):∀i,i<d.nodes.length→NodeOk m i (d.nodes.getD i dn0):=by subst hm;exact ok.ns
theorem vlen {ps:List RD} {ns:List DN}:(valsL ps ns []).length=ns.length:=by rw [vals_len];simp
set_option maxRecDepth 100000 in
set_option maxHeartbeats 1600000 in
theorem sprobability_fa (d:DG) (p:List RD) (hs:Small d p):Fa Tryz.prog 98 [.agg (dgc false d),.c (rats false p)] (.tup [.agg (rdc (if dpcode d p=0 then rd (sumQ p (tabL d) (2^p.length)) else rd0)),.c (errA (dpcode d p))]):=by
 have s1:=hs.l
 have s2:=hs.o
 have s3:=hs.n
 refine fa_of_body Tryz.func98 rfl rfl (by simp [Tryz.ntmps98]) fun C hC=> ?_
 simp only [initS,Nat.reduceAdd]
 refine xG ?_
 refine xB fun g2 hn_g2=>?_
 refine yA hn_g2 fun g4 hn_g4=>?_
 have J1:=oj hn_g2 hn_g4
 refine yG J1 ?_
 refine yC J1 (scheckD_fa d p hs.w5 ?_ ?_ ?_) ?_
 ·omega
 ·omega
 ·omega
 refine yG J1 ?_
 refine yF J1 (fun hb=>?_) fun hb=>?_
 ·have hb':dpcode d p≠0:=by simpa using hb
  rw [if_neg hb']
  refine yGWSGT hC J1 ?_
  exact .tup ⟨.agg ⟨.bool _,.nils,.nils,trivial⟩,.c ler_err,trivial⟩
 ·have hb':dpcode d p=0:=by simpa using hb
  obtain⟨ok,hpl,_⟩:=dp_ok hb'
  have h6:=hs.o6 hb'
  rw [if_pos hb',←plain_law ok hpl]
  have k1:=ok.n4096
  have k2:=ok.r1
  have k3:=vlen (ps:=p) (ns:=d.nodes)
  refine yG J1 ?_
  refine aw_dr 6 ty_mixed (by kernel_rfl) ?_
  refine yG J1 ?_
  refine yD J1 (values_fa d p 1000 ?_ ?_ (fun r hr=>wf_mono (hs.w r hr) ?_) (vals_wf ok hpl (L:=4) ?_ hs.w (Bl46 h6)) (ns_len ok hpl) ?_) ?_
  ·omega
  ·omega
  ·omega
  ·omega
  ·omega
  refine yG J1 ?_
  refine yD J1 (of_fa' (valsL p d.nodes []) d.root ok.r0 ?_ ?_) ?_
  ·omega
  ·omega
  refine yGWSGT hC J1 ?_
  exact .tup ⟨.agg lerl_rd,.c (ler_err0 hb'),trivial⟩
end Go.Proofs.YtfcnbgmclfkfcaaGreat
namespace Go.AI
section
variable {E : Env} {K : List It} {σ σ' : Sl} {h : Heap} {all rest : List Oper} {o : Oper}
theorem aw_skipU (hw:wantA all σ o=some false) (hd:dstOk E.N o.dst=true) (k:aw E (.ops all rest::K) (σ.setO o.dst (.c (.raw undef))) h):aw E (.ops all (o::rest)::K) σ h:=fun a w s=>by
 show wpList _ _ _ _ _ _
 unfold wpList
 rw [if_neg (by rw [s.wanted hw];simp)]
 exact k _ _ (s.put hd (r:=.c (.raw undef)) rfl)
theorem aw_skipN {j t:Nat} {want:Bool} (hg:o.guard=some (j,want)) (hj:(all[j]?).bind (·.dst)=some t) (ht:σ.get t=.c (.raw undef)) (hd:dstOk E.N o.dst=true) (k:aw E (.ops all rest::K) (σ.setO o.dst (.c .any)) h):aw E (.ops all (o::rest)::K) σ h:=fun a w s=>by
 have hnw:Region.wanted o (yielded all.toArray a.tmps)=false:=by
  unfold Region.wanted
  rw [hg]
  show(yielded all.toArray a.tmps j==some want)=false
  have hy:yielded all.toArray a.tmps j=none:=by
   unfold yielded
   have h1:((all.toArray[j]?).bind (·.dst))=some t:=by simpa using hj
   rw [h1]
   have h2:=s.slots t
   rw [ht] at h2
   have h3:a.tmps.getD t undef=undef:=h2
   simp only [Option.bind_some]
   rw [Array.getD_eq_getD_getElem?] at h3
   cases h4:a.tmps[t]? with
   |none=>rfl
   |some v=>
    rw [h4] at h3
    have h5:v=undef:=h3
    subst h5
    rfl
  rw [hy];rfl
 show wpList _ _ _ _ _ _
 unfold wpList
 rw [if_neg (by rw [hnw];simp)]
 exact k _ _ (s.put hd (r:=.c .any) trivial)
end
end Go.AI
namespace Go.PN
open Go.AI
def WordsOk (p:List RD):Prop:=∀r∈p,(∀x∈r.num,x<4294967296)∧(∀x∈r.den,x<4294967296)
end Go.PN

namespace Go.Proofs.YtfcnbgmclfkfcaaGreat
open Go.AI Go.PN Go.ChangeShapes Go.WideShapes Go.RowKit
theorem glue_laid:laidOutB Tryz.prog=true:=by kernel_rfl
theorem own:ownKnob Tryz.prog.godebug=none:=by kernel_rfl
section
variable {H : Type} {enc : TypeId × Value → H} {P : Program}
theorem trodAll_stays (hl:laidOutB P=true) {W W':World} {sp:Nat→Bool}:∀{ts:List TypeId} {vs:List Value} {ds:List (DataW H)} {p:List MemPlace},(∀t∈ts,P.readableRec t=true∧t<P.types.size)→DataW.TrodAll enc P W 0 (fun _=>true) true ts vs ds p→(∀x∈p,W.sameAt W' x)→(∀x∈p,sp x.block=true)→DataW.TrodAll enc P W' 0 sp true ts vs ds p
 |[],_,_,_,_,h,_,_=>by
  obtain⟨rfl,rfl,rfl⟩:=trodAll_nil h
  exact rfl
 |t::ts,_,_,_,hts,h,hs,hp=>by
  obtain⟨v,vs,d,ds,a,b,rfl,rfl,rfl,h1,h2⟩:=trodAll_cons h
  exact⟨a,b,WideElems.Trod_stays hl (hts t (List.mem_cons_self ..)).1 (hts t (List.mem_cons_self ..)).2 h1 (fun x hx=>hs x (List.mem_append_left _ hx)) (fun x hx=>hp x (List.mem_append_left _ hx)),
   trodAll_stays hl (fun t' ht=>hts t' (List.mem_cons_of_mem _ ht)) h2 (fun x hx=>hs x (List.mem_append_right _ hx)) (fun x hx=>hp x (List.mem_append_right _ hx)),rfl⟩
theorem post_of_below {fn:Func} {s:ChangeSpec} {W W':World} {args:Array Value} {ds gs:List (DataW H)} {before:List MemPlace} {tb:TypeId} (hl:laidOutB P=true) (hts:∀t∈fn.params.toList,P.readableRec t=true∧t<P.types.size) (hrt:fn.resultTypes= #[tb]) (hbt:P.underlying tb=some .bool) (hvars:s.vars=[])
 (hW:DataW.Whole enc P fn.params.toList s.vars false W args.toList ds gs before) (hfn:∀gs':List (DataW H),gs'=[]→s.fn H (ds++gs')={results:=[.lit (.bool true)],args:=ds}) (hb:Below W.heap.size W W'):s.post enc P fn false true false false W args (.bool true) W':=by
 have hWk:=hW
 obtain⟨p,q,hA,hV,rfl,hfz,_⟩:=hW
 rw [hvars] at hV
 obtain⟨rfl,rfl⟩:=trodVars_none hV
 have hlt:∀x∈p++[],x.block<W.heap.size:=fun x hx=>by simpa using hWk.lt x hx
 have hlt':∀x∈p,x.block<W.heap.size:=fun x hx=>hlt x (List.mem_append_left _ hx)
 have hres:∀(b:Nat) (sp:Nat→Bool) (hd:Bool),DataW.TrodAll enc P W' b sp hd fn.resultTypes.toList ((Value.bool true).resultList fn.resultTypes.size) (s.fn H (ds++[])).results []:=fun b sp hd=>by
  rw [hrt,hfn [] rfl]
  exact trodAll_cons_mk (shut_bool hbt _) trodAll_mk0
 have hargs:∀sp:Nat→Bool,(∀x∈p,sp x.block=true)→DataW.TrodAll enc P W' 0 sp true fn.params.toList args.toList (s.fn H (ds++[])).args p:=fun sp hsp=>by
  rw [hfn [] rfl]
  exact trodAll_stays hl hts hA (fun x hx=>hb.same (hlt' x hx)) hsp
 have hvr:∀sp:Nat→Bool,DataW.TrodVars enc P W' sp s.vars (s.fn H (ds++[])).vars []:=fun sp=>by
  rw [hvars,hfn [] rfl];exact rfl
 refine⟨ds,[],p++[],[],p,[],hWk,hres _ _ _,hargs _ (fun x hx=>by simpa using hlt' x hx),hvr _,hb.frame _,fun _=> ?_⟩
 refine⟨ok_one hrt rfl (okWide_bool_mk hbt _),_,_,([]++p)++[],⟨[]++p,[],trodAll_append (hargs _ (fun _ _=>rfl)) (hres _ _ _),hvr _,rfl,?_,fun h=>by cases h⟩,?_⟩
 ·intro b off hp
  have hp':MemPlace.cell b off∈p++[]:=by simpa using hp
  rw [Below.frozen hb (hlt _ hp')]
  exact hfz b off hp'
 ·intro x hx _
  simpa using hx
theorem arg_cell {α:Type} {c:α→CV} {B:α→Nat→Prop} {t:TypeId} (hr:Rdr P t (fun y=>[c y]) B) {W:World} {v:Value} {d:DataW H} {p:List MemPlace} (hv:v.cells= #[v]) (h:DataW.Trod enc P W 0 (fun _=>true) true t v d p):
 ∃y,Rep0 (AllB W) W (.c (c y)) v∧B y (Rows.uptoBulk d):=by
 obtain⟨fuel,hf⟩:=h
 rw [hv] at hf
 obtain⟨y,h1,h2⟩:=hr H enc W fuel _ _ hf
 exact⟨y,h1.1,h2⟩
end
theorem wok_mono {xs:List Nat}:∀(m n:Nat),xs.length≤m∧(∀x∈xs,x<4294967296)→m≤n→xs.length≤n∧∀x∈xs,x<4294967296:=fun _ _ h hm=>⟨Nat.le_trans h.1 hm,h.2⟩
theorem rdr_words:Rdr Tryz.prog 28 (fun xs:List Nat=>[ws true xs]) (fun xs n=>xs.length≤n∧∀x∈xs,x<4294967296):=
 (rdr_slice (0:Nat) true Tryz.underlying28 (s:=1) (by kernel_rfl) om (fun _ _ _ h _=>h) (rdr_word Tryz.underlying130)).to id (fun ys=>by
  show [CV.row true 1 ys.length _]=[CV.row true 1 ys.length _]
  congr 2
  funext j
  show _=ofL [CV.int .u32 ((ys.getD (j/1) 0:Nat):Int)] (j%1)
  rw [Nat.div_one,Nat.mod_one]
  rfl) (fun _ _ h=>h)
theorem rdr_rat:Rdr Tryz.prog 30 (fun r:RD=>[CV.bool r.neg,ws true r.num,ws true r.den]) (fun r _=>(∀x∈r.num,x<4294967296)∧∀x∈r.den,x<4294967296):=by
 have r:=rdr_struct3 Tryz.underlying30 (s0:=1) (s1:=1) (s2:=1) (by kernel_rfl) (by kernel_rfl) (by kernel_rfl) (by kernel_rfl) rfl rfl rfl (rdr_bool Tryz.underlying4) rdr_words rdr_words (fun _ _ _ h _=>h) (fun _ m n=>wok_mono m n) (fun _ m n=>wok_mono m n)
 exact r.to (fun y=>⟨y.1,y.2.1,y.2.2⟩) (fun _=>rfl) (fun _ _ h=>⟨h.2.1.2,h.2.2.2⟩)
theorem rdr_rats:Rdr Tryz.prog 25 (fun p:List RD=>[rats false p]) (fun p n=>p.length≤n∧WordsOk p):=
 (rdr_slice rd0 false Tryz.underlying25 (s:=3) (by kernel_rfl) om (fun _ _ _ h _=>h) rdr_rat).to id (fun _=>rfl) (fun _ _ h=>h)
end Go.Proofs.YtfcnbgmclfkfcaaGreat
namespace Go.PN
open Go.AI
def ofB (f:FM) (vs:List Bool) (s:Nat) (a:Int):Bool:=if a<f.vars then s.testBit a.toNat else vs.getD (a-f.vars).toNat false
def cntB (f:FM) (vs:List Bool) (s:Nat) (az:List Int):Nat:=(az.filter fun a=>ofB f vs s a).length
noncomputable def nodeB (f:FM) (vs:List Bool) (s:Nat) (x:FN):Bool:=
 if x.kind==0 then x.k==1 else if x.kind==1 then((cntB f vs s x.args:Nat):Int)==0 else if x.kind==2 then((cntB f vs s x.args:Nat):Int)==(x.args.length:Int)
 else if x.kind==3 then decide (((cntB f vs s x.args:Nat):Int)>0) else if x.kind==4 then decide (((cntB f vs s x.args:Nat):Int)≥x.k) else remZ ((cntB f vs s x.args:Nat):Int) 2==1
noncomputable def fvTo (f:FM) (s:Nat):Nat→List Bool
 |0=>List.replicate f.nodes.length false
 |k+1=>(fvTo f s k).set k (nodeB f (fvTo f s k) s (f.nodes.getD k fn0))
theorem fvTo_len (f:FM) (s:Nat):∀k,(fvTo f s k).length=f.nodes.length
 |0=>by simp [fvTo]
 |k+1=>by simp [fvTo,fvTo_len f s k]
structure FmOk (f:FM):Prop where
 v0:0≤f.vars
 v1:f.vars≤62
 n:f.nodes.length≤1000000
 a:∀x∈f.nodes,x.args.length≤1000000∧∀y∈x.args,0≤y∧y<f.vars+f.nodes.length
 t0:0≤f.top
 t1:f.top<f.vars+f.nodes.length
theorem ler_oslbs {h:Heap} {t:Bool} {g n:Nat} {ty:TypeId} {ys:List Bool} (hg:h.get g=some (.cells ty n (bsF ys))) (hn:n=ys.length):LeR h (.osl g 1 0 n) (bs t ys):=by
 subst hn
 exact .osl hg om (fun j _=>by rw [Nat.zero_add];exact .bool _)
theorem getFN {xs:List FN} {i:Nat} (h:i<xs.length):xs.getD i fn0=xs[i]:=by
 rw [List.getD_eq_getElem?_getD,List.getElem?_eq_getElem h];rfl
end Go.PN

