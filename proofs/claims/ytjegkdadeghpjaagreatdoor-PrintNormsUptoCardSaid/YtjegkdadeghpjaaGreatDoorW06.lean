/- Parts of one proof, laid by a program. -/
import Derived.Test.YtjegkdadeghpjaaGreatDoorW00
import Derived.Test.YtjegkdadeghpjaaGreatDoorW05
import Derived.Test.YtjegkdadeghpjaaGreatDoorCards
import Derived.Test.YtjegkdadeghpjaaGreatDoorTie
import Derived.Deep.DeepHandedRow
import Derived.Lib.LaidTab
import Derived.Test.YtjegkdadeghpjaaGreatDoorProg
import Derived.Shelf.LaysM
import Derived.Shelf.Strconv.Itoa3
import Derived.LaidSub
import Derived.MakeChecks
import Derived.Deep.AppendSrc
import Derived.Lib.UnsafeStr
import Derived.Lib.Builder
import Derived.Laws.IdiomStrings
import Derived.Laws.Externs
set_option linter.unusedSimpArgs false
set_option linter.unusedVariables false
set_option maxRecDepth 100000
set_option maxHeartbeats 12800000
namespace Go.PN
open Go.AI
def U9 (ck:Qz→Int) (l:BS):Qz×Int:=if(XL l).1≠0 then(j2,(XL l).1) else let r:=OJ ⟨(XL l).2,0⟩;if r.2.e≠0 then(j2,r.2.e) else if ck r.1≠0 then(j2,ck r.1) else(r.1,0)
theorem pv.mono {m:Qz} {a b:Nat} (h:pv m a) (lE:a≤b):pv m b:=⟨Lt h.e lE,Lt h.h lE,Lt h.g lE,Lt h.p lE,Lt h.r lE,Lt h.s lE⟩
theorem pv.cG {m:Qz} {n:Nat} (h:pv m n) (s:PS):pv (cG m s).1 (n+1):=by
 obtain⟨h1,h2,h3,h4,h5,h6⟩:=h
 unfold Go.PN.cG
 dsimp only
 repeat' split
 all_goals constructor
 all_goals first|(dsimp only;rw [La];exact Nat.succ_le_succ (by assumption))|(dsimp only;omega)
end Go.PN
namespace Go.Proofs.YtjegkdadeghpjaaGreatDoor
open Go.AI Go.PN Proofs.Tryz
attribute [local irreducible] aw Fa VA Vk Fh YO
theorem T8 (ck:Qz→Int) (l:BS) (hl:l.length≤1099511627776) (hn:(XL l).2.length≤1048576) (hw:∀t∈(XL l).2,t.text.length≤1099511627776) (D1:(OJ ⟨(XL l).2,0⟩).2.e=0→Fa prog 56 [.agg (Xo true (OJ ⟨(XL l).2,0⟩).1)] (.c (Z7 (ck (OJ ⟨(XL l).2,0⟩).1)))):Fa prog 47 [.c (.str (sB l))] (.aF [.agg (Xo true (U9 ck l).1),.c (Z7 (U9 ck l).2)]):=by
 refine fA func47 fun C hC=>?_
 refine zA o0 ?_
 refine xA fun g2 aq=>?_
 refine zA aq ?_
 refine Qq (hr:=[(g2,.cells 45 8 (ao [.str (sB []),.str (sB []),.ab,.ab,.ab,.ab,.ab,.ab]))]) (Qpp l hl) rfl rfl rfl (.refl _) (zL aq) ?_
 rintro r h' ⟨out,g,ho,rfl,rfl⟩ PV
 have aK:g≠g2:=by simpa [Qa.keys] using PV
 have bc:g2≠g:=fun e=>aK e.symm
 clear PV
 simp only [Lq,Ln]
 have hs:(PS.mk (XL l).2 0).l<:+out.map TX.t:=by rw [ho];exact List.suffix_refl _
 have hL:out.length≤1048576:=by rw [←Lw TX.t,ho];exact hn
 have Rm:∀t∈out,t.t.text.length≤1099511627776:=fun t ht=>hw t.t (by rw [←ho];exact List.mem_map_of_mem ht)
 clear hw hn
 unfold U9
 unfold OJ at D1⊢
 dsimp only at D1⊢
 have f0:=Xy g out ⟨(XL l).2,0⟩ Vr hs om
 have dz:=((QJ Vr).bD ⟨(XL l).2,0⟩).trans hs
 generalize Xt Vr ⟨(XL l).2,0⟩=s1 at*
 have f1:=VN g out s1 dz om
 have cu:=Jj dz
 generalize Xu s1=r at*
 obtain⟨nm,s2⟩:=r
 dsimp only at*
 have f2:=Xy g out s2 QV cu om
 have fN:(Xt QV s2).l<:+out.map TX.t:=((QJ QV).bD s2).trans cu
 generalize Xt QV s2=s3 at*
 generalize hF:KS (fun s=> !Xe s Y2) cG {j2 with name:=nm} s3=F at*
 have jX:F.2.l<:+out.map TX.t:=by rw [←hF];exact((Zw Cr _).bD s3).trans fN
 have f3:=Xy g out F.2 Y2 jX om
 have lQ:(Xt Y2 F.2).l<:+out.map TX.t:=((QJ Y2).bD F.2).trans jX
 generalize Xt Y2 F.2=s5 at*
 have f4:=wF g out s5 lQ om Rm
 have Rf:=(VH.bD s5).trans lQ
 generalize Y3 s5=r at*
 obtain⟨tp,s6⟩:=r
 dsimp only at*
 have f5:=Xy g out s6 QV Rf om
 have hs7:(Xt QV s6).l<:+out.map TX.t:=((QJ QV).bD s6).trans Rf
 generalize Xt QV s6=s7 at*
 have f6:=Qun g out s7 hs7 om
 all_goals try(have Z:=(oj aq (oj aK bc));(repeat' first|refine zV Z ?_|refine zH Z ?_ ?_<;>intro hb|fail);all_goals clear Z)
 ·have h0:(XL l).1≠0:=by simpa using hb
  refine yT hC (oj aq (oj aK bc)) ?_
  rw [iP h0]
  exact .aF ⟨.agg wG,.c ZT,trivial⟩
 have h0:¬(XL l).1≠0:=by simpa using hb
 rw [iN h0]
 refine yA (oj aq (oj aK bc)) fun gM n_M=>?_
 have J1:=oj aq (oj aK (oj bc n_M))
 refine yW J1 ?_
 refine yS J1 ?_
 refine mv J1 f0 f1 ?_
 refine nY f2 rfl rfl rfl (zE J1) (o5 o0) ?_
 refine yS J1 ?_
 refine yH J1 ?_
 apply fy
 refine Ym (fun _:Og=>[(2,.c (.aj g2 0)),(3,.c .aN),(4,.c (.aj g 0)),(6,.c (.aj gM 0))]) (fun o=>[(gM,eO F.1 o),(g,X8 out F.2)]++Ww F.1 o++[(g2,.cells 45 8 (ao [.str (sB []),.str (sB []),.ab,.ab,.ab,.ab,.ab,.ab]))]) (fun o=>y3 F.1 o) ?_ ?_
 ·apply nr
  refine Qh (fun _:PS×Qz×Og=>[(2,.c (.aj g2 0)),(3,.c .aN),(4,.c (.aj g 0)),(6,.c (.aj gM 0))]) (fun x=>[(gM,eO x.2.1 x.2.2),(g,X8 out x.1)]++Ww x.2.1 x.2.2++[(g2,.cells 45 8 (ao [.str (sB []),.str (sB []),.ab,.ab,.ab,.ab,.ab,.ab]))])
   (fun x=>x.1.l<:+out.map TX.t∧y3 x.2.1 x.2.2∧pv x.2.1 (1048577-mS x.1)∧KS (fun s=> !Xe s Y2) cG x.2.1 x.1=F) (fun x=>mS x.1) (s3,{j2 with name:=nm},⟨none,none,none,none,none,none⟩) (zB J1) zZ ⟨fN,⟨fun _=>rfl,fun _=>rfl,fun _=>rfl,fun _=>rfl,fun _=>rfl,fun _=>rfl⟩,⟨Lz _,Lz _,Lz _,Lz _,Lz _,Lz _⟩,hF⟩ ?_
  rintro ⟨sx,m,o⟩ ⟨cr,ax,hm,aB⟩
  dsimp only at cr ax hm aB⊢
  simp only [Lq,Ln]
  have i0:=Vc g out sx Y2 cr om
  all_goals repeat' first|refine zV J1 ?_|refine yQ J1 i0 ?_|refine zH J1 ?_ ?_<;>intro hb|fail
  ·rename_i hz
   have hc:(fun s=> !Xe s Y2) sx=true:=hb
   have bP:=Vb (c:=fun s=> !Xe s Y2) (b:=cG) (a:=m) (fun a s h _=>Cs a s h) hz hc
   have aD:=Cs m sx hz
   rw [bP] at aB
   have jY:(cG m sx).2.l<:+out.map TX.t:=((Cr m).bD sx).trans cr
   have tu:1≤mS sx:=by unfold mS;rw [iP hz];omega
   have vA:mS sx≤1048577:=by
    have:=cr.length_le
    rw [Lw] at this
    unfold mS
    split<;>omega
   have hf:=SA gM g out sx m o cr hL Rm ax (hm.mono om)
   have hm3:=(hm.cG sx).mono (show _≤1048577-mS (cG m sx).2 by omega)
   refine Qq (hr:=[(g2,.cells 45 8 (ao [.str (sB []),.str (sB []),.ab,.ab,.ab,.ab,.ab,.ab]))]) hf rfl rfl rfl (by simp only [Lq,Ln];exact .refl _) (zL J1) ?_
   rintro r h' ⟨rfl,o',fi,rfl⟩ _
   refine zA J1 ?_
   refine Qb ⟨((cG m sx).2,(cG m sx).1,o'),?_⟩
   refine⟨aD,?_⟩
   and_intros
   all_goals first|rfl|exact Lr _|exact True.intro|exact jY|exact fi|exact hm3|exact aB
  ·have hc:¬(sx.e=0∧(fun s=> !Xe s Y2) sx=true):=fun z=>by rw [show(fun s=> !Xe s Y2) sx=false from hb] at z;exact absurd z.2 Af
   rw [Ye hc] at aB
   subst aB
   refine Qb ⟨o,?_⟩
   and_intros<;>first|rfl|exact Lr _|exact True.intro|exact ax
  ·have hc:¬(sx.e=0∧(fun s=> !Xe s Y2) sx=true):=fun z=>hb z.1
   rw [Ye hc] at aB
   subst aB
   refine Qb ⟨o,?_⟩
   and_intros<;>first|rfl|exact Lr _|exact True.intro|exact ax
 rintro o ax
 try dsimp only at ax⊢
 refine Qj (h':=(gM,eO F.1 o)::(gh o.e 101 (F.1.events.length*11) (Zu F.1.events)++(gh o.h 103 (F.1.af.length*2) (Zv F.1.af)++(gh o.g 71 (F.1.an.length*7) (X1 F.1.an)++(gh o.p 105 (F.1.aa.length*3) (V0 F.1.aa)++(gh o.r 108 (F.1.ae.length*4) (Vs F.1.ae)++(gh o.s 112 (F.1.ai.length*3) (V1 F.1.ai)++([(g,X8 out F.2),(g2,.cells 45 8 (ao [.str (sB []),.str (sB []),.ab,.ab,.ab,.ab,.ab,.ab]))])))))))) (.cons _ ?_) ?_
 ·have e:gh o.e 101 (F.1.events.length*11) (Zu F.1.events)++(gh o.h 103 (F.1.af.length*2) (Zv F.1.af)++(gh o.g 71 (F.1.an.length*7) (X1 F.1.an)++(gh o.p 105 (F.1.aa.length*3) (V0 F.1.aa)++(gh o.r 108 (F.1.ae.length*4) (Vs F.1.ae)++(gh o.s 112 (F.1.ai.length*3) (V1 F.1.ai)++([(g,X8 out F.2),(g2,.cells 45 8 (ao [.str (sB []),.str (sB []),.ab,.ab,.ab,.ab,.ab,.ab]))]))))))=Ww F.1 o++[(g,X8 out F.2),(g2,.cells 45 8 (ao [.str (sB []),.str (sB []),.ab,.ab,.ab,.ab,.ab,.ab]))]:=by
   unfold Ww
   simp only [List.flatten_cons,List.flatten_nil,Lo,Lp,Ln]
  rw [e]
  exact(List.perm_middle (l₁:=Ww F.1 o)).symm
 refine Q7 (j0:=2) (n:=F.1.events.length) (s:=11) (f':=ao [.str (sB F.1.name),.str (sB F.1.top),gS true F.1.events,gs o.h 2 F.1.af.length,gs o.g 7 F.1.an.length,gs o.p 3 F.1.aa.length,gs o.r 4 F.1.ae.length,gs o.s 3 F.1.ai.length]) rfl rfl (fun j hj fG=>by
  match j,hj,fG with
  |0,_,_=>rfl
  |1,_,_=>rfl
  |2,_,h=>exact absurd rfl h
  |3,_,_=>rfl
  |4,_,_=>rfl
  |5,_,_=>rfl
  |6,_,_=>rfl
  |7,_,_=>rfl
  |j+8,h,_=>exact absurd h om) ax.e (fun g _=>hC g) ?_
 refine Q7 (j0:=3) (n:=F.1.af.length) (s:=2) (f':=ao [.str (sB F.1.name),.str (sB F.1.top),gS true F.1.events,jb true F.1.af,gs o.g 7 F.1.an.length,gs o.p 3 F.1.aa.length,gs o.r 4 F.1.ae.length,gs o.s 3 F.1.ai.length]) rfl rfl (fun j hj fG=>by
  match j,hj,fG with
  |0,_,_=>rfl
  |1,_,_=>rfl
  |2,_,_=>rfl
  |3,_,h=>exact absurd rfl h
  |4,_,_=>rfl
  |5,_,_=>rfl
  |6,_,_=>rfl
  |7,_,_=>rfl
  |j+8,h,_=>exact absurd h om) ax.h (fun g _=>hC g) ?_
 refine Q7 (j0:=4) (n:=F.1.an.length) (s:=7) (f':=ao [.str (sB F.1.name),.str (sB F.1.top),gS true F.1.events,jb true F.1.af,ca true F.1.an,gs o.p 3 F.1.aa.length,gs o.r 4 F.1.ae.length,gs o.s 3 F.1.ai.length]) rfl rfl (fun j hj fG=>by
  match j,hj,fG with
  |0,_,_=>rfl
  |1,_,_=>rfl
  |2,_,_=>rfl
  |3,_,_=>rfl
  |4,_,h=>exact absurd rfl h
  |5,_,_=>rfl
  |6,_,_=>rfl
  |7,_,_=>rfl
  |j+8,h,_=>exact absurd h om) ax.g (fun g _=>hC g) ?_
 refine Q7 (j0:=5) (n:=F.1.aa.length) (s:=3) (f':=ao [.str (sB F.1.name),.str (sB F.1.top),gS true F.1.events,jb true F.1.af,ca true F.1.an,ir true F.1.aa,gs o.r 4 F.1.ae.length,gs o.s 3 F.1.ai.length]) rfl rfl (fun j hj fG=>by
  match j,hj,fG with
  |0,_,_=>rfl
  |1,_,_=>rfl
  |2,_,_=>rfl
  |3,_,_=>rfl
  |4,_,_=>rfl
  |5,_,h=>exact absurd rfl h
  |6,_,_=>rfl
  |7,_,_=>rfl
  |j+8,h,_=>exact absurd h om) ax.p (fun g _=>hC g) ?_
 refine Q7 (j0:=6) (n:=F.1.ae.length) (s:=4) (f':=ao [.str (sB F.1.name),.str (sB F.1.top),gS true F.1.events,jb true F.1.af,ca true F.1.an,ir true F.1.aa,fB true F.1.ae,gs o.s 3 F.1.ai.length]) rfl rfl (fun j hj fG=>by
  match j,hj,fG with
  |0,_,_=>rfl
  |1,_,_=>rfl
  |2,_,_=>rfl
  |3,_,_=>rfl
  |4,_,_=>rfl
  |5,_,_=>rfl
  |6,_,h=>exact absurd rfl h
  |7,_,_=>rfl
  |j+8,h,_=>exact absurd h om) ax.r (fun g _=>hC g) ?_
 refine Q7 (j0:=7) (n:=F.1.ai.length) (s:=3) (f':=ao [.str (sB F.1.name),.str (sB F.1.top),gS true F.1.events,jb true F.1.af,ca true F.1.an,ir true F.1.aa,fB true F.1.ae,fS true F.1.ai]) rfl rfl (fun j hj fG=>by
  match j,hj,fG with
  |0,_,_=>rfl
  |1,_,_=>rfl
  |2,_,_=>rfl
  |3,_,_=>rfl
  |4,_,_=>rfl
  |5,_,_=>rfl
  |6,_,_=>rfl
  |7,_,h=>exact absurd rfl h
  |j+8,h,_=>exact absurd h om) ax.s (fun g _=>hC g) ?_
 all_goals repeat' first|refine zV J1 ?_|refine yQ J1 f3 ?_|refine yQ J1 f4 ?_|refine yQ J1 f5 ?_|refine yQ J1 f6 ?_|refine zH J1 ?_ ?_<;>intro hb|fail
 ·have h1:(mf s7).e≠0:=by simpa using hb
  refine yT hC J1 ?_
  rw [iP h1]
  exact .aF ⟨.agg wG,.c ZT,trivial⟩
 have h1:¬(mf s7).e≠0:=by simpa using hb
 rw [iN h1]
 have f7:=D1 (by simpa using h1)
 all_goals repeat' first|refine zV J1 ?_|refine yQ J1 f7 ?_|refine zH J1 ?_ ?_<;>intro hb|fail
 ·have h2:ck {F.1 with top:=tp}≠0:=by simpa using hb
  refine yT hC J1 ?_
  rw [iP h2]
  exact .aF ⟨.agg wG,.c ZT,trivial⟩
 ·have h2:¬ck {F.1 with top:=tp}≠0:=by simpa using hb
  refine yT hC J1 ?_
  rw [iN h2]
  exact .aF ⟨.agg (Ct (x:={F.1 with top:=tp})),.c (ZF rfl),trivial⟩
end Go.Proofs.YtjegkdadeghpjaaGreatDoor
namespace Go.PN
def RD.bI (r:RD):Bool:=r.valid&&decide (0≤r.q)&&decide (r.q≤1)
theorem Hp (x:Rat):decide (YZ x≥0)=decide (0≤x):=by
 unfold YZ
 by_cases h0:x=0
 ·subst h0;simp
 ·rw [iN h0]
  by_cases h1:x<0
  ·rw [iP h1]
   have:¬(0≤x):=Rat.not_le.2 h1
   simp [this]
  ·rw [iN h1]
   have:0≤x:=Rat.not_lt.1 h1
   simp [this]
theorem Qpt (x:Rat):decide (YZ x≤0)=decide (x≤0):=by
 unfold YZ
 by_cases h0:x=0
 ·subst h0;simp
 ·rw [iN h0]
  by_cases h1:x<0
  ·rw [iP h1]
   have:x≤0:=Rat.le_of_lt h1
   simp [this]
  ·rw [iN h1]
   have:¬x≤0:=fun h=>by
    have:=Rat.not_lt.1 h1
    exact h0 (Rat.le_antisymm h this)
   simp [this]
theorem Tk (x:Rat):decide (x-1≤0)=decide (x≤1):=by
 rw [Bool.eq_iff_iff];simp only [Dq];constructor<;>intro h<;>grind
theorem T9 {n d:Nat} (hd:d≠0):sq false n d≤1↔n≤d:=by
 unfold sq Uc
 simp only [Bool.false_eq_true,if_false]
 rw [Rat.mkRat_eq_div]
 have zn:(0:Rat)<(d:Rat):=by
  have:((0:Nat):Rat)<(d:Rat):=Rat.natCast_lt_natCast.2 om
  exact this
 have aK:(d:Rat)≠0:=fun e=>by rw [e] at zn;exact Rat.lt_irrefl zn
 have hx:((n:Int):Rat)/(d:Rat)*(d:Rat)=(n:Rat):=by
  have h1:((n:Int):Rat)=(n:Rat):=rfl
  rw [h1,Rat.div_def,Rat.mul_assoc,Rat.inv_mul_cancel _ aK,Rat.mul_one]
 generalize ((n:Int):Rat)/(d:Rat)=x at hx
 constructor
 ·intro h
  have h1:=Rat.mul_le_mul_of_nonneg_right h (Rat.le_of_lt zn)
  rw [hx,Rat.one_mul] at h1
  exact Rat.natCast_le_natCast.1 h1
 ·intro h
  have h1:(n:Rat)≤(d:Rat):=Rat.natCast_le_natCast.2 h
  rw [←hx] at h1
  refine Rat.not_lt.1 fun aD=> ?_
  have h2:=Rat.mul_lt_mul_of_pos_right aD zn
  rw [Rat.one_mul] at h2
  exact absurd h1 (Rat.not_le.2 h2)
theorem Qsc {r:RD} {L:Nat} (hw:r.wf L) (hv:r.valid=true):((!r.neg)&&decide (Zs (val r.num) (val r.den)≤0))=(decide (0≤r.q)&&decide (r.q≤1)):=by
 cases hs:r.some with
 |false=>
  have hn:r.num.length=0:=by
   simp only [RD.some,hv,Bool.true_and,decide_eq_false_iff_not,ne_eq,Classical.not_not] at hs
   exact hs
  have hq:r.q=0:=by unfold RD.q RD.pn;simp [hs,ui]
  have kx:=hv
  unfold RD.valid at kx
  split at kx
  ·rename_i h
   have h1:r.num=[]:=Lh.1 h.1
   have h2:r.den=[]:=Lh.1 h.2
   rw [hq,h1,h2]
   simp only [Bool.not_eq_true'] at kx
   simp [kx,val,Zs]
   decide
  ·simp [Vp,hn] at kx
 |true=>
  obtain⟨h1,h2,h3,h4,h5⟩:=RD.cX hw hs
  have hq:r.q=sq r.neg (val r.num) (val r.den):=by unfold RD.q RD.ps RD.pn RD.pd;simp [hs]
  rw [hq]
  have oJ:=NL (neg:=r.neg) h3 h4
  cases hb:r.neg with
  |true=>
   rw [hb] at oJ
   have:¬(0≤sq true (val r.num) (val r.den)):=Rat.not_le.2 (oJ.2 rfl)
   simp [this]
  |false=>
   rw [hb] at oJ
   have eu:0≤sq false (val r.num) (val r.den):=Rat.not_lt.1 fun h=>by cases oJ.1 h
   have hle:=T9 (n:=val r.num) h4
   have hc:Zs (val r.num) (val r.den)≤0↔val r.num≤val r.den:=by
    unfold Zs
    split
    ·constructor<;>intro _<;>omega
    ·split<;>constructor<;>intro _<;>omega
   simp only [eu,decide_true,Bool.true_and,Bool.not_false,hle,hc]
end Go.PN
namespace Go.Proofs.YtjegkdadeghpjaaGreatDoor
open Go.AI Go.PN Proofs.Tryz
attribute [local irreducible] aw Fa VA Vk Fh YO
theorem wH (r:RD) (hw:r.wf 1073741824):Fa prog 187 [.agg (YS r)] (.c (.bool r.bI)):=by
 have h1:=hw.2.2.1
 have h2:=hw.2.2.2
 refine fA func187 fun C hC=>?_
 refine xG ?_
 refine xB fun g1 ah=>?_
 refine yG ah ?_
 refine yC ah (Bi r (XZ hw ?_)) ?_
 ·omega
 refine yG ah ?_
 unfold RD.bI
 refine YF 5 (zE ah) (fun hv=> ?_) (fun hv=> ?_)<;>refine yS ah ?_
 ·have hp:=Qsc hw hv
  refine yG ah ?_
  refine YF 10 (zE ah) (fun hn=> ?_) (fun hn=> ?_)<;>refine yS ah ?_
  ·refine yG ah ?_
   refine yC ah (uk _ _ hw.1 hw.2.1 ?_ ?_) ?_
   ·omega
   ·omega
   refine OZ hC ah ?_
   refine .one (.c (Qe ?_))
   rw [hv,Bool.true_and,←hp,hn,Bool.true_and]
  ·refine OZ hC ah ?_
   refine .one (.c (Qe ?_))
   rw [hv,Bool.true_and,←hp,hn,Bool.false_and]
 ·refine OZ hC ah ?_
  refine .one (.c (Qe ?_))
  rw [hv,Bool.false_and,Bool.false_and]
theorem Qup:(rd ((1:Int):Rat)).wf 500000000:=JH (Yp (L:=1) ⟨by simp,by simp⟩ om)
theorem wI (r:RD) (hw:r.wf 500000000):Fa prog 84 [.agg (YS r)] (.c (.bool r.bI)):=by
 have h1:=hw.2.2.1
 have h2:=hw.2.2.2
 refine fA func84 fun C hC=>?_
 refine xG ?_
 refine xB fun g1 ah=>?_
 refine yG ah ?_
 refine Xl 14 Qg kR ?_
 refine yG ah ?_
 refine yD ah (Bj r (XZ hw ?_)) ?_
 ·omega
 refine yG ah ?_
 unfold RD.bI
 refine Bb 5 (zE ah) (fun hv=> ?_) (fun hv=> ?_)<;>refine yS ah ?_
 ·refine yG ah ?_
  refine yD ah (BQ r (XZ hw ?_)) ?_
  ·omega
  refine yG ah ?_
  refine Bb 10 (zE ah) (fun hn=> ?_) (fun hn=> ?_)<;>refine yS ah ?_
  ·refine yG ah ?_
   refine yD ah (Qt4 1 ?_ ?_) ?_
   ·omega
   ·omega
   refine yG ah ?_
   refine yD ah (QrC r (rd ((1:Int):Rat)) hw Qup) ?_
   rw [Wv,Rat.intCast_one]
   refine OZ hC ah ?_
   refine .one (.c (Qe ?_))
   rw [Hp] at hn
   rw [hv,hn,Qpt,Tk];rfl
  ·refine OZ hC ah ?_
   refine .one (.c (Qe ?_))
   rw [Hp] at hn
   rw [hn,Bool.and_false,Bool.false_and]
 ·refine OZ hC ah ?_
  refine .one (.c (Qe ?_))
  rw [hv,Bool.false_and,Bool.false_and]
end Go.Proofs.YtjegkdadeghpjaaGreatDoor
namespace Go.PN
open Go.AI
section
variable {α β σ : Type}
def Xj (p:α→Bool):List α→Int
 |[]=> -1
 |x::l=>if p x then 0 else if Xj p l<0 then-1 else Xj p l+1
theorem xb (p:α→Bool):∀l:List α,-1≤Xj p l
 |[]=>Int.le_refl _
 |x::l=>by
  have:=xb p l
  unfold Xj
  split
  ·decide
  ·split<;>omega
theorem Cu (p:α→Bool):∀l:List α,Xj p l<l.length
 |[]=>(show(-1:Int)<0 from by decide)
 |x::l=>by
  have:=Cu p l
  unfold Xj
  rw [Lc]
  split
  ·omega
  ·split<;>omega
theorem Zy {p:α→Bool} (d:α):∀{l:List α},(∀j,j<l.length→p (l.getD j d)=false)→Xj p l= -1
 |[],_=>rfl
 |x::l,h=>by
  have h0:p x=false:=by simpa using h 0 (by simp)
  have ih:=Zy d (l:=l) fun j hj=>by simpa using h (j+1) (by simpa using hj)
  unfold Xj
  rw [h0,ih];rfl
theorem YV {p:α→Bool} (d:α):∀{l:List α} {i:Nat},i<l.length→p (l.getD i d)=true→(∀j,j<i→p (l.getD j d)=false)→Xj p l=i
 |x::l,0,_,h,_=>by
  have:p x=true:=by simpa using h
  unfold Xj
  rw [this];rfl
 |x::l,i+1,hl,h,hn=>by
  have h0:p x=false:=by simpa using hn 0 om
  have ih:=YV d (l:=l) (i:=i) (by simpa using hl) (by simpa using h) fun j hj=>by simpa using hn (j+1) om
  unfold Xj
  rw [h0,ih]
  rw [iN Af,iN om]
  omega
def XU (f:Nat→α→Int):List α→Nat→Int
 |[],_=>0
 |x::l,i=>if f i x=0 then XU f l (i+1) else f i x
theorem GK {f:Nat→α→Int} (d:α) {l:List α} {i:Nat} (h:i<l.length):XU f (l.drop i) i=if f i (l.getD i d)=0 then XU f (l.drop (i+1)) (i+1) else f i (l.getD i d):=by
 rw [List.drop_eq_getElem_cons h,Lg,Li h];rfl
theorem Qpu {f:Nat→α→Int} {l:List α} {i:Nat} (h:¬i<l.length):XU f (l.drop i) i=0:=by rw [List.drop_of_length_le om];rfl
def XT (f:Nat→α→σ→Int×σ):List α→Nat→σ→Int×σ
 |[],_,s=>(0,s)
 |x::l,i,s=>if(f i x s).1=0 then XT f l (i+1) (f i x s).2 else f i x s
theorem GL {f:Nat→α→σ→Int×σ} (d:α) {l:List α} {i:Nat} {s:σ} (h:i<l.length):XT f (l.drop i) i s=if(f i (l.getD i d) s).1=0 then XT f (l.drop (i+1)) (i+1) (f i (l.getD i d) s).2 else f i (l.getD i d) s:=by
 rw [List.drop_eq_getElem_cons h,Lg,Li h];rfl
theorem Qpv {f:Nat→α→σ→Int×σ} {l:List α} {i:Nat} {s:σ} (h:¬i<l.length):XT f (l.drop i) i s=(0,s):=by rw [List.drop_of_length_le om];rfl
def Kw (f:Nat→σ→Int×σ):Nat→Nat→σ→Int×σ
 |0,_,s=>(0,s)
 |n+1,i,s=>if(f i s).1=0 then Kw f n (i+1) (f i s).2 else f i s
def Z2 (a b:Int):Int:=if a=0 then b else a
def Vt (m:Qz) (n:BS):Int:=Xj (fun x=>x.name==n) m.events
def ey (m:Qz) (n:BS):Int:=Xj (fun x=>x.name==n) m.af
def fg (l:List Xk) (n:BS):Int:=Xj (fun x=>x.name==n) l
def O5 (m:Qz) (n:BS):Int:=Xj (fun x=>x.name==n) m.aa
def Qt (m:Qz):Nat→List Xk
 |0=>m.an
 |k+1=>(m.aa.getD k bj).an
def OK (r:RD):Bool:=r.valid&&decide (YZ r.q≥0)
def QD (s:BS):Bool:=decide (0<s.length)&&decide (s.length≤24)&&KO (XE s 0)&&decide (Xm Yf s 0=s.length)
def jl (m:Qz) (i:Nat) (x:X7):Int:=if QD x.name=false then 5 else if Vt m x.name<i then 6
 else if x.p.bI=false∨OK x.fail=false∨OK x.rep=false∨x.cost<0∨x.cost>1073741824 then 3 else 0
def iL (m:Qz) (i:Nat) (x:Vq):Int:=if QD x.name=false then 5 else if Vt m x.name≥0∨ey m x.name<i then 6 else 0
def Jw (m:Qz):Int:=if m.events.length>24 then 4 else Z2 (XU (jl m) m.events 0) (if m.af.length>16 then 4 else XU (iL m) m.af 0)
def pI (m:Qz):Nat:=m.an.length+(m.aa.map fun p=>p.an.length).sum
def jt (m:Qz) (i:Nat) (x:YT):Int:=if QD x.name=false then 5 else if O5 m x.name<i then 6 else 0
def Jx (m:Qz):Int:=if m.aa.length>8∨pI m>64 then 4 else XU (jt m) m.aa 0
def ot (k:Int) (n:Nat):Bool:=if k=3 then n==1 else if k=5 then n==2 else if k=6∨k=7∨k=8 then decide (n≥2)&&decide (n≤16) else decide (n≥1)&&decide (n≤16)
def n9 (r:RD):Bool:= !r.neg&&r.num.length==0&&r.den.length==0
def UI (x:Xk):Int:=if x.kind<0∨x.kind>8 then 7 else if ot x.kind x.ak.length=false then 11
 else if x.kind=2∧(x.k<1∨x.k>x.ak.length) then 3 else if x.kind≠2∧x.k≠0 then 2
 else if x.kind=7∧x.aH.bI=false then 3 else if x.kind≠7∧n9 x.aH=false then 2 else 0
def fU (m:Qz) (k:Nat) (i:Nat) (x:Xk):Int:=if QD x.name=false then 5 else if Vt m x.name≥0∨ey m x.name≥0∨fg (Qt m k) x.name<i then 6 else UI x
def UJ (m:Qz) (k:Nat):Int:=XU (fU m k) (Qt m k) 0
def Yg (m:Qz) (k:Nat) (i:BS):Bool:=if 0<i.length∧XE i 0=64 then decide (O5 m (i.drop 1)≥0) else decide (Vt m i≥0)||decide (ey m i≥0)||decide (fg (Qt m k) i≥0)
def V5 (x:Xk) (j:Nat):Bool:=decide (x.kind=7)||(decide (x.kind=8)&&decide (j>0))
def O6 (m:Qz) (k:Nat) (x:Xk) (j:Nat) (i:BS) (sp:List BS):Int×List BS:=if Yg m k i=false then(5,sp) else if V5 x j=true∧Vt m i<0 then(7,sp)
 else if x.kind=7 then(if sp.contains i then(6,sp) else(0,sp++[i])) else(0,sp)
def mu (m:Qz) (k:Nat) (_:Nat) (x:Xk) (sp:List BS):Int×List BS:=XT (O6 m k x) x.ak 0 sp
def ju (m:Qz):Nat→Int
 |0=>0
 |k+1=>if fg (m.aa.getD k bj).an (m.aa.getD k bj).top<0∧Vt m (m.aa.getD k bj).top<0 then 5 else 0
def Ud (m:Qz) (k:Nat) (sp:List BS):Int×List BS:=if(XT (mu m k) (Qt m k) 0 sp).1=0 then(ju m k,(XT (mu m k) (Qt m k) 0 sp).2) else XT (mu m k) (Qt m k) 0 sp
def Wx (m:Qz) (_:Nat) (n:BS) (ms:List BS):Int×List BS:=if Vt m n<0 then(5,ms) else if ms.contains n then(6,ms) else(0,ms++[n])
def WB (m:Qz) (i:Nat) (x:YU) (ms:List BS):Int×List BS:=if QD x.name=false then(5,ms) else if Xj (fun y=>y.name==x.name) m.ae<i then(6,ms)
 else if x.kind≠0∧x.kind≠1 then(7,ms)
 else if(x.members.length:Int)<2∨(x.members.length:Int)>(if x.kind=1 then 4 else 24)∨(x.ar.length:Int)≠(if x.kind=1 then(x.members.length:Int)-1 else 1) then(11,ms)
 else if(XT (Wx m) x.members 0 ms).1≠0 then XT (Wx m) x.members 0 ms
 else if x.ar.all RD.bI=false then(3,ms) else(0,(XT (Wx m) x.members 0 ms).2)
def YP (m:Qz):Int:=if m.ae.length>8 then 4 else(XT (WB m) m.ae 0 []).1
def gY (m:Qz) (x:Ke) (k:Nat) (v:Zh):Int:=if Vt m v.event<0 then 5 else if Xj (fun y=>y.event==v.event) x.values<k then 6 else if v.p.bI=false then 3 else 0
def iv (m:Qz) (i:Nat) (x:Ke):Int:=if QD x.name=false then 5 else if Xj (fun y=>y.name==x.name) m.ai<i then 6 else if Yg m 0 x.top=false then 5 else XU (gY m x) x.values 0
def Vd (m:Qz):Int:=if m.ai.length>6 then 4 else XU (iv m) m.ai 0
def Vu (m:Qz):Int:=Z2 (if QD m.name then 0 else 5) (Z2 (Jw m) (Z2 (Jx m) (Z2 (Kw (fun k (_:Unit)=>(UJ m k,())) (m.aa.length+1) 0 ()).1
 (Z2 (Kw (Ud m) (m.aa.length+1) 0 []).1 (Z2 (if Yg m 0 m.top then 0 else 5) (Z2 (YP m) (Vd m)))))))
end
theorem RD.wf.mono {r:RD} {a b:Nat} (h:r.wf a) (lE:a≤b):r.wf b:=by
 exact⟨h.1,h.2.1,Lt h.2.2.1 lE,Lt h.2.2.2 lE⟩
theorem Zk {α:Type} {f:Nat→α→Int} {l:List α} {d:α} {i:Nat} {F:Int} (h:XU f (l.drop i) i=F) (hi:i<l.length) {c:Int} (hc:f i (l.getD i d)=c) (h0:c≠0):F=c:=by
 rw [GK d hi,hc,iN h0] at h
 exact h.symm
theorem Vi {α:Type} {f:Nat→α→Int} {l:List α} {d:α} {i:Nat} {F:Int} (h:XU f (l.drop i) i=F) (hi:i<l.length) (hc:f i (l.getD i d)=0):XU f (l.drop (i+1)) (i+1)=F:=by
 rw [GK d hi,hc,iP rfl] at h
 exact h
theorem YK {α:Type} {f:Nat→α→Int} {l:List α} {i:Nat} {F:Int} (h:XU f (l.drop i) i=F) (hi:¬i<l.length):F=0:=by
 rw [Qpu hi] at h
 exact h.symm
structure NV (m:Qz):Prop where
 nm:m.name.length≤1099511627776
 ev:∀i,(m.events.getD i bn).name.length≤1099511627776∧(m.events.getD i bn).p.wf 1073741824∧(m.events.getD i bn).fail.wf 1073741824∧(m.events.getD i bn).rep.wf 1073741824
 hs:∀i,(m.af.getD i bw).name.length≤1099511627776
structure pj (m:Qz):Prop where
 pg:∀i,(m.aa.getD i bj).name.length≤1099511627776∧(m.aa.getD i bj).an.length≤1048576
 gl:m.an.length≤1048576
 pl:m.aa.length≤1048576
 gt:∀k i,((Qt m k).getD i aU).name.length≤1099511627776∧((Qt m k).getD i aU).aH.wf 1073741824∧((Qt m k).getD i aU).ak.length≤1099511627776
theorem Kx {m:Qz} (h:pj m) (k:Nat):(Qt m k).length≤1048576:=match k with
 |0=>h.gl
 |k+1=>(h.pg k).2
def lX (l:List YT):Nat:=(l.map fun p=>p.an.length).sum
theorem Nl {l:List YT} (h:∀i,(l.getD i bj).an.length≤1048576):lX l≤l.length*1048576:=by
 induction l with
 |nil=>exact Lz _
 |cons p l ih=>
  have h0:=h 0
  have:=ih fun i=>h (i+1)
  show p.an.length+lX l≤_
  rw [Lc]
  have h1:p.an.length≤1048576:=h0
  omega
theorem Hq {l:List YT} {i:Nat} (h:i<l.length):lX (l.take (i+1))=lX (l.take i)+(l.getD i bj).an.length:=by
 have e:l.getD i bj=l[i]:=by rw [Lg,Li h];rfl
 rw [List.take_succ_eq_append_getElem h,e]
 unfold lX
 rw [List.map_append,List.sum_append]
 simp
structure NR (m:Qz):Prop where
 l:m.ai.length≤1099511627776
 ph:∀i,(m.ai.getD i cd).name.length≤1099511627776∧(m.ai.getD i cd).top.length≤1099511627776∧(m.ai.getD i cd).values.length≤1099511627776
 vl:∀i k,(((m.ai.getD i cd).values.getD k bE)).p.wf 1073741824
theorem VO {α σ:Type} {f:Nat→α→σ→Int×σ} {l:List α} {d:α} {i:Nat} {s:σ} {F:Int×σ} (h:XT f (l.drop i) i s=F) (hi:i<l.length) {r:Int×σ} (hc:f i (l.getD i d) s=r) (h0:r.1≠0):F=r:=by
 rw [GL d hi,hc,iN h0] at h
 exact h.symm
theorem KV {α σ:Type} {f:Nat→α→σ→Int×σ} {l:List α} {d:α} {i:Nat} {s:σ} {F:Int×σ} (h:XT f (l.drop i) i s=F) (hi:i<l.length) {r:Int×σ} (hc:f i (l.getD i d) s=r) (h0:r.1=0):XT f (l.drop (i+1)) (i+1) r.2=F:=by
 rw [GL d hi,hc,iP h0] at h
 exact h
theorem YL {α σ:Type} {f:Nat→α→σ→Int×σ} {l:List α} {i:Nat} {s:σ} {F:Int×σ} (h:XT f (l.drop i) i s=F) (hi:¬i<l.length):F=(0,s):=by
 rw [Qpv hi] at h
 exact h.symm
structure NS (m:Qz):Prop where
 l:m.ae.length≤1099511627776
 gr:∀i,(m.ae.getD i bJ).name.length≤1099511627776∧(m.ae.getD i bJ).members.length≤1048576∧(m.ae.getD i bJ).ar.length≤1099511627776
 fa:∀i k,((m.ae.getD i bJ).ar.getD k aW).wf 1073741824
end Go.PN
namespace Go.AI
section
section
variable {E : Vj} {K : List It} {σ σ' : Sl} {h : Qa} {all l rest : List Oper} {o : Oper}
theorem O7 {f:FuncId} {x:Operand} {xs:List Operand} {ts:Array TypeId} {g:Nat} {ob ob':XS} {args:List AV} {r:AV} (hf:Fg E.P f g ob (args++[.c (.aj g 0)]) r ob') (au:o.op=.call {callee:=.value x,args:=xs.toArray,argTypes:=ts}) (hw:Qu all σ o=some true) (hd:Qs E.N o.dst=true)
  (hx:ev σ x=.c (jz f [g])) (hg:h.get g=some ob) (le:JT [] (xs.map (ev σ)) args) (k:aw E (.ops all rest::K) (σ.az o.dst r) (h.set g ob')):aw E (.ops all (o::rest)::K) σ h:=by
 refine QmL (gs:=[g]) hf au hw hd hx (hr:=h.del g) (Qa.dD hg) le ?_
 rintro _ _ ⟨rfl,rfl⟩ _
 exact Qj (Qa.set_perm hg).symm k
end
end
end Go.AI
namespace Go.Proofs.YtjegkdadeghpjaaGreatDoor
open Go.AI Go.PN Proofs.Tryz
abbrev fY (n:BS):XS:=.cells 9 1 (ao [.str (sB n)])
attribute [local irreducible] aw Fa VA Vk Fh YO
theorem Qm2 (g:Nat) (n:BS) (x:X7):Fg prog 295 g (fY n) [.agg (OD x),.c (.aj g 0)] (.c (.bool (x.name==n))) (fY n):=by
 unfold Fg
 refine fH func295 fun C hC=>?_
 refine zA o0 ?_
 refine xB fun g1 ah=>?_
 refine zA ah ?_
 refine QS (h':=[(g,fY n)]) rfl sL fun R r=>?_;simp only[go_sem,ah];refine r _ rfl ?_;clear r R
 exact⟨rfl,rfl⟩
theorem Qm3 (g:Nat) (n:BS) (l:List X7) (hl:l.length≤1099511627776):Fg prog 294 g (fY n) [.c (gS true l),.c (jz 295 [g])] (.c (.int .i64 (Xj (fun x=>x.name==n) l))) (fY n):=by
 unfold Fg
 refine fH func294 fun C hC=>?_
 refine zA o0 ?_
 refine Qh (fun i:Nat=>[(0,.c (gS true l)),(1,.c (jz 295 [g])),(4,.c (.int .i64 0)),(7,.c (.int .i64 l.length)),(8,.c (.int .i64 i))]) (fun _=>[(g,fY n)]) (fun i=>i≤l.length∧∀j,j<i→((fun x:X7=>x.name==n) (l.getD j bn))=false) (fun i=>l.length-i) 0 eB zZ ⟨Lz _,fun j hj=>absurd hj om⟩ ?_
 rintro i ⟨hi,hn⟩
 repeat' first|refine zV o0 ?_|refine zH o0 ?_ ?_<;>intro hb|fail
 ·have hi':=hb
  have hf:=Qm2 g n (l.getD i bn)
  refine O7 (args:=[.agg (OD (l.getD i bn))]) hf rfl rfl rfl eE eE eL ?_
  refine xS ?_
  repeat' first|refine zV o0 ?_|refine zH o0 ?_ ?_<;>intro hb|fail
  ·rw [YV (p:=fun x:X7=>x.name==n) bn hi' (by simpa using hb) hn]
   refine xU ?_
   exact⟨rfl,rfl⟩
  ·refine Qb ⟨i+1,?_⟩
   have cb:∀j,j<i+1→((fun x:X7=>x.name==n) (l.getD j bn))=false:=fun j hj=>by
    by_cases e:j=i
    ·subst e;simpa using hb
    ·exact hn j om
   and_intros
   all_goals first|rfl|exact Lr _|exact True.intro|exact cb|omega
 ·have hf:Xj (fun x=>x.name==n) l= -1:=Zy bn (fun j hj=>hn j om)
  rw [hf]
  refine xU ?_
  exact⟨rfl,rfl⟩
theorem ZJ (m:Qz) (n:BS) (hl:m.events.length≤1099511627776):Fa prog 186 [.agg (Xo true m),.c (.str (sB n))] (.c (.int .i64 (Xj (fun x=>x.name==n) m.events))):=by
 refine fA func186 fun C hC=>?_
 refine zA o0 ?_
 refine xB fun g1 ah=>?_
 refine zA ah ?_
 refine yB ah fun g2 aq=>?_
 refine zA (oj ah aq) ?_
 refine ZH (gs:=[g2]) rfl rfl rfl (zE (oj ah aq)) ?_
 have J1:=oj ah aq
 refine yS J1 ?_
 have hf:=Qm3 g2 n m.events hl
 refine Zg J1 hf ?_
 refine yT hC J1 ?_
 exact .one (.c (.int _ _))
theorem Qm4 (g:Nat) (n:BS) (x:Vq):Fg prog 297 g (fY n) [.agg (kr x),.c (.aj g 0)] (.c (.bool (x.name==n))) (fY n):=by
 unfold Fg
 refine fH func297 fun C hC=>?_
 refine zA o0 ?_
 refine xB fun g1 ah=>?_
 refine zA ah ?_
 refine QS (h':=[(g,fY n)]) rfl sL fun R r=>?_;simp only[go_sem,ah];refine r _ rfl ?_;clear r R
 exact⟨rfl,rfl⟩
theorem Qm5 (g:Nat) (n:BS) (l:List Vq) (hl:l.length≤1099511627776):Fg prog 296 g (fY n) [.c (jb true l),.c (jz 297 [g])] (.c (.int .i64 (Xj (fun x=>x.name==n) l))) (fY n):=by
 unfold Fg
 refine fH func296 fun C hC=>?_
 refine zA o0 ?_
 refine Qh (fun i:Nat=>[(0,.c (jb true l)),(1,.c (jz 297 [g])),(4,.c (.int .i64 0)),(7,.c (.int .i64 l.length)),(8,.c (.int .i64 i))]) (fun _=>[(g,fY n)]) (fun i=>i≤l.length∧∀j,j<i→((fun x:Vq=>x.name==n) (l.getD j bw))=false) (fun i=>l.length-i) 0 eB zZ ⟨Lz _,fun j hj=>absurd hj om⟩ ?_
 rintro i ⟨hi,hn⟩
 repeat' first|refine zV o0 ?_|refine zH o0 ?_ ?_<;>intro hb|fail
 ·have hi':=hb
  have hf:=Qm4 g n (l.getD i bw)
  refine O7 (args:=[.agg (kr (l.getD i bw))]) hf rfl rfl rfl eE eE eL ?_
  refine xS ?_
  repeat' first|refine zV o0 ?_|refine zH o0 ?_ ?_<;>intro hb|fail
  ·rw [YV (p:=fun x:Vq=>x.name==n) bw hi' (by simpa using hb) hn]
   refine xU ?_
   exact⟨rfl,rfl⟩
  ·refine Qb ⟨i+1,?_⟩
   have cb:∀j,j<i+1→((fun x:Vq=>x.name==n) (l.getD j bw))=false:=fun j hj=>by
    by_cases e:j=i
    ·subst e;simpa using hb
    ·exact hn j om
   and_intros
   all_goals first|rfl|exact Lr _|exact True.intro|exact cb|omega
 ·have hf:Xj (fun x=>x.name==n) l= -1:=Zy bw (fun j hj=>hn j om)
  rw [hf]
  refine xU ?_
  exact⟨rfl,rfl⟩
theorem W3 (m:Qz) (n:BS) (hl:m.af.length≤1099511627776):Fa prog 189 [.agg (Xo true m),.c (.str (sB n))] (.c (.int .i64 (Xj (fun x=>x.name==n) m.af))):=by
 refine fA func189 fun C hC=>?_
 refine zA o0 ?_
 refine xB fun g1 ah=>?_
 refine zA ah ?_
 refine yB ah fun g2 aq=>?_
 refine zA (oj ah aq) ?_
 refine ZH (gs:=[g2]) rfl rfl rfl (zE (oj ah aq)) ?_
 have J1:=oj ah aq
 refine yS J1 ?_
 have hf:=Qm5 g2 n m.af hl
 refine Zg J1 hf ?_
 refine yT hC J1 ?_
 exact .one (.c (.int _ _))
theorem Qpx (g:Nat) (n:BS) (x:YT):Fg prog 299 g (fY n) [.agg (iO x),.c (.aj g 0)] (.c (.bool (x.name==n))) (fY n):=by
 unfold Fg
 refine fH func299 fun C hC=>?_
 refine zA o0 ?_
 refine xB fun g1 ah=>?_
 refine zA ah ?_
 refine QS (h':=[(g,fY n)]) rfl sL fun R r=>?_;simp only[go_sem,ah];refine r _ rfl ?_;clear r R
 exact⟨rfl,rfl⟩
theorem Qpy (g:Nat) (n:BS) (l:List YT) (hl:l.length≤1099511627776):Fg prog 298 g (fY n) [.c (ir true l),.c (jz 299 [g])] (.c (.int .i64 (Xj (fun x=>x.name==n) l))) (fY n):=by
 unfold Fg
 refine fH func298 fun C hC=>?_
 refine zA o0 ?_
 refine Qh (fun i:Nat=>[(0,.c (ir true l)),(1,.c (jz 299 [g])),(4,.c (.int .i64 0)),(7,.c (.int .i64 l.length)),(8,.c (.int .i64 i))]) (fun _=>[(g,fY n)]) (fun i=>i≤l.length∧∀j,j<i→((fun x:YT=>x.name==n) (l.getD j bj))=false) (fun i=>l.length-i) 0 eB zZ ⟨Lz _,fun j hj=>absurd hj om⟩ ?_
 rintro i ⟨hi,hn⟩
 repeat' first|refine zV o0 ?_|refine zH o0 ?_ ?_<;>intro hb|fail
 ·have hi':=hb
  have hf:=Qpx g n (l.getD i bj)
  refine O7 (args:=[.agg (iO (l.getD i bj))]) hf rfl rfl rfl eE eE eL ?_
  refine xS ?_
  repeat' first|refine zV o0 ?_|refine zH o0 ?_ ?_<;>intro hb|fail
  ·rw [YV (p:=fun x:YT=>x.name==n) bj hi' (by simpa using hb) hn]
   refine xU ?_
   exact⟨rfl,rfl⟩
  ·refine Qb ⟨i+1,?_⟩
   have cb:∀j,j<i+1→((fun x:YT=>x.name==n) (l.getD j bj))=false:=fun j hj=>by
    by_cases e:j=i
    ·subst e;simpa using hb
    ·exact hn j om
   and_intros
   all_goals first|rfl|exact Lr _|exact True.intro|exact cb|omega
 ·have hf:Xj (fun x=>x.name==n) l= -1:=Zy bj (fun j hj=>hn j om)
  rw [hf]
  refine xU ?_
  exact⟨rfl,rfl⟩
theorem Cv (m:Qz) (n:BS) (hl:m.aa.length≤1099511627776):Fa prog 190 [.agg (Xo true m),.c (.str (sB n))] (.c (.int .i64 (Xj (fun x=>x.name==n) m.aa))):=by
 refine fA func190 fun C hC=>?_
 refine zA o0 ?_
 refine xB fun g1 ah=>?_
 refine zA ah ?_
 refine yB ah fun g2 aq=>?_
 refine zA (oj ah aq) ?_
 refine ZH (gs:=[g2]) rfl rfl rfl (zE (oj ah aq)) ?_
 have J1:=oj ah aq
 refine yS J1 ?_
 have hf:=Qpy g2 n m.aa hl
 refine Zg J1 hf ?_
 refine yT hC J1 ?_
 exact .one (.c (.int _ _))
theorem Qpz (g:Nat) (n:BS) (x:Xk):Fg prog 301 g (fY n) [.agg (Zi x),.c (.aj g 0)] (.c (.bool (x.name==n))) (fY n):=by
 unfold Fg
 refine fH func301 fun C hC=>?_
 refine zA o0 ?_
 refine xB fun g1 ah=>?_
 refine zA ah ?_
 refine QS (h':=[(g,fY n)]) rfl sL fun R r=>?_;simp only[go_sem,ah];refine r _ rfl ?_;clear r R
 exact⟨rfl,rfl⟩
theorem QpA (g:Nat) (n:BS) (l:List Xk) (hl:l.length≤1099511627776):Fg prog 300 g (fY n) [.c (ca true l),.c (jz 301 [g])] (.c (.int .i64 (Xj (fun x=>x.name==n) l))) (fY n):=by
 unfold Fg
 refine fH func300 fun C hC=>?_
 refine zA o0 ?_
 refine Qh (fun i:Nat=>[(0,.c (ca true l)),(1,.c (jz 301 [g])),(4,.c (.int .i64 0)),(7,.c (.int .i64 l.length)),(8,.c (.int .i64 i))]) (fun _=>[(g,fY n)]) (fun i=>i≤l.length∧∀j,j<i→((fun x:Xk=>x.name==n) (l.getD j aU))=false) (fun i=>l.length-i) 0 eB zZ ⟨Lz _,fun j hj=>absurd hj om⟩ ?_
 rintro i ⟨hi,hn⟩
 repeat' first|refine zV o0 ?_|refine zH o0 ?_ ?_<;>intro hb|fail
 ·have hi':=hb
  have hf:=Qpz g n (l.getD i aU)
  refine O7 (args:=[.agg (Zi (l.getD i aU))]) hf rfl rfl rfl eE eE eL ?_
  refine xS ?_
  repeat' first|refine zV o0 ?_|refine zH o0 ?_ ?_<;>intro hb|fail
  ·rw [YV (p:=fun x:Xk=>x.name==n) aU hi' (by simpa using hb) hn]
   refine xU ?_
   exact⟨rfl,rfl⟩
  ·refine Qb ⟨i+1,?_⟩
   have cb:∀j,j<i+1→((fun x:Xk=>x.name==n) (l.getD j aU))=false:=fun j hj=>by
    by_cases e:j=i
    ·subst e;simpa using hb
    ·exact hn j om
   and_intros
   all_goals first|rfl|exact Lr _|exact True.intro|exact cb|omega
 ·have hf:Xj (fun x=>x.name==n) l= -1:=Zy aU (fun j hj=>hn j om)
  rw [hf]
  refine xU ?_
  exact⟨rfl,rfl⟩
theorem uc (l:List Xk) (n:BS) (hl:l.length≤1099511627776):Fa prog 192 [.c (ca true l),.c (.str (sB n))] (.c (.int .i64 (fg l n))):=by
 refine fA func192 fun C hC=>?_
 refine zA o0 ?_
 refine xB fun g2 aq=>?_
 refine zA aq ?_
 refine ZH (gs:=[g2]) rfl rfl rfl (zE aq) ?_
 refine yS aq ?_
 have hf:=QpA g2 n l hl
 refine Zg aq hf ?_
 refine yT hC aq ?_
 exact .one (.c (.int _ _))
end Go.Proofs.YtjegkdadeghpjaaGreatDoor
namespace Go.Proofs.YtjegkdadeghpjaaGreatDoor
open Go.AI Go.PN Proofs.Tryz
attribute [local irreducible] aw Fa VA Vk Fh YO
theorem L6 (r:RD) (hw:r.wf 1073741824):Fa prog 188 [.agg (YS r)] (.c (.bool (OK r))):=by
 have f1:=Bi r (hw.mono Af)
 have f2:=H4 r hw
 unfold OK
 refine fA func188 fun C hC=>?_
 refine zA o0 ?_
 refine xB fun g1 ah=>?_
 repeat' first|refine zV ah ?_|refine yQ ah f1 ?_|refine yQ ah f2 ?_|refine zH ah ?_ ?_<;>intro hb|fail
 all_goals
  refine yT hC ah ?_
  refine .one (.c (Qe ?_))
  simp [hb]
theorem Qsd (x:Xk) (j:Nat) (hj:j≤1099511627776):Fa prog 194 [.agg (Zi x),.c (.int .i64 j)] (.c (.bool (V5 x j))):=by
 unfold V5
 refine fA func194 fun C hC=>?_
 refine zA o0 ?_
 refine xB fun g1 ah=>?_
 repeat' first|refine zV ah ?_|refine zH ah ?_ ?_<;>intro hb|fail
 all_goals
  refine yT hC ah ?_
  refine .one (.c (Qe ?_))
  simp_all
theorem Qse (k:Int) (n:Nat) (hn:n≤1099511627776):Fa prog 302 [.c (.int .i64 k),.c (.int .i64 n)] (.c (.bool (ot k n))):=by
 unfold ot
 refine fA func302 fun C hC=>?_
 repeat' first|refine zV o0 ?_|refine zH o0 ?_ ?_<;>intro hb|fail
 all_goals first
  |(exfalso;omega)
  |(refine xT hC ?_
    refine .one (.c (Qe ?_))
    simp_all<;>omega)
theorem QpB (r:RD) (hw:r.wf 1073741824):Fa prog 303 [.agg (YS r)] (.c (.bool (n9 r))):=by
 unfold n9
 obtain⟨w1,w2⟩:r.num.length≤1073741824∧r.den.length≤1073741824:=⟨hw.2.2.1,hw.2.2.2⟩
 refine fA func303 fun C hC=>?_
 refine zA o0 ?_
 refine xB fun g1 ah=>?_
 repeat' first|refine zV ah ?_|refine zH ah ?_ ?_<;>intro hb|fail
 all_goals
  refine yT hC ah ?_
  refine .one (.c (Qe ?_))
  simp_all
theorem Vv (m:Qz) (k:Nat) (hk:k≤m.aa.length) (hl:m.aa.length≤1099511627776):Fa prog 191 [.agg (Xo true m),.c (.int .i64 ((k:Int)-1))] (.c (ca true (Qt m k))):=by
 refine fA func191 fun C hC=>?_
 refine zA o0 ?_
 refine xB fun g1 ah=>?_
 repeat' first|refine zV ah ?_|refine zH ah ?_ ?_<;>intro hb|fail
 ·have h0:k=0:=by omega
  subst h0
  refine yT hC ah ?_
  exact .one (.c JM)
 ·obtain⟨j,rfl⟩:∃j,k=j+1:=⟨k-1,by omega⟩
  refine yT hC ah ?_
  exact .one (.c JM)
theorem QG {h:Qa} {T:TypeId} {n c:Int} (e:c=n) (h0:n≠0):JU h (.eZ T (.int .i64 n)) (Ux T c):=Uy e.symm (by rw [e];exact h0)
theorem Hr (n:BS):∀l:List BS,decide (Xj (fun x=>n==x) l≥0)=l.contains n
 |[]=>rfl
 |x::l=>by
  have ih:=Hr n l
  rw [List.contains_cons,←ih]
  have hg:=xb (fun x=>n==x) l
  show decide ((if(n==x)=true then(0:Int) else if Xj (fun x=>n==x) l<0 then-1 else Xj (fun x=>n==x) l+1)≥0)=(n==x||decide (Xj (fun x=>n==x) l≥0))
  cases h:(n==x) with
  |true=>rfl
  |false=>
   rw [iN (by simp),Bool.false_or]
   by_cases h2:Xj (fun x=>n==x) l<0
   ·have a:¬Xj (fun x=>n==x) l≥0:=by omega
    rw [iP h2,De a];rfl
   ·have a:Xj (fun x=>n==x) l≥0:=by omega
    have b:Xj (fun x=>n==x) l+1≥0:=by omega
    rw [iN h2,Dt a,Dt b]
theorem SB (x:Xk) (hw:x.aH.wf 1073741824) (hl:x.ak.length≤1099511627776):Fa prog 193 [.agg (Zi x)] (.c (Z7 (UI x))):=by
 have f1:=Qse x.kind x.ak.length hl
 have f2:=wH x.aH hw
 have f3:=QpB x.aH hw
 refine fA func193 fun C hC=>?_
 refine zA o0 ?_
 refine xB fun g1 ah=>?_
 repeat' first|refine zV ah ?_|refine yQ ah f1 ?_|refine yQ ah f2 ?_|refine yQ ah f3 ?_|refine zH ah ?_ ?_<;>intro hb|fail
 all_goals first
  |(exfalso;omega)
  |(refine yT hC ah ?_
    first
     |(refine .one (.c (QG (c:=UI x) ?_ Af))
       unfold UI
       repeat' split
       all_goals exact Ah)
     |(refine .one (.c (ZF (c:=UI x) ?_))
       unfold UI
       repeat' split
       all_goals exact Ah))
structure gZ (m:Qz):Prop where
 ev:m.events.length≤1099511627776
 hs:m.af.length≤1099511627776
 gt:m.an.length≤1099511627776
 pg:m.aa.length≤1099511627776
 pgt:∀p∈m.aa,p.an.length≤1099511627776
theorem O8 (m:Qz) (k:Nat) (n:BS) (hk:k≤m.aa.length) (hm:gZ m) (hg:(Qt m k).length≤1099511627776) (hn:n.length≤1099511627776):Fa prog 122 [.agg (Xo true m),.c (.int .i64 ((k:Int)-1)),.c (.str (sB n))] (.c (.bool (Yg m k n))):=by
 have f1:=ZJ m n hm.ev
 have f2:=W3 m n hm.hs
 have f3:=Cv m (Vn n 1 n.length) hm.pg
 have f4:=Vv m k hk hm.pg
 have f5:=uc (Qt m k) n hg
 refine fA func122 fun C hC=>?_
 refine zA o0 ?_
 refine xB fun g1 ah=>?_
 repeat' first|refine zV ah ?_|refine yQ ah f1 ?_|refine yQ ah f2 ?_|refine yQ ah f3 ?_|refine yQ ah f4 ?_|refine yQ ah f5 ?_|refine zH ah ?_ ?_<;>intro hb|fail
 ·rename_i h0
  refine Xl 6 Qg kR ?_
  refine Zg ah f3 ?_
  rw [VG]
  rw [show Yg m k n=decide (O5 m (n.drop 1)≥0) from iP ⟨h0,hb⟩]
  refine yT hC ah ?_
  exact .one (.c (.bool _))
 all_goals
  clear f1 f2 f3 f4 f5
  refine yT hC ah ?_
  refine .one (.c (Qe ?_))
  unfold Yg Vt ey
  simp_all<;>omega
theorem R6 (m:Qz) (hm:gZ m) (hw:NV m):Fa prog 118 [.agg (Xo true m)] (.c (Z7 (Jw m))):=by
 refine fA func118 fun C hC=>?_
 refine zA o0 ?_
 refine xB fun g1 ah=>?_
 repeat' first|refine zV ah ?_|refine zH ah ?_ ?_<;>intro hb|fail
 ·refine yT hC ah ?_
  exact .one (.c (QG (by unfold Jw;rw [iP om]) Af))
 have he:¬m.events.length>24:=by omega
 generalize hF:XU (jl m) m.events 0=F
 have jW:=hm.ev
 have gV:=hm.hs
 refine Qh (fun i:Nat=>[(1,.c (.aj g1 0)),(2,.c .aN),(13,.c (gS true m.events)),(14,.c (.int .i64 m.events.length)),(15,.c (.int .i64 i))]) (fun _=>[(g1,.cells 45 8 (ao (Xo true m)))]) (fun i=>i≤m.events.length∧XU (jl m) (m.events.drop i) i=F) (fun i=>m.events.length-i) 0 (zB ah) zZ ⟨Lz _,hF⟩ ?_
 rintro i ⟨hi,aB⟩
 repeat' first|refine zV ah ?_|refine zH ah ?_ ?_<;>intro hb|fail
 ·obtain⟨w0,w1,w2,w3⟩:=hw.ev i
  have hi':=hb
  have hR:∀c,jl m i (m.events.getD i bn)=c→c≠0→Jw m=c:=fun c hc h0=>by
   have:=Zk aB hi' hc h0
   unfold Jw Z2
   rw [iN he,hF,this,iN h0]
  have hG:=Vi (d:=bn) aB hi'
  generalize hx:m.events.getD i bn=x at*
  have f1:Fa prog 117 [.c (.str (sB x.name))] (.c (.bool (QD x.name))):=Jh x.name w0
  have f2:=ZJ m x.name jW
  have f3:=wH x.p w1
  have f4:=L6 x.fail w2
  have f5:=L6 x.rep w3
  refine yA ah fun g4 aC=>?_
  all_goals try(have Z:=(oj ah aC);(repeat' first|refine zV Z ?_|refine yQ Z f1 ?_|refine yQ Z f2 ?_|refine yQ Z f3 ?_|refine yQ Z f4 ?_|refine yQ Z f5 ?_|refine zH Z ?_ ?_<;>intro hb|fail);all_goals clear Z)
  all_goals clear f1 f2 f3 f4 f5
  all_goals first
   |(refine yT hC (oj ah aC) ?_
     refine .one (.c (QG (c:=Jw m) (hR _ ?_ Af) Af))
     clear hR hG aB hF hx
     unfold jl Vt
     repeat' split
     all_goals exact Ah)
   |(refine Qb ⟨i+1,?_⟩
     have hz:jl m i x=0:=by
      clear hR hG aB hF hx
      unfold jl Vt
      repeat' split
      all_goals exact Ah
     and_intros
     all_goals first|rfl|exact Lr _|exact Ls _ _|exact True.intro|exact hG hz|omega)
 ·rename_i cA
  have bU:=YK aB cA
  subst bU
  refine yT hC ah ?_
  refine .one (.c (QG (c:=Jw m) ?_ Af))
  unfold Jw Z2
  rw [iN he,hF,iP rfl,iP om]
 rename_i cA
 have bU:=YK aB cA
 subst bU
 have hh:¬m.af.length>16:=by omega
 have ef:Jw m=XU (iL m) m.af 0:=by
  unfold Jw Z2
  rw [iN he,hF,iP rfl,iN hh]
 clear aB cA hi hF
 generalize hF:XU (iL m) m.af 0=F at ef
 refine Qh (fun i:Nat=>[(1,.c (.aj g1 0)),(2,.c .aN),(69,.c (jb true m.af)),(70,.c (.int .i64 m.af.length)),(71,.c (.int .i64 i))]) (fun _=>[(g1,.cells 45 8 (ao (Xo true m)))]) (fun i=>i≤m.af.length∧XU (iL m) (m.af.drop i) i=F) (fun i=>m.af.length-i) 0 (zB ah) zZ ⟨Lz _,hF⟩ ?_
 rintro i ⟨hi,aB⟩
 repeat' first|refine zV ah ?_|refine zH ah ?_ ?_<;>intro hb|fail
 ·have w0:=hw.hs i
  have hi':=hb
  have hR:∀c,iL m i (m.af.getD i bw)=c→c≠0→Jw m=c:=fun c hc h0=>by
   rw [ef];exact Zk aB hi' hc h0
  have hG:=Vi (d:=bw) aB hi'
  generalize hx:m.af.getD i bw=x at*
  have f1:Fa prog 117 [.c (.str (sB x.name))] (.c (.bool (QD x.name))):=Jh x.name w0
  have f2:=ZJ m x.name jW
  have f3:=W3 m x.name gV
  refine yA ah fun g4 aC=>?_
  all_goals try(have Z:=(oj ah aC);(repeat' first|refine zV Z ?_|refine yQ Z f1 ?_|refine yQ Z f2 ?_|refine yQ Z f3 ?_|refine zH Z ?_ ?_<;>intro hb|fail);all_goals clear Z)
  all_goals clear f1 f2 f3
  all_goals first
   |(refine yT hC (oj ah aC) ?_
     refine .one (.c (QG (c:=Jw m) (hR _ ?_ Af) Af))
     clear hR hG aB hF hx
     unfold iL Vt ey
     repeat' split
     all_goals exact Ah)
   |(refine Qb ⟨i+1,?_⟩
     have hz:iL m i x=0:=by
      clear hR hG aB hF hx
      unfold iL Vt ey
      repeat' split
      all_goals exact Ah
     and_intros
     all_goals first|rfl|exact Lr _|exact Ls _ _|exact True.intro|exact hG hz|omega)
 ·have bU:=YK aB hb
  subst bU
  refine yT hC ah ?_
  exact .one (.c (ZF ef))
theorem Sc (m:Qz) (hm:gZ m) (hw:pj m):Fa prog 119 [.agg (Xo true m)] (.c (Z7 (Jx m))):=by
 have bY:=hw.gl
 have dJ:=hw.pl
 have hP:∀i,i≤m.aa.length→lX (m.aa.take i)≤1099511627776:=fun i hi=>by
  have h1:∀j,((m.aa.take i).getD j bj).an.length≤1048576:=fun j=>by
   by_cases hj:j<i
   ·have:=(hw.pg j).2
    rw [Lg,List.getElem?_take_of_lt hj,←Lg];exact this
   ·rw [Lg,List.getElem?_take_eq_none om];exact Lz _
  have h2:=Nl h1
  rw [List.length_take] at h2
  have:min i m.aa.length≤1048576:=by omega
  calc _≤_:=h2
   _≤1048576*1048576:=Nm _ this
 refine fA func119 fun C hC=>?_
 refine zA o0 ?_
 refine xB fun g1 ah=>?_
 refine zA ah ?_
 refine Qh (fun i:Nat=>[(1,.c (.aj g1 0)),(2,.c .aN),(3,.c (.int .i64 ((m.an.length+lX (m.aa.take i):Nat):Int))),(12,.c (ir true m.aa)),(13,.c (.int .i64 m.aa.length)),(14,.c (.int .i64 i))]) (fun _=>[(g1,.cells 45 8 (ao (Xo true m)))]) (fun i=>i≤m.aa.length) (fun i=>m.aa.length-i) 0 (zB ah) zZ (Lz _) ?_
 rintro i hi
 have hPi:=hP i hi
 repeat' first|refine zV ah ?_|refine zH ah ?_ ?_<;>intro hb|fail
 ·have hi':=hb
  have zd:=hP (i+1) hi'
  have ht:=Hq hi'
  have zx:=(hw.pg i).2
  refine yA ah fun g4 aC=>?_
  refine zA (oj ah aC) ?_
  refine Qb ⟨i+1,?_⟩
  and_intros
  all_goals first|rfl|exact Lr _|exact Ls _ _|exact True.intro|exact Ul om|omega
 ·rename_i cA
  refine yT hC ah ?_
  exact .one (.c (QG (by unfold Jx;rw [iP (.inl om)]) Af))
 ·rename_i h8 cA
  have jc:m.aa.take i=m.aa:=Ly om
  rw [jc] at hb
  have hg:pI m>64:=by
   show m.an.length+lX m.aa>64
   omega
  refine yT hC ah ?_
  exact .one (.c (QG (by unfold Jx;rw [iP (.inr hg)]) Af))
 rename_i h8 cA
 have jc:m.aa.take i=m.aa:=Ly om
 rw [jc] at hb
 have hg:¬pI m>64:=by
  show¬m.an.length+lX m.aa>64
  omega
 have ef:Jx m=XU (jt m) m.aa 0:=by
  unfold Jx
  rw [iN (fun z=>z.elim om hg)]
 generalize hF:XU (jt m) m.aa 0=F at ef
 refine Qh (fun i:Nat=>[(1,.c (.aj g1 0)),(2,.c .aN),(34,.c (ir true m.aa)),(35,.c (.int .i64 m.aa.length)),(36,.c (.int .i64 i))]) (fun _=>[(g1,.cells 45 8 (ao (Xo true m)))]) (fun i=>i≤m.aa.length∧XU (jt m) (m.aa.drop i) i=F) (fun i=>m.aa.length-i) 0 (zB ah) zZ ⟨Lz _,hF⟩ ?_
 rintro i ⟨hi,aB⟩
 repeat' first|refine zV ah ?_|refine zH ah ?_ ?_<;>intro hb|fail
 ·obtain⟨w0,_⟩:=hw.pg i
  have hi':=hb
  have hR:∀c,jt m i (m.aa.getD i bj)=c→c≠0→Jx m=c:=fun c hc h0=>by
   rw [ef];exact Zk aB hi' hc h0
  have hG:=Vi (d:=bj) aB hi'
  generalize hx:m.aa.getD i bj=x at*
  have f1:Fa prog 117 [.c (.str (sB x.name))] (.c (.bool (QD x.name))):=Jh x.name w0
  have f2:=Cv m x.name hm.pg
  refine yA ah fun g4 aC=>?_
  all_goals try(have Z:=(oj ah aC);(repeat' first|refine zV Z ?_|refine yQ Z f1 ?_|refine yQ Z f2 ?_|refine zH Z ?_ ?_<;>intro hb|fail);all_goals clear Z)
  all_goals clear f1 f2
  all_goals first
   |(refine yT hC (oj ah aC) ?_
     refine .one (.c (QG (c:=Jx m) (hR _ ?_ Af) Af))
     clear hR hG aB hF hx
     unfold jt O5
     repeat' split
     all_goals exact Ah)
   |(refine Qb ⟨i+1,?_⟩
     have hz:jt m i x=0:=by
      clear hR hG aB hF hx
      unfold jt O5
      repeat' split
      all_goals exact Ah
     and_intros
     all_goals first|rfl|exact Lr _|exact Ls _ _|exact True.intro|exact hG hz|omega)
 ·have bU:=YK aB hb
  subst bU
  refine yT hC ah ?_
  exact .one (.c (ZF ef))
theorem Sd (m:Qz) (k:Nat) (hk:k≤m.aa.length) (hm:gZ m) (hw:pj m):Fa prog 120 [.agg (Xo true m),.c (.int .i64 ((k:Int)-1))] (.c (Z7 (UJ m k))):=by
 have Eg:=Kx hw k
 have f0:=Vv m k hk hm.pg
 refine fA func120 fun C hC=>?_
 refine zA o0 ?_
 refine xB fun g1 ah=>?_
 refine Zg ah f0 ?_
 have ef:UJ m k=XU (fU m k) (Qt m k) 0:=rfl
 generalize hF:XU (fU m k) (Qt m k) 0=F at ef
 generalize hL:Qt m k=L at*
 refine Qh (fun i:Nat=>[(1,.c (.int .i64 ((k:Int)-1))),(2,.c (.aj g1 0)),(4,.c .aN),(5,.c (ca true L)),(12,.c (ca true L)),(13,.c (.int .i64 L.length)),(14,.c (.int .i64 i))]) (fun _=>[(g1,.cells 45 8 (ao (Xo true m)))]) (fun i=>i≤L.length∧XU (fU m k) (L.drop i) i=F) (fun i=>L.length-i) 0 (zB ah) zZ ⟨Lz _,hF⟩ ?_
 rintro i ⟨hi,aB⟩
 repeat' first|refine zV ah ?_|refine zH ah ?_ ?_<;>intro hb|fail
 ·obtain⟨w0,w1,w2⟩:=hw.gt k i
  rw [hL] at w0 w1 w2
  have hi':=hb
  have hR:∀c,fU m k i (L.getD i aU)=c→c≠0→UJ m k=c:=fun c hc h0=>by
   rw [ef];exact Zk aB hi' hc h0
  have hG:=Vi (d:=aU) aB hi'
  generalize hx:L.getD i aU=x at*
  have f1:Fa prog 117 [.c (.str (sB x.name))] (.c (.bool (QD x.name))):=Jh x.name w0
  have f2:=ZJ m x.name hm.ev
  have f3:=W3 m x.name hm.hs
  have f4:=uc L x.name om
  have f5:=SB x w1 w2
  refine yA ah fun g4 aC=>?_
  all_goals try(have Z:=(oj ah aC);(repeat' first|refine zV Z ?_|refine yQ Z f1 ?_|refine yQ Z f2 ?_|refine yQ Z f3 ?_|refine yQ Z f4 ?_|refine yQ Z f5 ?_|refine zH Z ?_ ?_<;>intro hb|fail);all_goals clear Z)
  all_goals clear f1 f2 f3 f4 f5
  all_goals first
   |(refine yT hC (oj ah aC) ?_
     refine .one (.c (QG (c:=UJ m k) (hR _ ?_ Af) Af))
     clear hR hG aB hF hx
     unfold fU Vt ey
     repeat' split
     all_goals exact Ah)
   |(refine Qb ⟨i+1,?_⟩
     have hz:fU m k i x=0:=by
      clear hR hG aB hF hx
      unfold fU Vt ey
      repeat' split
      all_goals first|rfl|(exfalso;simp_all;done)|(exfalso;simp_all;omega)|simp_all
     and_intros
     all_goals first|rfl|exact Lr _|exact Ls _ _|exact True.intro|exact hG hz|omega)
   |(have h0:UI x≠0:=by simpa using hb
     have hz:fU m k i x=UI x:=by
      clear hR hG aB hF hx
      unfold fU Vt ey
      repeat' split
      all_goals exact Ah
     refine yT hC (oj ah aC) ?_
     rw [hR (UI x) hz h0]
     exact .one (.c ZT))
 ·have bU:=YK aB hb
  subst bU
  refine yT hC ah ?_
  exact .one (.c (ZF ef))
theorem Quq (g:Nat) (y x:YU):Fg prog 197 g (.cells 108 4 (ao (UF y))) [.agg (UF x),.c (.aj g 0)] (.c (.bool (x.name==y.name))) (.cells 108 4 (ao (UF y))):=by
 unfold Fg
 refine fH func197 fun C hC=>?_
 refine zA o0 ?_
 refine xB fun g1 ah=>?_
 refine zA ah ?_
 refine QS (h':=[(g,(.cells 108 4 (ao (UF y))))]) rfl sL fun R r=>?_;simp only[go_sem,ah];refine r _ rfl ?_;clear r R
 exact⟨rfl,rfl⟩
theorem Qur (g:Nat) (y:YU) (l:List YU) (hl:l.length≤1099511627776):Fg prog 196 g (.cells 108 4 (ao (UF y))) [.c (fB true l),.c (jz 197 [g])] (.c (.int .i64 (Xj (fun x=>x.name==y.name) l))) (.cells 108 4 (ao (UF y))):=by
 unfold Fg
 refine fH func196 fun C hC=>?_
 refine zA o0 ?_
 refine Qh (fun i:Nat=>[(0,.c (fB true l)),(1,.c (jz 197 [g])),(4,.c (.int .i64 0)),(7,.c (.int .i64 l.length)),(8,.c (.int .i64 i))]) (fun _=>[(g,(.cells 108 4 (ao (UF y))))]) (fun i=>i≤l.length∧∀j,j<i→((fun x:YU=>x.name==y.name) (l.getD j bJ))=false) (fun i=>l.length-i) 0 eB zZ ⟨Lz _,fun j hj=>absurd hj om⟩ ?_
 rintro i ⟨hi,hn⟩
 repeat' first|refine zV o0 ?_|refine zH o0 ?_ ?_<;>intro hb|fail
 ·have hi':=hb
  have hf:=Quq g y (l.getD i bJ)
  refine O7 (args:=[.agg (UF (l.getD i bJ))]) hf rfl rfl rfl eE eE eL ?_
  refine xS ?_
  repeat' first|refine zV o0 ?_|refine zH o0 ?_ ?_<;>intro hb|fail
  ·rw [YV (p:=fun x:YU=>x.name==y.name) bJ hi' (by simpa using hb) hn]
   refine xU ?_
   exact⟨rfl,rfl⟩
  ·refine Qb ⟨i+1,?_⟩
   have cb:∀j,j<i+1→((fun x:YU=>x.name==y.name) (l.getD j bJ))=false:=fun j hj=>by
    by_cases e:j=i
    ·subst e;simpa using hb
    ·exact hn j om
   and_intros
   all_goals first|rfl|exact Lr _|exact True.intro|exact cb|omega
 ·have hf:Xj (fun x=>x.name==y.name) l= -1:=Zy bJ (fun j hj=>hn j om)
  rw [hf]
  refine xU ?_
  exact⟨rfl,rfl⟩
theorem Qus (g:Nat) (y x:Ke):Fg prog 201 g (.cells 112 3 (ao (Wr y))) [.agg (Wr x),.c (.aj g 0)] (.c (.bool (x.name==y.name))) (.cells 112 3 (ao (Wr y))):=by
 unfold Fg
 refine fH func201 fun C hC=>?_
 refine zA o0 ?_
 refine xB fun g1 ah=>?_
 refine zA ah ?_
 refine QS (h':=[(g,(.cells 112 3 (ao (Wr y))))]) rfl sL fun R r=>?_;simp only[go_sem,ah];refine r _ rfl ?_;clear r R
 exact⟨rfl,rfl⟩
theorem Qut (g:Nat) (y:Ke) (l:List Ke) (hl:l.length≤1099511627776):Fg prog 200 g (.cells 112 3 (ao (Wr y))) [.c (fS true l),.c (jz 201 [g])] (.c (.int .i64 (Xj (fun x=>x.name==y.name) l))) (.cells 112 3 (ao (Wr y))):=by
 unfold Fg
 refine fH func200 fun C hC=>?_
 refine zA o0 ?_
 refine Qh (fun i:Nat=>[(0,.c (fS true l)),(1,.c (jz 201 [g])),(4,.c (.int .i64 0)),(7,.c (.int .i64 l.length)),(8,.c (.int .i64 i))]) (fun _=>[(g,(.cells 112 3 (ao (Wr y))))]) (fun i=>i≤l.length∧∀j,j<i→((fun x:Ke=>x.name==y.name) (l.getD j cd))=false) (fun i=>l.length-i) 0 eB zZ ⟨Lz _,fun j hj=>absurd hj om⟩ ?_
 rintro i ⟨hi,hn⟩
 repeat' first|refine zV o0 ?_|refine zH o0 ?_ ?_<;>intro hb|fail
 ·have hi':=hb
  have hf:=Qus g y (l.getD i cd)
  refine O7 (args:=[.agg (Wr (l.getD i cd))]) hf rfl rfl rfl eE eE eL ?_
  refine xS ?_
  repeat' first|refine zV o0 ?_|refine zH o0 ?_ ?_<;>intro hb|fail
  ·rw [YV (p:=fun x:Ke=>x.name==y.name) cd hi' (by simpa using hb) hn]
   refine xU ?_
   exact⟨rfl,rfl⟩
  ·refine Qb ⟨i+1,?_⟩
   have cb:∀j,j<i+1→((fun x:Ke=>x.name==y.name) (l.getD j cd))=false:=fun j hj=>by
    by_cases e:j=i
    ·subst e;simpa using hb
    ·exact hn j om
   and_intros
   all_goals first|rfl|exact Lr _|exact True.intro|exact cb|omega
 ·have hf:Xj (fun x=>x.name==y.name) l= -1:=Zy cd (fun j hj=>hn j om)
  rw [hf]
  refine xU ?_
  exact⟨rfl,rfl⟩
theorem Quu (g:Nat) (y x:Zh):Fg prog 203 g (.cells 114 4 (ao (O3 y))) [.agg (O3 x),.c (.aj g 0)] (.c (.bool (x.event==y.event))) (.cells 114 4 (ao (O3 y))):=by
 unfold Fg
 refine fH func203 fun C hC=>?_
 refine zA o0 ?_
 refine xB fun g1 ah=>?_
 refine zA ah ?_
 refine QS (h':=[(g,(.cells 114 4 (ao (O3 y))))]) rfl sL fun R r=>?_;simp only[go_sem,ah];refine r _ rfl ?_;clear r R
 exact⟨rfl,rfl⟩
theorem Quv (g:Nat) (y:Zh) (l:List Zh) (hl:l.length≤1099511627776):Fg prog 202 g (.cells 114 4 (ao (O3 y))) [.c (ll true l),.c (jz 203 [g])] (.c (.int .i64 (Xj (fun x=>x.event==y.event) l))) (.cells 114 4 (ao (O3 y))):=by
 unfold Fg
 refine fH func202 fun C hC=>?_
 refine zA o0 ?_
 refine Qh (fun i:Nat=>[(0,.c (ll true l)),(1,.c (jz 203 [g])),(4,.c (.int .i64 0)),(7,.c (.int .i64 l.length)),(8,.c (.int .i64 i))]) (fun _=>[(g,(.cells 114 4 (ao (O3 y))))]) (fun i=>i≤l.length∧∀j,j<i→((fun x:Zh=>x.event==y.event) (l.getD j bE))=false) (fun i=>l.length-i) 0 eB zZ ⟨Lz _,fun j hj=>absurd hj om⟩ ?_
 rintro i ⟨hi,hn⟩
 repeat' first|refine zV o0 ?_|refine zH o0 ?_ ?_<;>intro hb|fail
 ·have hi':=hb
  have hf:=Quu g y (l.getD i bE)
  refine O7 (args:=[.agg (O3 (l.getD i bE))]) hf rfl rfl rfl eE eE eL ?_
  refine xS ?_
  repeat' first|refine zV o0 ?_|refine zH o0 ?_ ?_<;>intro hb|fail
  ·rw [YV (p:=fun x:Zh=>x.event==y.event) bE hi' (by simpa using hb) hn]
   refine xU ?_
   exact⟨rfl,rfl⟩
  ·refine Qb ⟨i+1,?_⟩
   have cb:∀j,j<i+1→((fun x:Zh=>x.event==y.event) (l.getD j bE))=false:=fun j hj=>by
    by_cases e:j=i
    ·subst e;simpa using hb
    ·exact hn j om
   and_intros
   all_goals first|rfl|exact Lr _|exact True.intro|exact cb|omega
 ·have hf:Xj (fun x=>x.event==y.event) l= -1:=Zy bE (fun j hj=>hn j om)
  rw [hf]
  refine xU ?_
  exact⟨rfl,rfl⟩
theorem Qsf (r:RD) (hw:r.wf 1073741824):Fa prog 199 [.agg (YS r)] (.c (.bool (!r.bI))):=by
 have f1:=wH r hw
 refine fA func199 fun C hC=>?_
 refine zA o0 ?_
 refine xB fun g1 ah=>?_
 refine Zg ah f1 ?_
 refine yT hC ah ?_
 exact .one (.c (.bool _))
theorem Qsg (l:List RD) (hl:l.length≤1099511627776) (hw:∀i,(l.getD i aW).wf 1073741824):Fa prog 305 [.c (OB true l),.c (.raw (.func (.func 199) #[] #[]))] (.c (.int .i64 (Xj (fun x=> !x.bI) l))):=by
 refine fA func305 fun C hC=>?_
 refine zA o0 ?_
 refine Qh (fun i:Nat=>[(0,.c (OB true l)),(1,.c (.raw (.func (.func 199) #[] #[]))),(4,.c (.int .i64 0)),(7,.c (.int .i64 l.length)),(8,.c (.int .i64 i))]) (fun _=>[]) (fun i=>i≤l.length∧∀j,j<i→((fun x:RD=> !x.bI) (l.getD j aW))=false) (fun i=>l.length-i) 0 eB zZ ⟨Lz _,fun j hj=>absurd hj om⟩ ?_
 rintro i ⟨hi,hn⟩
 repeat' first|refine zV o0 ?_|refine zH o0 ?_ ?_<;>intro hb|fail
 ·have hi':=hb
  have hf:=Qsf (l.getD i aW) (hw i)
  refine Bk hf rfl rfl rfl eE eL ?_
  refine xS ?_
  repeat' first|refine zV o0 ?_|refine zH o0 ?_ ?_<;>intro hb|fail
  ·rw [YV (p:=fun x:RD=> !x.bI) aW hi' (by simpa using hb) hn]
   refine xT hC ?_
   exact .one (.c (.int _ _))
  ·refine Qb ⟨i+1,?_⟩
   have cb:∀j,j<i+1→((fun x:RD=> !x.bI) (l.getD j aW))=false:=fun j hj=>by
    by_cases e:j=i
    ·subst e;simpa using hb
    ·exact hn j om
   and_intros
   all_goals first|rfl|exact Lr _|exact True.intro|exact cb|omega
 ·have hf:Xj (fun x:RD=> !x.bI) l= -1:=Zy aW (fun j hj=>hn j om)
  rw [hf]
  refine xT hC ?_
  exact .one (.c (.int _ _))
theorem Hs {α:Type} (p:α→Bool):∀l:List α,decide (Xj (fun x=> !p x) l≥0)= !l.all p
 |[]=>rfl
 |x::l=>by
  have ih:=Hs p l
  show decide ((if(!p x)=true then(0:Int) else if Xj (fun x=> !p x) l<0 then-1 else Xj (fun x=> !p x) l+1)≥0)= !(p x&&l.all p)
  cases h:p x with
  |false=>rfl
  |true=>
   rw [iN (by simp),Bool.true_and,←ih]
   by_cases h2:Xj (fun x=> !p x) l<0
   ·have a:¬Xj (fun x=> !p x) l≥0:=by omega
    rw [iP h2,De a];rfl
   ·have a:Xj (fun x=> !p x) l≥0:=by omega
    have b:Xj (fun x=> !p x) l+1≥0:=by omega
    rw [iN h2,Dt a,Dt b]
theorem Qsh (l:List RD) (hl:l.length≤1099511627776) (hw:∀i,(l.getD i aW).wf 1073741824):Fa prog 198 [.c (OB true l),.c (.raw (.func (.func 199) #[] #[]))] (.c (.bool (!l.all RD.bI))):=by
 have f1:=Qsg l hl hw
 have f2:=Hs RD.bI l
 refine fA func198 fun C hC=>?_
 refine Zg o0 f1 ?_
 refine xT hC ?_
 exact .one (.c (Qe f2))
theorem R7 (m:Qz) (hm:gZ m) (cZ:pj m) (hw:NR m):Fa prog 124 [.agg (Xo true m)] (.c (Z7 (Vd m))):=by
 have hl:=hw.l
 refine fA func124 fun C hC=>?_
 refine zA o0 ?_
 refine xB fun g1 ah=>?_
 repeat' first|refine zV ah ?_|refine zH ah ?_ ?_<;>intro hb|fail
 ·refine yT hC ah ?_
  exact .one (.c (QG (by unfold Vd;rw [iP om]) Af))
 have ef:Vd m=XU (iv m) m.ai 0:=by
  unfold Vd
  rw [iN om]
 generalize hF:XU (iv m) m.ai 0=F at ef
 refine Qh (fun i:Nat=>[(1,.c (.aj g1 0)),(2,.c .aN),(13,.c (fS true m.ai)),(14,.c (.int .i64 m.ai.length)),(15,.c (.int .i64 i))]) (fun _=>[(g1,.cells 45 8 (ao (Xo true m)))]) (fun i=>i≤m.ai.length∧XU (iv m) (m.ai.drop i) i=F) (fun i=>m.ai.length-i) 0 (zB ah) zZ ⟨Lz _,hF⟩ ?_
 rintro i ⟨hi,aB⟩
 repeat' first|refine zV ah ?_|refine zH ah ?_ ?_<;>intro hb|fail
 ·obtain⟨w0,w1,w2⟩:=hw.ph i
  have w3:=hw.vl i
  have hi':=hb
  have hR:∀c,iv m i (m.ai.getD i cd)=c→c≠0→Vd m=c:=fun c hc h0=>by
   rw [ef];exact Zk aB hi' hc h0
  have hG:=Vi (d:=cd) aB hi'
  clear aB
  generalize hx:m.ai.getD i cd=x at*
  have f1:Fa prog 117 [.c (.str (sB x.name))] (.c (.bool (QD x.name))):=Jh x.name w0
  have f3:Fa prog 122 [.agg (Xo true m),.c (.int .i64 (-1)),.c (.str (sB x.top))] (.c (.bool (Yg m 0 x.top))):=O8 m 0 x.top (Lz _) hm (by have:=Kx cZ 0;omega) w1
  refine yA ah fun g4 aC=>?_
  all_goals try(have Z:=(oj ah aC);(repeat' first|refine zV Z ?_|refine yQ Z f1 ?_|refine zH Z ?_ ?_<;>intro hb|fail);all_goals clear Z)
  ·refine yT hC (oj ah aC) ?_
   refine .one (.c (QG (c:=Vd m) (hR _ ?_ Af) Af))
   unfold iv
   rw [iP (by simpa using hb)]
  rename_i fW
  replace fW:=hb
  refine ZH (gs:=[g4]) rfl rfl rfl (zE (oj ah aC)) ?_
  have J1:=oj ah aC
  refine yS J1 ?_
  have f2:=Qut g4 x m.ai hl
  all_goals repeat' first|refine zV J1 ?_|refine yQ J1 f2 ?_|refine yQ J1 f3 ?_|refine zH J1 ?_ ?_<;>intro hb|fail
  ·refine yT hC J1 ?_
   refine .one (.c (QG (c:=Vd m) (hR _ ?_ Af) Af))
   unfold iv
   rw [iN (by simpa using fW),iP hb]
  ·rename_i km
   refine yT hC J1 ?_
   refine .one (.c (QG (c:=Vd m) (hR _ ?_ Af) Af))
   unfold iv
   rw [iN (by simpa using fW),iN km,iP (by simpa using hb)]
  rename_i km
  have Ep:=hb
  have hp:iv m i x=XU (gY m x) x.values 0:=by
   unfold iv
   rw [iN (by simpa using fW),iN km,iN (by simpa using Ep)]
  clear f1 f2 f3 J1
  generalize iU:XU (gY m x) x.values 0=F2 at hp
  refine Qh (fun k:Nat=>[(1,.c (.aj g1 0)),(2,.c .aN),(4,.c (.aj g4 0)),(13,.c (fS true m.ai)),(14,.c (.int .i64 m.ai.length)),(15,.c (.int .i64 i)),(39,.c (ll true x.values)),(40,.c (.int .i64 x.values.length)),(41,.c (.int .i64 k))]) (fun _=>[(g4,.cells 112 3 (ao (Wr x))),(g1,.cells 45 8 (ao (Xo true m)))]) (fun k=>k≤x.values.length∧XU (gY m x) (x.values.drop k) k=F2) (fun k=>x.values.length-k) 0 (zB (oj ah aC)) zZ ⟨Lz _,iU⟩ ?_
  rintro k ⟨hk,bT⟩
  all_goals try(have Z:=(oj ah aC);(repeat' first|refine zV Z ?_|refine zH Z ?_ ?_<;>intro hb|fail);all_goals clear Z)
  ·have dC:=hb
   have jT:∀c,gY m x k (x.values.getD k bE)=c→c≠0→Vd m=c:=fun c hc h0=>hR c (hp.trans (Zk bT dC hc h0)) h0
   have uX:=Vi (d:=bE) bT dC
   clear bT
   have w4:=w3 k
   generalize hv:x.values.getD k bE=v at*
   have f1:=ZJ m v.event hm.ev
   have f3:=wH v.p w4
   refine yA (oj ah aC) fun g5 aM=>?_
   all_goals try(have Z:=(oj ah (oj aC aM));(repeat' first|refine zV Z ?_|refine yQ Z f1 ?_|refine zH Z ?_ ?_<;>intro hb|fail);all_goals clear Z)
   ·refine yT hC (oj ah (oj aC aM)) ?_
    refine .one (.c (QG (c:=Vd m) (jT _ ?_ Af) Af))
    unfold gY Vt
    rw [iP hb]
   have m1:=hb
   refine ZH (gs:=[g5]) rfl rfl rfl (zE (oj ah (oj aC aM))) ?_
   have J2:=oj ah (oj aC aM)
   refine yS J2 ?_
   have f2:=Quv g5 v x.values w2
   all_goals repeat' first|refine zV J2 ?_|refine yQ J2 f2 ?_|refine yQ J2 f3 ?_|refine zH J2 ?_ ?_<;>intro hb|fail
   ·refine yT hC J2 ?_
    refine .one (.c (QG (c:=Vd m) (jT _ ?_ Af) Af))
    unfold gY Vt
    rw [iN m1,iP hb]
   ·rename_i m2
    refine yT hC J2 ?_
    refine .one (.c (QG (c:=Vd m) (jT _ ?_ Af) Af))
    unfold gY Vt
    rw [iN m1,iN m2,iP (by simpa using hb)]
   ·rename_i m2
    refine Qb ⟨k+1,?_⟩
    have hz:gY m x k v=0:=by
     unfold gY Vt
     rw [iN m1,iN m2,iN (by simpa using hb)]
    and_intros
    all_goals first|rfl|exact Lr _|exact Ls _ _|exact True.intro|exact uX hz|omega
  ·have bU:=YK bT hb
   refine Qb ⟨i+1,?_⟩
   and_intros
   all_goals first|rfl|exact Lr _|exact Ls _ _|exact True.intro|exact hG (hp.trans bU)|omega
 ·have bU:=YK aB hb
  subst bU
  refine yT hC ah ?_
  exact .one (.c (ZF ef))
theorem Tl (l:List BS) (n:BS) (hl:l.length≤1099511627776):Fa prog 304 [.c (YH false l),.c (.str (sB n))] (.c (.int .i64 (Xj (fun x=>n==x) l))):=by
 refine fA func304 fun C hC=>?_
 refine zA o0 ?_
 refine Qh (fun i:Nat=>[(0,.c (YH false l)),(1,.c (.str (sB n))),(4,.c (.int .i64 0)),(7,.c (.int .i64 l.length)),(8,.c (.int .i64 i))]) (fun _=>[]) (fun i=>i≤l.length∧∀j,j<i→((fun x:BS=>n==x) (l.getD j []))=false) (fun i=>l.length-i) 0 eB zZ ⟨Lz _,fun j hj=>absurd hj om⟩ ?_
 rintro i ⟨hi,hn⟩
 repeat' first|refine zV o0 ?_|refine zH o0 ?_ ?_<;>intro hb|fail
 ·rename_i hi'
  rw [YV (p:=fun x:BS=>n==x) [] hi' (by simpa using hb) hn]
  refine xT hC ?_
  exact .one (.c (.int _ _))
 ·rename_i hi'
  refine Qb ⟨i+1,?_⟩
  have cb:∀j,j<i+1→((fun x:BS=>n==x) (l.getD j []))=false:=fun j hj=>by
   by_cases e:j=i
   ·subst e;simpa using hb
   ·exact hn j om
  and_intros
  all_goals first|rfl|exact Lr _|exact True.intro|exact cb|omega
 ·have hf:Xj (fun x=>n==x) l= -1:=Zy [] (fun j hj=>hn j om)
  rw [hf]
  refine xT hC ?_
  exact .one (.c (.int _ _))
theorem AJ (l:List BS) (n:BS) (hl:l.length≤1099511627776):Fa prog 195 [.c (YH false l),.c (.str (sB n))] (.c (.bool (l.contains n))):=by
 have f1:=Tl l n hl
 have f2:=Hr n l
 refine fA func195 fun C hC=>?_
 refine Zg o0 f1 ?_
 refine xT hC ?_
 exact .one (.c (Qe f2))
end Go.Proofs.YtjegkdadeghpjaaGreatDoor
namespace Go.Proofs.YtjegkdadeghpjaaGreatDoor
open Go.AI Go.PN Proofs.Tryz
theorem O9 {pre:Qa} {og:Option Nat} {ty:TypeId} {sp:List BS} (ax:og=none→sp.length=0) (bf:(pre++gh og ty sp.length (Qi sp)).keys.Nodup):fe (pre++gh og ty sp.length (Qi sp)) (gs og 1 sp.length) (YH false sp):=by
 cases og with
 |none=>
  have h0:=ax rfl
  show fe _ .ab (.row false 1 sp.length (Qi sp))
  rw [h0]
  exact .ab
 |some g=>
  have hg:g∉pre.keys:=fun hm=>by
   have hk:(pre++gh (some g) ty sp.length (Qi sp)).keys=pre.keys++[g]:=by simp [Qa.keys,gh]
   rw [hk] at bf
   exact(List.nodup_append.1 bf).2.2 g hm g (by simp) rfl
  exact .aO (Qa.dc hg) om (fun j _=>by rw [Nz];exact .refl _)
attribute [local irreducible] aw Fa VA Vk Fh YO
theorem R8 (m:Qz) (k:Nat) (eA:List BS) (tH:Option Nat) (hk:k≤m.aa.length) (hm:gZ m) (cZ:pj m) (hI:∀i,((Qt m k).getD i aU).ak.length≤16) (bV:∀i j,(((Qt m k).getD i aU).ak.getD j []).length≤1099511627776) (lO:tH=none→eA.length=0) (cQ:eA.length≤1073741824):Fh prog 121 (gh tH 9 eA.length (Qi eA)) [.agg (Xo true m),.c (.int .i64 ((k:Int)-1)),.c (gs tH 1 eA.length)] (fun x h=>((Ud m k eA).1≠0∧h=[]∧x=.aF [.c .ab,.c (Z7 (Ud m k eA).1)])∨((Ud m k eA).1=0∧∃og,(og=none→(Ud m k eA).2.length=0)∧h=gh og 9 (Ud m k eA).2.length (Qi (Ud m k eA).2)∧x=.aF [.c (gs og 1 (Ud m k eA).2.length),.c .aN])):=by
 have Eg:=Kx cZ k
 have f0:=Vv m k hk hm.pg
 refine fH func121 fun C hC=>?_
 refine zA o0 ?_
 refine xB fun g1 ah=>?_
 refine Zg ah f0 ?_
 generalize hF:XT (mu m k) (Qt m k) 0 eA=F
 have zf:F.1≠0→Ud m k eA=F:=fun h=>by unfold Ud;rw [hF,iN h]
 have rj:F.1=0→Ud m k eA=(ju m k,F.2):=fun h=>by unfold Ud;rw [hF,iP h]
 generalize hL:Qt m k=L at*
 refine Qh (fun x:Nat×List BS×Option Nat=>[(1,.c (.int .i64 ((k:Int)-1))),(2,.c (gs x.2.2 1 x.2.1.length)),(3,.c (.aj g1 0)),(6,.c .ab),(7,.c .aN),(15,.c (ca true L)),(16,.c (.int .i64 L.length)),(17,.c (.int .i64 x.1))]) (fun x=>[(g1,.cells 45 8 (ao (Xo true m)))]++gh x.2.2 9 x.2.1.length (Qi x.2.1)) (fun x=>x.1≤L.length∧(x.2.2=none→x.2.1.length=0)∧x.2.1.length≤eA.length+16*x.1∧XT (mu m k) (L.drop x.1) x.1 x.2.1=F) (fun x=>L.length-x.1) (0,eA,tH) (zB ah) zZ ⟨Lz _,lO,by dsimp only;omega,hF⟩ ?_
 rintro ⟨i,sp,og⟩ ⟨hi,ax,bF,aB⟩
 dsimp only at hi ax bF aB⊢
 simp only [Lq,Ln]
 have uN:=uc (m.aa.getD (k-1) bj).an (m.aa.getD (k-1) bj).top (by have:=(cZ.pg (k-1)).2;omega)
 have uO:=ZJ m (m.aa.getD (k-1) bj).top hm.ev
 repeat' first|refine zV ah ?_|refine yQ ah uN ?_|refine yQ ah uO ?_|refine zH ah ?_ ?_<;>intro hb|fail
 ·have hi':=hb
  have w1:=hI i
  have w2:=bV i
  have jG:=fun r=>VO (d:=aU) (r:=r) aB hi'
  have cC:=fun r=>KV (d:=aU) (r:=r) aB hi'
  clear aB uN uO
  generalize hx:L.getD i aU=x at*
  refine yA ah fun g4 aC=>?_
  refine zA (oj ah aC) ?_
  generalize iU:XT (O6 m k x) x.ak 0 sp=F2
  have e2:mu m k i x sp=F2:=iU
  rw [e2] at jG cC
  refine Qh (fun y:Nat×List BS×Option Nat=>[(1,.c (.int .i64 ((k:Int)-1))),(2,.c (gs y.2.2 1 y.2.1.length)),(3,.c (.aj g1 0)),(6,.c .ab),(7,.c .aN),(9,.c (.aj g4 0)),(15,.c (ca true L)),(16,.c (.int .i64 L.length)),(17,.c (.int .i64 i)),(22,.c (YH true x.ak)),(23,.c (.int .i64 x.ak.length)),(24,.c (.int .i64 y.1))]) (fun y=>[(g4,.cells 71 7 (ao (Zi x))),(g1,.cells 45 8 (ao (Xo true m)))]++gh y.2.2 9 y.2.1.length (Qi y.2.1)) (fun y=>y.1≤x.ak.length∧(y.2.2=none→y.2.1.length=0)∧y.2.1.length≤sp.length+y.1∧XT (O6 m k x) (x.ak.drop y.1) y.1 y.2.1=F2) (fun y=>x.ak.length-y.1) (0,sp,og) (zB (oj ah aC)) zZ ⟨Lz _,ax,by dsimp only;omega,iU⟩ ?_
  rintro ⟨j,sq,oq⟩ ⟨hj,dI,oO,bT⟩
  dsimp only at hj dI oO bT⊢
  simp only [Lq,Ln]
  all_goals try(have Z:=(oj ah aC);(repeat' first|refine zV Z ?_|refine zH Z ?_ ?_<;>intro hb|fail);all_goals clear Z)
  ·have dO:=hb
   have w3:=w2 j
   have jK:=fun r=>VO (d:=([]:BS)) (r:=r) bT dO
   have mU:=fun r=>KV (d:=([]:BS)) (r:=r) bT dO
   clear bT
   generalize hy:x.ak.getD j []=y at*
   have hR:∀c s,O6 m k x j y sq=(c,s)→c≠0→(Ud m k eA).1=c:=fun c s h1 h2=>by
    have a1:=jK _ h1 h2
    rw [a1] at jG
    have a2:=jG _ rfl h2
    rw [zf (by rw [a2];exact h2),a2]
   have f1:=O8 m k y hk hm (by rw [hL];omega) w3
   have f2:=Qsd x j om
   have f3:=ZJ m y hm.ev
   have f4:=AJ sq y om
   all_goals try(have Z:=(oj ah aC);(repeat' first|refine zV Z ?_|refine yQ Z f1 ?_|refine yQ Z f2 ?_|refine yQ Z f3 ?_|refine zH Z ?_ ?_<;>intro hb|fail);all_goals clear Z)
   all_goals first
    |(refine ZQ [(6,.c .ab),(7,.c (.eZ 32 (.int .i64 5)))] [] (zB (oj ah aC)) (List.nil_sublist _) ?_
      have h5:=hR 5 sq (by
       unfold O6 Vt
       repeat' split
       all_goals exact Ah) Af
      refine yU (oj ah aC) ?_
      rw [h5]
      exact .inl ⟨by decide,rfl,rfl⟩)
    |(refine ZQ [(6,.c .ab),(7,.c (.eZ 32 (.int .i64 7)))] [] (zB (oj ah aC)) (List.nil_sublist _) ?_
      have h5:=hR 7 sq (by
       unfold O6 Vt
       repeat' split
       all_goals exact Ah) Af
      refine yU (oj ah aC) ?_
      rw [h5]
      exact .inl ⟨by decide,rfl,rfl⟩)
    |(refine Qb ⟨(j+1,sq,oq),?_⟩
      have hz:O6 m k x j y sq=(0,sq):=by
       unfold O6 Vt
       repeat' split
       all_goals exact Ah
      have hq:=mU _ hz rfl
      and_intros
      all_goals first|rfl|exact Lr _|exact Ls _ _|exact True.intro|exact dI|exact hq|(dsimp only;omega))
    |skip
   all_goals
    have hk7:=hb
    refine YY fun bf=> ?_
    refine Qr f4 rfl rfl rfl (by refine yS (oj ah aC) ?_;exact⟨.c (O9 (pre:=[(g4,.cells 71 7 (ao (Zi x))),(g1,.cells 45 8 (ao (Xo true m)))]) dI bf),.c (.refl _)⟩) ?_
    have J1:=oj ah aC
    refine yS J1 ?_
    all_goals repeat' first|refine zV J1 ?_|refine zH J1 ?_ ?_<;>intro hb|fail
    ·refine ZQ [(6,.c .ab),(7,.c (.eZ 32 (.int .i64 6)))] [] (zB J1) (List.nil_sublist _) ?_
     have h5:=hR 6 sq (by
      unfold O6 Vt
      repeat' split
      all_goals exact Ah) Af
     refine yU J1 ?_
     rw [h5]
     exact .inl ⟨by decide,rfl,rfl⟩
    ·have hz:O6 m k x j y sq=(0,sq++[y]):=by
      unfold O6 Vt
      repeat' split
      all_goals exact Ah
     have hq:=mU _ hz rfl
     have dZ:(sq++[y]).length=sq.length+1:=by rw [La];rfl
     refine QT (pre:=[(g4,.cells 71 7 (ao (Zi x))),(g1,.cells 45 8 (ao (Xo true m)))]) rfl rfl rfl rfl rfl rfl rfl (zE J1) (zE J1) (by rfl) om om (zE J1) om (by exact dI) (zE J1) (by rfl) (by rfl) qb qc om (by exact Yq rfl y) fun gb bH=> ?_
     replace bH:=Qa.ay bH
     first|dsimp only [Qa.ne,gh] at bH|dsimp only [Qa.ne] at bH|skip
     refine yS (oj ah (oj aC bH)) ?_
     refine zA (oj ah (oj aC bH)) ?_
     refine Qb ⟨(j+1,sq++[y],some gb),?_⟩
     dsimp only
     simp only [dZ]
     and_intros
     all_goals first|rfl|exact Lr _|exact Ls _ _|exact True.intro|exact Xx|exact hq|omega|trace_state
  ·have bU:=YL bT hb
   subst bU
   refine Qb ⟨(i+1,sq,oq),?_⟩
   and_intros
   all_goals first|rfl|exact Lr _|exact Ls _ _|exact True.intro|exact dI|exact cC _ rfl rfl|(dsimp only;omega)
 ·rename_i cA jn ha
  have bU:=YL aB cA
  subst bU
  have hT:Ud m k eA=(ju m k,sp):=rj rfl
  have h5:ju m k=5:=by
   obtain⟨q,rfl⟩:∃q,k=q+1:=⟨k-1,by omega⟩
   exact iP ⟨ha,hb⟩
  refine ZQ [(6,.c .ab),(7,.c (.eZ 32 (.int .i64 5)))] [] (zB ah) (List.nil_sublist _) ?_
  refine yU ah ?_
  rw [hT,h5]
  exact .inl ⟨show(5:Int)≠0 by decide,rfl,rfl⟩
 ·rename_i cA jn ha
  have bU:=YL aB cA
  subst bU
  have hT:Ud m k eA=(ju m k,sp):=rj rfl
  have h0:ju m k=0:=by
   obtain⟨q,rfl⟩:∃q,k=q+1:=⟨k-1,by omega⟩
   exact iN fun z=>hb z.2
  refine ZQ [(6,.c (gs og 1 sp.length)),(7,.c .aN)] (gh og 9 sp.length (Qi sp)) (zB ah) (Ls _ _) ?_
  refine yU ah ?_
  rw [hT,h0]
  exact .inr ⟨rfl,og,ax,rfl,rfl⟩
 ·rename_i cA jn
  have bU:=YL aB cA
  subst bU
  have hT:Ud m k eA=(ju m k,sp):=rj rfl
  have h0:ju m k=0:=by
   obtain⟨q,rfl⟩:∃q,k=q+1:=⟨k-1,by omega⟩
   exact iN fun z=>hb z.1
  refine ZQ [(6,.c (gs og 1 sp.length)),(7,.c .aN)] (gh og 9 sp.length (Qi sp)) (zB ah) (Ls _ _) ?_
  refine yU ah ?_
  rw [hT,h0]
  exact .inr ⟨rfl,og,ax,rfl,rfl⟩
 ·rename_i cA
  have bU:=YL aB cA
  subst bU
  have hT:Ud m k eA=(ju m k,sp):=rj rfl
  have h0:ju m k=0:=by
   have:k=0:=by omega
   subst this
   rfl
  refine ZQ [(6,.c (gs og 1 sp.length)),(7,.c .aN)] (gh og 9 sp.length (Qi sp)) (zB ah) (Ls _ _) ?_
  refine yU ah ?_
  rw [hT,h0]
  exact .inr ⟨rfl,og,ax,rfl,rfl⟩
end Go.Proofs.YtjegkdadeghpjaaGreatDoor
namespace Go.Proofs.YtjegkdadeghpjaaGreatDoor
open Go.AI Go.PN Proofs.Tryz
attribute [local irreducible] aw Fa VA Vk Fh YO
theorem R9 (m:Qz) (hm:gZ m) (hw:NS m):Fa prog 123 [.agg (Xo true m)] (.c (Z7 (YP m))):=by
 have hl:=hw.l
 refine fA func123 fun C hC=>?_
 refine zA o0 ?_
 refine xB fun g1 ah=>?_
 repeat' first|refine zV ah ?_|refine zH ah ?_ ?_<;>intro hb|fail
 ·refine yT hC ah ?_
  exact .one (.c (QG (by unfold YP;rw [iP om]) Af))
 have h8:m.ae.length≤8:=by omega
 have ef:YP m=(XT (WB m) m.ae 0 []).1:=by
  unfold YP
  rw [iN om]
 generalize hF:XT (WB m) m.ae 0 []=F at ef
 refine Qh (fun x:Nat×List BS×Option Nat=>[(1,.c (.aj g1 0)),(2,.c .aN),(3,.c (gs x.2.2 1 x.2.1.length)),(16,.c (fB true m.ae)),(17,.c (.int .i64 m.ae.length)),(18,.c (.int .i64 x.1))]) (fun x=>[(g1,.cells 45 8 (ao (Xo true m)))]++gh x.2.2 9 x.2.1.length (Qi x.2.1)) (fun x=>x.1≤m.ae.length∧(x.2.2=none→x.2.1.length=0)∧x.2.1.length≤1048576*x.1∧XT (WB m) (m.ae.drop x.1) x.1 x.2.1=F) (fun x=>m.ae.length-x.1) (0,[],none) (zB ah) zZ ⟨Lz _,fun _=>rfl,Lz _,hF⟩ ?_
 rintro ⟨i,ms,og⟩ ⟨hi,ax,bF,aB⟩
 dsimp only at hi ax bF aB⊢
 simp only [Lq,Ln]
 repeat' first|refine zV ah ?_|refine zH ah ?_ ?_<;>intro hb|fail
 ·obtain⟨w0,w1,w2⟩:=hw.gr i
  have w3:=hw.fa i
  have hi':=hb
  have hR:∀c s,WB m i (m.ae.getD i bJ) ms=(c,s)→c≠0→YP m=c:=fun c s hc h0=>by
   rw [ef,VO aB hi' hc h0]
  have cC:=fun r=>KV (d:=bJ) (r:=r) aB hi'
  clear aB
  generalize hx:m.ae.getD i bJ=x at*
  have f1:Fa prog 117 [.c (.str (sB x.name))] (.c (.bool (QD x.name))):=Jh x.name w0
  refine yA ah fun g4 aC=>?_
  all_goals try(have Z:=(oj ah aC);(repeat' first|refine zV Z ?_|refine yQ Z f1 ?_|refine zH Z ?_ ?_<;>intro hb|fail);all_goals clear Z)
  ·refine yT hC (oj ah aC) ?_
   refine .one (.c (QG (c:=YP m) (hR _ ms ?_ Af) Af))
   unfold WB
   rw [iP (by simpa using hb)]
  have fW:=hb
  refine ZH (gs:=[g4]) rfl rfl rfl (zE (oj ah aC)) ?_
  have J1:=oj ah aC
  refine yS J1 ?_
  have f2:=Qur g4 x m.ae hl
  have f3:=Qsh x.ar w2 w3
  obtain⟨nm,kd,mb,fc⟩:=x
  dsimp only at*
  by_cases k0:kd=0
  ·subst k0
   all_goals repeat' first|refine zV J1 ?_|refine yQ J1 f2 ?_|refine zH J1 ?_ ?_<;>intro hb|fail
   all_goals clear f1 f2
   ·refine yT hC J1 ?_
    refine .one (.c (QG (c:=YP m) (hR _ ms ?_ Af) Af))
    unfold WB
    repeat' split
    all_goals exact Ah
   ·refine yT hC J1 ?_
    refine .one (.c (QG (c:=YP m) (hR _ ms ?_ Af) Af))
    unfold WB
    repeat' split
    all_goals exact Ah
   ·refine yT hC J1 ?_
    refine .one (.c (QG (c:=YP m) (hR _ ms ?_ Af) Af))
    unfold WB
    repeat' split
    all_goals exact Ah
   ·refine yT hC J1 ?_
    refine .one (.c (QG (c:=YP m) (hR _ ms ?_ Af) Af))
    unfold WB
    repeat' split
    all_goals exact Ah
   have Ea:=hb
   generalize iU:XT (Wx m) mb 0 ms=F2
   have hQ:WB m i ⟨nm,0,mb,fc⟩ ms=(if F2.1≠0 then F2 else if fc.all RD.bI=false then(3,ms) else(0,F2.2)):=by
    unfold WB
    dsimp only
    rw [iU]
    rw [iN (by simpa using fW),iN (by assumption),iN Af,iN (by simp;omega)]
   refine Qh (fun y:Nat×List BS×Option Nat=>[(1,.c (.aj g1 0)),(2,.c .aN),(3,.c (gs y.2.2 1 y.2.1.length)),(5,.c (.aj g4 0)),(16,.c (fB true m.ae)),(17,.c (.int .i64 m.ae.length)),(18,.c (.int .i64 i)),(71,.c (YH true mb)),(72,.c (.int .i64 mb.length)),(73,.c (.int .i64 y.1))]) (fun y=>[(g4,.cells 108 4 (ao (UF ⟨nm,0,mb,fc⟩))),(g1,.cells 45 8 (ao (Xo true m)))]++gh y.2.2 9 y.2.1.length (Qi y.2.1)) (fun y=>y.1≤mb.length∧(y.2.2=none→y.2.1.length=0)∧y.2.1.length≤ms.length+y.1∧XT (Wx m) (mb.drop y.1) y.1 y.2.1=F2) (fun y=>mb.length-y.1) (0,ms,og) (zB J1) zZ ⟨Lz _,ax,by dsimp only;omega,iU⟩ ?_
   rintro ⟨j,sq,oq⟩ ⟨hj,dI,oO,bT⟩
   dsimp only at hj dI oO bT⊢
   simp only [Lq,Ln]
   all_goals repeat' first|refine zV J1 ?_|refine yQ J1 f3 ?_|refine zH J1 ?_ ?_<;>intro hb|fail
   ·have dO:=hb
    have jK:=fun r=>VO (d:=([]:BS)) (r:=r) bT dO
    have mU:=fun r=>KV (d:=([]:BS)) (r:=r) bT dO
    clear bT J1
    generalize hy:mb.getD j []=y at*
    have jT:∀c s,Wx m j y sq=(c,s)→c≠0→YP m=c:=fun c s h1 h2=>by
     have a1:=jK _ h1 h2
     refine hR c s ?_ h2
     rw [hQ,a1]
     exact iP h2
    have f5:=ZJ m y hm.ev
    have f4:=AJ sq y om
    all_goals try(have Z:=(oj ah aC);(repeat' first|refine zV Z ?_|refine yQ Z f5 ?_|refine zH Z ?_ ?_<;>intro hb|fail);all_goals clear Z)
    ·refine yT hC (oj ah aC) ?_
     refine .one (.c (QG (c:=YP m) (jT _ sq ?_ Af) Af))
     unfold Wx Vt
     rw [iP hb]
    have h5:=hb
    refine YY fun bf=> ?_
    refine Qr f4 rfl rfl rfl (by refine yS (oj ah aC) ?_;exact⟨.c (O9 (pre:=[(g4,.cells 108 4 (ao (UF ⟨nm,0,mb,fc⟩))),(g1,.cells 45 8 (ao (Xo true m)))]) dI bf),.c (.refl _)⟩) ?_
    have J2:=oj ah aC
    refine yS J2 ?_
    all_goals repeat' first|refine zV J2 ?_|refine zH J2 ?_ ?_<;>intro hb|fail
    ·refine yT hC J2 ?_
     refine .one (.c (QG (c:=YP m) (jT _ sq ?_ Af) Af))
     unfold Wx Vt
     rw [iN h5,iP hb]
    ·have hz:Wx m j y sq=(0,sq++[y]):=by
      unfold Wx Vt
      rw [iN h5,iN (by simpa using hb)]
     have hq:=mU _ hz rfl
     have dZ:(sq++[y]).length=sq.length+1:=by rw [La];rfl
     refine QT (pre:=[(g4,.cells 108 4 (ao (UF ⟨nm,0,mb,fc⟩))),(g1,.cells 45 8 (ao (Xo true m)))]) rfl rfl rfl rfl rfl rfl rfl (zE J2) (zE J2) (by rfl) om om (zE J2) om (by exact dI) (zE J2) (by rfl) (by rfl) qb qc om (by exact Yq rfl y) fun gb bH=> ?_
     replace bH:=Qa.ay bH
     first|dsimp only [Qa.ne,gh] at bH|dsimp only [Qa.ne] at bH|skip
     refine yS (oj ah (oj aC bH)) ?_
     refine zA (oj ah (oj aC bH)) ?_
     refine Qb ⟨(j+1,sq++[y],some gb),?_⟩
     dsimp only
     simp only [dZ]
     and_intros
     all_goals first|rfl|exact Lr _|exact Ls _ _|exact True.intro|exact Xx|exact hq|omega
   ·rename_i kL
    have bU:=YL bT kL
    refine yT hC (oj ah aC) ?_
    refine .one (.c (QG (c:=YP m) (hR _ ms ?_ Af) Af))
    rw [hQ,bU,iN (by simp),iP (by simpa using hb)]
   ·rename_i kL
    have bU:=YL bT kL
    have hz:WB m i ⟨nm,0,mb,fc⟩ ms=(0,sq):=by
     rw [hQ,bU,iN (by simp),iN (by simpa using hb)]
    have hq:=cC _ hz rfl
    refine Qb ⟨(i+1,sq,oq),?_⟩
    and_intros
    all_goals first|rfl|exact Lr _|exact Ls _ _|exact True.intro|exact dI|exact hq|(dsimp only;omega)
  by_cases k1:kd=1
  ·subst k1
   all_goals try(have Z:=(oj ah aC);(repeat' first|refine zV Z ?_|refine yQ Z f2 ?_|refine zH Z ?_ ?_<;>intro hb|fail);all_goals clear Z)
   ·refine yT hC (oj ah aC) ?_
    refine .one (.c (QG (c:=YP m) (hR _ ms ?_ Af) Af))
    unfold WB
    repeat' split
    all_goals exact Ah
   refine Xl 6 Qg kR ?_
   all_goals try(have Z:=(oj ah aC);(repeat' first|refine zV Z ?_|refine zH Z ?_ ?_<;>intro hb|fail);all_goals clear Z)
   all_goals clear f1 f2
   ·refine yT hC (oj ah aC) ?_
    refine .one (.c (QG (c:=YP m) (hR _ ms ?_ Af) Af))
    unfold WB
    repeat' split
    all_goals exact Ah
   ·refine yT hC (oj ah aC) ?_
    refine .one (.c (QG (c:=YP m) (hR _ ms ?_ Af) Af))
    unfold WB
    repeat' split
    all_goals exact Ah
   ·refine yT hC (oj ah aC) ?_
    refine .one (.c (QG (c:=YP m) (hR _ ms ?_ Af) Af))
    unfold WB
    repeat' split
    all_goals exact Ah
   have Ea:=hb
   generalize iU:XT (Wx m) mb 0 ms=F2
   have hQ:WB m i ⟨nm,1,mb,fc⟩ ms=(if F2.1≠0 then F2 else if fc.all RD.bI=false then(3,ms) else(0,F2.2)):=by
    unfold WB
    dsimp only
    rw [iU]
    rw [iN (by simpa using fW),iN (by assumption),iN Af,iN (by simp;omega)]
   refine Qh (fun y:Nat×List BS×Option Nat=>[(1,.c (.aj g1 0)),(2,.c .aN),(3,.c (gs y.2.2 1 y.2.1.length)),(5,.c (.aj g4 0)),(16,.c (fB true m.ae)),(17,.c (.int .i64 m.ae.length)),(18,.c (.int .i64 i)),(71,.c (YH true mb)),(72,.c (.int .i64 mb.length)),(73,.c (.int .i64 y.1))]) (fun y=>[(g4,.cells 108 4 (ao (UF ⟨nm,1,mb,fc⟩))),(g1,.cells 45 8 (ao (Xo true m)))]++gh y.2.2 9 y.2.1.length (Qi y.2.1)) (fun y=>y.1≤mb.length∧(y.2.2=none→y.2.1.length=0)∧y.2.1.length≤ms.length+y.1∧XT (Wx m) (mb.drop y.1) y.1 y.2.1=F2) (fun y=>mb.length-y.1) (0,ms,og) (zB (oj ah aC)) zZ ⟨Lz _,ax,by dsimp only;omega,iU⟩ ?_
   rintro ⟨j,sq,oq⟩ ⟨hj,dI,oO,bT⟩
   dsimp only at hj dI oO bT⊢
   simp only [Lq,Ln]
   all_goals try(have Z:=(oj ah aC);(repeat' first|refine zV Z ?_|refine yQ Z f3 ?_|refine zH Z ?_ ?_<;>intro hb|fail);all_goals clear Z)
   ·have dO:=hb
    have jK:=fun r=>VO (d:=([]:BS)) (r:=r) bT dO
    have mU:=fun r=>KV (d:=([]:BS)) (r:=r) bT dO
    clear bT
    generalize hy:mb.getD j []=y at*
    have jT:∀c s,Wx m j y sq=(c,s)→c≠0→YP m=c:=fun c s h1 h2=>by
     have a1:=jK _ h1 h2
     refine hR c s ?_ h2
     rw [hQ,a1]
     exact iP h2
    have f5:=ZJ m y hm.ev
    have f4:=AJ sq y om
    all_goals try(have Z:=(oj ah aC);(repeat' first|refine zV Z ?_|refine yQ Z f5 ?_|refine zH Z ?_ ?_<;>intro hb|fail);all_goals clear Z)
    ·refine yT hC (oj ah aC) ?_
     refine .one (.c (QG (c:=YP m) (jT _ sq ?_ Af) Af))
     unfold Wx Vt
     rw [iP hb]
    have h5:=hb
    refine YY fun bf=> ?_
    refine Qr f4 rfl rfl rfl (by refine yS (oj ah aC) ?_;exact⟨.c (O9 (pre:=[(g4,.cells 108 4 (ao (UF ⟨nm,1,mb,fc⟩))),(g1,.cells 45 8 (ao (Xo true m)))]) dI bf),.c (.refl _)⟩) ?_
    have J3:=oj ah aC
    refine yS J3 ?_
    all_goals repeat' first|refine zV J3 ?_|refine zH J3 ?_ ?_<;>intro hb|fail
    ·refine yT hC J3 ?_
     refine .one (.c (QG (c:=YP m) (jT _ sq ?_ Af) Af))
     unfold Wx Vt
     rw [iN h5,iP hb]
    ·have hz:Wx m j y sq=(0,sq++[y]):=by
      unfold Wx Vt
      rw [iN h5,iN (by simpa using hb)]
     have hq:=mU _ hz rfl
     have dZ:(sq++[y]).length=sq.length+1:=by rw [La];rfl
     refine QT (pre:=[(g4,.cells 108 4 (ao (UF ⟨nm,1,mb,fc⟩))),(g1,.cells 45 8 (ao (Xo true m)))]) rfl rfl rfl rfl rfl rfl rfl (zE J3) (zE J3) (by rfl) om om (zE J3) om (by exact dI) (zE J3) (by rfl) (by rfl) qb qc om (by exact Yq rfl y) fun gb bH=> ?_
     replace bH:=Qa.ay bH
     first|dsimp only [Qa.ne,gh] at bH|dsimp only [Qa.ne] at bH|skip
     refine yS (oj ah (oj aC bH)) ?_
     refine zA (oj ah (oj aC bH)) ?_
     refine Qb ⟨(j+1,sq++[y],some gb),?_⟩
     dsimp only
     simp only [dZ]
     and_intros
     all_goals first|rfl|exact Lr _|exact Ls _ _|exact True.intro|exact Xx|exact hq|omega
   ·rename_i kL
    have bU:=YL bT kL
    refine yT hC (oj ah aC) ?_
    refine .one (.c (QG (c:=YP m) (hR _ ms ?_ Af) Af))
    rw [hQ,bU,iN (by simp),iP (by simpa using hb)]
   ·rename_i kL
    have bU:=YL bT kL
    have hz:WB m i ⟨nm,1,mb,fc⟩ ms=(0,sq):=by
     rw [hQ,bU,iN (by simp),iN (by simpa using hb)]
    have hq:=cC _ hz rfl
    refine Qb ⟨(i+1,sq,oq),?_⟩
    and_intros
    all_goals first|rfl|exact Lr _|exact Ls _ _|exact True.intro|exact dI|exact hq|(dsimp only;omega)
  ·all_goals try(have Z:=(oj ah aC);(repeat' first|refine zV Z ?_|refine yQ Z f2 ?_|refine zH Z ?_ ?_<;>intro hb|fail);all_goals clear Z)
   all_goals clear f1 f2
   all_goals first
    |(exfalso;omega)
    |(refine yT hC (oj ah aC) ?_
      refine .one (.c (QG (c:=YP m) (hR _ ms ?_ Af) Af))
      unfold WB
      repeat' split
      all_goals exact Ah)
 ·have bU:=YL aB hb
  subst bU
  refine yT hC ah ?_
  exact .one (.c (ZF ef))
end Go.Proofs.YtjegkdadeghpjaaGreatDoor
namespace Go.PN
open Go.AI
section
variable {α β γ : Type}
abbrev BG:Nat:=1048576
def TB (s:PS):Prop:=∀t∈s.l,t.text.length≤BG
theorem TB.bD {s r:PS} (h:TB s) (hs:r.l<:+s.l):TB r:=fun t ht=>h t (hs.subset ht)
def iA (P:α→Prop) (f:PS→α×PS):Prop:=∀s,TB s→P (f s).1
theorem iA.aG {P:α→Prop} {Q:β→Prop} {f:PS→α×PS} {k:α→PS→β×PS} (h:iA P f) (hf:aQ f) (hk:∀a,P a→iA Q (k a)):iA Q (aG f k):=fun s hs=>hk _ (h s hs) _ (hs.bD (hf.bD s))
theorem iA.pure {P:α→Prop} {a:α} (h:P a):iA P fun s=>(a,s):=fun _ _=>h
theorem iA.ite {P:α→Prop} {c:PS→Prop} [DecidablePred c] {f g:PS→α×PS} (hf:iA P f) (hg:iA P g):iA P fun s=>if c s then f s else g s:=fun s hs=>by
 dsimp only
 split
 ·exact hf s hs
 ·exact hg s hs
theorem iA.unit {f:PS→Unit×PS}:iA (fun _=>True) f:=fun _ _=>trivial
theorem Qsi (m:PS→Bool):iA (fun x:BS=>x.length≤BG) fun s=>QU (m s) s:=fun s hs=>by
 dsimp only
 unfold QU
 split
 ·split
  ·exact Lz _
  ·rename_i t l e
   split
   ·exact hs t (by rw [e];exact Lf)
   ·exact Lz _
 ·exact Lz _
theorem VP:iA (fun x:BS=>x.length≤BG) Xu:=Qsi _
abbrev V2 (r:RD):Prop:=r.wf 1000
theorem ZK:V2 aW:=⟨fun x hx=>(by cases hx),fun x hx=>(by cases hx),Lz _,Lz _⟩
theorem L7 (s:BS):V2 (O2 s):=(MM s).mono Af
theorem CF:iA V2 Yh:=fun s _=>by
 unfold Yh
 dsimp only
 split
 ·exact L7 _
 ·exact ZK
theorem BF:iA (fun x:BS=>x.length≤BG+1) Y3:=fun s hs=>by
 unfold Y3
 split
 ·exact Nat.succ_le_succ (VP _ (hs.bD ((QJ kT).bD s)))
 ·exact Nat.le_succ_of_le (VP s hs)
theorem wJ {J:α→PS→Prop} {c:PS→Bool} {b:α→PS→α×PS} (hb:∀a s,s.e=0→J a s→J (b a s).1 (b a s).2):∀(n:Nat) (a:α) (s:PS),J a s→J (UD c b n a s).1 (UD c b n a s).2
 |0,_,_,h=>h
 |n+1,a,s,h=>by
  unfold UD
  split
  ·rename_i e
   exact wJ hb n _ _ (hb a s e.1 h)
  ·exact h
def lp (P:α→Prop) (N:Nat) (a:List α) (s:PS):Prop:=TB s∧a.length+mS s≤N∧∀x∈a,P x
theorem Wa {P:α→Prop} {N:Nat} {a:List α} {s:PS} {x:α} {s':PS} (h:lp P N a s) (hs:s'.l<:+s.l) (hm:mS s'<mS s) (hx:P x):lp P N (a++[x]) s':=
 ⟨h.1.bD hs,by rw [La,List.length_singleton];have:=h.2.1;omega,fun y hy=>by
  rcases List.mem_append.1 hy with e|e
  ·exact h.2.2 y e
  ·rw [Lv.1 e];exact hx⟩
abbrev NG:Nat:=1048576
def tQ (x:X7):Prop:=x.name.length≤BG∧V2 x.p∧V2 x.fail∧V2 x.rep
def wo (x:Vq):Prop:=x.name.length≤BG
def kD (x:Xk):Prop:=x.name.length≤BG∧V2 x.aH∧x.ak.length≤NG∧∀i∈x.ak,i.length≤BG+1
def tT (x:YT):Prop:=x.name.length≤BG∧x.top.length≤BG+1∧x.an.length≤NG∧∀g∈x.an,kD g
def y6 (x:YU):Prop:=x.name.length≤BG∧x.members.length≤NG∧(∀n∈x.members,n.length≤BG)∧x.ar.length≤NG∧∀r∈x.ar,V2 r
def Dg (x:Zh):Prop:=x.event.length≤BG∧V2 x.p
def wu (x:Ke):Prop:=x.name.length≤BG∧x.top.length≤BG+1∧x.values.length≤NG∧∀v∈x.values,Dg v
def Zl (P:α→Prop) (f:PS→α×PS):Prop:=∀s,TB s→mS s≤NG→P (f s).1
theorem iA.n {P:α→Prop} {f:PS→α×PS} (h:iA P f):Zl P f:=fun s hs _=>h s hs
theorem Zl.aG {P:α→Prop} {Q:β→Prop} {f:PS→α×PS} {k:α→PS→β×PS} (h:Zl P f) (hf:aQ f) (hk:∀a,P a→Zl Q (k a)):Zl Q (aG f k):=fun s hs hm=>hk _ (h s hs hm) _ (hs.bD (hf.bD s)) (Lt (sG hf s) hm)
theorem Zl.pure {P:α→Prop} {a:α} (h:P a):Zl P fun s=>(a,s):=fun _ _ _=>h
theorem Zl.unit {f:PS→Unit×PS}:Zl (fun _=>True) f:=fun _ _ _=>trivial
theorem W4 {P:α→Prop} {c:PS→Bool} {f:PS→α×PS} {b:List α→PS→List α×PS} (hb:∀a s,b a s=(a++[(f s).1],(f s).2)) (rf:aQ f) (cf:ek f) (hf:Zl P f):Zl (fun l=>l.length≤NG∧∀x∈l,P x) (KS c b []):=fun s ht hN=>by
 have:=wJ (J:=fun a s=>lp P NG a s∧mS s≤NG) (c:=c) (b:=b) (fun a s e h=>by
  rw [hb]
  exact⟨Wa h.1 (rf.bD s) (cf s e) (hf s h.1.1 h.2),Lt (sG rf s) h.2⟩) (mS s) [] s ⟨⟨ht,by simpa using hN,fun _ h=>by cases h⟩,hN⟩
 exact⟨by have:=this.1.2.1;unfold KS;omega,this.1.2.2⟩
theorem L8:Zl kD Ku:=by
 rw [Bx]
 refine Zl.aG VP.n XA fun nm hn=>Zl.aG (P:=fun _=>True) (fun _ _ _=>trivial) CE fun k _=> ?_
 refine Zl.aG (P:=fun _=>True) (fun _ _ _=>trivial) (tZ UG (QO 0)) fun v _=> ?_
 refine Zl.aG (P:=V2) (iA.ite (c:=fun _=>k=some 7) CF (iA.pure ZK)).n (tZ Zb (QO aW)) fun d hd=> ?_
 refine Zl.aG (P:=fun l:List BS=>l.length≤NG∧∀x∈l,x.length≤BG+1) ?_ MF fun q hq=>Zl.pure ⟨hn,hd,hq⟩
 exact Zl.aG (Q:=fun l:List BS=>l.length≤NG∧∀x∈l,x.length≤BG+1) (W4 (fun _ _=>rfl) VH F3 BF.n) (Zw w8 []) fun q hq=>Zl.aG (Q:=fun l:List BS=>l.length≤NG∧∀x∈l,x.length≤BG+1) Zl.unit (QJ QV) fun _ _=>Zl.pure (P:=fun l:List BS=>l.length≤NG∧∀x∈l,x.length≤BG+1) hq
theorem L9 {P:α→Prop} {k:BS→PS→α×PS} (h:∀t,t.length≤BG+1→Zl P (k t)):Zl P (y2 k):=
 Zl.aG Zl.unit (QJ _) fun _ _=>Zl.aG BF.n VH fun t ht=>Zl.aG Zl.unit (QJ _) fun _ _=>h t ht
theorem Qsk:Zl tT Wq:=by
 rw [HL]
 refine Zl.aG VP.n XA fun nm hn=>L9 fun t ht=> ?_
 refine Zl.aG (W4 (P:=kD) (f:=PN.aG (fun s=>((),Xt Qy s)) fun _=>Ku) (fun _ _=>rfl) (aQ.aG (QJ Qy) fun _=>W1) (ek.aG (Cp Qy) fun _=>W1) (Zl.aG Zl.unit (QJ Qy) fun _ _=>L8)) (Zw w9 _) fun q hq=> ?_
 exact Zl.aG Zl.unit (QJ _) fun _ _=>Zl.pure ⟨hn,ht,hq⟩
theorem QpC:Zl wu KJ:=by
 rw [F5]
 refine Zl.aG VP.n XA fun nm hn=>L9 fun t ht=> ?_
 refine Zl.aG (W4 (P:=Dg) (f:=PN.aG Xu fun w=>PN.aG Yh fun q=>PN.aG (fun s=>((),Xt QV s)) fun _ s=>((⟨w,q⟩:Zh),s)) (fun _ _=>rfl) (aQ.aG XA fun w=>aQ.aG Zb fun q=>aQ.aG (QJ QV) fun _=>QO _) (ek.aG W0 fun w=>aQ.aG Zb fun q=>aQ.aG (QJ QV) fun _=>QO _) ?_) (Zw xa _) fun q hq=> ?_
 ·exact Zl.aG VP.n XA fun w hw=>Zl.aG CF.n Zb fun q hq=>Zl.aG Zl.unit (QJ QV) fun _ _=>Zl.pure ⟨hw,hq⟩
 ·exact Zl.aG Zl.unit (QJ _) fun _ _=>Zl.pure ⟨hn,ht,hq⟩
theorem QpD:Zl y6 KI:=by
 rw [F6]
 refine Zl.aG VP.n XA fun nm hn=>Zl.aG (P:=fun _=>True) (fun _ _ _=>trivial) MK fun g _=> ?_
 refine Zl.aG (W4 (P:=V2) (f:=Yh) (fun _ _=>rfl) Zb MD CF.n) (Zw wD _) fun f hf=>Zl.aG Zl.unit (QJ _) fun _ _=> ?_
 refine Zl.aG (W4 (P:=fun x:BS=>x.length≤BG) (f:=Xu) (fun _ _=>rfl) XA W0 VP.n) (Zw wE _) fun m hm=>Zl.aG Zl.unit (QJ _) fun _ _=>Zl.pure ⟨hn,hm.1,hm.2,hf⟩
theorem QpE:Zl wo KH:=by
 rw [F4]
 exact Zl.aG VP.n XA fun nm hn=>Zl.aG (P:=fun _=>True) (fun _ _ _=>trivial) MH fun b _=>Zl.aG Zl.unit (QJ _) fun _ _=>Zl.pure hn
theorem QpF:Zl tQ KG:=fun s hs _=>by
 have hw:=VP s hs
 have:=wJ (J:=fun(x:List BS×X7) (_:PS)=>tQ x.2) (c:=fun s=> !Xe s QV) (b:=gR) (fun a s _ h=>by
  have hn:∀r,V2 (Yh r).1:=fun r=>by
   unfold Yh
   dsimp only
   split
   ·exact L7 _
   ·exact ZK
  unfold gR
  dsimp only
  split
  ·exact h
  split
  ·exact⟨h.1,hn _,h.2.2⟩
  split
  ·exact⟨h.1,h.2.1,hn _,h.2.2.2⟩
  split
  ·exact⟨h.1,h.2.1,h.2.2.1,hn _⟩
  split<;>exact h) (mS (Xu s).2) ([],{bn with name:=(Xu s).1}) (Xu s).2 ⟨hw,ZK,ZK,ZK⟩
 exact this
structure K5 (m:Qz):Prop where
 nm:m.name.length≤BG
 tp:m.top.length≤BG+1
 ev:m.events.length≤NG∧∀x∈m.events,tQ x
 hs:m.af.length≤NG∧∀x∈m.af,wo x
 gt:m.an.length≤NG∧∀x∈m.an,kD x
 pg:m.aa.length≤NG∧∀x∈m.aa,tT x
 gr:m.ae.length≤NG∧∀x∈m.ae,y6 x
 ph:m.ai.length≤NG∧∀x∈m.ai,wu x
structure ny (m:Qz) (s:PS):Prop where
 nm:m.name.length≤BG
 tp:m.top.length≤BG+1
 ev:lp tQ NG m.events s
 hs:lp wo NG m.af s
 gt:lp kD NG m.an s
 pg:lp tT NG m.aa s
 gr:lp y6 NG m.ae s
 ph:lp wu NG m.ai s
theorem Om {P:α→Prop} {N:Nat} {a:List α} {s s':PS} (h:lp P N a s) (hs:s'.l<:+s.l) (hm:mS s'≤mS s):lp P N a s':=⟨h.1.bD hs,by have:=h.2.1;omega,h.2.2⟩
theorem ny.aT {m:Qz} {s s':PS} (h:ny m s) (hs:s'.l<:+s.l) (hm:mS s'≤mS s):ny m s':=
 ⟨h.nm,h.tp,Om h.ev hs hm,Om h.hs hs hm,Om h.gt hs hm,Om h.pg hs hm,Om h.gr hs hm,Om h.ph hs hm⟩
theorem QpG {m:Qz} {s:PS} (e0:s.e=0) (h:ny m s):ny (cG m s).1 (cG m s).2:=by
 have ij:=(Cr m).bD s
 have cE:=Cs m s e0
 have hm:mS s≤NG:=by have:=h.ev.2.1;omega
 have rt:=Y4 stM
 have ht:TB (QU (stM s) s).2:=h.ev.1.bD (rt.bD s)
 have rL:mS (QU (stM s) s).2≤NG:=Lt (sG rt s) hm
 unfold cG at ij cE⊢
 dsimp only at ij cE⊢
 change TB (QU (Xe s Xi||Xe s Xq||Xe s Qy||Xe s Yb||Xe s Xr||Xe s Xn) s).2 at ht
 change mS (QU (Xe s Xi||Xe s Xq||Xe s Qy||Xe s Yb||Xe s Xr||Xe s Xn) s).2≤NG at rL
 generalize QU (Xe s Xi||Xe s Xq||Xe s Qy||Xe s Yb||Xe s Xr||Xe s Xn) s=r at*
 have kp:∀{s':PS},s'.l<:+s.l→mS s'<mS s→ny m s':=fun a b=>h.aT a (Ll b)
 split at ij
 ·rename_i e
  rw [iP e] at cE⊢
  exact {kp ij cE with ev:=Wa h.ev ij cE (QpF _ ht rL)}
 rename_i e;rw [iN e] at cE⊢
 split at ij
 ·rename_i e
  rw [iP e] at cE⊢
  exact {kp ij cE with hs:=Wa h.hs ij cE (QpE _ ht rL)}
 rename_i e;rw [iN e] at cE⊢
 split at ij
 ·rename_i e
  rw [iP e] at cE⊢
  exact {kp ij cE with gt:=Wa h.gt ij cE (L8 _ ht rL)}
 rename_i e;rw [iN e] at cE⊢
 split at ij
 ·rename_i e
  rw [iP e] at cE⊢
  exact {kp ij cE with pg:=Wa h.pg ij cE (Qsk _ ht rL)}
 rename_i e;rw [iN e] at cE⊢
 split at ij
 ·rename_i e
  rw [iP e] at cE⊢
  exact {kp ij cE with gr:=Wa h.gr ij cE (QpD _ ht rL)}
 rename_i e;rw [iN e] at cE⊢
 split at ij
 ·rename_i e
  rw [iP e] at cE⊢
  exact {kp ij cE with ph:=Wa h.ph ij cE (QpC _ ht rL)}
 rename_i e;rw [iN e] at cE⊢
 exact kp ij cE
theorem Qsl:Zl K5 OJ:=by
 rw [Qpi]
 refine Zl.aG Zl.unit (QJ _) fun _ _=>Zl.aG VP.n XA fun nm hn=>Zl.aG Zl.unit (QJ _) fun _ _=> ?_
 intro s hs hm
 have g0:∀{α:Type} (P:α→Prop),lp P NG [] s:=fun P=>⟨hs,by simpa using hm,fun _ h=>by cases h⟩
 have h0:ny {j2 with name:=nm} s:=⟨hn,Lz _,g0 _,g0 _,g0 _,g0 _,g0 _,g0 _⟩
 have h1:=wJ (J:=ny) (c:=fun s=> !Xe s Y2) (b:=cG) (fun a s e h=>QpG e h) (mS s) _ _ h0
 have ht:∀x:Qz,ny x (KS (fun s=> !Xe s Y2) cG {j2 with name:=nm} s).2→Zl K5 (RL x):=fun x hx=>by
  refine Zl.aG Zl.unit (QJ _) fun _ _=>Zl.aG BF.n VH fun t ht=>Zl.aG Zl.unit (QJ _) fun _ _=> ?_
  have gl:∀{α:Type} {P:α→Prop} {l:List α} {r:PS},lp P NG l r→l.length≤NG∧∀x∈l,P x:=fun h=>⟨by have:=h.2.1;omega,h.2.2⟩
  exact fun _ _ _=>⟨hx.nm,ht,gl hx.ev,gl hx.hs,gl hx.gt,gl hx.pg,gl hx.gr,gl hx.ph⟩
 have cU:ny (KS (fun s=> !Xe s Y2) cG {j2 with name:=nm} s).1 (KS (fun s=> !Xe s Y2) cG {j2 with name:=nm} s).2:=h1
 exact ht _ cU _ cU.ev.1 (by have:=cU.ev.2.1;omega)
theorem QF {P:α→Prop} {l:List α} {d:α} (h:∀x∈l,P x) (hd:P d) (i:Nat):P (l.getD i d):=by
 rw [Lg]
 by_cases hi:i<l.length
 ·rw [Li hi];exact h _ (Le hi)
 ·rw [List.getElem?_eq_none om];exact hd
theorem qD:kD aU:=⟨Lz _,ZK,Lz _,fun _ h=>by cases h⟩
theorem QvJ:tT bj:=⟨Lz _,Lz _,Lz _,fun _ h=>by cases h⟩
theorem K5.tI {m:Qz} (h:K5 m) (i:Nat):tT (m.aa.getD i bj):=QF h.pg.2 QvJ i
theorem K5.ca {m:Qz} (h:K5 m):∀k,(Qt m k).length≤NG∧∀g∈Qt m k,kD g
 |0=>h.gt
 |k+1=>(h.tI k).2.2
theorem K5.uT {m:Qz} (h:K5 m) (k i:Nat):kD ((Qt m k).getD i aU):=QF (h.ca k).2 qD i
theorem V2.w {r:RD} (h:V2 r):r.wf 1073741824:=h.mono Af
theorem V2.m {r:RD} (h:V2 r):r.wf 500000000:=h.mono Af
theorem K5.ok {m:Qz} (h:K5 m):Go.Proofs.YtjegkdadeghpjaaGreatDoor.gZ m:=⟨Lt h.ev.1 Af,Lt h.hs.1 Af,Lt h.gt.1 Af,Lt h.pg.1 Af,fun p hp=>Lt (h.pg.2 p hp).2.2.1 Af⟩
theorem CY:tQ bn:=⟨Lz _,ZK,ZK,ZK⟩
theorem QvK:wo bw:=Lz _
theorem ux:y6 bJ:=⟨Lz _,Lz _,fun _ h=>(by cases h),Lz _,fun _ h=>(by cases h)⟩
theorem uy:wu cd:=⟨Lz _,Lz _,Lz _,fun _ h=>by cases h⟩
theorem CZ:Dg bE:=⟨Lz _,ZK⟩
theorem K5.wf {m:Qz} (h:K5 m):NV m:=⟨Lt h.nm Af,fun i=>by
 obtain⟨a,b⟩:=QF h.ev.2 CY i
 exact⟨Lt a Af,V2.w b.1,V2.w b.2.1,V2.w b.2.2⟩,fun i=>Lt (QF h.hs.2 QvK i) Af⟩
theorem K5.wi {m:Qz} (h:K5 m):pj m:=⟨fun i=>⟨Lt (h.tI i).1 Af,(h.tI i).2.2.1⟩,h.gt.1,h.pg.1,fun k i=>by
 obtain⟨a,b,c,_⟩:=h.uT k i
 exact⟨Lt a Af,V2.w b,Lt c Af⟩⟩
theorem K5.RW {m:Qz} (h:K5 m):NR m:=⟨Lt h.ph.1 Af,fun i=>by
 obtain⟨a,b,c,_⟩:=QF h.ph.2 uy i
 exact⟨Lt a Af,Lt b Af,Lt c Af⟩,fun i k=>V2.w (QF (QF h.ph.2 uy i).2.2.2 CZ k).2⟩
theorem K5.RX {m:Qz} (h:K5 m):NS m:=⟨Lt h.gr.1 Af,fun i=>by
 obtain⟨a,b,_,d,_⟩:=QF h.gr.2 ux i
 exact⟨Lt a Af,b,Lt d Af⟩,fun i k=>V2.w (QF (QF h.gr.2 ux i).2.2.2.2 ZK k)⟩
theorem K5.inl {m:Qz} (h:K5 m) (k i j:Nat):(((Qt m k).getD i aU).ak.getD j []).length≤1099511627776:=
 Lt (QF (P:=fun x:BS=>x.length≤BG+1) (h.uT k i).2.2.2 (Lz _) j) Af
end
section
def iz (n:Nat) (r:RD):Prop:=r.wf n
def nu (n:Nat) (x:X7):Prop:=x.name.length≤n∧iz n x.p∧iz n x.fail∧iz n x.rep∧ -9223372036854775808≤x.cost∧x.cost<9223372036854775808
def nW (n:Nat) (x:Vq):Prop:=x.name.length≤n
def o7 (n:Nat) (l:List BS):Prop:=l.length≤n∧∀i∈l,i.length≤n
def mw (n:Nat) (x:Xk):Prop:=x.name.length≤n∧(-9223372036854775808≤x.kind∧x.kind<9223372036854775808)∧(-9223372036854775808≤x.k∧x.k<9223372036854775808)∧o7 n x.ak∧iz n x.aH
def nx (n:Nat) (l:List Xk):Prop:=l.length≤n∧∀g∈l,mw n g
def nz (n:Nat) (x:YT):Prop:=x.name.length≤n∧x.top.length≤n∧nx n x.an
def tc (n:Nat) (l:List RD):Prop:=l.length≤n∧∀r∈l,iz n r
def nv (n:Nat) (x:YU):Prop:=x.name.length≤n∧(-9223372036854775808≤x.kind∧x.kind<9223372036854775808)∧o7 n x.members∧tc n x.ar
def ou (n:Nat) (x:Zh):Prop:=x.event.length≤n∧iz n x.p
def nB (n:Nat) (x:Ke):Prop:=x.name.length≤n∧x.top.length≤n∧x.values.length≤n∧∀v∈x.values,ou n v
structure qv (n:Nat) (m:Qz):Prop where
 nm:m.name.length≤n
 tp:m.top.length≤n
 ev:m.events.length≤n∧∀x∈m.events,nu n x
 hs:m.af.length≤n∧∀x∈m.af,nW n x
 gt:nx n m.an
 pg:m.aa.length≤n∧∀x∈m.aa,nz n x
 gr:m.ae.length≤n∧∀x∈m.ae,nv n x
 ph:m.ai.length≤n∧∀x∈m.ai,nB n x
section
variable {m n : Nat}
theorem iz.mono {r:RD} (h:iz m r) (hm:m≤n):iz n r:=RD.wf.mono h hm
theorem nu.mono {x:X7} (h:nu m x) (hm:m≤n):nu n x:=⟨Lt h.1 hm,h.2.1.mono hm,h.2.2.1.mono hm,h.2.2.2.1.mono hm,h.2.2.2.2⟩
theorem nW.mono {x:Vq} (h:nW m x) (hm:m≤n):nW n x:=Lt h hm
theorem o7.mono {l:List BS} (h:o7 m l) (hm:m≤n):o7 n l:=⟨Lt h.1 hm,fun i hi=>Lt (h.2 i hi) hm⟩
theorem mw.mono {x:Xk} (h:mw m x) (hm:m≤n):mw n x:=⟨Lt h.1 hm,h.2.1,h.2.2.1,h.2.2.2.1.mono hm,h.2.2.2.2.mono hm⟩
theorem nx.mono {l:List Xk} (h:nx m l) (hm:m≤n):nx n l:=⟨Lt h.1 hm,fun i hi=>(h.2 i hi).mono hm⟩
theorem nz.mono {x:YT} (h:nz m x) (hm:m≤n):nz n x:=⟨Lt h.1 hm,Lt h.2.1 hm,h.2.2.mono hm⟩
theorem tc.mono {l:List RD} (h:tc m l) (hm:m≤n):tc n l:=⟨Lt h.1 hm,fun i hi=>(h.2 i hi).mono hm⟩
theorem nv.mono {x:YU} (h:nv m x) (hm:m≤n):nv n x:=⟨Lt h.1 hm,h.2.1,h.2.2.1.mono hm,h.2.2.2.mono hm⟩
theorem ou.mono {x:Zh} (h:ou m x) (hm:m≤n):ou n x:=⟨Lt h.1 hm,h.2.mono hm⟩
theorem nB.mono {x:Ke} (h:nB m x) (hm:m≤n):nB n x:=⟨Lt h.1 hm,Lt h.2.1 hm,Lt h.2.2.1 hm,fun i hi=>(h.2.2.2 i hi).mono hm⟩
theorem qv.mono {x:Qz} (h:qv m x) (hm:m≤n):qv n x:=⟨Lt h.nm hm,Lt h.tp hm,⟨Lt h.ev.1 hm,fun i hi=>(h.ev.2 i hi).mono hm⟩,⟨Lt h.hs.1 hm,fun i hi=>(h.hs.2 i hi).mono hm⟩,h.gt.mono hm,⟨Lt h.pg.1 hm,fun i hi=>(h.pg.2 i hi).mono hm⟩,⟨Lt h.gr.1 hm,fun i hi=>(h.gr.2 i hi).mono hm⟩,⟨Lt h.ph.1 hm,fun i hi=>(h.ph.2 i hi).mono hm⟩⟩
end
def X2 (r:RD):Bool:=decide (r.num.length≤40)&&decide (r.den.length≤40)
def po (x:Xk):Bool:=decide (x.ak.length≤40)&&X2 x.aH
def W5 (l:List Xk):Bool:=l.all po&&decide (l.length≤100)
def Wb (x:X7):Bool:=X2 x.p&&X2 x.fail&&X2 x.rep
def CG (x:YT):Bool:=W5 x.an
def VQ (x:YU):Bool:=decide (x.members.length≤60)&&decide (x.ar.length≤60)&&x.ar.all X2
def VR (x:Ke):Bool:=decide (x.values.length≤60)&&x.values.all fun v=>X2 v.p
def KK (m:Qz):Bool:=(decide (m.events.length≤60)&&decide (m.af.length≤60)&&decide (m.aa.length≤30)&&decide (m.ae.length≤30)&&decide (m.ai.length≤30)&&W5 m.an)&&(m.events.all Wb&&(m.aa.all CG&&(m.ae.all VQ&&m.ai.all VR)))
theorem On {n:Nat} {r:RD} (h:X2 r=true) (hu:iz n r):V2 r:=by
 unfold X2 at h
 simp only [Ba,Dq] at h
 exact⟨hu.1,hu.2.1,by omega,by omega⟩
theorem NT {n:Nat} {l:List Xk} (h:W5 l=true) (hu:nx n l) (hn:n≤1048576):l.length≤NG∧∀g∈l,kD g:=by
 refine⟨Lt hu.1 hn,fun g hg=> ?_⟩
 unfold W5 at h
 rw [Ba,List.all_eq_true] at h
 have h1:=h.1 g hg
 unfold po at h1
 rw [Ba] at h1
 have u:=hu.2 g hg
 exact⟨Lt u.1 hn,On h1.2 u.2.2.2.2,Lt u.2.2.2.1.1 hn,fun i hi=>Nat.le_succ_of_le (Lt (u.2.2.2.1.2 i hi) hn)⟩
theorem Qsm {n:Nat} {m:Qz} (h:KK m=true) (hu:qv n m) (hn:n≤1048576):K5 m:=by
 unfold KK at h
 simp only [Ba] at h
 obtain⟨⟨_,h1⟩,h2,h3,h4,h5⟩:=h
 refine⟨Lt hu.nm hn,Nat.le_succ_of_le (Lt hu.tp hn),⟨Lt hu.ev.1 hn,fun x hx=> ?_⟩,⟨Lt hu.hs.1 hn,fun x hx=>Lt (hu.hs.2 x hx) hn⟩,NT h1 hu.gt hn,⟨Lt hu.pg.1 hn,fun x hx=> ?_⟩,⟨Lt hu.gr.1 hn,fun x hx=> ?_⟩,⟨Lt hu.ph.1 hn,fun x hx=> ?_⟩⟩
 ·have a:=List.all_eq_true.1 h2 x hx
  unfold Wb at a
  simp only [Ba] at a
  obtain⟨u1,u2,u3,u4,_⟩:=hu.ev.2 x hx
  exact⟨Lt u1 hn,On a.1.1 u2,On a.1.2 u3,On a.2 u4⟩
 ·have a:=List.all_eq_true.1 h3 x hx
  obtain⟨u1,u2,u3⟩:=hu.pg.2 x hx
  exact⟨Lt u1 hn,Nat.le_succ_of_le (Lt u2 hn),NT a u3 hn⟩
 ·have a:=List.all_eq_true.1 h4 x hx
  unfold VQ at a
  rw [Ba,List.all_eq_true] at a
  obtain⟨u1,_,u2,u3⟩:=hu.gr.2 x hx
  exact⟨Lt u1 hn,Lt u2.1 hn,fun i hi=>Lt (u2.2 i hi) hn,Lt u3.1 hn,fun r hr=>On (a.2 r hr) (u3.2 r hr)⟩
 ·have a:=List.all_eq_true.1 h5 x hx
  unfold VR at a
  rw [Ba,List.all_eq_true] at a
  obtain⟨u1,u2,u3,u4⟩:=hu.ph.2 x hx
  exact⟨Lt u1 hn,Nat.le_succ_of_le (Lt u2 hn),Lt u3 hn,fun v hv=>⟨Lt (u4 v hv).1 hn,On (a.2 v hv) (u4 v hv).2⟩⟩
end
def Ve (n:Nat):BS:=if h:n<10 then [UInt8.ofNat (48+n)] else Ve (n/10)++[UInt8.ofNat (48+n%10)]
termination_by n
decreasing_by omega
theorem KW {n:Nat} (h:n<10):Ve n=[UInt8.ofNat (48+n)]:=by rw [Ve,dif_pos h]
theorem ud {n:Nat} (h:10≤n):Ve n=Ve (n/10)++[UInt8.ofNat (48+n%10)]:=by rw [Ve,dif_neg om]
theorem d48 {n:Nat} (h:n<10):(UInt8.ofNat (48+n)).toNat=48+n:=by
 rw [UInt8.toNat_ofNat'];exact Nat.mod_eq_of_lt (Ae (show 48+n<58 by omega) Af)
abbrev mF (b:UInt8):Bool:=QE b.toNat
theorem Qsn {n:Nat} (h:n<10):mF (UInt8.ofNat (48+n))=true:=by
 show QE _=true
 rw [d48 h]
 unfold QE
 simp;omega
theorem GM (a:BS) (x:UInt8):Yk (a++[x])=Yk a*10+(x.toNat-48):=by unfold Yk;rw [List.foldl_append];rfl
theorem Ht:∀(k:Nat) (l:BS),l.length≤k→l≠[]→l.all mF=true→l.headD 0≠48→0<Yk l
 |0,l,hl,h0,_,_=>absurd (Lh.1 om) h0
 |k+1,l,hl,h0,hd,hh=>by
  obtain⟨a,x,rfl⟩:∃a x,l=a++[x]:=⟨_,_,(List.dropLast_concat_getLast h0).symm⟩
  rw [GM]
  cases a with
  |nil=>
   have hx:mF x=true:=by simpa using hd
   have kQ:x≠48:=hh
   have r9:QE x.toNat=true:=hx
   unfold QE at r9
   have h4:x.toNat≠48:=fun e=>kQ (UInt8.toNat_inj.1 e)
   simp at r9
   omega
  |cons c a=>
   have lH:(c::a).all mF=true:=by rw [List.all_append] at hd;simp only [Ba] at hd;exact hd.1
   have:=Ht k (c::a) (by rw [La] at hl;simpa using hl) (by simp) lH hh
   omega
theorem GN:∀(k:Nat) (l:BS),l.length≤k→l≠[]→l.all mF=true→l.headD 0≠48→l=Ve (Yk l)
 |0,l,hl,h0,_,_=>absurd (Lh.1 om) h0
 |k+1,l,hl,h0,hd,hh=>by
  obtain⟨a,x,rfl⟩:∃a x,l=a++[x]:=⟨_,_,(List.dropLast_concat_getLast h0).symm⟩
  have hx:QE x.toNat=true:=by
   rw [List.all_append,Ba] at hd
   have h2:=hd.2
   rw [List.all_cons,Ba] at h2
   exact h2.1
  unfold QE at hx
  simp at hx
  have tE:∀m,m=x.toNat-48→UInt8.ofNat (48+m)=x:=fun m hm=>by
   apply UInt8.toNat_inj.1
   rw [d48 om];omega
  rw [GM]
  cases a with
  |nil=>
   rw [KW (by show 0*10+_<10;omega)]
   show [x]=_
   rw [tE (Yk []*10+(x.toNat-48)) (by show 0*10+_=_;omega)]
  |cons c a=>
   have lH:(c::a).all mF=true:=by rw [List.all_append] at hd;simp only [Ba] at hd;exact hd.1
   have h1:=Ht (a.length+1) (c::a) (by simp) (by simp) lH hh
   have ih:=GN k (c::a) (by rw [La] at hl;simpa using hl) (by simp) lH hh
   generalize hN:Yk (c::a)=N at*
   rw [ud om,show(N*10+(x.toNat-48))/10=N from by omega,tE _ om,←ih]
theorem QpJ {l:BS} (h0:l≠[]) (hd:l.all mF=true) (hh:l.headD 0≠48):l=Ve (Yk l):=GN l.length l (Ac _) h0 hd hh
theorem Qm6 {n:Nat} (h:n<10):Xz .i32 ((48:Int)+(n:Nat))=((48+n:Nat):Int):=by
 match n,h with
 |0,_|1,_|2,_|3,_|4,_|5,_|6,_|7,_|8,_|9,_=>rw [QM];rfl
theorem SD {m:Nat} (h:m<10):(Qc m).getD 0 0=m:=by
 by_cases h0:m=0
 ·subst h0;rw [QA];rfl
 ·rw [XW h0];show m%4294967296=m;omega
theorem Qm7 (n:Nat) (s:BS):Ve n++s=if n/10=0 then UInt8.ofNat (48+n%10)::s else Ve (n/10)++UInt8.ofNat (48+n%10)::s:=by
 by_cases h:n<10
 ·rw [KW h,iP om,Nat.mod_eq_of_lt h];rfl
 ·rw [ud om,iN om,Lo];rfl
end Go.PN
namespace Go.Proofs.YtjegkdadeghpjaaGreatDoor
open Go.AI Go.PN Go.ChangeShapes Go.WideShapes Go.RowKit Proofs.Tryz
def y7 (P:Program) (fs:List Field) (off T:Nat) {α:Type} (c:α→List CV) (B:α→Nat→Prop):Prop:=
 ∀(H:Type) (enc:TypeId×Value→H) (w:World) (n:Nat) (cs:List Value) (xs:List (DataW H×List MemPlace)),cs.length=T→xs.length=fs.length→(∀(i:Nat) (f:Field),fs[i]?=some f→DataW.trod enc P w 0 (fun _=>true) true n f.type ((cs.drop f.offset).take (P.cellsOf f.type))=xs[i]?)→∃y,XV (mA w) w (c y) (cs.drop off)∧∀m,Rows.uptoBulkAll (xs.map (·.1))≤m→B y m
theorem VS {P:Program} {T:Nat}:y7 P [] T T (fun _:Unit=>[]) (fun _ _=>True):=fun H enc w n cs xs hl _ _=>⟨(),by rw [List.drop_of_length_le om];trivial,fun _ _=>trivial⟩
theorem QC {P:Program} {f:Field} {fs:List Field} {off T:Nat} {α β:Type} {c0:α→List CV} {c1:β→List CV} {B0:α→Nat→Prop} {B1:β→Nat→Prop} (s:Nat) (hz:P.cellsOf f.type=s) (ho:f.offset=off) (h0:aQ P f.type c0 B0) (hB0:∀y m n,B0 y m→m≤n→B0 y n) (hr:y7 P fs (off+s) T c1 B1):
  y7 P (f::fs) off T (fun y:α×β=>c0 y.1++c1 y.2) (fun y n=>B0 y.1 n∧B1 y.2 n):=fun H enc w n cs xs hl hx hf=>by
 match xs,hx with
 |x0::xs,hx=>
  have g0:=hf 0 f rfl
  rw [ho,hz] at g0
  obtain⟨y0,r0,b0⟩:=h0 H enc w n _ x0 g0
  obtain⟨y1,r1,b1⟩:=hr H enc w n cs xs hl (by simpa using hx) fun i f' hi=>by have:=hf (i+1) f' (by simpa using hi);simpa using this
  refine⟨(y0,y1),?_,fun m hm=> ?_⟩
  ·have e:cs.drop off=(cs.drop off).take s++cs.drop (off+s):=by
    conv=>lhs;rw [←List.take_append_drop s (cs.drop off)]
    rw [List.drop_drop]
   rw [e]
   exact r0.append r1
  ·simp only [Ld,Rows.uptoBulkAll] at hm
   exact⟨hB0 _ _ _ b0 om,b1 m om⟩
theorem YM {P:Program} {t:TypeId} {fs:List Field} {T:Nat} {α:Type} {c:α→List CV} {B:α→Nat→Prop} (ht:P.underlying t=some (.struct fs.toArray)) (hz:P.cellsOf t=T) (h:y7 P fs 0 T c B):aQ P t c B:=fun H enc w fuel cs x hx=>by
 obtain⟨xs,n,_,rfl,hl,hlen,hf⟩:=DataW.trod_struct ht hx
 obtain⟨y,r,b⟩:=h H enc w n cs xs (hl.trans hz) (by simpa using hlen) (fun i f hi=>hf i f (by simpa using hi))
 exact⟨y,by simpa using r,b _ (by simp only [Rows.uptoBulk];omega)⟩
theorem QvL {x:Int} (h:(Lit.int .i64 x).wf=true): -9223372036854775808≤x∧x<9223372036854775808:=by
 have hb: -9223372036854775808≤x∧x≤9223372036854775807:=by simpa [Lit.wf,IntKind.min,IntKind.max,IntKind.signed,IntKind.bits] using h
 omega
theorem wK:aQ prog 3 (fun n:Int=>[.int .i64 n]) (fun x _=> -9223372036854775808≤x∧x<9223372036854775808):=(QrD underlying3).to id (fun _=>rfl) fun _ _ h=>QvL h
theorem Zm:aQ prog 9 (fun l:BS=>[.str (sB l)]) (fun l n=>l.length≤n):=(QrE underlying9).to id (fun _=>rfl) fun _ _ h=>Nat.le_of_succ_le h
theorem GO:aQ prog 4 (fun b:Bool=>[.bool b]) (fun _ _=>True):=QoX underlying4
theorem FE {xs:List Nat}:∀(m n:Nat),xs.length≤m∧(∀x∈xs,x<4294967296)→m≤n→xs.length≤n∧∀x∈xs,x<4294967296:=fun _ _ h hm=>⟨Lt h.1 hm,h.2⟩
theorem FL:aQ prog 67 (fun xs:List Nat=>[ws true xs]) (fun xs n=>xs.length≤n∧∀x∈xs,x<4294967296):=
 (Zq (0:Nat) true underlying67 (s:=1) kR om (fun _ _ _ h _=>h) (QoW underlying180)).to id (fun ys=>by
  show [CV.row true 1 ys.length _]=[CV.row true 1 ys.length _]
  congr 2
  funext j
  show _=ao [CV.int .u32 ((ys.getD (j/1) 0:Nat):Int)] (j%1)
  rw [Nat.div_one,Nat.mod_one]
  rfl) (fun _ _ h=>h)
theorem Ma {α:Type}:∀(y:α) (m n:Nat),True→m≤n→True:=fun _ _ _ h _=>h
theorem wL:∀(y:Int) (m n:Nat),(-9223372036854775808≤y∧y<9223372036854775808)→m≤n→(-9223372036854775808≤y∧y<9223372036854775808):=fun _ _ _ h _=>h
theorem Zn {α:Type}:∀(y:List α) (m n:Nat),y.length≤m→m≤n→y.length≤n:=fun _ _ _ h hm=>Lt h hm
theorem UK:aQ prog 69 (fun r:RD=>YS r) (fun r n=>iz n r):=
 (YM underlying69 (T:=3) kR (QC 1 kR rfl GO Ma (QC 1 kR rfl FL (fun _=>FE) (QC 1 kR rfl FL (fun _=>FE) VS)))).to (fun y=>⟨y.1,y.2.1,y.2.2.1⟩) (fun _=>rfl) (fun _ _ h=>⟨h.2.1.2,h.2.2.1.2,h.2.1.1,h.2.2.1.1⟩)
theorem GP:aQ prog 66 (fun xs:List BS=>[YH true xs]) (fun xs n=>o7 n xs):=
 (Zq (B:=fun(y:BS) n=>y.length≤n) ([]:BS) true underlying66 (s:=1) kR om Zn Zm).to id (fun _=>rfl) (fun _ _ h=>h)
theorem Qm8:aQ prog 106 (fun xs:List RD=>[OB true xs]) (fun xs n=>tc n xs):=
 (Zq (B:=fun(y:RD) n=>iz n y) aW true underlying106 (s:=3) kR om (fun _ _ _ h hm=>iz.mono h hm) UK).to id (fun _=>rfl) (fun _ _ h=>h)
theorem Tm:aQ prog 101 (fun x:X7=>OD x) (fun x n=>nu n x):=
 (YM underlying101 (T:=11) kR (QC 1 kR rfl Zm Zn (QC 3 kR rfl UK (fun _ _ _ h hm=>iz.mono h hm) (QC 3 kR rfl UK (fun _ _ _ h hm=>iz.mono h hm) (QC 3 kR rfl UK (fun _ _ _ h hm=>iz.mono h hm) (QC 1 kR rfl wK wL VS)))))).to (fun y=>⟨y.1,y.2.1,y.2.2.1,y.2.2.2.1,y.2.2.2.2.1⟩) (fun _=>rfl) (fun _ _ h=>⟨h.1,h.2.1,h.2.2.1,h.2.2.2.1,h.2.2.2.2.1⟩)
theorem Tn:aQ prog 103 (fun x:Vq=>kr x) (fun x n=>nW n x):=
 (YM underlying103 (T:=2) kR (QC 1 kR rfl Zm Zn (QC 1 kR rfl GO Ma VS))).to (fun y=>⟨y.1,y.2.1⟩) (fun _=>rfl) (fun _ _ h=>h.1)
theorem GQ:aQ prog 71 (fun x:Xk=>Zi x) (fun x n=>mw n x):=
 (YM underlying71 (T:=7) kR (QC 1 kR rfl Zm Zn (QC 1 kR rfl wK wL (QC 1 kR rfl wK wL (QC 1 kR rfl GP (fun _ _ _ h hm=>o7.mono h hm) (QC 3 kR rfl UK (fun _ _ _ h hm=>iz.mono h hm) VS)))))).to (fun y=>⟨y.1,y.2.1,y.2.2.1,y.2.2.2.1,y.2.2.2.2.1⟩) (fun _=>rfl) (fun _ _ h=>⟨h.1,h.2.1,h.2.2.1,h.2.2.2.1,h.2.2.2.2.1⟩)
theorem FO:aQ prog 40 (fun xs:List Xk=>[ca true xs]) (fun xs n=>nx n xs):=
 (Zq (B:=fun(y:Xk) n=>mw n y) aU true underlying40 (s:=7) kR om (fun _ _ _ h hm=>mw.mono h hm) GQ).to id (fun _=>rfl) (fun _ _ h=>h)
theorem Qm9:aQ prog 105 (fun x:YT=>iO x) (fun x n=>nz n x):=
 (YM underlying105 (T:=3) kR (QC 1 kR rfl Zm Zn (QC 1 kR rfl Zm Zn (QC 1 kR rfl FO (fun _ _ _ h hm=>nx.mono h hm) VS)))).to (fun y=>⟨y.1,y.2.1,y.2.2.1⟩) (fun _=>rfl) (fun _ _ h=>⟨h.1,h.2.1,h.2.2.1⟩)
theorem To:aQ prog 108 (fun x:YU=>UF x) (fun x n=>nv n x):=
 (YM underlying108 (T:=4) kR (QC 1 kR rfl Zm Zn (QC 1 kR rfl wK wL (QC 1 kR rfl GP (fun _ _ _ h hm=>o7.mono h hm) (QC 1 kR rfl Qm8 (fun _ _ _ h hm=>tc.mono h hm) VS))))).to (fun y=>⟨y.1,y.2.1,y.2.2.1,y.2.2.2.1⟩) (fun _=>rfl) (fun _ _ h=>⟨h.1,h.2.1,h.2.2.1,h.2.2.2.1⟩)
theorem Tp:aQ prog 114 (fun x:Zh=>O3 x) (fun x n=>ou n x):=
 (YM underlying114 (T:=4) kR (QC 1 kR rfl Zm Zn (QC 3 kR rfl UK (fun _ _ _ h hm=>iz.mono h hm) VS))).to (fun y=>⟨y.1,y.2.1⟩) (fun _=>rfl) (fun _ _ h=>⟨h.1,h.2.1⟩)
theorem SE:aQ prog 110 (fun xs:List Zh=>[ll true xs]) (fun xs n=>xs.length≤n∧∀x∈xs,ou n x):=
 (Zq (B:=fun(y:Zh) n=>ou n y) bE true underlying110 (s:=4) kR om (fun _ _ _ h hm=>ou.mono h hm) Tp).to id (fun _=>rfl) (fun _ _ h=>h)
theorem Tq:aQ prog 112 (fun x:Ke=>Wr x) (fun x n=>nB n x):=
 (YM underlying112 (T:=3) kR (QC 1 kR rfl Zm Zn (QC 1 kR rfl Zm Zn (QC 1 kR rfl SE (fun _ _ _ h hm=>⟨Lt h.1 hm,fun x hx=>(h.2 x hx).mono hm⟩) VS)))).to (fun y=>⟨y.1,y.2.1,y.2.2.1⟩) (fun _=>rfl) (fun _ _ h=>⟨h.1,h.2.1,h.2.2.1.1,h.2.2.1.2⟩)
theorem W6 {α:Type} {U:Nat→α→Prop} (hU:∀{m n x},U m x→m≤n→U n x):∀(y:List α) (m n:Nat),(y.length≤m∧∀x∈y,U m x)→m≤n→(y.length≤n∧∀x∈y,U n x):=fun _ _ _ h hm=>⟨Lt h.1 hm,fun x hx=>hU (h.2 x hx) hm⟩
theorem S2:aQ prog 38 (fun xs:List X7=>[gS true xs]) (fun xs n=>xs.length≤n∧∀x∈xs,nu n x):=
 (Zq (B:=fun(y:X7) n=>nu n y) bn true underlying38 (s:=11) kR om (fun _ _ _ h hm=>nu.mono h hm) Tm).to id (fun _=>rfl) (fun _ _ h=>h)
theorem S3:aQ prog 39 (fun xs:List Vq=>[jb true xs]) (fun xs n=>xs.length≤n∧∀x∈xs,nW n x):=
 (Zq (B:=fun(y:Vq) n=>nW n y) bw true underlying39 (s:=2) kR om (fun _ _ _ h hm=>nW.mono h hm) Tn).to id (fun _=>rfl) (fun _ _ h=>h)
theorem Tr:aQ prog 41 (fun xs:List YT=>[ir true xs]) (fun xs n=>xs.length≤n∧∀x∈xs,nz n x):=
 (Zq (B:=fun(y:YT) n=>nz n y) bj true underlying41 (s:=3) kR om (fun _ _ _ h hm=>nz.mono h hm) Qm9).to id (fun _=>rfl) (fun _ _ h=>h)
theorem S4:aQ prog 42 (fun xs:List YU=>[fB true xs]) (fun xs n=>xs.length≤n∧∀x∈xs,nv n x):=
 (Zq (B:=fun(y:YU) n=>nv n y) bJ true underlying42 (s:=4) kR om (fun _ _ _ h hm=>nv.mono h hm) To).to id (fun _=>rfl) (fun _ _ h=>h)
theorem S5:aQ prog 43 (fun xs:List Ke=>[fS true xs]) (fun xs n=>xs.length≤n∧∀x∈xs,nB n x):=
 (Zq (B:=fun(y:Ke) n=>nB n y) cd true underlying43 (s:=3) kR om (fun _ _ _ h hm=>nB.mono h hm) Tq).to id (fun _=>rfl) (fun _ _ h=>h)
theorem Ts:aQ prog 45 (fun x:Qz=>Xo true x) (fun x n=>qv n x):=
 (YM underlying45 (T:=8) kR (QC 1 kR rfl Zm Zn (QC 1 kR rfl Zm Zn (QC 1 kR rfl S2 (W6 nu.mono) (QC 1 kR rfl S3 (W6 nW.mono) (QC 1 kR rfl FO (fun _ _ _ h hm=>nx.mono h hm) (QC 1 kR rfl Tr (W6 nz.mono) (QC 1 kR rfl S4 (W6 nv.mono) (QC 1 kR rfl S5 (W6 nB.mono) VS))))))))).to (fun y=>⟨y.1,y.2.1,y.2.2.1,y.2.2.2.1,y.2.2.2.2.1,y.2.2.2.2.2.1,y.2.2.2.2.2.2.1,y.2.2.2.2.2.2.2.1⟩) (fun _=>rfl) (fun _ _ h=>⟨h.1,h.2.1,h.2.2.1,h.2.2.2.1,h.2.2.2.2.1,h.2.2.2.2.2.1,h.2.2.2.2.2.2.1,h.2.2.2.2.2.2.2.1⟩)
def UL (h:Array Obj) (g:Nat) (cs:Array Value):Array Obj:=h.modify g fun
 |.cells _ t frozen=>.cells cs t frozen
 |o=>o
def Vw:Array Value:=(([1,10,100,1000,10000,100000,1000000,10000000,100000000,1000000000,10000000000,100000000000,1000000000000,10000000000000,100000000000000,1000000000000000,10000000000000000,100000000000000000,1000000000000000000,10000000000000000000]:List Int).map fun n=>Value.int .u64 n).toArray
def Ky:Array Value:=(([0,1,28,2,29,14,24,3,30,22,20,15,25,17,4,8,31,27,13,23,21,19,16,7,26,12,18,6,11,5,10,9]:List Int).map fun n=>Value.int .u8 n).toArray
def Kz:Array Value:=(([0,1,56,2,57,49,28,3,61,58,42,50,38,29,17,4,62,47,59,36,45,43,51,22,53,39,33,30,24,18,12,5,63,55,48,27,60,41,37,16,46,35,44,21,52,32,23,11,54,26,40,15,34,20,31,10,25,14,19,9,13,8,7,6]:List Int).map fun n=>Value.int .u8 n).toArray
def J0:Array Value:=(Go.Pinned.utf8FirstZ.map fun(n:Nat)=>Value.int .u8 (n:Int)).toArray
def V3:Array Value:=(([128,191,160,191,128,159,144,191,128,143,0,0,0,0,0,0,0,0,0,0,0,0,0,0,0,0,0,0,0,0,0,0]:List Int).map fun n=>Value.int .u8 n).toArray
noncomputable def AK (os:Os):World:=
 {World.holding prog os ⟨#[], #[],[]⟩ with heap:=UL (UL (UL (UL (UL (World.holding prog os ⟨#[], #[],[]⟩).heap 1 Vw) 2 Ky) 3 Kz) 4 J0) 5 V3}
end Go.Proofs.YtjegkdadeghpjaaGreatDoor
namespace Go.PN
def Jk (n:Nat):List UInt8:=(List.range 9).map fun q=>UInt8.ofNat (48+n/10^(8-q)%10)
theorem Oo (n:Nat):(Jk n).length=9:=by simp [Jk]
def VT (n:Nat):List (List UInt8):=if h:n=0 then [] else Jk (n%1000000000)::VT (n/1000000000)
termination_by n
decreasing_by omega
theorem K6:VT 0=[]:=by rw [VT];simp
theorem Oq {n:Nat} (h:n≠0):VT n=Jk (n%1000000000)::VT (n/1000000000):=by rw [VT];simp [h]
theorem Iv:∀(M n:Nat),n<536870912^M→(VT n).length≤M
 |0,n,h=>by
  have:n=0:=by simpa using h
  subst this
  rw [K6];simp
 |M+1,n,h=>by
  by_cases h0:n=0
  ·subst h0;rw [K6];simp
  ·rw [Oq h0,Lc]
   have:=Iv M (n/1000000000) (by
    rw [Nat.pow_succ] at h
    generalize 536870912^M=K at*
    omega)
   omega
theorem AL:∀(M n:Nat),n≤M→∀g∈VT n,g.length=9
 |0,n,h,g,hg=>by
  have:n=0:=by omega
  subst this
  rw [K6] at hg;cases hg
 |M+1,n,h,g,hg=>by
  by_cases h0:n=0
  ·subst h0;rw [K6] at hg;cases hg
  ·rw [Oq h0,Lb] at hg
   rcases hg with rfl|hg
   ·exact Oo _
   ·exact AL M _ om g hg
theorem FQ {xs:List Nat} (hx:∀x∈xs,x<4294967296):(VT (val xs)).length≤2*xs.length:=by
 refine Iv _ _ (Ae (Z0 xs hx) ?_)
 rw [Nat.pow_mul]
 exact Nat.pow_le_pow_left Af _
def bg (G:List (List UInt8)):Nat→List UInt8
 |0=>[]
 |i+1=>bg G i++G.getD (G.length-1-i) []
theorem AM {G:List (List UInt8)} (h:∀g∈G,g.length=9):∀i,i≤G.length→(bg G i).length=9*i
 |0,_=>rfl
 |i+1,hi=>by
  have h1:=AM h i om
  have h2:(G.getD (G.length-1-i) []).length=9:=by
   rw [Lg,Li om]
   exact h _ (Le _)
  rw [bg,La,h1,h2];omega
def UM (n:Nat):List UInt8:=if((bg (VT n) (VT n).length).dropWhile (·==48))==[] then [48] else(bg (VT n) (VT n).length).dropWhile (·==48)
theorem QpK {xs:List Nat} (hx:∀x∈xs,x<4294967296):(UM (val xs)).length≤18*xs.length+1:=by
 have h1:=AM (AL _ (val xs) (Ac _)) (VT (val xs)).length (Ac _)
 have h2:=FQ hx
 have h3:=(List.dropWhile_sublist (·==(48:UInt8)) (l:=bg (VT (val xs)) (VT (val xs)).length)).length_le
 unfold UM
 split
 ·simp
 ·omega
def Y5 (r:RD):List UInt8:=(if r.ps then [45]++UM r.pn else UM r.pn)++(if r.pd=1 then [] else [47]++UM r.pd)
theorem Wc {n L:Nat} (h:(Qc n).length≤L):(UM n).length≤18*L+1:=by
 have:=QpK (Qp n)
 rw [Qd] at this
 omega
theorem QpL {r:RD} {L:Nat} (hL:1≤L) (h:r.wf L):(Y5 r).length≤36*L+4:=by
 obtain⟨h1,h2⟩:=RD.cL h hL
 have h3:=Wc h1
 have h4:=Wc h2
 unfold Y5
 split<;>split<;>simp<;>omega
end Go.PN
namespace Go.PN
open Go.AI
theorem AN:∀(b:BS) (n:Nat),b.foldl (fun n b=>n*10+(b.toNat-48)) n=n*10^b.length+Yk b
 |[],n=>by simp [Yk]
 |x::b,n=>by
  have h1:=AN b (n*10+(x.toNat-48))
  have h2:=AN b (0*10+(x.toNat-48))
  have h3:Yk (x::b)=b.foldl (fun n b=>n*10+(b.toNat-48)) (0*10+(x.toNat-48)):=rfl
  rw [List.foldl_cons,h1,h3,h2,Lc,Nat.pow_succ,Nat.add_mul,Na,Nc 10,Nat.zero_mul,Nz]
  omega
theorem Qna (a b:BS):Yk (a++b)=Yk a*10^b.length+Yk b:=by
 have:Yk (a++b)=b.foldl (fun n b=>n*10+(b.toNat-48)) (Yk a):=by unfold Yk;rw [List.foldl_append]
 rw [this,AN]
theorem QpM (n:Nat):(Jk n).all mF=true:=by
 unfold Jk
 rw [List.all_map,List.all_eq_true]
 intro q _
 exact Qsn (Nat.mod_lt _ Af)
theorem QpN {n:Nat} (h:n<1000000000):Yk (Jk n)=n:=by
 have e:Jk n=[UInt8.ofNat (48+n/100000000%10),UInt8.ofNat (48+n/10000000%10),UInt8.ofNat (48+n/1000000%10),UInt8.ofNat (48+n/100000%10),UInt8.ofNat (48+n/10000%10),UInt8.ofNat (48+n/1000%10),UInt8.ofNat (48+n/100%10),UInt8.ofNat (48+n/10%10),UInt8.ofNat (48+n/1%10)]:=rfl
 have t:∀k,(UInt8.ofNat (48+k%10)).toNat-48=k%10:=fun k=>by rw [d48 (Nat.mod_lt _ Af)];omega
 rw [e]
 unfold Yk
 simp only [List.foldl_cons,List.foldl_nil,t]
 omega
theorem Iw (g:BS) (G:List BS):∀i,i≤G.length→bg (g::G) i=bg G i
 |0,_=>rfl
 |i+1,hi=>by
  rw [bg,bg,Iw g G i om]
  congr 1
  rw [Lc,show G.length+1-1-i=(G.length-1-i)+1 from by omega]
  rfl
theorem Qsp (g:BS) (G:List BS):bg (g::G) (g::G).length=bg G G.length++g:=by
 rw [Lc,bg,Iw g G _ (Ac _)]
 congr 1
 rw [Lc,show G.length+1-1-G.length=0 from by omega]
 rfl
theorem Mb:∀(k n:Nat),n≤k→Yk (bg (VT n) (VT n).length)=n∧(bg (VT n) (VT n).length).all mF=true
 |k,n,hk=>by
  by_cases h0:n=0
  ·subst h0;rw [K6];exact⟨rfl,rfl⟩
  ·match k,hk with
   |0,hk=>omega
   |k+1,hk=>
    obtain⟨i1,i2⟩:=Mb k (n/1000000000) om
    rw [Oq h0,Qsp]
    refine⟨?_,by rw [List.all_append,i2,QpM];rfl⟩
    rw [Qna,i1,QpN (Nat.mod_lt _ Af),Oo]
    show n/1000000000*1000000000+_=n
    omega
theorem FR:∀(l:BS),Yk (l.dropWhile (·==48))=Yk l
 |[]=>rfl
 |x::l=>by
  rw [List.dropWhile_cons]
  split
  ·rename_i h
   have hx:x=48:=by simpa using h
   subst hx
   exact FR l
  ·rfl
theorem FT:∀{l:BS},l.all mF=true→(l.dropWhile (·==48)).all mF=true
 |[],_=>rfl
 |x::l,h=>by
  rw [List.dropWhile_cons]
  split
  ·exact FT (by rw [List.all_cons] at h;simp only [Ba] at h;exact h.2)
  ·exact h
theorem FF:∀{l:BS},l.dropWhile (·==48)≠[]→(l.dropWhile (·==48)).headD 0≠48
 |[],h=>absurd rfl h
 |x::l,h=>by
  rw [List.dropWhile_cons] at h⊢
  split
  ·rename_i e;rw [iP e] at h;exact FF h
  ·rename_i e;simpa using e
theorem wM (n:Nat):UM n=Ve n:=by
 obtain⟨h1,h2⟩:=Mb n n (Ac _)
 unfold UM
 generalize bg (VT n) (VT n).length=D at*
 have h3:=FR D
 have h4:=FT h2
 have h5:=FF (l:=D)
 generalize D.dropWhile (·==48)=E at*
 split
 ·rename_i e
  have:E=[]:=by simpa using e
  subst this
  have:n=0:=by rw [←h1,←h3];rfl
  subst this
  rw [KW Af];rfl
 ·rename_i e
  have e:E≠[]:=by simpa using e
  have:=QpJ e h4 (h5 e)
  rw [h3,h1] at this
  exact this
def OL:List BS→BS
 |[]=>[]
 |x::l=>x++l.flatMap fun y=>32::y
def Yw (l:List BS):BS:=OL l++[59]
abbrev C0:BS:=[110,111,110,101]
def XB (k:Int):BS:=if k<0∨k≥9 then C0 else [yZ,zQ,kV,oQ,oR,eN,kU,jd,w6].getD k.toNat []
def Zz (k:Int):BS:=if k<0 then 45::Ve k.natAbs else Ve k.natAbs
def Zo (g:Xk):List BS:=Qy::g.name::XB g.kind::((if g.kind=2 then [Zz g.k] else if g.kind=7 then [Y5 g.aH] else [])++g.ak)
def ZZ (g:Xk):BS:=Yw (Zo g)
def Ws (w:BS) (r:RD):List BS:=if YZ r.q=0 then [] else [w,Y5 r]
def iC (x:X7):List BS:=Xi::x.name::(Ws kP x.p++Ws bm x.fail++Ws aI x.rep++Ws bl (rd (x.cost:Rat)))
def y8 (x:X7):BS:=Yw (iC x)++[10]
def Rh (x:Vq):BS:=Yw [Xq,x.name,if x.on then nf else oi]++[10]
def uS (ind:BS) (g:Xk):BS:=ind++ZZ g++[10]
def Nw (k name top:BS):BS:=k++32::(name++32::(Y2++32::(top++[32,123,10])))
def RC (x:YT):BS:=Nw Yb x.name x.top++x.an.flatMap (uS [32,32])++[125,10]
def grW (x:YU):List BS:=Xr::x.name::(if x.kind=1 then KF else OI)::(x.ar.map Y5++O1::x.members)
def Pp (x:YU):BS:=Yw (grW x)++[10]
def vlX (v:Zh):BS:=[32,32]++Yw [v.event,Y5 v.p]++[10]
def RJ (x:Ke):BS:=Nw Xn x.name x.top++x.values.flatMap vlX++[125,10]
def ZL (m:Qz):BS:=Yw [Vr,m.name]++10::(m.events.flatMap y8++(m.af.flatMap Rh++(m.an.flatMap (uS [])++(m.aa.flatMap RC++(m.ae.flatMap Pp++(m.ai.flatMap RJ++(Yw [Y2,m.top]++[10])))))))
def XG (r:RD):Bool:=decide ((Y5 r).length>100)
def C1 (x:X7):Bool:=XG x.p||XG x.fail||XG x.rep
def yz (l:List Xk):Bool:=l.any fun g=>XG g.aH
def sQ (m:Qz):Bool:=m.events.any C1||yz m.an||m.aa.any (fun p=>yz p.an)||m.ae.any (fun x=>x.ar.any XG)||m.ai.any fun x=>x.values.any fun v=>XG v.p
def OM (m:Qz):BS×Int:=if sQ m=true∨(ZL m).length>65536 then([],4) else(ZL m,0)
theorem Mc {r:RD} {L:Nat} (hw:r.wf L) (hv:r.valid=true):rd r.q=r:=by
 by_cases hn:r.num.length=0
 ·have hs:r.some=false:=by simp [RD.some,hn]
  obtain⟨neg,num,den⟩:=r
  have h1:num=[]:=Lh.1 hn
  subst h1
  unfold RD.valid at hv
  by_cases hd:den.length=0
  ·have h2:den=[]:=Lh.1 hd
   subst h2
   have h3:neg=false:=by simpa using hv
   subst h3
   have hq:RD.q ⟨false,[],[]⟩=0:=by unfold RD.q RD.ps RD.pn RD.pd;rw [hs];rfl
   rw [hq]
   unfold rd
   rw [iP (by rfl)]
   simp [QA]
  ·rw [iN (fun h=>hd h.2)] at hv
   simp [Vp] at hv
 ·have hs:r.some=true:=by simp [RD.some,hn,hv]
  obtain⟨s1,s2,s3,s4,s5⟩:=RD.cX hw hs
  obtain⟨a1,a2⟩:=WR (n:=Uc r.neg (val r.num)) s4
  rw [KQ,s5] at a1 a2
  have hq:r.q=mkRat (Uc r.neg (val r.num)) (val r.den):=by unfold RD.q RD.ps RD.pn RD.pd sq;rw [hs];rfl
  have b1:r.q.num=Uc r.neg (val r.num):=by rw [hq,a1];simp
  have b2:r.q.den=val r.den:=by rw [hq,a2];simp
  have b3:decide (r.q.num<0)=r.neg:=by
   rw [b1];unfold Uc
   cases r.neg<;>simp<;>omega
  have b4:r.q.num≠0:=by
   rw [b1];unfold Uc
   cases r.neg<;>simp<;>omega
  unfold rd
  rw [iN b4,b3,b2,b1,KQ,s1,s2]
theorem Md (n:Nat):Lib.decDigits n=Ve n:=by
 induction n using Nat.strongRecOn with
 |_ n ih=>
  by_cases h:n<10
  ·rw [Lib.decDigits,dif_pos h,KW h]
  ·rw [Lib.decDigits,dif_neg h,ud om,ih _ om]
theorem Qsq (k:Int):Lib.itoa k=Zz k:=by
 unfold Lib.itoa Zz
 split
 ·rw [Md]
 ·rw [Md,show k.toNat=k.natAbs by omega]
end Go.PN
namespace Go.Proofs.YtjegkdadeghpjaaGreatDoor
open Go.Shelf Go.Proofs Proofs.Tryz
def Qsr:Go.Shelf.Ren:=⟨fun|171=>51|243=>108|246=>173|283=>279|284=>280|285=>281|286=>282|129=>158|317=>347|318=>348|319=>349|320=>350|337=>376|338=>377|n=>n,fun|3=>3|9=>9|2=>2|4=>4|171=>306|0=>0|53=>80|37=>168|5=>5|173=>308|212=>364|51=>180|20=>20|213=>365|46=>154|232=>387|233=>388|n=>n,fun|17=>1|18=>2|19=>3|n=>n⟩
theorem C2:LaysM.n171 prog Qsr where
 mixed:=by kernel_rfl
 f129:=func158.trans eK
 f171:=func51.trans eK
 f243:=func108.trans eK
 f246:=func173.trans eK
 f283:=func279.trans eK
 f284:=func280.trans eK
 f285:=func281.trans eK
 f286:=func282.trans eK
 f317:=func347.trans eK
 f318:=func348.trans eK
 f319:=func349.trans eK
 f320:=func350.trans eK
 f337:=func376.trans eK
 f338:=func377.trans eK
 t0:=underlying0
 a0:=isAgg0
 z0:=sizeOf0
 v0:=zeroValue0
 t2:=underlying2
 a2:=isAgg2
 z2:=sizeOf2
 v2:=zeroValue2
 t3:=underlying3
 a3:=isAgg3
 z3:=sizeOf3
 v3:=zeroValue3
 t4:=underlying4
 a4:=isAgg4
 z4:=sizeOf4
 v4:=zeroValue4
 t5:=underlying5
 a5:=isAgg5
 z5:=sizeOf5
 v5:=zeroValue5
 t9:=underlying9
 a9:=isAgg9
 z9:=sizeOf9
 v9:=zeroValue9
 t20:=underlying20
 a20:=isAgg20
 z20:=sizeOf20
 v20:=zeroValue20
 t37:=underlying168
 a37:=isAgg168
 z37:=sizeOf168
 v37:=zeroValue168
 t46:=underlying154
 a46:=isAgg154
 z46:=sizeOf154
 v46:=zeroValue154
 t51:=underlying180
 a51:=isAgg180
 z51:=sizeOf180
 v51:=zeroValue180
 t53:=underlying80
 a53:=isAgg80
 z53:=sizeOf80
 v53:=zeroValue80
 t171:=underlying306
 a171:=isAgg306
 z171:=sizeOf306
 v171:=zeroValue306
 t173:=underlying308
 a173:=isAgg308
 z173:=sizeOf308
 v173:=zeroValue308
 t212:=underlying364
 a212:=isAgg364
 z212:=sizeOf364
 v212:=zeroValue364
 t213:=underlying365
 a213:=isAgg365
 z213:=sizeOf365
 t232:=underlying387
 a232:=isAgg387
 z232:=sizeOf387
 v232:=zeroValue387
 t233:=underlying388
 a233:=isAgg388
 z233:=sizeOf388
 v233:=zeroValue388
 g17:=by kernel_rfl
 g18:=by kernel_rfl
 g19:=by kernel_rfl
 i0:=by kernel_rfl
 i2:=by kernel_rfl
 i3:=by kernel_rfl
 i4:=by kernel_rfl
 i5:=by kernel_rfl
 i9:=by kernel_rfl
 i20:=by kernel_rfl
 i37:=by kernel_rfl
 i46:=by kernel_rfl
 i51:=by kernel_rfl
 i53:=by kernel_rfl
 i171:=by kernel_rfl
 i173:=by kernel_rfl
 i212:=by kernel_rfl
 i232:=by kernel_rfl
 i233:=by kernel_rfl
 m17:=by kernel_rfl
 m18:=by kernel_rfl
 m19:=by kernel_rfl
end Go.Proofs.YtjegkdadeghpjaaGreatDoor
namespace Go.AI
theorem Tt (own:Nat→Prop) (w:World) (q:Nat) (os:Array Obj):Fr own w (Go.Sort.grow (w.drewN q) os):=by
 have hb:∀b,b<w.heap.size→(Go.Sort.grow (w.drewN q) os).heap[b]?=w.heap[b]?:=fun b hb=>Go.Sort.heap_grow_old (w.drewN q) os hb
 refine⟨rfl,rfl,rfl,?_,Nat.le_add_right _ _,fun b hl _=>hb b hl,fun g m hh=> ?_⟩
 ·rw [Go.Sort.size_grow];exact Nat.le_add_right _ _
 ·have hl:=hh.lt
  obtain⟨cs,ty,⟨fr,hc⟩,hs⟩:=hh
  exact⟨cs,ty,⟨fr,(hb g hl).trans hc⟩,hs⟩
theorem WC.is {P:Program} {S:Bool→Nat→Prop} {w:World} {nm:String} {g:Nat} (h:WC S w) (hg:P.globalNamed nm=some g) (hp:g∈E7):Lib.TabIs P w nm .u64 Lib.pow10Tab:=by
 obtain⟨_,ty,fr,hc⟩:=h g hp
 unfold Lib.TabIs World.var?
 rw [hg]
 show(match w.heap[g]? with|some (.cells cs _ _)=>some cs|_=>none)=_
 rw [hc]
 rfl
theorem WC.of {P:Program} {w:World} {nm:String} {g:Nat} (hg:P.globalNamed nm=some g) (hp:E7=[g]) (ht:Lib.TabIs P w nm .u64 Lib.pow10Tab):WC (fun _ b=>b<w.heap.size) w:=fun b hb=>by
 rw [hp,Lv] at hb
 subst hb
 unfold Lib.TabIs World.var? at ht
 rw [hg] at ht
 replace ht:(match w.heap[b]? with|some (.cells cs _ _)=>some cs|_=>none)=some (Lib.pow10Tab.map fun z=>Value.int .u64 z).toArray:=ht
 split at ht
 ·rename_i cs ty fr hc
  injection ht with ht
  subst ht
  exact⟨(Array.getElem?_eq_some_iff.1 hc).1,ty,fr,hc⟩
 ·cases ht
section
section
variable {P : Program} {h : Qa} {ρ : Operand → AV}
theorem Qxs {n:Nat} (h:n<128):Utf8.encode (n:Int)=⟨#[UInt8.ofNat n]⟩:=by
 unfold Utf8.encode
 have hv:Utf8.valid (n:Int)=true:=by unfold Utf8.valid;simp;omega
 simp only [hv,if_true,Int.toNat_natCast]
 rw [iP om]
theorem QB.k9 {s d:TypeId} {x:Operand} {k k0:IntKind} {n:Nat} (hs:P.underlying s=some (.int k0)) (hd:P.underlying d=some .string) (hx:ρ x=.c (.int k (n:Int))) (hn:n<128):QB P h ρ (.convert s d x) (.c (.str (sB [UInt8.ofNat n]))):=fun S w e _ ho _=>by
 have h1:e x=.int k n:=by have:=ho x Ag;rw [hx] at this;exact this
 refine⟨.string (sB [UInt8.ofNat n]),fun o au=> ?_,rfl⟩
 simp [execOp,au,h1,Go.convert,run_underlying hs,run_underlying hd,Conv.intToString,Qxs hn,sB]
end
end
section
def UU (l:List UInt8) (j:Nat):CV:=.int .u8 ((l.getD j 0).toNat:Int)
theorem Me {S:Bool→Nat→Prop} {w:World} {l:List UInt8} {j:Nat} (h:j<l.length) {u:Value} (hr:XQ S w (UU l j) u):u=.int .u8 ((l[j]).toNat:Int):=by
 have:u=.int .u8 ((l.getD j 0).toNat:Int):=hr
 rw [this,Lg,Li h];rfl
section
variable {P : Program} {h : Qa} {ρ : Operand → AV}
theorem QB.mC {s d el ty:TypeId} {x:Operand} {g m:Nat} {f:Nat→CV} {l:List UInt8} (hs:P.underlying s=some (.slice el)) (he:P.underlying el=some (.int .u8)) (hd:P.underlying d=some .string) (hx:ρ x=.c (.aO g 1 0 l.length))
  (hg:h.get g=some (.cells ty m f)) (hm:l.length≤m) (hf:∀j,j<l.length→f j=UU l j):QB P h ρ (.convert s d x) (.c (.str ⟨l.toArray⟩)):=fun S w e _ ho hh=>by
 have h2:=ho x Ag
 rw [hx] at h2
 obtain⟨c,hv,_,_,_⟩:=h2
 obtain⟨cs,hb,hn,hj⟩:=hh _ _ (Qa.get_mem hg)
 refine⟨.string ⟨l.toArray⟩,fun o au=> ?_,rfl⟩
 have:=run_convert_bytes_back (P:=P) w s d el ⟨g,0,none⟩ c l hs he hd (fun j bp=>by
  obtain⟨u,hu,hr⟩:=hj j om
  rw [hf j bp] at hr
  rw [Zr,YX hb,Nz,hu,Me bp hr])
 simp [execOp,au,hv,this]
theorem QB.nk {t el ty:TypeId} {x:Operand} {g n m:Nat} {f:Nat→CV} (ht:P.underlying t=some (.array n el)) (hz:P.cellsOf el=1) (hi:(P.info? el).isSome=true) (hx:ρ x=.c (.aj g 0)) (hg:h.get g=some (.cells ty m f)) (hm:n≤m) (dn:n≤maxLen):
  QB P h ρ (.slice t x none none none) (.c (.aO g 1 0 n)):=fun S w e _ ho hh=>by
 have h2:e x=.pointer (some ⟨g,0,none⟩):=by have:=ho x Ag;rw [hx] at this;exact this
 obtain⟨cs,hb,hn,hj⟩:=hh _ _ (Qa.get_mem hg)
 obtain⟨i,hi'⟩:=Option.isSome_iff_exists.1 hi
 refine⟨.slice (some ⟨g,0,none⟩) n n,fun o au=> ?_,n,rfl,Ac _,dn,cs,ty,⟨_,hb⟩,by omega⟩
 by_cases h0:n=0
 ·simp [execOp,au,h2,Instr.sliceAt,run_underlying ht,Instr.sureAddr,Instr.sliceBounds,sizeOf,typeInfo,hi',h0]
 ·have DE:¬0=n:=fun e=>h0 e.symm
  simp [execOp,au,h2,Instr.sliceAt,run_underlying ht,Instr.sureAddr,Instr.sliceBounds,sizeOf,typeInfo,hi',h0]
  exact Zr g 0 0
theorem R2 (d:Nat) {t el:TypeId} (ht:P.underlying t=some (.pointer el)) (w:World):(Op.equalIn (d+1) t (.pointer none) (.pointer none)).run P w=.ok true w:=by
 simp [Op.equalIn,run_underlying ht]
theorem R3 (d:Nat) {t el:TypeId} (ht:P.underlying t=some (.pointer el)) (a:Addr) (w:World):(Op.equalIn (d+1) t (.pointer (some a)) (.pointer none)).run P w=.ok false w:=by
 simp [Op.equalIn,run_underlying ht]
theorem KL (op:BinOp) (t:TypeId) (x y:Operand) (a b:Option Addr) (w:World):(eqGuard op t x y (.pointer a) (.pointer b)).run P w=.ok () w:=by
 unfold eqGuard
 cases op<;>simp
theorem QB.kH {t t':TypeId} {x y:Operand} {a:CV} {b:Bool} {el:TypeId} (ht:P.underlying t=some (.pointer el)) (hx:ρ x=.c a) (hy:ρ y=.c (.raw (.pointer none))) (ha:(a=.raw (.pointer none)∧b=true)∨∃g,a=.aj g 0∧b=false):QB P h ρ (.binOp .eql t x y t') (.c (.bool b)):=fun S w e _ ho _=>by
 have h1:=ho x Ag
 have h2:=ho y Ag
 rw [hx] at h1
 rw [hy] at h2
 have jB:e y=.pointer none:=h2
 rcases ha with ⟨rfl,rfl⟩|⟨g,rfl,rfl⟩
 ·have cU:e x=.pointer none:=h1
  refine⟨.bool true,fun o au=>YD au (by rw [cU,jB];exact KL ..) ?_,rfl⟩
  rw [cU,jB]
  simp only [Go.binOp]
  simp [Op.equal,Op.maxDepth,R2 9999 ht]
 ·have cU:e x=.pointer (some ⟨g,0,none⟩):=h1
  refine⟨.bool false,fun o au=>YD au (by rw [cU,jB];exact KL ..) ?_,rfl⟩
  rw [cU,jB]
  simp only [Go.binOp]
  simp [Op.equal,Op.maxDepth,R3 9999 ht]
theorem QB.nh {t t':TypeId} {x y:Operand} {g:Nat} {el:TypeId} {j:TypeInfo} (ht:P.underlying t=some (.pointer el)) (hj:P.info? el=some j) (hx:ρ x=.c (.aj g 0)) (hy:ρ y=.c (.aj g 0)):QB P h ρ (.binOp .neq t x y t') (.c (.bool false)):=fun S w e _ ho _=>by
 have h1:e x=.pointer (some ⟨g,0,none⟩):=by have:=ho x Ag;rw [hx] at this;exact this
 have h2:e y=.pointer (some ⟨g,0,none⟩):=by have:=ho y Ag;rw [hy] at this;exact this
 exact⟨.bool false,fun o au=>YD au (by rw [h1,h2];exact KL ..) (by rw [h1,h2];exact Lib.run_neq_ptr_same w _ ht hj),rfl⟩
theorem QB.jO {s d t ty:TypeId} {x:Operand} {g m:Nat} {f:Nat→CV} {j:TypeInfo} (hs:P.underlying s=some (.pointer t)) (hd:P.underlying d=some .unsafePointer) (hj:P.info? t=some j) (kL:j.size≠0) (hx:ρ x=.c (.aj g 0)) (hg:h.get g=some (.cells ty m f)) (hm:0<m):
  QB P h ρ (.convert s d x) (.c (.aj g 0)):=fun S w e _ ho hh=>by
 have h2:e x=.pointer (some ⟨g,0,none⟩):=by have:=ho x Ag;rw [hx] at this;exact this
 obtain⟨cs,hb,hn,_⟩:=hh _ _ (Qa.get_mem hg)
 have rU:w.shape? g=some (ty,cs.size):=by simp [World.shape?,hb]
 refine⟨_,fun o au=> ?_,rfl⟩
 have:=Lib.run_to_unsafe (P:=P) w ⟨g,0,none⟩ hs hd hj kL rU (by show 0<cs.size;omega)
 simp [execOp,au,h2,this]
theorem FG {e:TypeId} {n count:Nat} (hc:P.cellsOf e=n) (hn:0<n) (h1:1≤count):liesAt P P.depth e count 0 e 1=true:=by
 have hd:P.depth=(2*(P.types.size+Made.depth)+1)+1:=rfl
 rw [hd]
 simp only [liesAt,Bool.or_eq_true]
 left
 rw [hd]
 simp [rowAt,hc,sameLayout]
 omega
theorem QB.j7 {s d u:TypeId} {x:Operand} {g m n:Nat} {f:Nat→CV} {j:TypeInfo} (hs:P.underlying s=some .unsafePointer) (hd:P.underlying d=some (.pointer u)) (hj:P.info? u=some j) (hc:P.cellsOf u=n) (jo:0<n) (hx:ρ x=.c (.aj g 0)) (hg:h.get g=some (.cells u m f)) (hm:n≤m):
  QB P h ρ (.convert s d x) (.c (.aj g 0)):=fun S w e _ ho hh=>by
 have h2:e x=.pointer (some ⟨g,0,none⟩):=by have:=ho x Ag;rw [hx] at this;exact this
 obtain⟨cs,hb,hn,_⟩:=hh _ _ (Qa.get_mem hg)
 have rU:w.shape? g=some (u,cs.size):=by simp [World.shape?,hb]
 refine⟨_,fun o au=> ?_,rfl⟩
 have:=Lib.run_from_unsafe (P:=P) w ⟨g,0,none⟩ hs hd hj rU (FG hc jo (by rw [hc];exact(Nat.le_div_iff_mul_le jo).2 om))
 simp [execOp,au,h2,this]
theorem QB.jN {f:FuncId} {fn:Func} {x:Operand} {ts:Array TypeId} {a:CV} (hf:P.funcs[f]?=some fn) (eJ:(fn.name== "runtime.NumGoroutine")=false) (hb:fn.body.isNone=true) (hn:Extern.findNext fn=none) (he:Extern.find fn=some Extern.AbiNoEscape.same) (hk:ρ (.func f)=.c (.raw (.func (.func f) #[] #[]))) (hx:ρ x=.c a):
  QB P h ρ (.call {callee:=.value (.func f),args:= #[x],argTypes:=ts}) (.c a):=fun S w e _ ho _=>by
 have h1:=ho x (by simp [Op.operands,Call.operands])
 rw [hx] at h1
 refine⟨e x,fun o au=> ?_,h1⟩
 have:=run_callFunc_extern (P:=P) hf eJ hb hn he #[e x] w
 rw [Lib.run_noEscape] at this
 have h3:=ho (.func f) (by simp [Op.operands,Call.operands])
 rw [hk] at h3
 have ox:e (.func f)=.func (.func f) #[] #[]:=h3
 simp [execOp,au,resolve,invoke,ox,Deferred.ofValue,this,Result.andThen]
theorem QB.iQ {t:TypeId} {x:Operand} {g n:Nat} (hx:ρ x=.c (.aO g 1 0 n)) (hn:0<n):QB P h ρ (.call {callee:=.builtin .unsafeSliceData,args:= #[x],argTypes:= #[t]}) (.c (.aj g 0)):=fun S w e _ ho _=>by
 have h2:=ho x (by simp [Op.operands,Call.operands])
 rw [hx] at h2
 obtain⟨c,hv,jq,_⟩:=h2
 refine⟨_,fun o au=> ?_,rfl⟩
 have:=Lib.run_unsafeSliceData_row (P:=P) (w:=w) #[t] o.type ⟨g,0,none⟩ n c om
 simp [execOp,au,resolve,invoke,Go.builtin,hv,this]
theorem QB.gK {t:TypeId} {x:Operand} (hx:ρ x=.c (.raw (.slice none 0 0))):QB P h ρ (.call {callee:=.builtin .unsafeSliceData,args:= #[x],argTypes:= #[t]}) (.c (.raw (.pointer none))):=fun S w e _ ho _=>by
 have h2:=ho x (by simp [Op.operands,Call.operands])
 rw [hx] at h2
 have hv:e x=.slice none 0 0:=h2
 refine⟨_,fun o au=> ?_,rfl⟩
 have:=Lib.run_unsafeSliceData_nil (P:=P) (w:=w) #[t] o.type 0 0
 simp [execOp,au,resolve,invoke,Go.builtin,hv,this]
end
end
section
def JN (og:Option Nat) (n:Nat):CV:=match og with
 |none=>.raw (.slice none 0 0)
 |some g=>.aO g 1 0 n
theorem ON (s:ByteArray) (j:Nat) (h:j<s.size):(byteCells s)[j]?=some (.int .u8 ((s.data.toList.getD j 0).toNat:Int)):=by
 have h':j<s.data.toList.length:=by rw [Array.length_toList];exact h
 unfold byteCells
 rw [List.getElem?_map,Li h',Lg,Li h']
 rfl
theorem R4 {P:Program} {w:World} {t tx ty e bytes n c g:Nat} {z:List CV} {cs:Array Value} {s:ByteArray} (ht:QP P t=some (e,1,bytes)) (bN:P.underlying tx=some .string) (hz:Qk P e=some z) (aY:z.length=1)
  (hb:w.heap[g]?=some (.cells cs e (0,0))) (cn:c≤cs.size) (jq:n≤c) (cE:c≤maxLen) (dn:n+s.size≤maxLen) (ed:(n+s.size)*bytes≤140737488355328):
  ∃g' c' w' cI,(Builtin.append_ #[t,tx] ty #[.slice (some ⟨g,0,none⟩) n c,.string s]).run P w=.ok (.slice (some ⟨g',0,none⟩) (n+s.size) c') w'∧w'.heap[g']?=some (.cells cI e (0,0))∧c'≤cI.size∧n+s.size≤c'∧c'≤maxLen∧
   (∀j,j<n→cI[j]?=cs[j]?)∧(∀j,j<s.size→cI[n+j]?=(byteCells s)[j]?)∧(g'=g∨g'=w.heap.size)∧Fr (fun b=>b=g) w w':=by
 obtain⟨hu,inf,hi,bF,cY⟩:=Q6 ht
 obtain⟨i',zv,hi',fQ,rfl⟩:=Yt hz
 rw [hi] at hi'
 injection hi' with hi'
 subst hi'
 subst cY
 have im:zv.cells.size=1:=by simpa using aY
 have rh:n+s.size≤9223372036854775807:=by simp only [maxLen] at dn;omega
 have bZ:=byteCells_length s
 have h1:∀u∈byteCells s,u.oneCell'=true:=(Go.Src.ofString (P:=P) w bN s).one
 by_cases iK:n+s.size≤c
 ·have ru:n+(byteCells s).length≤cs.size:=by rw [bZ];omega
  have bP:=run_storeCells_at P g n e (byteCells s) 0 cs w hb (by simpa using ru) h1
  simp only [Nat.add_zero] at bP
  have hf:=firstCells_string (P:=P) s w
  have hr:(Builtin.append_ #[t,tx] ty #[.slice (some ⟨g,0,none⟩) n c,.string s]).run P w=.ok (.slice (some ⟨g,0,none⟩) (n+s.size) c) (w.setRow g (cs.toList.take n++byteCells s++cs.toList.drop (n+(byteCells s).length)).toArray):=by
   simp [Builtin.append_,run_underlying hu,run_underlying bN,sizeOf,typeInfo,hi,bF,Builtin.lenOf,iK,hf,Addr.add_lit,bP]
  refine⟨g,c,_,_,hr,setRow_heap w g cs _ e _ hb,?_,iK,cE,fun j hj=> ?_,fun j hj=> ?_,.inl rfl,Fr.setRow hb ?_⟩
  ·refine Lt cn ?_;simp only [List.size_toArray,La,List.length_take,List.length_drop,Array.length_toList];omega
  ·simp only [List.getElem?_toArray,Lo]
   rw [List.getElem?_append_left (by simp;omega),List.getElem?_take]
   simp [hj]
  ·simp only [List.getElem?_toArray,Lo]
   rw [List.getElem?_append_right (by simp;omega),List.getElem?_append_left (by simp;omega)]
   simp [Nat.min_eq_left (show n≤cs.size by omega)]
  ·simp only [List.size_toArray,La,List.length_take,List.length_drop,Array.length_toList];omega
 ·have hold:∀j v,(cs.toList.take n)[j]?=some v→w.drew.cell? ((⟨g,0,none⟩:Addr).add j)=some v:=by
   intro j v hv
   rw [show w.drew.cell? ((⟨g,0,none⟩:Addr).add j)=w.cell? ((⟨g,0,none⟩:Addr).add j) from rfl,Zr,YX hb,Nz]
   rw [List.getElem?_take] at hv
   split at hv
   ·simpa using hv
   ·cases hv
  have lP:(cs.toList.take n).length=n:=by simp;omega
  have hfc:=run_firstCells_some (P:=P) w.drew 1 n ⟨g,0,none⟩ n c (cs.toList.take n) (by rw [lP,Ad]) hold
  have hS:Go.Src P inf.size tx (.string s) s.size (byteCells s) w:=by rw [bF];exact Go.Src.ofString w bN s
  have hr:=run_append_grow_src (P:=P) w t tx ty e inf zv hu hi fQ (some ⟨g,0,none⟩) n c _ (by rw [bF];exact hfc) (.string s) s.size _ hS om om (growslice_fits om ed)
  have eu:=grownCap_ge w (n+s.size) c e
  refine⟨w.heap.size,_,_,_,hr,heap_alloc_new w.drew _,?_,eu,grownCap_le_maxLen w (n+s.size) c e dn,fun j hj=> ?_,fun j hj=> ?_,.inr rfl,?_⟩
  ·refine Nat.le_of_eq ?_
   simp only [Array.size_append,List.size_toArray,La,size_zeroCells,im,lP,bZ,Ad]
   omega
  ·rw [Array.getElem?_append_left (by simp;omega)]
   simp only [List.getElem?_toArray]
   rw [List.getElem?_append_left (by rw [lP];exact hj),List.getElem?_take]
   simp [hj]
  ·rw [Array.getElem?_append_left (by simp [bZ];omega)]
   simp only [List.getElem?_toArray]
   rw [List.getElem?_append_right (by rw [lP];omega),lP]
   simp
  ·exact(Fr.drew (fun b=>b=g) w (w.drawn+1)).trans (Fr.alloc (fun _=>False) w.drew _) (fun x hx _=>hx.elim)
theorem R5 {P:Program} {w:World} {t tx ty e bytes:Nat} {z:List CV} {s:ByteArray} (ht:QP P t=some (e,1,bytes)) (bN:P.underlying tx=some .string) (hz:Qk P e=some z) (aY:z.length=1) (hk:0<s.size) (dn:s.size≤maxLen) (ed:s.size*bytes≤140737488355328):
  ∃c' w' cI,(Builtin.append_ #[t,tx] ty #[.slice none 0 0,.string s]).run P w=.ok (.slice (some ⟨w.heap.size,0,none⟩) s.size c') w'∧w'.heap[w.heap.size]?=some (.cells cI e (0,0))∧c'≤cI.size∧s.size≤c'∧c'≤maxLen∧
   (∀j,j<s.size→cI[j]?=(byteCells s)[j]?)∧Fr (fun _=>False) w w':=by
 obtain⟨hu,inf,hi,bF,cY⟩:=Q6 ht
 obtain⟨i',zv,hi',fQ,rfl⟩:=Yt hz
 rw [hi] at hi'
 injection hi' with hi'
 subst hi'
 subst cY
 have im:zv.cells.size=1:=by simpa using aY
 have bZ:=byteCells_length s
 have rh:s.size≤9223372036854775807:=by simp only [maxLen] at dn;omega
 have hS:Go.Src P inf.size tx (.string s) s.size (byteCells s) w:=by rw [bF];exact Go.Src.ofString w bN s
 have hr:=run_append_grow_src (P:=P) w t tx ty e inf zv hu hi fQ none 0 0 [] (by rw [bF];exact run_firstCells_none w.drew 1 0 0 0) (.string s) s.size _ hS om om (growslice_fits om (by simpa using ed))
 rw [Nz] at hr
 have eu:=grownCap_ge w s.size 0 e
 refine⟨_,_,_,hr,heap_alloc_new w.drew _,?_,eu,grownCap_le_maxLen w s.size 0 e dn,fun j hj=> ?_,?_⟩
 ·refine Nat.le_of_eq ?_
  simp only [Array.size_append,List.size_toArray,La,Lu,size_zeroCells,im,bZ,Ad]
  omega
 ·rw [Array.getElem?_append_left (by simp [bZ];omega)]
  simp
 ·exact(Fr.drew (fun _=>False) w (w.drawn+1)).trans (Fr.alloc (fun _=>False) w.drew _) (fun x hx _=>hx.elim)
theorem R1 {P:Program} {w:World} {t tx ty e bytes:Nat} {s:ByteArray} (ht:QP P t=some (e,1,bytes)) (bN:P.underlying tx=some .string) (hk:s.size=0):
  (Builtin.append_ #[t,tx] ty #[.slice none 0 0,.string s]).run P w=.ok (.slice none 0 0) w:=by
 obtain⟨hu,inf,hi,bF,cY⟩:=Q6 ht
 have hf:=firstCells_string (P:=P) s w
 rw [hk] at hf
 simp [Builtin.append_,run_underlying hu,run_underlying bN,sizeOf,typeInfo,hi,bF,Builtin.lenOf,hk,hf]
section
variable {E : Vj} {K : List It} {σ σ' : Sl} {h : Qa} {all rest : List Oper} {o : Oper}
theorem We {P:Program} {o:Oper} {s x:Operand} {t tx:TypeId} {e:Operand→Value} {w w':World} {v:Value} (au:o.op=.call {callee:=.builtin .append,args:= #[s,x],argTypes:= #[t,tx]})
  (hr:(Builtin.append_ #[t,tx] o.type #[e s,e x]).run P w=.ok v w'):(execOp e o).run P w=.ok (.value v) w':=by
 simp only [execOp,au,resolve,invoke,Go.builtin,Sem.run_bind,Sem.run_pure,Result.andThen_ok,List.map_toArray,Ld,List.map_nil,hr]
theorem Fj {t tx e bytes n:Nat} {z:List CV} {og:Option Nat} {f:Nat→CV} {pre:Qa} {s x:Operand} {bs:ByteArray} (au:o.op=.call {callee:=.builtin .append,args:= #[s,x],argTypes:= #[t,tx]}) (hw:Qu all σ o=some true) (hd:Qs E.N o.dst=true)
  (ht:QP E.P t=some (e,1,bytes)) (bN:E.P.underlying tx=some .string) (hz:Qk E.P e=some z) (aY:z.length=1) (hs:ev σ s=.c (JN og n)) (hx:ev σ x=.c (.str bs)) (ax:og=none→n=0) (hh:h=pre++gh og e n f)
  (dn:n+bs.size≤maxLen) (ed:(n+bs.size)*bytes≤140737488355328)
  (kk:∀dA,(dA=none→n+bs.size=0)→(∀g',dA=some g'→og=some g'∨g'∉h.keys)→aw E (.ops all rest::K) (σ.az o.dst (.c (JN dA (n+bs.size)))) (pre++gh dA e (n+bs.size) (Xs f n (UU bs.data.toList)))):aw E (.ops all (o::rest)::K) σ h:=by
 have rW:bs.data.toList.length=bs.size:=by rw [Array.length_toList];rfl
 cases og with
 |none=>
  have hn:=ax rfl
  subst hn
  by_cases hk:bs.size=0
  ·refine Kj (σ':=σ.az o.dst (.c (JN none (0+bs.size)))) (h':=pre++gh none e (0+bs.size) (Xs f 0 (UU bs.data.toList))) hw (fun a w st=> ?_) (kk none (fun _=>by omega) (fun g' e=>by cases e))
   have r1:=QN st s
   have r2:=QN st x
   rw [hs] at r1
   rw [hx] at r2
   have v1:a.eval s=.slice none 0 0:=r1
   have v2:a.eval x=.string bs:=r2
   refine⟨.slice none 0 0,w,.inl (We au (by rw [v1,v2];exact R1 ht bN hk)),?_⟩
   subst hh
   exact st.put hd (r:=.c (JN none (0+bs.size))) (v:=.slice none 0 0) rfl
  ·have hp:h=pre:=by rw [hh];simp [gh]
   subst hp
   refine UW (r:=fun g=>.c (JN (some g) (0+bs.size))) (ob:=.cells e (0+bs.size) (Xs f 0 (UU bs.data.toList))) hw hd (fun a w st=> ?_) fun g' ch=> ?_
   ·have r1:=QN st s
    have r2:=QN st x
    rw [hs] at r1
    rw [hx] at r2
    have v1:a.eval s=.slice none 0 0:=r1
    have v2:a.eval x=.string bs:=r2
    obtain⟨c',w',cI,aR,cm,dS,ib,jC,dx,bd⟩:=R5 (P:=E.P) (w:=w) (ty:=o.type) (s:=bs) ht bN hz aY om om (by simpa using ed)
    have aD:w.heap.size<w'.heap.size:=(Array.getElem?_eq_some_iff.1 cm).1
    refine⟨_,w',We au (by rw [v1,v2];exact aR),bd,aD,⟨cI,cm,by omega,fun j bp=> ?_⟩,c',by rw [Nz],by omega,jC,cI,e,⟨_,cm⟩,by omega⟩
    have vt:j<bs.size:=by omega
    rw [dx j vt,ON bs j vt]
    refine⟨_,rfl,?_⟩
    unfold Xs
    rw [iN om,Nat.sub_zero]
    rfl
   ·refine Qj (h':=h++[(g',.cells e (0+bs.size) (Xs f 0 (UU bs.data.toList)))]) (List.perm_append_singleton _ _).symm ?_
    exact kk (some g') (fun e=>by cases e) (fun g2 e=>by cases e;exact .inr ch)
 |some g=>
  refine YY fun bf=> ?_
  have kn:g∉pre.keys:=fun hm=>by
   rw [hh] at bf
   simp only [Qa.keys,gh,List.map_append,Ld,List.map_nil] at bf
   exact(List.nodup_append.1 bf).2.2 g hm g (by simp) rfl
  have de:h.get g=some (.cells e n f):=by rw [hh];exact Qa.dc kn
  have D7:h.del g=pre:=by rw [hh];exact Qa.eC kn
  intro a w st
  have r1:=QN st s
  have r2:=QN st x
  rw [hs] at r1
  rw [hx] at r2
  have v2:a.eval x=.string bs:=r2
  obtain⟨c,fJ,jq,cE,Pb,RT,⟨_,cQ⟩,oB⟩:=r1
  obtain⟨cs,hb,hn,hj⟩:=st.heap g _ (Qa.get_mem de)
  rw [hb] at cQ
  injection cQ with cQ
  injection cQ with cQ _
  subst cQ
  obtain⟨g',c',w',cI,aR,cm,dS,ib,jC,hold,dx,iV,bd⟩:=R4 (P:=E.P) (w:=w) (ty:=o.type) (s:=bs) ht bN hz aY hb (by simpa using oB) jq cE dn ed
  obtain⟨iR,lN⟩:=st.replace (ob':=.cells e (n+bs.size) (Xs f n (UU bs.data.toList))) de bd iV (fun kp=>⟨cI,cm,by omega,fun j bp=>by
   unfold Xs
   by_cases ba:j<n
   ·rw [iP ba,hold j ba]
    obtain⟨u,hu,hr⟩:=hj j om
    exact⟨u,hu,hr.aT kp⟩
   ·rw [iN ba]
    have pS:j-n<bs.size:=by omega
    have:=dx (j-n) pS
    rw [show n+(j-n)=j from by omega] at this
    rw [this,ON bs _ pS]
    exact⟨_,rfl,rfl⟩⟩)
  rw [D7] at iR lN
  have st2:=iR.put hd (r:=.c (JN (some g') (n+bs.size))) (v:=.slice (some ⟨g',0,none⟩) (n+bs.size) c') ⟨c',rfl,ib,jC,cI,e,⟨_,cm⟩,by omega⟩
  have dC:=Qj (E:=E) (List.perm_append_singleton _ _).symm (kk (some g') (fun e=>by cases e) (fun g2 e=>by
   cases e
   rcases iV with rfl|rfl
   ·exact .inl rfl
   ·exact .inr fun hm=>Nat.lt_irrefl _ (st.jZ hm))) _ _ st2
  show wpList _ _ _ _ _ _
  unfold wpList
  rw [iP (st.wanted hw)]
  refine .inl ?_
  unfold Oper.wp
  rw [We au (by rw [fJ,v2];exact aR)]
  exact dC
end
end
end Go.AI
namespace Go.Proofs.YtjegkdadeghpjaaGreatDoor
open Go.AI Go.PN Proofs.Tryz
theorem Nx (k:Int) (h1: -9223372036854775808≤k) (h2:k≤9223372036854775807):VA prog 51 [.c (.int .i64 k)] (.c (.str (sB (Zz k)))):=by
 refine⟨⟨_,func51,rfl,rfl⟩,fun S w vs _ _ hT hr=> ?_⟩
 match vs,hr with
 |[v],⟨h,_⟩=>
  have h:v=.int .i64 k:=h
  subst h
  refine(Go.Proofs.Any.strconv_Itoa C2 k h1 h2 w (hT.is C2.m17 Af)).mono ?_
  rintro e w' ⟨rfl,q,os,rfl⟩
  exact⟨_,rfl,by rw [Qsq];exact rfl,Tt _ _ _ _⟩
theorem Qnb {laid:List (String×DataW Unit)} {W:World} (hp:(laid.all fun x=>x.2.handleName?.isNone)=true) (e:laid.filter (fun x=>x.1== "internal/strconv.uint64pow10")=[("internal/strconv.uint64pow10",Lib.tabData .u64 Lib.pow10Tab)]) (h:laidMetH prog laid W):WC (mA W) W:=by
 rw [Go.MakeChecks.laidMetH_plain _ _ _ hp] at h
 have h2:=h.filter (fun x=>x.1== "internal/strconv.uint64pow10")
 rw [e] at h2
 exact WC.of C2.m17 (by rfl) (Lib.tabIs_of_head (g:=1) (t:=364) (e:=80) (n:=20) kR kR kR kR kR kR h2)
end Go.Proofs.YtjegkdadeghpjaaGreatDoor
namespace Go.Proofs.YtjegkdadeghpjaaGreatDoor
open Go.AI Go.PN Proofs.Tryz
attribute [local irreducible] aw Fa VA Vk Fh YO
theorem Ix:Fa prog 182 [.c (.int .i64 10)] (.c (ws true (Qc 10))):=by
 have e1:Xz .u32 10=((10:Nat):Int):=by rw [QM];rfl
 have e2:Xz .u32 ((10:Int)/4294967296)=((0:Nat):Int):=by rw [QM];rfl
 have ew:Qc (val [10,0])=Qc 10:=rfl
 have f1:=Y1 [10,0] Af Af
 rw [ew] at f1
 refine fA func182 fun C hC=>?_
 refine zA (oj e1 e2) ?_
 refine Qw (xs:=[.tmp 6,.tmp 9]) (cells:=[.int .u32 (10:Nat),.int .u32 (0:Nat)]) rfl rfl rfl Xp (by rw [l9,Xf];rfl) rfl om om (by intro x hx;simp only [Lb,Lj,or_false] at hx;rcases hx with rfl|rfl<;>exact⟨rfl,rfl,rfl⟩) rfl fun g hg=> ?_
 have J1:=oj e1 e2
 refine yS J1 ?_
 refine Qr f1 rfl rfl rfl (by refine yS J1 ?_;exact .c (Yi (zE J1) om rfl (fun j hj=>by match j,hj with|0,_=>rfl|1,_=>rfl))) ?_
 refine yS J1 ?_
 refine zA J1 ?_
 refine yT hC J1 ?_
 exact .one (.c QZ)
theorem Iy (xs:List Nat) (hx:∀x∈xs,x<4294967296) (hl:xs.length≤1073741824):Fa prog 115 [.c (ws false xs)] (.c (.str (sB (Ve (val xs))))):=by
 have hw:=QR xs hx
 have hD:=Wc (n:=val xs) (L:=1073741824) om
 rw [wM] at hD
 refine fA func115 fun C hC=>?_
 refine zA o0 ?_
 refine xC (Y1 xs hx ?_) ?_
 ·omega
 generalize val xs=N at hw hD⊢
 refine zA o0 ?_
 refine Qh (fun y:Nat×BS=>[(0,.c (ws true (Qc y.1))),(3,.c (.str (sB y.2)))]) (fun _=>[]) (fun y=>y.1≤N∧((y.2=[]∧y.1=N)∨(y.2≠[]∧Ve N=if y.1=0 then y.2 else Ve y.1++y.2))) (fun y=>y.1+if y.2=[] then 1 else 0) (N,[]) eB zZ ⟨Ac _,.inl ⟨rfl,rfl⟩⟩ ?_
 rintro ⟨n,s⟩ ⟨hn,hs⟩
 replace hn:n≤N:=hn
 replace hs:(s=[]∧n=N)∨(s≠[]∧Ve N=if n=0 then s else Ve n++s):=hs
 have cq:s.length≤20000000000:=by
  rcases hs with ⟨e1,_⟩|⟨_,e2⟩
  ·rw [e1];simp
  ·have e3:=congrArg List.length e2
   split at e3
   ·omega
   ·rw [La] at e3;omega
 have bZ:(Qc n).length≤xs.length:=Lt (QK hn) hw
 have hw10:(Qc 10).length≤2:=JJ om
 have f1:=w5 (Qc n) (Qc 10) (Qp n) (Qp 10) om om (by rw [Qd];decide)
 rw [Qd,Qd] at f1
 have hm:=Nat.mod_lt n (show 0<10 from by decide)
 have f2:=Yu (Qc (n%10)) 0 (Qp _)
 rw [SD hm] at f2
 have hI:((Qc n).length>0∨s=[])→Ve N=Ve n++s:=fun h=>by
  rcases hs with ⟨e1,e2⟩|⟨e1,e2⟩
  ·rw [e1,e2,Lp]
  ·rw [e2,iN (fun e=>by subst e;rw [QA] at h;exact h.elim (fun h=>absurd h (by simp)) e1)]
 have hE:¬(Qc n).length>0→s≠[]→Ve N=s:=fun h1 h2=>by
  rcases hs with ⟨e1,e2⟩|⟨e1,e2⟩
  ·exact absurd e1 h2
  ·rw [e2,iP (Xb.1 (Lh.1 om))]
 have pY:((Qc n).length>0∨s=[])→n/10+0<n+if s=[] then 1 else 0:=fun h=>by
  by_cases h0:n=0
  ·rw [iP (h.resolve_left (fun h=>by rw [h0,QA] at h;simp at h))];omega
  ·split<;>omega
 have bP:=Qm7 n s
 have gC:Xz .i32 ((48:Int)+(n%10:Nat))=((48+n%10:Nat):Int):=Qm6 om
 generalize n%10=r at*
 repeat' first|refine zV gC ?_|refine zH gC ?_ ?_<;>intro hb|fail
 ·refine yC gC (Ix) ?_
  refine zA gC ?_
  refine yC gC (f1) ?_
  refine zA gC ?_
  refine yC gC (f2) ?_
  refine zA gC ?_
  refine Xh (QB.k9 (by exact underlying21) (by exact underlying9) (zE gC) om) rfl rfl ?_
  refine yS gC ?_
  refine zA gC ?_
  refine Qb ⟨(n/10,UInt8.ofNat (48+r)::s),by rw [iN (by simp)];exact pY (.inl hb),(zB gC),zZ,by show n/10≤N;omega,.inr ⟨by simp,by show Ve N=if n/10=0 then _ else _;rw [hI (.inl hb),bP]⟩⟩
 ·refine yC gC (Ix) ?_
  refine zA gC ?_
  refine yC gC (f1) ?_
  refine zA gC ?_
  refine yC gC (f2) ?_
  refine zA gC ?_
  refine Xh (QB.k9 (by exact underlying21) (by exact underlying9) (zE gC) om) rfl rfl ?_
  refine yS gC ?_
  refine zA gC ?_
  refine Qb ⟨(n/10,UInt8.ofNat (48+r)::s),by rw [iN (by simp)];exact pY (.inr hb),(zB gC),zZ,by show n/10≤N;omega,.inr ⟨by simp,by show Ve N=if n/10=0 then _ else _;rw [hI (.inr hb),bP]⟩⟩
 ·rw [←hE (by assumption) hb]
  refine yT hC gC ?_
  exact .one (.c (.str _))
end Go.Proofs.YtjegkdadeghpjaaGreatDoor
