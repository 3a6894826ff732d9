/- Parts of one proof, laid by a program. -/
import Derived.Test.YtngjgahldnnapaaGreatDoorM00
import Derived.Test.YtngjgahldnnapaaGreatDoorM13
set_option linter.unusedSimpArgs false
set_option linter.unusedVariables false
set_option maxRecDepth 100000
set_option maxHeartbeats 12800000
namespace Go.PN
open Go.AI
def Qs5 (m:Qv) (q r:BS) (most:Nat) (es:List EnD):Int:=if(V8 m).2≠0 then(V8 m).2 else if 65536<q.length∨65536<r.length then 4 else if QaI (V8 m).1 q es=none∧es.length=most then 19 else 0
def QvC (m:Qv) (q r:BS) (most:Nat) (es:List EnD):List EnD:=if Qs5 m q r most es=0 then Qs3 (V8 m).1 q r es else es
end Go.PN
namespace Go.Proofs.YtngjgahldnnapaaGreatDoor
open Go.AI Go.PN Proofs.Tryz
abbrev SO (gM:Nat) (most:Nat):XD:=.cells 103 2 (ofL [.int .i64 most,.raw (.map (some gM))])
abbrev MO (es:List EnD):XD:=.gen (Qdd Js (U4 es))
attribute [local irreducible] aw Fa ZN ZZ Fh YE
theorem Qif:tSS prog 106=true:=by kernel_rfl
theorem Qcj:QbC prog 101=some (106,9):=by kernel_rfl
theorem Ql8:prog.underlying 45=some (.pointer 103):=by kernel_rfl
theorem Qv8:tZS prog 9=true:=by kernel_rfl
theorem QvD (most:Nat) (h1:1≤most) (h2:most≤1024):Fh prog 15 [] [.c (.int .i64 most)] (fun x h=>∃gS gM,x=.tup [.c (.optr gS 0),.c .nilI]∧h=[(gS,SO gM most),(gM,MO [])]):=by
 have hb1:((most:Int)<1)=False:=eq_false om
 have hb2:((most:Int)>1024)=False:=eq_false om
 refine fH func15 fun C hC=>?_
 refine zA (oj hb1 hb2) ?_
 refine QkC Js rfl rfl rfl fun gM n_M=> ?_
 have J1:=oj hb1 hb2
 refine yS J1 ?_
 refine QT (r:=.agg [.int .i64 most,.raw (.map (some gM))]) (JH (ps:=[(0,.tmp 11),(1,.tmp 12)]) (zE J1) (by rfl)) rfl rfl ?_
 refine yS J1 ?_
 refine yB J1 fun gS n_S=>?_
 refine zA (oj hb1 (oj hb2 n_S)) ?_
 refine yU (oj hb1 (oj hb2 n_S)) ?_
 exact⟨_,_,rfl,rfl⟩
theorem QxB (gS gM:Nat) (m:Qv) (ho:Jb m) (q r:BS) (most:Nat) (es:List EnD) (hq:q.length≤1099511627776) (hr:r.length≤1099511627776) (hm:most≤1099511627776) (hl:es.length≤1099511627776) (hne:gS≠gM):
  Fg2 prog 23 gS (SO gM most) gM (MO es) [.c (.optr gS 0),.agg (Xa true m),.c (.str (sB q)),.c (.str (sB r))] (.c (Y2 (Qs5 m q r most es))) (MO (QvC m q r most es)):=by
 have f1:=QfU m ho
 have e0:Y2 0=.nilI:=iP rfl
 have hkl:=Qxz es
 have hget:=fun t=>Qie t q es
 have hput:=fun t=>Qxy t q r es
 have n1:¬gM=gS:=fun e=>hne e.symm
 have n2:¬gS=gM:=hne
 unfold QvC Qs5
 generalize V8 m=C at*
 obtain⟨t,c⟩:=C
 dsimp only at*
 unfold Fg2
 refine fH func23 fun C hC=>?_
 refine zA (oj n1 n2) ?_
 refine yB (oj n1 n2) fun g5 n_5=>?_
 refine zA (oj n1 (oj n2 n_5)) ?_
 refine QT (QA.eqPtr (b:=false) Ql8 (zE (oj n1 (oj n2 n_5))) (zE (oj n1 (oj n2 n_5))) (.inr ⟨gS,rfl,rfl⟩)) rfl rfl ?_
 have J1:=oj n1 (oj n2 n_5)
 refine yS J1 ?_
 by_cases hc:c=0
 ·subst hc
  rw [e0] at f1
  all_goals repeat' first|refine zV J1 ?_|refine yQ J1 f1 ?_|refine zH J1 ?_ ?_<;>intro hb|fail
  ·refine Yl [(8,.c (Y2 4))] [(gS,SO gM most),(gM,MO es)] (zB J1) (Ls _ _) ?_
   refine yU J1 ?_
   rw [iN (fun h=>h rfl),iP (.inl hb),iN Af]
   exact⟨rfl,rfl⟩
  ·refine Yl [(8,.c (Y2 4))] [(gS,SO gM most),(gM,MO es)] (zB J1) (Ls _ _) ?_
   refine yU J1 ?_
   rw [iN (fun h=>h rfl),iP (.inr hb),iN Af]
   exact⟨rfl,rfl⟩
  have hbig:¬(65536<q.length∨65536<r.length):=by omega
  rw [iN (fun h=>h rfl),iN hbig]
  refine yA J1 fun g11 n_11=>?_
  refine zA (oj n1 (oj n2 (oj n_5 n_11))) ?_
  refine Xv 11 Qg kR ?_
  refine zA (oj n1 (oj n2 (oj n_5 n_11))) ?_
  refine KR (QA.lookupO (a:=(t,q)) (kv:=U4 es) (Kf:=Js) Qcj (Qci Qif) (Qn8 Qv8) (zE (oj n1 (oj n2 (oj n_5 n_11)))) (zE (oj n1 (oj n2 (oj n_5 n_11)))) (zE (oj n1 (oj n2 (oj n_5 n_11)))) (QaD t q)) rfl rfl ?_
  by_cases hG:QaI t q es=none
  ·have hk1:Ya (t,q) (U4 es)=none:=by rw [hget,hG];rfl
   rw [hk1]
   simp only [Option.getD_none,Option.isSome_none,U7]
   refine zA (oj n1 (oj n2 (oj n_5 n_11))) ?_
   refine Xv 14 Qg kR ?_
   refine zA (oj n1 (oj n2 (oj n_5 n_11))) ?_
   refine KR (QA.lenO (kv:=U4 es) (Kf:=Js) Qcj (zE (oj n1 (oj n2 (oj n_5 n_11)))) (zE (oj n1 (oj n2 (oj n_5 n_11))))) rfl rfl ?_
   rw [hkl]
   all_goals try(have Z:=(oj n1 (oj n2 (oj n_5 n_11)));(repeat' first|refine zV Z ?_|refine zH Z ?_ ?_<;>intro hb|fail);all_goals clear Z)
   ·refine Yl [(8,.c (Y2 19))] [(gS,SO gM most),(gM,MO es)] (zB (oj n1 (oj n2 (oj n_5 n_11)))) (.cons _ (Ls _ _)) ?_
    refine yU (oj n1 (oj n2 (oj n_5 n_11))) ?_
    rw [iP ⟨hG,hb⟩,iN Af]
    exact⟨rfl,rfl⟩
   refine Xv 6 Qg kR ?_
   refine zA (oj n1 (oj n2 (oj n_5 n_11))) ?_
   refine QfX (a:=(t,q)) (v:=.string (sB r)) (kv:=U4 es) (Kf:=Js) rfl rfl rfl Qcj (Qci Qif) (QfW _) (zE (oj n1 (oj n2 (oj n_5 n_11)))) (zE (oj n1 (oj n2 (oj n_5 n_11)))) (zE (oj n1 (oj n2 (oj n_5 n_11)))) (QaD t q) (zE (oj n1 (oj n2 (oj n_5 n_11)))) (QkE r) rfl ?_
   rw [hput]
   have J2:=oj n1 (oj n2 (oj n_5 n_11))
   refine yS J2 ?_
   refine zA J2 ?_
   refine Yl [(8,.c .nilI)] [(gS,SO gM most),(gM,MO (Qs3 t q r es))] (zB J2) (.cons _ (Ls _ _)) ?_
   refine yU J2 ?_
   rw [iN (fun h=>hb h.2),iP rfl,e0]
   exact⟨rfl,rfl⟩
  ·obtain⟨x,hx⟩:=Option.ne_none_iff_exists'.1 hG
   have hk1:Ya (t,q) (U4 es)=some (.string (sB x)):=by rw [hget,hx];rfl
   rw [hk1]
   simp only [Option.getD_some,Option.isSome_some,U7]
   refine zA (oj n1 (oj n2 (oj n_5 n_11))) ?_
   refine Xv 14 Qg kR ?_
   refine zA (oj n1 (oj n2 (oj n_5 n_11))) ?_
   refine Xv 6 Qg kR ?_
   refine zA (oj n1 (oj n2 (oj n_5 n_11))) ?_
   refine QfX (a:=(t,q)) (v:=.string (sB r)) (kv:=U4 es) (Kf:=Js) rfl rfl rfl Qcj (Qci Qif) (QfW _) (zE (oj n1 (oj n2 (oj n_5 n_11)))) (zE (oj n1 (oj n2 (oj n_5 n_11)))) (zE (oj n1 (oj n2 (oj n_5 n_11)))) (QaD t q) (zE (oj n1 (oj n2 (oj n_5 n_11)))) (QkE r) rfl ?_
   rw [hput]
   have J3:=oj n1 (oj n2 (oj n_5 n_11))
   refine yS J3 ?_
   refine zA J3 ?_
   refine Yl [(8,.c .nilI)] [(gS,SO gM most),(gM,MO (Qs3 t q r es))] (zB J3) (.cons _ (Ls _ _)) ?_
   refine yU J3 ?_
   rw [iN (fun h=>hG h.1),iP rfl,e0]
   exact⟨rfl,rfl⟩
 ·have hc':(!decide (c=0))=true:=by rw [De hc];rfl
  refine Zo (oj n1 (oj n2 (oj n_5 hc'))) f1 ?_
  refine Yl [(8,.c (Y2 c))] [(gS,SO gM most),(gM,MO es)] (zB (oj n1 (oj n2 (oj n_5 hc')))) (Ls _ _) ?_
  refine yU (oj n1 (oj n2 (oj n_5 hc'))) ?_
  rw [iP hc,iN hc]
  exact⟨rfl,rfl⟩
noncomputable def Qs6 (m:Qv) (q:BS) (es:List EnD):Option BS:=if(V8 m).2=0 then QaI (V8 m).1 q es else none
theorem QxC (gS gM:Nat) (m:Qv) (ho:Jb m) (q:BS) (most:Nat) (es:List EnD) (hq:q.length≤1099511627776) (hne:gS≠gM):
  Fg2 prog 17 gS (SO gM most) gM (MO es) [.c (.optr gS 0),.agg (Xa true m),.c (.str (sB q))] (.tup [.c (.str (sB ((Qs6 m q es).getD []))),.c (.bool (Qs6 m q es).isSome),.c (Y2 (V8 m).2)]) (MO es):=by
 have f1:=QfU m ho
 have e0:Y2 0=.nilI:=iP rfl
 have hget:=fun t=>Qie t q es
 have n1:¬gM=gS:=fun e=>hne e.symm
 have n2:¬gS=gM:=hne
 unfold Qs6
 generalize V8 m=C at*
 obtain⟨t,c⟩:=C
 dsimp only at*
 unfold Fg2
 refine fH func17 fun C hC=>?_
 refine zA (oj n1 n2) ?_
 refine yB (oj n1 n2) fun g4 n_4=>?_
 refine zA (oj n1 (oj n2 n_4)) ?_
 refine QT (QA.eqPtr (b:=false) Ql8 (zE (oj n1 (oj n2 n_4))) (zE (oj n1 (oj n2 n_4))) (.inr ⟨gS,rfl,rfl⟩)) rfl rfl ?_
 have J1:=oj n1 (oj n2 n_4)
 refine yS J1 ?_
 by_cases hc:c=0
 ·subst hc
  rw [e0] at f1
  rw [iP rfl,e0]
  refine Zo J1 f1 ?_
  refine QT (QA.lookupO (a:=(t,q)) (kv:=U4 es) (Kf:=Js) Qcj (Qci Qif) (Qn8 Qv8) (zE J1) (zE J1) (zE J1) (QaD t q)) rfl rfl ?_
  have hk1:U7 ((Ya (t,q) (U4 es)).getD (.string (sB [])))=.str (sB ((QaI t q es).getD [])):=by rw [hget];cases QaI t q es<;>rfl
  have hk2:(Ya (t,q) (U4 es)).isSome=(QaI t q es).isSome:=by rw [hget];cases QaI t q es<;>rfl
  rw [hk1,hk2]
  refine yS J1 ?_
  refine zA J1 ?_
  refine Yl [(6,.c (.str (sB ((QaI t q es).getD [])))),(7,.c (.bool (QaI t q es).isSome)),(8,.c .nilI)] [(gS,SO gM most),(gM,MO es)] (zB J1) (Ls _ _) ?_
  refine yU J1 ?_
  exact⟨rfl,rfl⟩
 ·have hc':(!decide (c=0))=true:=by rw [De hc];rfl
  rw [iN hc]
  refine Zo (oj n1 (oj n2 (oj n_4 hc'))) f1 ?_
  refine Yl [(6,.c (.str (sB []))),(7,.c (.bool false)),(8,.c (Y2 c))] [(gS,SO gM most),(gM,MO es)] (zB (oj n1 (oj n2 (oj n_4 hc')))) (Ls _ _) ?_
  refine yU (oj n1 (oj n2 (oj n_4 hc'))) ?_
  exact⟨rfl,rfl⟩
end Go.Proofs.YtngjgahldnnapaaGreatDoor
namespace Go.AI
open Go.PN
def QkK (l:List Qv):Nat→CV:=lf 8 (Xa true) (md0:Qv) l
@[go_sem] theorem Xao (l:List Qv) (i:Nat):QkK l (i*8)=CV.str (sB (l.getD i md0).name):=by have:=QY (s:=8) (c:=Xa true) (d:=(md0:Qv)) (xs:=l) (i:=i) (k:=0) om;exact this
@[go_sem] theorem Xap (l:List Qv) (i:Nat):QkK l (i*8+1)=.str (sB (l.getD i md0).top):=by have:=QY (s:=8) (c:=Xa true) (d:=(md0:Qv)) (xs:=l) (i:=i) (k:=1) om;exact this
@[go_sem] theorem Xaq (l:List Qv) (i:Nat):QkK l (i*8+2)=evs true (l.getD i md0).events:=by have:=QY (s:=8) (c:=Xa true) (d:=(md0:Qv)) (xs:=l) (i:=i) (k:=2) om;exact this
@[go_sem] theorem Xar (l:List Qv) (i:Nat):QkK l (i*8+3)=hss true (l.getD i md0).houses:=by have:=QY (s:=8) (c:=Xa true) (d:=(md0:Qv)) (xs:=l) (i:=i) (k:=3) om;exact this
@[go_sem] theorem Xas (l:List Qv) (i:Nat):QkK l (i*8+4)=gts true (l.getD i md0).gates:=by have:=QY (s:=8) (c:=Xa true) (d:=(md0:Qv)) (xs:=l) (i:=i) (k:=4) om;exact this
@[go_sem] theorem Xat (l:List Qv) (i:Nat):QkK l (i*8+5)=pgs true (l.getD i md0).pages:=by have:=QY (s:=8) (c:=Xa true) (d:=(md0:Qv)) (xs:=l) (i:=i) (k:=5) om;exact this
@[go_sem] theorem Xau (l:List Qv) (i:Nat):QkK l (i*8+6)=grs true (l.getD i md0).groups:=by have:=QY (s:=8) (c:=Xa true) (d:=(md0:Qv)) (xs:=l) (i:=i) (k:=6) om;exact this
@[go_sem] theorem Xav (l:List Qv) (i:Nat):QkK l (i*8+7)=phs true (l.getD i md0).phases:=by have:=QY (s:=8) (c:=Xa true) (d:=(md0:Qv)) (xs:=l) (i:=i) (k:=7) om;exact this
theorem Qs7:∀(l r:List CV) (j:Nat),j<l.length→ofL (l++r) j=ofL l j
 |[],_,_,h=>absurd h (Nat.not_lt_zero _)
 |_::_,_,0,_=>rfl
 |_::l,r,j+1,h=>Qs7 l r j (by simpa using h)
theorem Qs8:∀(l r:List CV) (j:Nat),ofL (l++r) (l.length+j)=ofL r j
 |[],r,j=>by rw [Ln,Lu,Nz]
 |_::l,r,j=>by
  rw [Lc,show l.length+1+j=(l.length+j)+1 from by omega]
  exact Qs8 l r j
theorem Qn9 {α:Type} {s:Nat} {c:α→List CV} {d:α} (h0:0<s):∀{xs:List α},(∀x∈xs,(c x).length=s)→∀j,j<xs.length*s→lf s c d xs j=ofL (xs.flatMap c) j
 |[],_,j,h=>by simp at h
 |x::xs,hs,j,h=>by
  have hx:=hs x Lf
  rw [List.flatMap_cons]
  by_cases hj:j<s
  ·rw [Qs7 _ _ _ om]
   unfold lf
   rw [Nat.div_eq_of_lt hj,Nat.mod_eq_of_lt hj];rfl
  ·obtain⟨k,rfl⟩:∃k,j=s+k:=⟨j-s,by omega⟩
   have hk:k<xs.length*s:=by rw [Lc,Nat.succ_mul] at h;omega
   have:=Qn9 (d:=d) h0 (fun y hy=>hs y (Lm _ hy)) k hk
   rw [←hx,Qs8,←this]
   unfold lf
   rw [hx,Nat.add_div_left k h0,Nat.add_mod_left,List.getD_cons_succ]
theorem Qoa {h:Qa}:∀{l r:List CV},Qf1 h l r→∀j,j<l.length→Ut h (ofL l j) (ofL r j)
 |[],[],_,_,hj=>absurd hj (Nat.not_lt_zero _)
 |_::_,_::_,hl,0,_=>hl.1
 |_::_,_::_,hl,j+1,hj=>Qoa hl.2 j (by simpa using hj)
 |[],_::_,hl,_,_=>hl.elim
 |_::_,[],hl,_,_=>hl.elim
theorem Qde {α:Type} {h:Qa} {t:Bool} {s n g m:Nat} {ty:TypeId} {c:α→List CV} {d:α} {xs:List α} {l:List CV} (hg:h.get g=some (.cells ty m (ofL l))) (h0:0<s) (hn:n=xs.length) (hs:∀x∈xs,(c x).length=s) (hm:n*s≤m) (hl:n*s≤l.length) (hr:Qf1 h l (xs.flatMap c)):Ut h (.osl g s 0 n) (.row t s n (lf s c d xs)):=
 .osl hg om fun j hj=>by
  rw [Nz,Qn9 h0 hs j (by rw [←hn];exact hj)]
  exact Qoa hr j om
end Go.AI
namespace Go.PN
open Go.AI
abbrev UT:Qv:=⟨[109],[103],[⟨[97],rd0,rd0,rd0,0⟩,⟨[98],rd0,rd0,rd0,0⟩,⟨[99],rd0,rd0,rd0,0⟩],[],[⟨[103],0,0,[[97],[64,112]],rd0⟩],[⟨[112],[104],[⟨[104],1,0,[[98],[99]],rd0⟩]⟩],[],[]⟩
theorem Qob:Jb UT:=by
 have hg:∀(n a b:BS) (k:Int),n.length≤1000→a.length≤1000→b.length≤1000→GtO ⟨n,k,0,[a,b],rd0⟩:=fun n a b k h1 h2 h3=>⟨Lt h1 Af,ZU,by show 2≤_;decide,fun i hi=>by
  simp only [Lb,Lj,or_false] at hi
  rcases hi with rfl|rfl
  ·exact Lt h2 Af
  ·exact Lt h3 Af⟩
 refine⟨by decide,by decide,⟨by decide,fun x hx=> ?_⟩,⟨by decide,fun _ h=>by cases h⟩,⟨by decide,fun x hx=> ?_⟩,⟨by decide,fun x hx=> ?_⟩,⟨by decide,fun _ h=>by cases h⟩,⟨by decide,fun _ h=>by cases h⟩⟩
 ·simp only [Lb,Lj,or_false] at hx
  rcases hx with rfl|rfl|rfl<;>exact⟨by decide,ZU,ZU,ZU⟩
 ·rw [Lv] at hx
  subst hx
  exact hg _ _ _ _ Af Af Af
 ·rw [Lv] at hx
  subst hx
  refine⟨by decide,by decide,by show 1≤_;decide,fun g hgm=> ?_⟩
  rw [Lv] at hgm
  subst hgm
  exact hg _ _ _ _ Af Af Af
theorem QvE:UA UT=0:=by decide+kernel
theorem QvF:Jp UT=false:=by decide+kernel
theorem QvG:(V8 UT).2=0:=by rw [Qvx QvE QvF]
theorem QvH:Qqd []=14695981039346656037:=rfl
theorem Qy4:Qqd [97]=12638187200555641996:=by
 show dgZ 14695981039346656037 (XF [97] 0)=_
 unfold dgZ
 rw [show((XF [97] 0:Nat):Int)=97 from rfl,Qmd,QN]
 decide+kernel
end Go.PN
namespace Go.Proofs.YtngjgahldnnapaaGreatDoor
open Go.AI Go.PN Proofs.Tryz
attribute [local irreducible] aw Fa ZN ZZ Fh YE
theorem QvI:Fa prog 38 [] (.agg (Xa true UT)):=by
 refine fA func38 fun C hC=>?_
 repeat' first|refine zV o0 ?_|refine zH o0 ?_ ?_<;>intro hb|fail
 refine xA fun g0 n_0=>?_
 repeat' first|refine zV n_0 ?_|refine zH n_0 ?_ ?_<;>intro hb|fail
 refine Qn (xs:=[.tmp 1,.tmp 2,.tmp 3]) (cells:=[.str (sB [97]),.bool false,.nils,.nils,.bool false,.nils,.nils,.bool false,.nils,.nils,.int .i64 0,.str (sB [98]),.bool false,.nils,.nils,.bool false,.nils,.nils,.bool false,.nils,.nils,.int .i64 0,.str (sB [99]),.bool false,.nils,.nils,.bool false,.nils,.nils,.bool false,.nils,.nils,.int .i64 0]) rfl rfl rfl (zE n_0) (by refine yS n_0 ?_;rfl) rfl om om (by intro z hz;simp only [Lb,Lj,or_false] at hz;rcases hz with rfl|rfl|rfl<;>exact⟨rfl,rfl,rfl⟩) rfl fun g1 n_1=> ?_
 replace n_1:=Qa.ne_of n_1
 dsimp only [Qa.ne] at n_1
 have J1:=oj n_0 n_1
 refine yS J1 ?_
 all_goals repeat' first|refine zV J1 ?_|refine zH J1 ?_ ?_<;>intro hb|fail
 refine Qn (xs:=[.const (.string (sB [97])),.const (.string (sB [64,112]))]) (cells:=[.str (sB [97]),.str (sB [64,112])]) rfl rfl rfl (zE J1) (by refine yS J1 ?_;rfl) rfl om om (by intro z hz;simp only [Lb,Lj,or_false] at hz;rcases hz with rfl|rfl<;>exact⟨rfl,rfl,rfl⟩) rfl fun g2 n_2=> ?_
 replace n_2:=Qa.ne_of n_2
 dsimp only [Qa.ne] at n_2
 have J2:=oj n_0 (oj n_1 n_2)
 refine yS J2 ?_
 all_goals repeat' first|refine zV J2 ?_|refine zH J2 ?_ ?_<;>intro hb|fail
 refine Qn (xs:=[.tmp 6]) (cells:=[.str (sB [103]),.int .i64 0,.int .i64 0,.osl g2 1 0 2,.bool false,.nils,.nils]) rfl rfl rfl (zE J2) (by refine yS J2 ?_;rfl) rfl om om qd rfl fun g3 n_3=> ?_
 replace n_3:=Qa.ne_of n_3
 dsimp only [Qa.ne] at n_3
 have J3:=oj n_0 (oj n_1 (oj n_2 n_3))
 refine yS J3 ?_
 all_goals repeat' first|refine zV J3 ?_|refine zH J3 ?_ ?_<;>intro hb|fail
 refine Qn (xs:=[.const (.string (sB [98])),.const (.string (sB [99]))]) (cells:=[.str (sB [98]),.str (sB [99])]) rfl rfl rfl (zE J3) (by refine yS J3 ?_;rfl) rfl om om (by intro z hz;simp only [Lb,Lj,or_false] at hz;rcases hz with rfl|rfl<;>exact⟨rfl,rfl,rfl⟩) rfl fun g4 n_4=> ?_
 replace n_4:=Qa.ne_of n_4
 dsimp only [Qa.ne] at n_4
 have J4:=oj n_0 (oj n_1 (oj n_2 (oj n_3 n_4)))
 refine yS J4 ?_
 all_goals repeat' first|refine zV J4 ?_|refine zH J4 ?_ ?_<;>intro hb|fail
 refine Qn (xs:=[.tmp 9]) (cells:=[.str (sB [104]),.int .i64 1,.int .i64 0,.osl g4 1 0 2,.bool false,.nils,.nils]) rfl rfl rfl (zE J4) (by refine yS J4 ?_;rfl) rfl om om qd rfl fun g5 n_5=> ?_
 replace n_5:=Qa.ne_of n_5
 dsimp only [Qa.ne] at n_5
 have J5:=oj n_0 (oj n_1 (oj n_2 (oj n_3 (oj n_4 n_5))))
 refine yS J5 ?_
 all_goals repeat' first|refine zV J5 ?_|refine zH J5 ?_ ?_<;>intro hb|fail
 refine Qn (xs:=[.tmp 11]) (cells:=[.str (sB [112]),.str (sB [104]),.osl g5 7 0 1]) rfl rfl rfl (zE J5) (by refine yS J5 ?_;rfl) rfl om om qd rfl fun g6 n_6=> ?_
 replace n_6:=Qa.ne_of n_6
 dsimp only [Qa.ne] at n_6
 have J6:=oj n_0 (oj n_1 (oj n_2 (oj n_3 (oj n_4 (oj n_5 n_6)))))
 refine yS J6 ?_
 all_goals repeat' first|refine zV J6 ?_|refine zH J6 ?_ ?_<;>intro hb|fail
 refine yT hC J6 ?_
 refine .one (.agg ⟨.str _,.str _,?_,.nils,?_,?_,.nils,.nils,trivial⟩)
 ·refine Qde (zE J6) (Nat.succ_pos _) rfl (fun _ _=>rfl) (Ac _) (Ac _) ?_
  exact⟨.str _,.bool _,.nils,.nils,.bool _,.nils,.nils,.bool _,.nils,.nils,.int _ _,.str _,.bool _,.nils,.nils,.bool _,.nils,.nils,.bool _,.nils,.nils,.int _ _,.str _,.bool _,.nils,.nils,.bool _,.nils,.nils,.bool _,.nils,.nils,.int _ _,trivial⟩
 ·refine Qde (zE J6) (Nat.succ_pos _) rfl (fun _ _=>rfl) (Ac _) (Ac _) ?_
  refine⟨.str _,.int _ _,.int _ _,?_,.bool _,.nils,.nils,trivial⟩
  refine Qde (zE J6) (Nat.succ_pos _) rfl (fun _ _=>rfl) (Ac _) (Ac _) ?_
  exact⟨.str _,.str _,trivial⟩
 ·refine Qde (zE J6) (Nat.succ_pos _) rfl (fun _ _=>rfl) (Ac _) (Ac _) ?_
  refine⟨.str _,.str _,?_,trivial⟩
  refine Qde (zE J6) (Nat.succ_pos _) rfl (fun _ _=>rfl) (Ac _) (Ac _) ?_
  refine⟨.str _,.int _ _,.int _ _,?_,.bool _,.nils,.nils,trivial⟩
  refine Qde (zE J6) (Nat.succ_pos _) rfl (fun _ _=>rfl) (Ac _) (Ac _) ?_
  exact⟨.str _,.str _,trivial⟩
theorem Ql9:Fa prog 7 [] (.c (.bool true)):=by
 have hc:=QvG
 have e0:Y2 0=.nilI:=iP rfl
 have f1:=QvI
 have f2:=QaB [] Af
 have f3:=QaB [97] Af
 rw [QvH] at f2
 rw [Qy4] at f3
 have hpE:Qs5 UT [113] [114] 2 []=0:=by
  unfold Qs5
  rw [iN (fun h=>h hc),iN Af,iN (by rintro ⟨_,h⟩;cases h)]
 have hpM:QvC UT [113] [114] 2 []=[((V8 UT).1,[113],[114])]:=by
  unfold QvC
  rw [iP hpE];rfl
 have hg:Qs6 UT [113] [((V8 UT).1,[113],[114])]=some [114]:=by
  unfold Qs6
  rw [iP hc]
  exact iP rfl
 have p1:=fun gS gM hne=>QxB gS gM UT Qob [113] [114] 2 [] Af Af Af Af hne
 have p2:=fun gS gM hne=>QxC gS gM UT Qob [113] 2 [((V8 UT).1,[113],[114])] Af hne
 rw [hpE,hpM,e0] at p1
 rw [hg,hc,e0] at p2
 generalize (V8 UT).1=T at*
 dsimp only [Option.getD_some,Option.isSome_some] at p2
 refine fA func7 fun C hC=>?_
 repeat' first|refine zV o0 ?_|refine zH o0 ?_ ?_<;>intro hb|fail
 refine Ql (QvD 2 Af Af) rfl rfl rfl (hr:=[]) (.refl _) eL ?_
 rintro _ _ ⟨gS,gM,rfl,rfl⟩ _
 refine Y9 fun hnd=> ?_
 have hne:gS≠gM:=by
  simp only [Lp,Qa.keys,Ld,List.map_nil,List.nodup_cons,Lv] at hnd
  exact hnd.1
 clear hnd
 have n1:¬gM=gS:=fun e=>hne e.symm
 have n2:¬gS=gM:=hne
 have q1:=p1 gS gM hne
 have q2:=p2 gS gM hne
 clear p1 p2
 simp only [Lp]
 refine yS (oj n1 n2) ?_
 all_goals try(have Z:=(oj n1 n2);(repeat' first|refine zV Z ?_|refine yQ Z f1 ?_|refine zH Z ?_ ?_<;>intro hb|fail);all_goals clear Z)
 refine yA (oj n1 n2) fun g3 n_3=>?_
 all_goals try(have Z:=(oj n1 (oj n2 n_3));(repeat' first|refine zV Z ?_|refine zH Z ?_ ?_<;>intro hb|fail);all_goals clear Z)
 refine QT (QA.eqPtr (b:=false) Ql8 (zE (oj n1 (oj n2 n_3))) (zE (oj n1 (oj n2 n_3))) (.inr ⟨gS,rfl,rfl⟩)) rfl rfl ?_
 have J1:=oj n1 (oj n2 n_3)
 refine yS J1 ?_
 all_goals repeat' first|refine zV J1 ?_|(refine zh J1 (q1) ?_)|(refine zh J1 (q2) ?_)|refine yQ J1 f2 ?_|refine yQ J1 f3 ?_|refine zH J1 ?_ ?_<;>intro hb|fail
 all_goals first
  |exact absurd rfl hb
  |(refine yT hC J1 ?_
    exact .one (.c (.bool _)))
theorem Qig (m:Qv) (s:BS) {n:Nat} (hu:MdU n m) (hn:n≤1048576) (hl:s.length≤1048576):ZN prog 3 [.agg (Xa true m),.c (.str (sB s))] (.c (.bool true)):=by
 have f0:=Ql9
 have f1:=Qkl m hu hn
 by_cases hL:Kh m=true
 ·have ho:=QmY hL hu hn
  rw [hL] at f1
  have f2:=QfU m ho
  have f3:=Ql6 m ho
  have hle:=Qvz m
  have f4:=Qla (V8 m).2
  have f5:=QaB s om
  have f6:=QfV s om
  have f7:=QaB (V8 m).1 om
  have f8:=QfV (V8 m).1 om
  clear hle
  generalize V8 m=R at*
  obtain⟨t,c⟩:=R
  dsimp only at*
  generalize Qqd s=D1 at*
  generalize Qqd t=D2 at*
  have ht:(t==t)=true:=by simp
  have hcc:(c==c)=true:=by simp
  have h1:(D1==D1)=true:=by simp
  have h2:(D2==D2)=true:=by simp
  refine Yo func3 rfl rfl (by simp [ntmps3]) fun C hC hT=> ?_
  simp only [Y8,Nat.reduceAdd]
  repeat' first|refine zV o0 ?_|refine zH o0 ?_ ?_<;>intro hb|fail
  refine xB fun g2 n_2=>?_
  all_goals try(have Z:=(oj n_2 (oj ht (oj hcc (oj h1 h2))));(repeat' first|refine zV Z ?_|refine yQ Z f0 ?_|refine yQ Z f1 ?_|refine yQ Z f2 ?_|(refine yC3 Z ((f3).toC hT) ?_)|(refine yD3 Z ((f3).toC hT) ?_)|refine yQ Z f4 ?_|refine yQ Z f5 ?_|refine yQ Z f6 ?_|refine yQ Z f7 ?_|refine yQ Z f8 ?_|refine zH Z ?_ ?_<;>intro hb|fail);all_goals clear Z)
  all_goals
   refine yT hC (oj n_2 (oj ht (oj hcc (oj h1 h2)))) ?_
   exact .one (.c (.bool _))
 ·have hl':Kh m=false:=by simpa using hL
  rw [hl'] at f1
  refine Yo func3 rfl rfl (by simp [ntmps3]) fun C hC hT=> ?_
  simp only [Y8,Nat.reduceAdd]
  repeat' first|refine zV o0 ?_|refine zH o0 ?_ ?_<;>intro hb|fail
  refine xB fun g2 n_2=>?_
  repeat' first|refine zV n_2 ?_|refine yQ n_2 f0 ?_|refine yQ n_2 f1 ?_|refine zH n_2 ?_ ?_<;>intro hb|fail
  refine yT hC n_2 ?_
  exact .one (.c (.bool _))
end Go.Proofs.YtngjgahldnnapaaGreatDoor
