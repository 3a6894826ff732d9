/- Parts of one proof, laid by a program. -/
import Derived.Test.YtpcpaekpnfkhhaaGreatDoorM00
import Derived.Test.YtpcpaekpnfkhhaaGreatDoorM10
set_option linter.unusedSimpArgs false
set_option linter.unusedVariables false
set_option maxRecDepth 100000
set_option maxHeartbeats 12800000
namespace Go.PN
open Go.AI
variable {β : Type}
theorem end_sp (l:BS):endB (32::l):=.inr ⟨rfl,fun h=>absurd (show(32:Nat)=47 from h) (by decide)⟩
theorem end_semi (l:BS):endB (59::l):=.inr ⟨rfl,fun h=>absurd (show(59:Nat)=47 from h) (by decide)⟩
def Wd (w:BS) (ts:List TK):Prop:=∀l us,endB l→Lx l us→Lx (w++l) (ts++us)
theorem wd_tok {t:TK} (h:LexOk t):Wd t.text [t]:=fun l us he hl=>.tok t l us h he hl
theorem lex_name {n:BS} (h:nameOk n=true):LexOk ⟨0,n⟩:=by
 unfold nameOk at h
 simp only [Bool.and_eq_true,decide_eq_true_eq] at h
 obtain⟨⟨⟨h1,h2⟩,h3⟩,h4⟩:=h
 exact .word rfl h1 h2 h3 fun j hj=>spanE_in (p:=isIns) (l:=n) n.length 0 om j (Nat.zero_le _) (by have:j<n.length:=hj;omega)
theorem wd_name {n:BS} (h:nameOk n=true):Wd n [⟨0,n⟩]:=wd_tok (lex_name h)
theorem wd_num {r:RD} (h:NumOk r):Wd (rtxt r) [⟨1,rtxt r⟩]:=wd_tok (num_txt h).1
theorem wd_dec {n:Nat} (h:(decB n).length≤100):Wd (decB n) [⟨1,decB n⟩]:=wd_tok (num_dec h).1
theorem wd_in {i:BS} (h:InpOk i):Wd i (inT i):=by
 intro l us he hl
 unfold inT
 by_cases h0:bAt i 0=64
 ·have hi:0<i.length∧nameOk (i.drop 1)=true:=by
   rcases h with h|h
   ·exact⟨h.2.2,h.2.1⟩
   ·exact absurd h0 (name_ne h).2.2.2
  cases i with
  |nil=>simp at hi
  |cons a r=>
   have:a=64:=UInt8.toNat_inj.1 h0
   subst this
   rw [if_pos h0]
   exact .sgn 64 _ _ rfl (wd_name hi.2 l us he hl)
 ·rw [if_neg h0]
  rcases h with h|h
  ·exact absurd h.1 h0
  ·exact wd_name h l us he hl
inductive WL:List BS→List TK→Prop where
 |nil:WL [] []
 |cons {w:BS} {t:List TK} {ws:List BS} {ts:List TK}:Wd w t→WL ws ts→WL (w::ws) (t++ts)
theorem WL.app {ws vs:List BS} {ts us:List TK} (h:WL ws ts) (h2:WL vs us):WL (ws++vs) (ts++us):=by
 induction h with
 |nil=>exact h2
 |cons hw _ ih=>rw [List.cons_append,List.append_assoc];exact .cons hw ih
theorem WL.lx {ws:List BS} {ts:List TK} (h:WL ws ts):∀{l us},endB l→Lx l us→Lx ((ws.flatMap fun y=>32::y)++l) (ts++us)∧endB ((ws.flatMap fun y=>32::y)++l):=by
 induction h with
 |nil=>exact fun he hl=>⟨hl,he⟩
 |cons hw _ ih=>
  intro l us he hl
  obtain⟨i1,i2⟩:=ih he hl
  rw [List.flatMap_cons,List.cons_append,List.append_assoc,List.cons_append]
  refine⟨.blank 32 _ _ rfl ?_,end_sp _⟩
  rw [List.append_assoc]
  exact hw _ _ i2 i1
theorem line_lx {w:BS} {t:List TK} {ws:List BS} {ts:List TK} (hw:Wd w t) (h:WL ws ts) {l:BS} {us:List TK} (hl:Lx l us):Lx (lineW (w::ws)++l) (t++(ts++semiT::us)):=by
 obtain⟨i1,i2⟩:=h.lx (l:=59::l) (us:=semiT::us) (end_semi l) (.sgn 59 l us rfl hl)
 have e:lineW (w::ws)++l=w++((ws.flatMap fun y=>32::y)++59::l):=by
  unfold lineW joinW
  simp
 rw [e]
 exact hw _ _ i2 i1
theorem nl_lx {l:BS} {us:List TK} (hl:Lx l us):Lx (10::l) us:=.blank 10 l us rfl hl
theorem lx_flat {X:β→BS} {T:β→List TK} {P:β→Prop} (h:∀x l us,P x→Lx l us→Lx (X x++l) (T x++us)):∀(L:List β),(∀x∈L,P x)→∀{l us},Lx l us→Lx (L.flatMap X++l) (L.flatMap T++us)
 |[],_,_,_,hl=>hl
 |x::L,hL,l,us,hl=>by
  rw [List.flatMap_cons,List.flatMap_cons,List.append_assoc,List.append_assoc]
  exact h x _ _ (hL x List.mem_cons_self) (lx_flat h L (fun y hy=>hL y (List.mem_cons_of_mem _ hy)) hl)
theorem wl_flat {W:β→BS} {T:β→List TK}:∀(L:List β),(∀x∈L,Wd (W x) (T x))→WL (L.map W) (L.flatMap T)
 |[],_=>.nil
 |x::L,h=>.cons (h x List.mem_cons_self) (wl_flat L fun y hy=>h y (List.mem_cons_of_mem _ hy))
theorem wl_part {w:BS} {r:RD} (hw:nameOk w=true) (h:signQ r.q≠0→Wd (rtxt r) [⟨1,rtxt r⟩]):WL (partW w r) (partT w r):=by
 unfold partW partT
 split
 ·exact .nil
 ·rename_i e
  exact .cons (t:=[⟨0,w⟩]) (wd_name hw) (.cons (t:=[⟨1,rtxt r⟩]) (h e) .nil)
theorem ev_lx (x:EvD) (l:BS) (us:List TK) (h:EvOk x) (hl:Lx l us):Lx (evX x++l) (evT x++us):=by
 obtain⟨h0,h1,h2,h3,h4,h5⟩:=h
 have hc:WL (partW kCost (rd (x.cost:Rat))) (partT kCost (rd (x.cost:Rat))):=wl_part (by decide) fun hs=>by
  have hz:x.cost≠0:=fun e=>hs ((sign_int x.cost).2 e)
  have hl:=decB_len 9 x.cost.natAbs (by show x.cost.natAbs<10000000000;omega)
  rw [rtxt_int om]
  exact wd_dec om
 have hw:=((wl_part (w:=kP) (by decide) fun _=>wd_num h1).app (wl_part (w:=kFail) (by decide) fun _=>wd_num h2)).app (wl_part (w:=kRepair) (by decide) fun _=>wd_num h3)|>.app hc
 have:=line_lx (w:=kEvent) (t:=[⟨0,kEvent⟩]) (wd_name (by decide)) (.cons (wd_name h0) hw) (nl_lx hl)
 have e1:evX x++l=lineW (kEvent::x.name::(partW kP x.p++partW kFail x.fail++partW kRepair x.rep++partW kCost (rd (x.cost:Rat))))++10::l:=by
  unfold evX evW;simp
 have e2:evT x++us=[⟨0,kEvent⟩]++([⟨0,x.name⟩]++(partT kP x.p++partT kFail x.fail++partT kRepair x.rep++partT kCost (rd (x.cost:Rat)))++semiT::us):=by
  unfold evT;simp
 rw [e1,e2]
 exact this
theorem hs_lx (x:HsD) (l:BS) (us:List TK) (h:nameOk x.name=true) (hl:Lx l us):Lx (hsX x++l) (hsT' x++us):=by
 have ho:nameOk (if x.on then kOn else kOff)=true:=by split<;>decide
 have:=line_lx (w:=kHouse) (t:=[⟨0,kHouse⟩]) (wd_name (by decide)) (.cons (wd_name h) (.cons (wd_name ho) .nil)) (nl_lx hl)
 have e1:hsX x++l=lineW [kHouse,x.name,if x.on then kOn else kOff]++10::l:=by unfold hsX;simp
 rw [e1]
 exact this
theorem kind_ok {k:Int} (h0:0≤k) (h8:k≤8):nameOk (kindW k)=true:=by
 have:k=0∨k=1∨k=2∨k=3∨k=4∨k=5∨k=6∨k=7∨k=8:=by omega
 rcases this with h|h|h|h|h|h|h|h|h<;>subst h<;>decide
theorem gate_lx (g:GtD) (l:BS) (us:List TK) (h:GtOk g) (hl:Lx l us):Lx (gateX g++l) (gtT g++us):=by
 obtain⟨h0,h1,h2,h3,h4,h5,h6,h7,h8⟩:=h
 have hx:WL (if g.kind=2 then [itoaB g.k] else if g.kind=7 then [rtxt g.dorm] else []) (if g.kind=2 then [⟨1,itoaB g.k⟩] else if g.kind=7 then [⟨1,rtxt g.dorm⟩] else []):=by
  have hi:itoaB g.k=decB g.k.natAbs:=by unfold itoaB;rw [if_neg om]
  have hl:=decB_len 9 g.k.natAbs (by show g.k.natAbs<10000000000;omega)
  split
  ·rw [hi];exact .cons (t:=[⟨1,decB g.k.natAbs⟩]) (wd_dec om) .nil
  ·split
   ·exact .cons (t:=[⟨1,rtxt g.dorm⟩]) (wd_num h6) .nil
   ·exact .nil
 have hi:=wl_flat (W:=fun i:BS=>i) g.inputs fun i hi=>wd_in (h8 i hi)
 rw [List.map_id'] at hi
 have:=line_lx (w:=kGate) (t:=[⟨0,kGate⟩]) (wd_name (by decide)) (.cons (wd_name h0) (.cons (wd_name (kind_ok h1 h2)) (hx.app hi))) hl
 have e2:gtT g++us=[⟨0,kGate⟩]++([⟨0,g.name⟩]++([⟨0,kindW g.kind⟩]++((if g.kind=2 then [⟨1,itoaB g.k⟩] else if g.kind=7 then [⟨1,rtxt g.dorm⟩] else [])++g.inputs.flatMap inT))++semiT::us):=by
  unfold gtT;simp only [List.cons_append,List.append_assoc,List.nil_append]
 rw [e2]
 exact this
theorem gt_lx (g:GtD) (l:BS) (us:List TK) (h:GtOk g) (hl:Lx l us):Lx (gtX [] g++l) (gtT g++us):=by
 have:=gate_lx g (10::l) us h (nl_lx hl)
 have e:gtX [] g++l=gateX g++10::l:=by unfold gtX;simp
 rw [e];exact this
theorem gt2_lx (g:GtD) (l:BS) (us:List TK) (h:GtOk g) (hl:Lx l us):Lx (gtX [32,32] g++l) (gtT g++us):=by
 have:=gate_lx g (10::l) us h (nl_lx hl)
 have e:gtX [32,32] g++l=32::32::(gateX g++10::l):=by unfold gtX;simp
 rw [e];exact .blank 32 _ _ rfl (.blank 32 _ _ rfl this)
theorem head_lx {k n top:BS} (hk:nameOk k=true) (hn:nameOk n=true) (ht:InpOk top) {l:BS} {us:List TK} (hl:Lx l us):Lx (headX k n top++l) (headT k n top++us):=by
 have a1:Lx (32::123::10::l) (⟨2,kOpen⟩::us):=.blank 32 _ _ rfl (.sgn 123 _ _ rfl (nl_lx hl))
 have a2:=wd_in ht _ _ (end_sp _) a1
 have a3:=wd_name (n:=kTop) (by decide) _ _ (end_sp _) (.blank 32 _ _ rfl a2)
 have a4:=wd_name hn _ _ (end_sp _) (.blank 32 _ _ rfl a3)
 have a5:=wd_name hk _ _ (end_sp _) (.blank 32 _ _ rfl a4)
 have e1:headX k n top++l=k++32::(n++32::(kTop++32::(top++32::123::10::l))):=by unfold headX;simp
 have e2:headT k n top++us=[⟨0,k⟩]++([⟨0,n⟩]++([⟨0,kTop⟩]++(inT top++⟨2,kOpen⟩::us))):=by unfold headT;simp
 rw [e1,e2]
 exact a5
theorem close_lx {l:BS} {us:List TK} (hl:Lx l us):Lx ([125,10]++l) (⟨2,kClose⟩::us):=.sgn 125 _ _ rfl (nl_lx hl)
theorem pg_lx (x:PgD) (l:BS) (us:List TK) (h:PgOk x) (hl:Lx l us):Lx (pgX x++l) (pgT x++us):=by
 have:=head_lx (k:=kPage) (by decide) h.1 h.2.1 (lx_flat gt2_lx x.gates h.2.2 (close_lx hl))
 have e1:pgX x++l=headX kPage x.name x.top++(x.gates.flatMap (gtX [32,32])++([125,10]++l)):=by unfold pgX;simp only [List.append_assoc]
 have e2:pgT x++us=headT kPage x.name x.top++(x.gates.flatMap gtT++⟨2,kClose⟩::us):=by unfold pgT;simp
 rw [e1,e2]
 exact this
theorem vl_lx (v:VlD) (l:BS) (us:List TK) (h:VlOk v) (hl:Lx l us):Lx (vlX v++l) (vlT v++us):=by
 have:=line_lx (w:=v.event) (t:=[⟨0,v.event⟩]) (wd_name h.1) (.cons (wd_num h.2) .nil) (nl_lx hl)
 have e:vlX v++l=32::32::(lineW [v.event,rtxt v.p]++10::l):=by unfold vlX;simp
 rw [e]
 exact .blank 32 _ _ rfl (.blank 32 _ _ rfl this)
theorem ph_lx (x:PhD) (l:BS) (us:List TK) (h:PhOk x) (hl:Lx l us):Lx (phX x++l) (phT x++us):=by
 have:=head_lx (k:=kPhase) (by decide) h.1 h.2.1 (lx_flat vl_lx x.values h.2.2 (close_lx hl))
 have e1:phX x++l=headX kPhase x.name x.top++(x.values.flatMap vlX++([125,10]++l)):=by unfold phX;simp only [List.append_assoc]
 have e2:phT x++us=headT kPhase x.name x.top++(x.values.flatMap vlT++⟨2,kClose⟩::us):=by unfold phT;simp
 rw [e1,e2]
 exact this
theorem gr_lx (x:GrD) (l:BS) (us:List TK) (h:GrOk x) (hl:Lx l us):Lx (grX x++l) (grT' x++us):=by
 obtain⟨h0,h1,h2,h3⟩:=h
 have hk:nameOk (if x.kind=1 then kGreek else kBeta)=true:=by split<;>decide
 have hf:=wl_flat (W:=rtxt) (T:=fun r=>[⟨1,rtxt r⟩]) x.factors fun r hr=>wd_num (h3 r hr)
 have hm:=wl_flat (W:=fun n:BS=>n) (T:=fun n=>[⟨0,n⟩]) x.members fun n hn=>wd_name (h2 n hn)
 rw [List.map_id'] at hm
 have hc:Wd kColon [⟨2,kColon⟩]:=fun l us _ hl=>.sgn 58 l us rfl hl
 have:=line_lx (w:=kGroup) (t:=[⟨0,kGroup⟩]) (wd_name (by decide)) (.cons (wd_name h0) (.cons (wd_name hk) (hf.app (.cons hc hm)))) (nl_lx hl)
 have e1:grX x++l=lineW (grW x)++10::l:=by unfold grX;simp
 have e2:grT' x++us=[⟨0,kGroup⟩]++([⟨0,x.name⟩]++([⟨0,if x.kind=1 then kGreek else kBeta⟩]++(x.factors.flatMap (fun r=>[⟨1,rtxt r⟩])++([⟨2,kColon⟩]++x.members.flatMap (fun n=>[⟨0,n⟩]))))++semiT::us):=by
  unfold grT';simp only [List.cons_append,List.append_assoc,List.nil_append]
 rw [e1,e2]
 exact this
theorem text_lx {m:MdD} (h:MdB m):Lx (textX m) (textT m):=by
 have a1:=line_lx (w:=kTop) (t:=[⟨0,kTop⟩]) (wd_name (by decide)) (.cons (wd_in h.tp) .nil) (nl_lx .nil)
 have a2:=lx_flat ph_lx m.phases h.ph a1
 have a3:=lx_flat gr_lx m.groups h.gr a2
 have a4:=lx_flat pg_lx m.pages h.pg a3
 have a5:=lx_flat gt_lx m.gates h.gt a4
 have a6:=lx_flat hs_lx m.houses h.hs a5
 have a7:=lx_flat ev_lx m.events h.ev a6
 have a8:=line_lx (w:=kModel) (t:=[⟨0,kModel⟩]) (wd_name (by decide)) (.cons (wd_name h.nm) .nil) (nl_lx a7)
 have e2:textT m=[⟨0,kModel⟩]++([⟨0,m.name⟩]++[]++semiT::(m.events.flatMap evT++(m.houses.flatMap hsT'++(m.gates.flatMap gtT++(m.pages.flatMap pgT++(m.groups.flatMap grT'++(m.phases.flatMap phT++([⟨0,kTop⟩]++(inT m.top++[]++[semiT]))))))))):=by
  unfold textT;simp
 rw [e2]
 exact a8
end Go.PN
namespace Go.Proofs.YtpcpaekpnfkhhaaGreatDoor
open Go.AI Go.PN
attribute [local irreducible] aw Fa Fh DrK
theorem resolve_fa (m:MdD) (k:Nat) (n:BS) (hk:k≤m.pages.length) (hm:MdOk m) (hw2:MdWf2 m) (h0:0<n.length) (hn:n.length≤1099511627776) (hpg:bAt n 0=64→0≤pgI m (n.drop 1)):Fa Tryz.prog 254 [.agg (mdc true m),.c (.int .i64 ((k:Int)-1)),.c (.str (sB n))] (thA (resP m k n)):=by
 have hpl:=hw2.pl
 refine fa_of_body Tryz.func254 rfl rfl (by simp [Tryz.ntmps254]) fun C hC=> ?_
 simp only [initS,Nat.reduceAdd]
 refine zA o0 ?_
 refine xB fun g1 hn_g1=>?_
 refine zA hn_g1 ?_
 refine yA hn_g1 fun g2 hn_g2=>?_
 all_goals try(have Z:=(oj hn_g1 hn_g2);(repeat' first|refine zV Z ?_|refine zH Z (fun hb=>?_) fun hb=>?_|fail);all_goals clear Z)
 ·have h64:=hb
  obtain⟨q,hq⟩:∃q:Nat,pgI m (n.drop 1)=q:=⟨(pgI m (n.drop 1)).toNat,by have:=hpg h64;omega⟩
  have hql:q<m.pages.length:=by
   have:=fidx_lt (fun x:PgD=>x.name==n.drop 1) m.pages
   rw [show fidx (fun x:PgD=>x.name==n.drop 1) m.pages=(q:Int) from hq] at this
   omega
  have f1:=page_fa m (cutS n 1 n.length) hm.pg
  rw [cutS_drop,show fidx (fun x:PgD=>x.name==n.drop 1) m.pages=(q:Int) from hq,←cutS_drop] at f1
  have e1:resP m k n=resA m (q+1) (m.pages.getD q pg0).top:=by
   unfold resP resK resN
   rw [if_pos h64,if_pos h64,hq]
   rfl
  rw [e1]
  have hgl:=gtsK_len hw2 (q+1)
  have f4:=gatesOf_fa m (q+1) om hm.pg
  rw [show((q+1:Nat):Int)-1=q from by omega] at f4
  refine aw_dr 5 ty_mixed (by kernel_rfl) ?_
  refine zA1 (oj hn_g1 hn_g2) f1 ?_
  generalize hN:(m.pages.getD q pg0).top=N at*
  have f2:=event_fa m N hm.ev
  have f3:=house_fa m N hm.hs
  have f5:=gate_fa (gtsK m (q+1)) N om
  all_goals try(have Z:=(oj hn_g1 hn_g2);(repeat' first|refine zV Z ?_|(refine yC2 Z (f2) ?_)|(refine yD2 Z (f2) ?_)|(refine yC2 Z (f3) ?_)|(refine yD2 Z (f3) ?_)|(refine yC2 Z (f4) ?_)|(refine yD2 Z (f4) ?_)|(refine yC2 Z (f5) ?_)|(refine yD2 Z (f5) ?_)|refine zH Z (fun hb=>?_) fun hb=>?_|fail);all_goals clear Z)
  ·refine yT hC (oj hn_g1 hn_g2) ?_
   rw [show resA m (q+1) N=(0,0,evI m N) from if_pos hb]
   exact .one (.agg ⟨.int _ _,.int _ _,.int _ _,trivial⟩)
  ·rename_i h1
   refine yT hC (oj hn_g1 hn_g2) ?_
   rw [show resA m (q+1) N=(1,0,hsI m N) from(if_neg h1).trans (if_pos hb)]
   exact .one (.agg ⟨.int _ _,.int _ _,.int _ _,trivial⟩)
  ·rename_i h1
   refine yT hC (oj hn_g1 hn_g2) ?_
   rw [show resA m (q+1) N=(2,(((q+1):Nat):Int)-1,gtI (gtsK m (q+1)) N) from(if_neg h1).trans (if_neg hb)]
   exact .one (.agg ⟨.int _ _,ler_int (by dsimp only;omega),.int _ _,trivial⟩)
 ·have e1:resP m k n=resA m k n:=by
   unfold resP resK resN
   rw [if_neg hb,if_neg hb]
  rw [e1]
  clear e1 hpg
  generalize n=N at*
  have hgl:=gtsK_len hw2 k
  have f4:=gatesOf_fa m k hk hm.pg
  have f2:=event_fa m N hm.ev
  have f3:=house_fa m N hm.hs
  have f5:=gate_fa (gtsK m k) N om
  all_goals try(have Z:=(oj hn_g1 hn_g2);(repeat' first|refine zV Z ?_|(refine yC2 Z (f2) ?_)|(refine yD2 Z (f2) ?_)|(refine yC2 Z (f3) ?_)|(refine yD2 Z (f3) ?_)|(refine yC2 Z (f4) ?_)|(refine yD2 Z (f4) ?_)|(refine yC2 Z (f5) ?_)|(refine yD2 Z (f5) ?_)|refine zH Z (fun hb=>?_) fun hb=>?_|fail);all_goals clear Z)
  ·refine yT hC (oj hn_g1 hn_g2) ?_
   rw [show resA m k N=(0,0,evI m N) from if_pos hb]
   exact .one (.agg ⟨.int _ _,.int _ _,.int _ _,trivial⟩)
  ·rename_i h1
   refine yT hC (oj hn_g1 hn_g2) ?_
   rw [show resA m k N=(1,0,hsI m N) from(if_neg h1).trans (if_pos hb)]
   exact .one (.agg ⟨.int _ _,.int _ _,.int _ _,trivial⟩)
  ·rename_i h1
   refine yT hC (oj hn_g1 hn_g2) ?_
   rw [show resA m k N=(2,((k:Nat):Int)-1,gtI (gtsK m k) N) from(if_neg h1).trans (if_neg hb)]
   exact .one (.agg ⟨.int _ _,.int _ _,.int _ _,trivial⟩)
end Go.Proofs.YtpcpaekpnfkhhaaGreatDoor
namespace Go.AI
def kvSet {α:Type} [DecidableEq α] (a:α) (v:Value):List (α×Value)→List (α×Value)
 |[]=>[]
 |p::kv=>if a=p.1 then(p.1,v)::kv else p::kvSet a v kv
theorem modSpec {α:Type} [DecidableEq α] {K:α→Value} (a:α) (v:Value):∀(kv:List (α×Value)) (es:List MapEntry) (n i:Nat) (x:Value),es.map (fun e=>(e.key,e.val))=kv.map (fun p=>(K p.1,p.2))→fAsk a (kv.map (·.1)) es n=some (i,x)→∃j,i=n+j∧(es[j]?).map (·.key)=some (K a)∧(es.modify j (fun e=>{e with key:=K a,val:=v})).map (fun e=>(e.key,e.val))=(kvSet a v kv).map (fun p=>(K p.1,p.2))
 |[],[],_,_,_,_,h=>by cases h
 |[],_::_,_,_,_,h,_=>by simp at h
 |_::_,[],_,_,_,h,_=>by simp at h
 |p::kv,e::es,n,i,x,h,hf=>by
  simp only [List.map_cons,List.cons.injEq,Prod.mk.injEq] at h
  simp only [List.map_cons,fAsk] at hf
  split at hf
  ·rename_i ha
   injection hf with hf
   injection hf with h1 h2
   refine⟨0,h1.symm,?_,?_⟩
   ·simp [h.1.1,ha]
   ·simp only [kvSet,if_pos ha]
    simp [h.2,ha]
  ·rename_i ha
   obtain⟨j,hj,hk,hm⟩:=modSpec a v kv es (n+1) i x h.2 hf
   refine⟨j+1,by omega,by simpa using hk,?_⟩
   simp only [kvSet,if_neg ha]
   simp [hm,h.1.1,h.1.2]
section
variable {E : Env} {K : List It} {σ σ' : Sl} {h : Heap} {all rest : List Oper} {o : Oper}
theorem aw_mapSet {α:Type} [DecidableEq α] {Kf:α→Value} {t kt et g:TypeId} {kv:List (α×Value)} {x ky vl:Operand} {ck cv:AV} {a:α} {v:Value} (hop:o.op=.mapUpdate t x ky vl) (hdn:o.dst=none) (hw:wantA all σ o=some true)
  (ht:tMap E.P t=some (kt,et)) (hK:KeyOk E.P kt Kf) (hsb:Instr.sameBits 10000 (Kf a) (Kf a)=true) (hx:ev σ x=.c (.raw (.map (some g)))) (hg:h.get g=some (.gen (MapI Kf kv))) (hk:ev σ ky=ck) (hka:∀S w u,Rep S w ck u→u=Kf a) (hv:ev σ vl=cv) (hva:∀S w u,Rep S w cv u→u=v)
  (hold:(kvGet a kv).isSome=true) {h':Heap} (hh:h.set g (.gen (MapI Kf (kvSet a v kv)))=h') (k:aw E (.ops all rest::K) σ h'):aw E (.ops all (o::rest)::K) σ h:=by
 subst hh
 refine aw_step hw (fun ac w s=> ?_) k
 have h1:=ev_rep s x
 rw [hx] at h1
 have h1':ac.eval x=.map (some g):=h1
 have h2:=ev_rep s ky
 rw [hk] at h2
 have h2':=hka _ _ _ h2
 have h3:=ev_rep s vl
 rw [hv] at h3
 have h3':=hva _ _ _ h3
 obtain⟨ob,hb,es,c,rfl,hes⟩:=s.heap g _ (Heap.get_mem hg)
 have hkeys:es.toList.map (·.key)=(kv.map (·.1)).map Kf:=by
  have:=congrArg (List.map Prod.fst) hes
  rw [List.map_map,List.map_map] at this
  rw [List.map_map]
  exact this
 have hfind:=hK.find a (kv.map (·.1)) es.toList w hkeys
 have hget:=fAsk_get (K:=Kf) a kv es.toList 0 hes
 obtain⟨i,y,hsome⟩:∃i y,fAsk a (kv.map (·.1)) es.toList 0=some (i,y):=by
  cases hf:fAsk a (kv.map (·.1)) es.toList 0 with
  |none=>rw [hf] at hget;rw [←hget] at hold;cases hold
  |some p=>exact⟨p.1,p.2,rfl⟩
 obtain⟨j,hj,hkj,hmod⟩:=modSpec (K:=Kf) a v kv es.toList 0 i y hes hsome
 rw [Nat.zero_add] at hj
 subst hj
 have hgl:g<w.heap.size:=(Array.getElem?_eq_some_iff.1 hb).1
 let w':World:={w with heap:=w.heap.setIfInBounds g (.map (es.modify i fun e=>{e with key:=Kf a,val:=v}) c)}
 have hki:((es[i]?).map (·.key)).getD (Kf a)=Kf a:=by
  rw [←Array.getElem?_toList,hkj];rfl
 have hrun:(Instr.mapUpdate t (ac.eval x) (ac.eval ky) (ac.eval vl)).run E.P w=.ok () w':=by
  rw [h1',h2',h3']
  unfold Instr.mapUpdate
  simp only [Sem.run_bind,run_underlying (tMap_spec ht),Result.andThen_ok,runGet hb,hK.check,hfind,hsome,hki]
  unfold Instr.keyThatStays
  rw [if_pos hsb]
  simp only [Sem.run_pure,Result.andThen_ok,runSet _ hb]
  rfl
 refine⟨undef,w',.inr ⟨?_,rfl⟩,?_⟩
 ·simp only [execOp,hop,Sem.run_bind,hrun,Result.andThen_ok]
  rfl
 ·rw [hdn]
  have hfr:Fr (fun b=>b=g) w w':=by
   refine⟨rfl,rfl,rfl,by simp [w'],Nat.le_refl _,fun b _ hne=> ?_,fun g' m hh=> ?_⟩
   ·simp only [w'];rw [Array.getElem?_setIfInBounds_ne (fun e=>hne e.symm)]
   ·obtain⟨cs,ty,⟨fr,hc⟩,hs⟩:=hh
    refine⟨cs,ty,⟨fr,?_⟩,hs⟩
    have hne:g'≠g:=fun e=>by rw [e,hb] at hc;cases hc
    simp only [w']
    rw [Array.getElem?_setIfInBounds_ne (fun e=>hne e.symm)];exact hc
  refine s.setObj hg hfr ⟨_,by simp only [w'];rw [Array.getElem?_setIfInBounds_self_of_lt hgl],_,_,rfl,?_⟩
  rw [Array.toList_modify]
  exact hmod
end
end Go.AI
namespace Go.PN
open Go.AI
def keyT (t:Th):Value:=keyZ [t.1,t.2.1,t.2.2]
theorem keyT_ok {P:Program} {kt:TypeId} (ht:tEqS P kt=some 3):KeyOk P kt keyT:=by
 have h:=keyZ_ok ht
 have hj:∀a b:Th,((⟨[a.1,a.2.1,a.2.2],rfl⟩:{l:List Int//l.length=3})=⟨[b.1,b.2.1,b.2.2],rfl⟩)↔a=b:=fun a b=>by
  obtain⟨a1,a2,a3⟩:=a
  obtain⟨b1,b2,b3⟩:=b
  simp
 refine⟨fun b a w=>h.check b ⟨[a.1,a.2.1,a.2.2],rfl⟩ w,fun a ks es w he=> ?_⟩
 have:=h.find ⟨[a.1,a.2.1,a.2.2],rfl⟩ (ks.map fun k=>⟨[k.1,k.2.1,k.2.2],rfl⟩) es w (by rw [he,List.map_map];rfl)
 have e:∀(ks:List Th) (es:List MapEntry) (i:Nat),fAsk (⟨[a.1,a.2.1,a.2.2],rfl⟩:{l:List Int//l.length=3}) (ks.map fun k=>⟨[k.1,k.2.1,k.2.2],rfl⟩) es i=fAsk a ks es i:=by
  intro ks
  induction ks with
  |nil=>intro es i;rfl
  |cons k ks ih=>
   intro es i
   cases es with
   |nil=>rfl
   |cons x es=>
    simp only [List.map_cons,fAsk,hj]
    rw [ih]
 rw [e] at this
 exact this
theorem keyT_bits (t:Th):Instr.sameBits 10000 (keyT t) (keyT t)=true:=by
 show Instr.sameBits (9999+1) (keyT t) (keyT t)=true
 unfold Instr.sameBits keyT keyZ
 simp [Instr.sameBits]
def kvT (st:List (Th×Int)):List (Th×Value):=st.map fun p=>(p.1,.int .i64 p.2)
theorem kvT_get (t:Th):∀st:List (Th×Int),(kvGet t (kvT st)).getD (.int .i64 0)=.int .i64 (stGet t st)
 |[]=>rfl
 |p::st=>by
  show(if t=p.1 then some (Value.int .i64 p.2) else kvGet t (kvT st)).getD (.int .i64 0)=Value.int .i64 (if t=p.1 then p.2 else stGet t st)
  split
  ·rfl
  ·exact kvT_get t st
theorem kvT_none {t:Th}:∀{st:List (Th×Int)},t∉st.map (·.1)→kvGet t (kvT st)=none
 |[],_=>rfl
 |p::st,h=>by
  show(if t=p.1 then some (Value.int .i64 p.2) else kvGet t (kvT st))=none
  rw [if_neg (fun e=>h (by rw [e];exact List.mem_cons_self))]
  exact kvT_none fun z=>h (List.mem_cons_of_mem _ z)
theorem kvT_some {t:Th}:∀{st:List (Th×Int)},t∈st.map (·.1)→(kvGet t (kvT st)).isSome=true
 |p::st,h=>by
  show(if t=p.1 then some (Value.int .i64 p.2) else kvGet t (kvT st)).isSome=true
  split
  ·rfl
  ·rename_i e
   exact kvT_some ((List.mem_cons.1 h).resolve_left e)
theorem kvT_set (t:Th) (v:Int):∀st:List (Th×Int),kvSet t (.int .i64 v) (kvT st)=kvT (stSet t v st)
 |[]=>rfl
 |p::st=>by
  show(if t=p.1 then _ else _)=kvT (if t=p.1 then _ else _)
  split
  ·rfl
  ·show _::kvSet t (.int .i64 v) (kvT st)=_::kvT (stSet t v st)
   rw [kvT_set t v st]
theorem kvT_app (st:List (Th×Int)) (t:Th) (v:Int):kvT st++[(t,.int .i64 v)]=kvT (st++[(t,v)]):=by
 unfold kvT;rw [List.map_append];rfl
theorem thA_rep {S:Bool→Nat→Prop} {w:World} {t:Th} {v:Value} (h:Rep S w (thA t) v):v=keyT t:=by
 obtain⟨cs,rfl,h⟩:=h
 match cs,h with
 |[a,b,c],⟨h1,h2,h3,_⟩=>
  have h1:a=_:=h1
  have h2:b=_:=h2
  have h3:c=_:=h3
  subst h1 h2 h3
  rfl
structure CyOk (m:MdD):Prop where
 ok:Go.Proofs.YtpcpaekpnfkhhaaGreatDoor.MdOk m
 w2:MdWf2 m
 ins:InsOk m
 len:∀k i j,(((gtsK m k).getD i gt0).inputs.getD j []).length≤1099511627776
end Go.PN
namespace Go.Proofs.YtpcpaekpnfkhhaaGreatDoor
open Go.AI Go.PN
attribute [local irreducible] aw Fa Fh DrK
theorem ty_thing:tMap Tryz.prog 209=some (212,3):=by kernel_rfl
theorem ty_thingK:tEqS Tryz.prog 212=some 3:=by kernel_rfl
theorem ty_int0:tZ1 Tryz.prog 3=some (.int .i64 0):=by kernel_rfl
abbrev fvN (f:FuncId):AV:=.c (.raw (.func (.func f) #[] #[]))
theorem walk_fg (m:MdD) (hc:CyOk m) (fE:FuncId) (hE:∀t:Th,Fa Tryz.prog fE [thA t] (.tup [])) (g:Nat):∀(n:Nat) (st:List (Th×Int)) (stk fin:List Th) (t:Th),DInv leafT (sucT m) (nodesT m) st stk fin→(nodesT m).length<n+st.length→(leafT t=true∨t∈nodesT m)→(∀h,stk.head?=some h→t∈sucT m h)→
  Fg Tryz.prog 153 g (.gen (MapI keyT (kvT st))) [.agg (mdc true m),thA t,.c (.raw (.map (some g))),fvN fE] (.c (.bool (walkT m n st t).1)) (.gen (MapI keyT (kvT (walkT m n st t).2))):=by
 intro n
 induction n with
 |zero=>
  intro st stk fin t hi hn _ _
  have:=nodup_len hi.nd hi.sub
  rw [List.length_map] at this
  omega
 |succ n ih=>
  intro st stk fin t hi hn ht hh
  have hE':=hE t
  unfold Fg
  by_cases hl:leafT t=true
  ·have ht2:t.1≠2:=by unfold leafT at hl;simpa using hl
   have hr:walkT m (n+1) st t=(false,st):=by
    unfold walkT walkD
    rw [if_pos hl]
   rw [hr]
   refine fh_of_body Tryz.func153 rfl rfl (by simp [Tryz.ntmps153]) fun C hC=> ?_
   simp only [initS,Nat.reduceAdd]
   refine zA o0 ?_
   refine xB fun g4 hn_g4=>?_
   refine zA hn_g4 ?_
   refine yB hn_g4 fun g5 hn_g5=>?_
   all_goals try(have Z:=(oj hn_g4 hn_g5);(repeat' first|refine zV Z ?_|refine zH Z (fun hb=>?_) fun hb=>?_|fail);all_goals clear Z)
   ·refine aw_callqv hE' rfl rfl rfl (zE (oj hn_g4 hn_g5)) (zL (oj hn_g4 hn_g5)) ?_
    refine yS (oj hn_g4 hn_g5) ?_
    refine zA (oj hn_g4 hn_g5) ?_
    refine aw_rethw (h':=[(g,.gen (MapI keyT (kvT st)))]) rfl sL fun R r=>?_;simp only[go_sem,hn_g4,hn_g5];refine r _ rfl ?_;clear r R
    exact⟨rfl,rfl⟩
   ·exfalso;exact ht2 hb
  have htn:t∈nodesT m:=ht.resolve_left hl
  have hsuc:∀x∈sucT m t,leafT x=true∨x∈nodesT m:=suc_nodes hc.ins t htn
  have hw:=walk_ok leaf_nodes (suc_nodes hc.ins) (n+1) st stk fin t hi hn ht hh
  obtain⟨k,i,hk,hil,he⟩:=mem_nodesT.1 htn
  have hgt:(gtsK m k).getD i gt0=gtOf m t:=by
   rw [he]
   unfold gtOf
   dsimp only
   rw [show((k:Int)-1+1).toNat=k from by omega,Int.toNat_natCast]
  have hkk:(t.2.1+1).toNat=k:=by rw [he];dsimp only;omega
  have hthA:thA t=.agg [.int .i64 2,.int .i64 ((k:Int)-1),.int .i64 (i:Int)]:=by rw [he]
  have hstep:walkT m (n+1) st t=(if stGet t st=1 then(true,st) else if stGet t st=2 then(false,st) else
   if(goD (walkT m n) (sucT m t) (st++[(t,1)])).1=true then goD (walkT m n) (sucT m t) (st++[(t,1)]) else(false,stSet t 2 (goD (walkT m n) (sucT m t) (st++[(t,1)])).2)):=by
   show walkD leafT (sucT m) (n+1) st t=_
   unfold walkD
   rw [if_neg hl]
   rfl
  rw [hstep]
  have hRe:∀{S:Bool→Nat→Prop} {w:World} {v:Value},Rep S w (.agg [.int .i64 2,.int .i64 ((k:Int)-1),.int .i64 (i:Int)]) v→v=keyT t:=fun h=>thA_rep (by rw [hthA];exact h)
  have hsl:sucT m t=(gtOf m t).inputs.map (resP m k):=by unfold sucT;rw [hkk]
  have hin:=hc.ins k hk i hil
  have hlen:=hc.len k i
  have hw2:=hc.w2
  have hil2:(gtOf m t).inputs.length≤1099511627776:=by rw [←hgt];exact(hw2.gt k i).2.2
  have hgk:=gtsK_len hw2 k
  rw [hthA] at hE'
  rw [hthA]
  refine fh_of_body Tryz.func153 rfl rfl (by simp [Tryz.ntmps153]) fun C hC=> ?_
  simp only [initS,Nat.reduceAdd]
  refine zA o0 ?_
  refine xB fun g4 hn_g4=>?_
  refine zA hn_g4 ?_
  refine yB hn_g4 fun g5 hn_g5=>?_
  refine zA (oj hn_g4 hn_g5) ?_
  refine aw_lookup (a:=t) (kv:=kvT st) (Kf:=keyT) (z:=.int .i64 0) rfl rfl rfl ty_thing (keyT_ok ty_thingK) ty_int0 (zE (oj hn_g4 hn_g5)) (zE (oj hn_g4 hn_g5)) (zE (oj hn_g4 hn_g5)) (fun _ _ _ h=>hRe h) ?_
  rw [kvT_get]
  dsimp only [cstC]
  refine yS (oj hn_g4 hn_g5) ?_
  all_goals try(have Z:=(oj hn_g4 hn_g5);(repeat' first|refine zV Z ?_|refine zH Z (fun hb=>?_) fun hb=>?_|fail);all_goals clear Z)
  ·refine aw_rethw (h':=[(g,.gen (MapI keyT (kvT st)))]) rfl sL fun R r=>?_;simp only[go_sem,hn_g4,hn_g5];refine r _ rfl ?_;clear r R
   rw [if_pos hb]
   exact⟨rfl,rfl⟩
  ·rename_i h1
   refine aw_rethw (h':=[(g,.gen (MapI keyT (kvT st)))]) rfl sL fun R r=>?_;simp only[go_sem,hn_g4,hn_g5];refine r _ rfl ?_;clear r R
   rw [if_neg h1,if_pos hb]
   exact⟨rfl,rfl⟩
  rename_i h1
  have h2:=hb
  rw [if_neg h1,if_neg h2]
  have htk:t∉st.map (·.1):=fun h=>((hi.key t).1 h).elim (fun z=>h1 ((hi.gray t).2 z)) fun z=>h2 ((hi.black t).2 z)
  refine aw_mapNew (a:=t) (kv:=kvT st) (Kf:=keyT) (v:=.int .i64 1) rfl rfl rfl ty_thing (keyT_ok ty_thingK) (zE (oj hn_g4 hn_g5)) (zE (oj hn_g4 hn_g5)) (zE (oj hn_g4 hn_g5)) (fun _ _ _ h=>hRe h) (cv:=.c (.int .i64 1)) (zE (oj hn_g4 hn_g5)) (fun _ _ _ h=>h) (kvT_none htk) (zE (oj hn_g4 hn_g5)) ?_
  rw [kvT_app]
  have J1:=oj hn_g4 hn_g5
  refine yS J1 ?_
  refine zA J1 ?_
  refine aw_callqv hE' rfl rfl rfl (zE J1) (zL J1) ?_
  refine yS J1 ?_
  refine zA J1 ?_
  have f4:=gatesOf_fa m k hk hc.ok.pg
  refine aw_dr 11 ty_mixed (by kernel_rfl) ?_
  refine zA1 J1 f4 ?_
  rw [hgt]
  have htF:t∉fin:=fun z=>h2 ((hi.black t).2 z)
  have hi0:=hi.push hl htn htk htF hh
  have hlen0:(st++[(t,1)]).length=st.length+1:=by rw [List.length_append];rfl
  generalize hR:goD (walkT m n) (sucT m t) (st++[(t,1)])=R
  rw [hgt] at hin hlen
  generalize hG:gtOf m t=G at*
  clear hw hstep hgt h1 h2 htk hE' J1
  refine aw_lp (fun x:Nat×List (Th×Int)×List Th=>[(2,.c (.raw (.map (some g)))),(3,fvN fE),(4,.c (.optr g4 0)),(5,.c (.optr g5 0)),(37,.c (strs true G.inputs)),(38,.c (.int .i64 G.inputs.length)),(39,.c (.int .i64 x.1))]) (fun x=>[(g5,.cells 212 3 (ofL [.int .i64 2,.int .i64 ((k:Int)-1),.int .i64 (i:Int)])),(g4,.cells 29 8 (ofL (mdc true m))),(g,.gen (MapI keyT (kvT x.2.1)))]) (fun x=>x.1≤G.inputs.length∧goD (walkT m n) ((sucT m t).drop x.1) x.2.1=R∧DInv leafT (sucT m) (nodesT m) x.2.1 (t::stk) x.2.2∧st.length+1≤x.2.1.length) (fun x=>G.inputs.length-x.1) (0,st++[(t,1)],fin) (zB (oj hn_g4 hn_g5)) zZ ⟨Nat.zero_le _,hR,hi0,by rw [hlen0];exact Nat.le_refl _⟩ ?_
  rintro ⟨j,st1,fin1⟩ ⟨hj,hgo,hi1,hl1⟩
  dsimp only at hj hgo hi1 hl1⊢
  all_goals try(have Z:=(oj hn_g4 hn_g5);(repeat' first|refine zV Z ?_|refine zH Z (fun hb=>?_) fun hb=>?_|fail);all_goals clear Z)
  ·have hj':=hb
   have hmem:G.inputs.getD j []∈G.inputs:=by
    rw [List.getD_eq_getElem?_getD,List.getElem?_eq_getElem hj'];exact List.getElem_mem hj'
   obtain⟨n1,n2,n3⟩:=hin _ hmem
   have hnl:=hlen j
   have hx:(sucT m t).drop j=resP m k (G.inputs.getD j [])::(sucT m t).drop (j+1):=by
    rw [hsl,List.drop_eq_getElem_cons (by rw [List.length_map];exact hj'),List.getElem_map,List.getD_eq_getElem?_getD,List.getElem?_eq_getElem hj'];rfl
   rw [hx] at hgo
   have hxs:resP m k (G.inputs.getD j [])∈sucT m t:=by rw [hsl];exact List.mem_map_of_mem hmem
   generalize hN:G.inputs.getD j []=N at*
   have f5:=resolve_fa m k N hk hc.ok hw2 n1 hnl n2
   generalize resP m k N=X at*
   have f6:=ih st1 (t::stk) fin1 X hi1 om n3 (fun h e=>by simp at e;subst e;exact hxs)
   have ho:=walk_ok leaf_nodes (suc_nodes hc.ins) n st1 (t::stk) fin1 X hi1 om n3 (fun h e=>by simp at e;subst e;exact hxs)
   change DOut leafT (sucT m) (nodesT m) st1 (t::stk) fin1 (walkT m n st1 X) _ at ho
   have hgo2:(if(walkT m n st1 X).1=true then walkT m n st1 X else goD (walkT m n) ((sucT m t).drop (j+1)) (walkT m n st1 X).2)=R:=hgo
   clear hgo
   generalize hr:walkT m n st1 X=r at*
   refine aw_cw ([(g4,.cells 29 8 (ofL (mdc true m))),(g5,.cells 212 3 (ofL [.int .i64 2,.int .i64 ((k:Int)-1),.int .i64 (i:Int)]))]) [(0,0),(1,0),(2,0),(3,0),(4,0),(5,0),(6,0),(7,0),(8,1)] ty_mixed (by kernel_rfl) eI ?_
   have J2:=oj hn_g4 hn_g5
   refine yG J2 ?_
   refine cw_callq rfl f5 rfl rfl rfl (fun _ _=>(zL J2)) ?_
   refine ySG J2 ?_
   refine cw_cg rfl f6 rfl rfl rfl (zE J2) (zL J2) (by refine yS J2 ?_;exact has0_cons (List.mem_cons_of_mem _ (List.mem_cons_self ..)) (has0_cons (List.mem_cons_self ..) has0_nil)) ?_
   refine ySG J2 ?_
   all_goals repeat' first|refine zV J2 ?_|refine zH J2 (fun hb=>?_) fun hb=>?_|fail
   ·refine aw_rethw (h':=[(g,.gen (MapI keyT (kvT r.2)))]) rfl sL fun R r=>?_;simp only[go_sem,hn_g4,hn_g5];refine r _ rfl ?_;clear r R
    rw [if_pos hb] at hgo2
    rw [←hgo2,if_pos hb]
    exact⟨by rw [hb],rfl⟩
   ·have hrf:r.1=false:=hb
    rw [if_neg (by rw [hrf];decide)] at hgo2
    obtain⟨fin2,q1,_,q3,_⟩:=ho.2 hrf
    refine aw_stop ⟨(j+1,r.2,fin2),?_⟩
    and_intros
    all_goals first|rfl|exact List.Sublist.refl _|exact True.intro|exact hgo2|exact q1|(dsimp only;omega)
  ·have hge:(sucT m t).drop j=[]:=List.drop_of_length_le (by rw [hsl,List.length_map];omega)
   rw [hge] at hgo
   have hgo2:(false,st1)=R:=hgo
   subst hgo2
   have htk1:t∈st1.map (·.1):=(hi1.key t).2 (.inl List.mem_cons_self)
   refine aw_mapSet (a:=t) (kv:=kvT st1) (Kf:=keyT) (v:=.int .i64 2) rfl rfl rfl ty_thing (keyT_ok ty_thingK) (keyT_bits t) (zE (oj hn_g4 hn_g5)) (zE (oj hn_g4 hn_g5)) (zE (oj hn_g4 hn_g5)) (fun _ _ _ h=>hRe h) (cv:=.c (.int .i64 2)) (zE (oj hn_g4 hn_g5)) (fun _ _ _ h=>h) (kvT_some htk1) (zE (oj hn_g4 hn_g5)) ?_
   rw [kvT_set]
   refine yS (oj hn_g4 hn_g5) ?_
   refine zA (oj hn_g4 hn_g5) ?_
   refine aw_rethw (h':=[(g,.gen (MapI keyT (kvT (stSet t 2 st1))))]) rfl sL fun R r=>?_;simp only[go_sem,hn_g4,hn_g5];refine r _ rfl ?_;clear r R
   exact⟨rfl,rfl⟩
end Go.Proofs.YtpcpaekpnfkhhaaGreatDoor
namespace Go.PN
open Go.AI
theorem nodesF_step (m:MdD) {k:Nat} (h:k≤m.pages.length):nodesF m k (m.pages.length+1-k)=nodesK m k++nodesF m (k+1) (m.pages.length+1-(k+1)):=by
 rw [show m.pages.length+1-k=(m.pages.length+1-(k+1))+1 from by omega];rfl
theorem nodesK_drop (m:MdD) {k i:Nat} (h:i<(gtsK m k).length):(nodesK m k).drop i=((2,(k:Int)-1,(i:Int)):Th)::(nodesK m k).drop (i+1):=by
 have hl:i<(nodesK m k).length:=by unfold nodesK;rw [List.length_map,List.length_range];exact h
 rw [List.drop_eq_getElem_cons hl]
 congr 1
 simp only [nodesK,List.getElem_map,List.getElem_range]
theorem nodesK_len (m:MdD) (k:Nat):(nodesK m k).length=(gtsK m k).length:=by unfold nodesK;rw [List.length_map,List.length_range]
theorem MdO.cy {m:MdD} (h:MdO m) (h0:mcode0 m=0):CyOk m:=⟨h.ok,h.wf2,ins_ok (mcode0_ok h0),h.inl⟩
end Go.PN
namespace Go.Proofs.YtpcpaekpnfkhhaaGreatDoor
open Go.AI Go.PN
attribute [local irreducible] aw Fa Fh DrK
theorem nop_fa (t:Th):Fa Tryz.prog 154 [thA t] (.tup []):=by
 refine fa_of_body Tryz.func154 rfl rfl (by simp [Tryz.ntmps154]) fun C hC=> ?_
 simp only [initS,Nat.reduceAdd]
 refine zA o0 ?_
 refine xB fun g1 hn_g1=>?_
 refine zA hn_g1 ?_
 refine aw_endq hC rfl fun R r=>?_
 refine yS hn_g1 ?_
 refine r _ rfl ?_
 exact .tup trivial
theorem cyclic_fa (m:MdD) (hc:CyOk m):Fa Tryz.prog 95 [.agg (mdc true m)] (.c (.bool (cycB m))):=by
 have hpl:=hc.w2.pl
 refine fa_of_body Tryz.func95 rfl rfl (by simp [Tryz.ntmps95]) fun C hC=> ?_
 simp only [initS,Nat.reduceAdd]
 refine zA o0 ?_
 refine xB fun g1 hn_g1=>?_
 refine zA hn_g1 ?_
 refine aw_makeMap (Kf:=keyT) rfl rfl rfl fun g hn_g=> ?_
 replace hn_g:=Heap.ne_of hn_g
 dsimp only [Heap.ne] at hn_g
 have J1:=oj hn_g1 hn_g
 refine yS J1 ?_
 refine zA J1 ?_
 have hcy:cycB m=(goD (walkT m ((nodesT m).length+1)) (nodesF m 0 (m.pages.length+1-0)) []).1:=rfl
 rw [hcy]
 generalize hR:goD (walkT m ((nodesT m).length+1)) (nodesF m 0 (m.pages.length+1-0)) []=R
 refine aw_lp (fun x:Nat×List (Th×Int)×List Th=>[(1,.c (.optr g1 0)),(3,.c (.raw (.map (some g)))),(4,.c (.int .i64 ((x.1:Int)-1)))]) (fun x=>[(g,.gen (MapI keyT (kvT x.2.1))),(g1,.cells 29 8 (ofL (mdc true m)))]) (fun x=>x.1≤m.pages.length+1∧goD (walkT m ((nodesT m).length+1)) (nodesF m x.1 (m.pages.length+1-x.1)) x.2.1=R∧DInv leafT (sucT m) (nodesT m) x.2.1 [] x.2.2) (fun x=>m.pages.length+1-x.1) (0,[],[]) (zB J1) zZ ⟨Nat.zero_le _,hR,dinv_nil⟩ ?_
 clear hR hcy J1
 rintro ⟨k,st,fin⟩ ⟨hk,hgo,hi⟩
 dsimp only at hk hgo hi⊢
 all_goals try(have Z:=(oj hn_g1 hn_g);(repeat' first|refine zV Z ?_|refine zH Z (fun hb=>?_) fun hb=>?_|fail);all_goals clear Z)
 ·have hk':k≤m.pages.length:=by omega
  have f1:=gatesOf_fa m k hk' hc.ok.pg
  have hgl:=gtsK_len hc.w2 k
  rw [nodesF_step m hk'] at hgo
  refine zA1 (oj hn_g1 hn_g) f1 ?_
  refine aw_lp (fun x:Nat×List (Th×Int)×List Th=>[(1,.c (.optr g1 0)),(3,.c (.raw (.map (some g)))),(4,.c (.int .i64 ((k:Int)-1))),(17,.c (.int .i64 (gtsK m k).length)),(18,.c (.int .i64 x.1))]) (fun x=>[(g,.gen (MapI keyT (kvT x.2.1))),(g1,.cells 29 8 (ofL (mdc true m)))]) (fun x=>x.1≤(gtsK m k).length∧goD (walkT m ((nodesT m).length+1)) ((nodesK m k).drop x.1++nodesF m (k+1) (m.pages.length+1-(k+1))) x.2.1=R∧DInv leafT (sucT m) (nodesT m) x.2.1 [] x.2.2) (fun x=>(gtsK m k).length-x.1) (0,st,fin) (zB (oj hn_g1 hn_g)) zZ ⟨Nat.zero_le _,hgo,hi⟩ ?_
  clear hgo hi
  rintro ⟨i,st,fin⟩ ⟨hil,hgo,hi⟩
  dsimp only at hil hgo hi⊢
  all_goals try(have Z:=(oj hn_g1 hn_g);(repeat' first|refine zV Z ?_|refine zH Z (fun hb=>?_) fun hb=>?_|fail);all_goals clear Z)
  ·have hi':=hb
   have hmem:((2,(k:Int)-1,(i:Int)):Th)∈nodesT m:=mem_nodesT.2 ⟨k,i,hk',hi',rfl⟩
   have f2:=walk_fg m hc 154 nop_fa g ((nodesT m).length+1) st [] fin (2,(k:Int)-1,(i:Int)) hi om (.inr hmem) (fun h e=>by simp at e)
   have ho:=walk_ok leaf_nodes (suc_nodes hc.ins) ((nodesT m).length+1) st [] fin (2,(k:Int)-1,(i:Int)) hi om (.inr hmem) (fun h e=>by simp at e)
   change DOut leafT (sucT m) (nodesT m) st [] fin (walkT m ((nodesT m).length+1) st (2,(k:Int)-1,(i:Int))) _ at ho
   rw [nodesK_drop m hi',List.cons_append] at hgo
   have hgo2:(if(walkT m ((nodesT m).length+1) st (2,(k:Int)-1,(i:Int))).1=true then walkT m ((nodesT m).length+1) st (2,(k:Int)-1,(i:Int)) else goD (walkT m ((nodesT m).length+1)) ((nodesK m k).drop (i+1)++nodesF m (k+1) (m.pages.length+1-(k+1))) (walkT m ((nodesT m).length+1) st (2,(k:Int)-1,(i:Int))).2)=R:=hgo
   clear hgo
   generalize hr:walkT m ((nodesT m).length+1) st (2,(k:Int)-1,(i:Int))=r at*
   all_goals try(have Z:=(oj hn_g1 hn_g);(repeat' first|refine zV Z ?_|(refine zg Z (f2) ?_)|refine zH Z (fun hb=>?_) fun hb=>?_|fail);all_goals clear Z)
   ·refine yT hC (oj hn_g1 hn_g) ?_
    rw [if_pos hb] at hgo2
    rw [←hgo2]
    exact .one (.c (ler_bool hb.symm))
   ·have hrf:r.1=false:=hb
    rw [if_neg (by rw [hrf];decide)] at hgo2
    obtain⟨fin2,q1,_,q3,_⟩:=ho.2 hrf
    refine aw_stop ⟨(i+1,r.2,fin2),?_⟩
    and_intros
    all_goals first|rfl|exact List.Sublist.refl _|exact True.intro|exact hgo2|exact q1|(dsimp only;omega)
  ·rw [List.drop_of_length_le (by rw [nodesK_len];omega),List.nil_append] at hgo
   refine zA (oj hn_g1 hn_g) ?_
   refine aw_stop ⟨(k+1,st,fin),?_⟩
   and_intros
   all_goals first|rfl|exact List.Sublist.refl _|exact True.intro|exact hgo|exact hi|exact c_int om|(dsimp only;omega)
 ·have hk1:k=m.pages.length+1:=by omega
  subst hk1
  rw [Nat.sub_self] at hgo
  have hgo2:(false,st)=R:=hgo
  subst hgo2
  refine yT hC (oj hn_g1 hn_g) ?_
  exact .one (.c (.bool _))
end Go.Proofs.YtpcpaekpnfkhhaaGreatDoor
namespace Go.PN
open Go.AI
variable {α β σ : Type}
theorem orC_ne {a b:Int} (h:a≠0):orC a b=a:=if_neg h
theorem orC_z {a b:Int} (h:a=0):orC a b=b:=if_pos h
theorem orC_assoc (a b c:Int):orC (orC a b) c=orC a (orC b c):=by
 by_cases h:a=0
 ·rw [orC_z h,orC_z h]
 ·rw [orC_ne h,orC_ne h,orC_ne h]
theorem frsN_z {f:Nat→σ→Int×σ} {n i:Nat} {s:σ} (h:(f i s).1=0):frsN f (n+1) i s=frsN f n (i+1) (f i s).2:=if_pos h
theorem frsN_ne {f:Nat→σ→Int×σ} {n i:Nat} {s:σ} (h:(f i s).1≠0):frsN f (n+1) i s=f i s:=if_neg h
def mcC (m:MdD):Int:=orC (mcode0 m) (if cycB m then 14 else 0)
abbrev gtN1 (m:MdD):Int:=(frsN (fun k (_:Unit)=>(gtsC m k,())) (m.pages.length+1) 0 ()).1
abbrev inN1 (m:MdD):Int:=(frsN (inP m) (m.pages.length+1) 0 []).1
theorem mcC_eq (m:MdD):mcC m=orC (if nameOk m.name then 0 else 5) (orC (evhC m) (orC (pgsC m) (orC (gtN1 m) (orC (inN1 m) (orC (if isInp m 0 m.top then 0 else 5) (orC (grsC m) (orC (phsC m) (if cycB m then 14 else 0)))))))):=by
 unfold mcC mcode0
 simp only [orC_assoc]
theorem frsS_size {f:Nat→α→List β→Int×List β} {c:Nat}:∀(l:List α) (i:Nat) (s:List β),(∀i x s,x∈l→(f i x s).2.length≤s.length+c)→(frsS f l i s).2.length≤s.length+c*l.length
 |[],_,s,_=>Nat.le_refl _
 |x::l,i,s,h=>by
  have h1:=h i x s List.mem_cons_self
  have h2:=frsS_size l (i+1) (f i x s).2 fun i y s hy=>h i y s (List.mem_cons_of_mem _ hy)
  rw [List.length_cons,Nat.mul_add]
  unfold frsS
  split
  ·omega
  ·omega
theorem inI_size (m:MdD) (k:Nat) (x:GtD) (j:Nat) (i:BS) (sp:List BS):(inI m k x j i sp).2.length≤sp.length+1:=by
 unfold inI
 repeat' split
 all_goals first|exact Nat.le_succ _|(rw [List.length_append];exact Nat.le_refl _)
theorem inP_size {m:MdD} {k:Nat} (hI:∀x∈gtsK m k,x.inputs.length≤16) (sp:List BS):(inP m k sp).2.length≤sp.length+16*(gtsK m k).length:=by
 have:=frsS_size (f:=inG m k) (c:=16) (gtsK m k) 0 sp fun i x s hx=>by
  have h1:=frsS_size (f:=inI m k x) (c:=1) x.inputs 0 s fun j n s _=>inI_size m k x j n s
  have h2:=hI x hx
  show(frsS (inI m k x) x.inputs 0 s).2.length≤_
  omega
 unfold inP
 split<;>exact this
theorem inp_16 {m:MdD} (h:gtN1 m=0) {k:Nat} (hk:k≤m.pages.length):∀x∈gtsK m k,x.inputs.length≤16:=fun x hx=>by
 obtain⟨_,hg⟩:=frsN_0 h k om
 rw [Nat.zero_add] at hg
 obtain⟨i,hi,rfl⟩:=List.getElem_of_mem hx
 have:=frst_0 gt0 (show frst (gtC m k) (gtsK m k) 0=0 from hg) i hi
 rw [List.getD_eq_getElem?_getD,List.getElem?_eq_getElem hi] at this
 simp only [Option.getD_some] at this
 generalize (gtsK m k)[i]=x at*
 unfold gtC at this
 split at this
 ·cases this
 split at this
 ·cases this
 unfold shpC at this
 split at this
 ·cases this
 split at this
 ·cases this
 rename_i hb
 unfold inpB at hb
 repeat' split at hb
 all_goals simp at hb<;>omega
end Go.PN
namespace Go.Proofs.YtpcpaekpnfkhhaaGreatDoor
open Go.AI Go.PN
attribute [local irreducible] aw Fa Fh DrK
theorem check_fa (m:MdD) (ho:MdO m):Fa Tryz.prog 39 [.agg (mdc true m)] (.c (errA (mcC m))):=by
 have hm:=ho.ok
 have hw2:=ho.wf2
 have hpl:=hw2.pl
 have fn:Fa Tryz.prog 87 [.c (.str (sB m.name))] (.c (.bool (nameOk m.name))):=tname_fa m.name ho.wf.nm
 have f1:=checkEvents_fa m hm ho.wf
 have f2:=checkPages_fa m hm hw2
 rw [mcC_eq]
 refine fa_of_body Tryz.func39 rfl rfl (by simp [Tryz.ntmps39]) fun C hC=> ?_
 simp only [initS,Nat.reduceAdd]
 refine zA o0 ?_
 refine xB fun g1 hn_g1=>?_
 repeat' first|refine zV hn_g1 ?_|(refine yC2 hn_g1 (fn) ?_)|(refine yD2 hn_g1 (fn) ?_)|(refine yC2 hn_g1 (f1) ?_)|(refine yD2 hn_g1 (f1) ?_)|(refine yC2 hn_g1 (f2) ?_)|(refine yD2 hn_g1 (f2) ?_)|refine zH hn_g1 (fun hb=>?_) fun hb=>?_|fail
 ·refine yT hC hn_g1 ?_
  rw [show nameOk m.name=false from by simpa using hb,orC_ne (by decide)]
  exact .one (.c (ler_errE rfl (by decide)))
 ·rename_i h1
  rw [if_pos (by simpa using h1),orC_z rfl,orC_ne (by simpa using hb)]
  refine yT hC hn_g1 ?_
  exact .one (.c ler_err)
 ·rename_i h1 h2
  rw [if_pos (by simpa using h1),orC_z rfl,orC_z (by simpa using h2),orC_ne (by simpa using hb)]
  refine yT hC hn_g1 ?_
  exact .one (.c ler_err)
 rename_i h1 h2
 have h3:pgsC m=0:=by simpa using hb
 rw [if_pos (by simpa using h1),orC_z rfl,orC_z (by simpa using h2),orC_z h3]
 clear fn f1 f2
 generalize hG:gtN1 m=G
 refine aw_lp (fun k:Nat=>[(1,.c (.optr g1 0)),(2,.c .nilI),(5,.c (.int .i64 ((k:Int)-1)))]) (fun _=>[(g1,.cells 29 8 (ofL (mdc true m)))]) (fun k=>k≤m.pages.length+1∧(frsN (fun k (_:Unit)=>(gtsC m k,())) (m.pages.length+1-k) k ()).1=G) (fun k=>m.pages.length+1-k) 0 (zB hn_g1) zZ ⟨Nat.zero_le _,hG⟩ ?_
 rintro k ⟨hk,hlp⟩
 repeat' first|refine zV hn_g1 ?_|refine zH hn_g1 (fun hb=>?_) fun hb=>?_|fail
 ·have hk':k≤m.pages.length:=by omega
  have f1:=checkGates_fa m k hk' hm hw2
  rw [show m.pages.length+1-k=(m.pages.length+1-(k+1))+1 from by omega] at hlp
  repeat' first|refine zV hn_g1 ?_|(refine yC2 hn_g1 (f1) ?_)|(refine yD2 hn_g1 (f1) ?_)|refine zH hn_g1 (fun hb=>?_) fun hb=>?_|fail
  ·have hb2:gtsC m k≠0:=by simpa using hb
   rw [frsN_ne (f:=fun k (_:Unit)=>(gtsC m k,())) hb2] at hlp
   have hlp:gtsC m k=G:=hlp
   subst hlp
   rw [orC_ne hb2]
   refine yT hC hn_g1 ?_
   exact .one (.c ler_err)
  ·rw [frsN_z (f:=fun k (_:Unit)=>(gtsC m k,())) (by simpa using hb)] at hlp
   refine aw_stop ⟨k+1,?_⟩
   and_intros
   all_goals first|rfl|exact List.Sublist.refl _|exact True.intro|exact hlp|exact c_int om|omega
 have hk1:k=m.pages.length+1:=by omega
 subst hk1
 rw [Nat.sub_self] at hlp
 have hG0:G=0:=hlp.symm
 subst hG0
 rw [orC_z rfl]
 have hI:=fun k hk=>inp_16 hG (k:=k) hk
 have hp8:m.pages.length≤8:=by
  unfold pgsC at h3
  split at h3
  ·cases h3
  ·omega
 have hIi:∀k,k≤m.pages.length→∀i,((gtsK m k).getD i gt0).inputs.length≤16:=fun k hk i=>getD_all (P:=fun x:GtD=>x.inputs.length≤16) (hI k hk) (Nat.zero_le _) i
 have hsz:=fun k hk sp=>inP_size (hI k hk) sp
 have hgl:=fun k=>gtsK_len hw2 k
 clear hlp
 generalize hN:inN1 m=N
 refine zA hn_g1 ?_
 refine aw_lp (fun x:Nat×List BS×Option Nat=>[(1,.c (.optr g1 0)),(2,.c .nilI),(7,.c (gs x.2.2 1 x.2.1.length)),(8,.c (.int .i64 ((x.1:Int)-1)))]) (fun x=>gh x.2.2 9 x.2.1.length (strsF x.2.1)++[(g1,.cells 29 8 (ofL (mdc true m)))]) (fun x=>x.1≤m.pages.length+1∧(x.2.2=none→x.2.1.length=0)∧x.2.1.length≤16777216*x.1∧(frsN (inP m) (m.pages.length+1-x.1) x.1 x.2.1).1=N) (fun x=>m.pages.length+1-x.1) (0,[],none) (zB hn_g1) zZ ⟨Nat.zero_le _,fun _=>rfl,Nat.zero_le _,hN⟩ ?_
 rintro ⟨k,sp,og⟩ ⟨hk,hog,hsp,hlp⟩
 dsimp only at hk hog hsp hlp⊢
 refine aw_nd fun hnd=> ?_
 have hgn:∀g,og=some g→(g=g1)=False:=fun g e=>by
  subst e
  simp only [gh,Heap.keys,List.map_append,List.map_cons,List.map_nil,List.cons_append,List.nil_append] at hnd
  exact eq_false fun e=>(List.nodup_cons.1 hnd).1 (by rw [e];exact List.mem_cons_self)
 refine aw_perm List.perm_append_comm ?_
 clear hnd
 simp only [List.cons_append,List.nil_append]
 repeat' first|refine zV hn_g1 ?_|refine zH hn_g1 (fun hb=>?_) fun hb=>?_|fail
 ·have hk':k≤m.pages.length:=by omega
  have hsz':=hsz k hk' sp
  have hgk:=hgl k
  rw [show m.pages.length+1-k=(m.pages.length+1-(k+1))+1 from by omega] at hlp
  refine aw_callh (hc:=gh og 9 sp.length (strsF sp)) (hr:=[(g1,.cells 29 8 (ofL (mdc true m)))]) (checkInputs_fh m k sp og hk' hm hw2 (hIi k hk') (fun i j=>ho.inl k i j) hog om) rfl rfl rfl (List.perm_append_comm (l₁:=[(g1,_)])) (zL hn_g1) ?_
  rintro _ _ (⟨q1,rfl,rfl⟩|⟨q1,og2,q2,rfl,rfl⟩) _
  ·rw [frsN_ne (f:=inP m) q1] at hlp
   subst hlp
   simp only [List.nil_append]
   rw [orC_ne q1]
   refine yS hn_g1 ?_
   repeat' first|refine zV hn_g1 ?_|refine zH hn_g1 (fun hb=>?_) fun hb=>?_|fail
   ·refine yT hC hn_g1 ?_
    exact .one (.c ler_err)
   ·exfalso;simp_all
  ·rw [frsN_z (f:=inP m) q1] at hlp
   refine yS hn_g1 ?_
   refine zA hn_g1 ?_
   refine aw_stop ⟨(k+1,(inP m k sp).2,og2),?_⟩
   and_intros
   all_goals first|rfl|exact List.Sublist.refl _|exact True.intro|exact q2|exact hlp|exact c_int om|(dsimp only;omega)
 all_goals
  have hk1:k=m.pages.length+1:=by omega
  subst hk1
  rw [Nat.sub_self] at hlp
  have hN0:N=0:=hlp.symm
  subst hN0
  rw [orC_z rfl]
 have f3:=isInput_fa m 0 m.top (Nat.zero_le _) hm (Nat.le_trans (hgl 0) (by decide)) (Nat.le_trans ho.tp (by decide))
 rw [show((0:Nat):Int)-1= -1 from rfl] at f3
 have f4:=checkGroups_fa m hm ho.wf4
 have f5:=checkPhases_fa m hm hw2 ho.wf3
 clear hlp hsp hog hgn
 repeat' first|refine zV hn_g1 ?_|(refine yC2 hn_g1 (f3) ?_)|(refine yD2 hn_g1 (f3) ?_)|(refine yC2 hn_g1 (f4) ?_)|(refine yD2 hn_g1 (f4) ?_)|(refine yC2 hn_g1 (f5) ?_)|(refine yD2 hn_g1 (f5) ?_)|refine zH hn_g1 (fun hb=>?_) fun hb=>?_|fail
 ·refine yT hC hn_g1 ?_
  rw [show isInp m 0 m.top=false from by simpa using hb,if_neg (by decide),orC_ne (by decide)]
  exact .one (.c (ler_errE rfl (by decide)))
 ·rename_i h4
  rw [if_pos (by simpa using h4),orC_z rfl,orC_ne (by simpa using hb)]
  refine yT hC hn_g1 ?_
  exact .one (.c ler_err)
 ·rename_i h4 h5
  rw [if_pos (by simpa using h4),orC_z rfl,orC_z (by simpa using h5),orC_ne (by simpa using hb)]
  refine yT hC hn_g1 ?_
  exact .one (.c ler_err)
 rename_i h4 h5
 have e0:mcode0 m=0:=by
  unfold mcode0
  rw [if_pos (by simpa using h1),orC_z rfl,orC_z (by simpa using h2),orC_z h3,orC_z hG,orC_z hN,if_pos (by simpa using h4),orC_z rfl,orC_z (by simpa using h5)]
  simpa using hb
 rw [if_pos (by simpa using h4),orC_z rfl,orC_z (by simpa using h5),orC_z (by simpa using hb)]
 have f6:=cyclic_fa m (ho.cy e0)
 repeat' first|refine zV hn_g1 ?_|(refine yC2 hn_g1 (f6) ?_)|(refine yD2 hn_g1 (f6) ?_)|refine zH hn_g1 (fun hb=>?_) fun hb=>?_|fail
 ·refine yT hC hn_g1 ?_
  rw [if_pos hb]
  exact .one (.c (ler_errE rfl (by decide)))
 ·refine yT hC hn_g1 ?_
  rw [if_neg (by simpa using hb)]
  exact .one (.c (ler_err0 rfl))
end Go.Proofs.YtpcpaekpnfkhhaaGreatDoor
namespace Go.PN
open Go.AI
theorem mcC_good {m:MdD} (h:mcC m=0):Good m:=(good_iff m).1 (orC_0.1 (show orC (mcode0 m) (if cycB m then 14 else 0)=0 from h)).1
theorem rtxt_0:rtxt rd0=[48]:=by
 have e1:RD.ps rd0=false:=by decide
 have e2:RD.pn rd0=0:=by decide
 have e3:RD.pd rd0=1:=by decide
 unfold rtxt
 rw [e1,e2,e3,if_neg (by simp),if_pos rfl,txtN_dec,decB_lt (by decide)];rfl
theorem num_0:NumOk rd0:=⟨RD.wf.mono rd0_ok (by decide),by decide,by decide+kernel,by rw [rtxt_0];decide⟩
theorem num_prob {r:RD} (hw:RdOk r) (h:r.prob=true) (hl:longR r=false):NumOk r:=by
 unfold RD.prob at h
 simp only [Bool.and_eq_true,decide_eq_true_eq] at h
 unfold longR at hl
 have:=of_decide_eq_false hl
 exact⟨RD.wf.mono hw (by decide),h.1.1,h.1.2,by omega⟩
theorem num_rate {r:RD} (hw:RdOk r) (h:rateB r=true) (hl:longR r=false):NumOk r:=by
 unfold rateB at h
 simp only [Bool.and_eq_true,decide_eq_true_eq] at h
 unfold longR at hl
 have:=of_decide_eq_false hl
 refine⟨RD.wf.mono hw (by decide),h.1,?_,by omega⟩
 have h2:=h.2
 unfold signQ at h2
 split at h2
 ·rename_i e;rw [e];decide+kernel
 ·split at h2
  ·exact absurd h2 (by decide)
  ·rename_i e;exact Rat.not_lt.1 e
theorem zero_rd {r:RD} (h:zeroB r=true):r=rd0:=by
 obtain⟨a,b,c⟩:=r
 unfold zeroB at h
 simp only [Bool.and_eq_true,Bool.not_eq_true',beq_iff_eq,List.length_eq_zero_iff] at h
 obtain⟨⟨h1,h2⟩,h3⟩:=h
 subst h1 h2 h3
 rfl
theorem shp_ok {x:GtD} (h:shpC x=0) (hw:RdOk x.dorm) (hl:longR x.dorm=false):0≤x.kind∧x.kind≤8∧0≤x.k∧x.k≤16∧(x.kind≠2→x.k=0)∧NumOk x.dorm∧(x.kind≠7→x.dorm=rd0):=by
 unfold shpC at h
 rw [ite0 (by decide),ite0 (by decide),ite0 (by decide),ite0 (by decide),ite0 (by decide),ite0 (by decide)] at h
 obtain⟨h1,h2,h3,h4,h5,h6,_⟩:=h
 have hi:x.inputs.length≤16:=by
  unfold inpB at h2
  simp only [Bool.not_eq_false] at h2
  split at h2
  ·have:=beq_iff_eq.1 h2;omega
  ·split at h2
   ·have:=beq_iff_eq.1 h2;omega
   ·split at h2
    ·simp only [Bool.and_eq_true,decide_eq_true_eq] at h2;omega
    ·simp only [Bool.and_eq_true,decide_eq_true_eq] at h2;omega
 have k0:x.kind≠2→x.k=0:=fun e=>Classical.byContradiction fun z=>h4 ⟨e,z⟩
 have d0:x.kind≠7→x.dorm=rd0:=fun e=>zero_rd (by
  by_cases z:zeroB x.dorm=true
  ·exact z
  ·exact absurd ⟨e,by simpa using z⟩ h6)
 refine⟨by omega,by omega,?_,?_,k0,?_,d0⟩
 ·by_cases e:x.kind=2
  ·have:¬(x.k<1∨x.k>x.inputs.length):=fun z=>h3 ⟨e,z⟩
   omega
  ·rw [k0 e];decide
 ·by_cases e:x.kind=2
  ·have:¬(x.k<1∨x.k>x.inputs.length):=fun z=>h3 ⟨e,z⟩
   omega
  ·rw [k0 e];decide
 ·by_cases e:x.kind=7
  ·exact num_prob hw (by
    by_cases z:x.dorm.prob=true
    ·exact z
    ·exact absurd ⟨e,by simpa using z⟩ h5) hl
  ·rw [d0 e];exact num_0
theorem good_in {m:MdD} (h:Good m) {L:List GtD} (hL:GsA m L) {i:BS} (hi:InN m L i):InpOk i:=by
 have he:∀n,n∈evN m→nameOk n=true:=fun n hn=>by
  obtain⟨x,hx,rfl⟩:=List.mem_map.1 hn
  exact(h.ev x hx).1
 rcases hi with ⟨⟨h1,h2⟩,h3⟩|⟨_,h3|h3|h3⟩
 ·obtain⟨x,hx,e⟩:=List.mem_map.1 h3
  exact .inl ⟨h2,by rw [←e];exact(h.pg x hx).1,h1⟩
 ·exact .inr (he i h3)
 ·obtain⟨x,hx,rfl⟩:=List.mem_map.1 h3
  exact .inr (h.hs x hx).1
 ·obtain⟨x,hx,rfl⟩:=List.mem_map.1 h3
  exact .inr (hL.2 x hx).1
theorem any_f {α:Type} {p:α→Bool} {l:List α} (h:l.any p=false):∀x∈l,p x=false:=fun x hx=>by
 rw [Bool.eq_false_iff]
 intro e
 rw [List.any_eq_true.2 ⟨x,hx,e⟩] at h
 cases h
theorem good_gt {m:MdD} (h:Good m) {L:List GtD} (hL:GsA m L) (ho:∀g∈L,GtO g) (hl:longG L=false):∀g∈L,GtOk g:=fun g hg=>by
 obtain⟨a1,_,_,a4,a5,_⟩:=hL.2 g hg
 obtain⟨b1,b2,b3,b4,b5,b6,b7⟩:=shp_ok a4 (ho g hg).2.1 (any_f hl g hg)
 exact⟨a1,b1,b2,b3,b4,b5,b6,b7,fun i hi=>good_in h hL (a5 i hi)⟩
theorem good_b {m:MdD} (h:Good m) (ho:MdO m) (hl:longX m=false):MdB m:=by
 unfold longX at hl
 simp only [Bool.or_eq_false_iff] at hl
 obtain⟨⟨⟨⟨l1,l2⟩,l3⟩,l4⟩,l5⟩:=hl
 have he:∀n,n∈evN m→nameOk n=true:=fun n hn=>by
  obtain⟨x,hx,rfl⟩:=List.mem_map.1 hn
  exact(h.ev x hx).1
 refine⟨h.nm,good_in h h.gt h.tp,fun x hx=> ?_,fun x hx=>(h.hs x hx).1,good_gt h h.gt ho.gt.2 l2,fun x hx=> ?_,fun x hx=> ?_,fun x hx=> ?_⟩
 ·obtain⟨a1,a2,a3,a4,a5,a6⟩:=h.ev x hx
  obtain⟨_,o1,o2,o3⟩:=ho.ev.2 x hx
  have:=any_f l1 x hx
  unfold longE at this
  simp only [Bool.or_eq_false_iff] at this
  exact⟨a1,num_prob o1 a2 this.1.1,num_rate o2 a3 this.1.2,num_rate o3 a4 this.2,a5,a6⟩
 ·obtain⟨a1,a2,a3⟩:=h.pg x hx
  refine⟨a1,.inr ?_,good_gt h a2 (ho.pg.2 x hx).2.2.2 (any_f l3 x hx)⟩
  rcases a3 with a3|a3
  ·obtain⟨g,hg,e⟩:=List.mem_map.1 a3
   rw [←e];exact(a2.2 g hg).1
  ·exact he _ a3
 ·obtain⟨a1,a2,_,a4,a5⟩:=h.gr x hx
  exact⟨a1,a2,fun n hn=>he n (a4 n hn),fun r hr=>num_prob ((ho.gr.2 x hx).2.2.2.2 r hr) (List.all_eq_true.1 a5 r hr) (any_f (any_f l4 x hx) r hr)⟩
 ·obtain⟨a1,a2,a3,_⟩:=h.ph x hx
  exact⟨a1,good_in h h.gt a2,fun v hv=>⟨he _ (a3 v hv).1,num_prob ((ho.ph.2 x hx).2.2.2 v hv).2 (a3 v hv).2 (any_f (any_f l5 x hx) v hv)⟩⟩
theorem text_back {m:MdD} (ho:MdO m) (h:mcC m=0) (hl:longX m=false) (hs:(textX m).length≤65536):modelP mcC (textX m)=(m,0):=by
 have hb:=good_b (mcC_good h) ho hl
 have h1:=splitS_lx (text_lx hb) hs
 have h2:=read_text hb
 unfold modelP
 rw [h1]
 dsimp only
 rw [if_neg (by simp),h2]
 dsimp only
 rw [if_neg (by simp),h,if_neg (by simp)]
end Go.PN
namespace Go.PN
open Go.AI
theorem joinW_len1 (x:BS) (l:List BS):(joinW (x::l)).length+1=(x::l).length+sumW (x::l) (x::l).length:=by
 have h:=catW_len x l l.length (Nat.le_refl _)
 have e:catW x l l.length=joinW (x::l):=by unfold catW;rw [List.take_length];rfl
 rw [e] at h
 have a2:sumW (x::l) (x::l).length=x.length+sumW l l.length:=by unfold sumW;rw [List.take_length,List.take_length];rfl
 rw [h,a2,List.length_cons];omega
theorem lineW_len (x:BS) (l:List BS):(lineW (x::l)).length=(x::l).length+sumW (x::l) (x::l).length:=by
 rw [←joinW_len1];unfold lineW;simp
theorem take_flat_le {α:Type} (l:List α) (f:α→BS) (j:Nat):((l.take j).flatMap f).length≤(l.flatMap f).length:=by
 conv=>rhs;rw [←List.take_append_drop j l,List.flatMap_append,List.length_append]
 omega
def evTo (m:MdD) (j:Nat):BS:=lineW [kModel,m.name]++[10]++(m.events.take j).flatMap evX
def evLoTo (m:MdD) (j:Nat):Bool:=(m.events.take j).any fun x=>evLo false x 4
structure MdP (m:MdD):Prop where
 ev:∀x∈m.events,x.p.wf 100000∧x.fail.wf 100000∧x.rep.wf 100000∧ -9223372036854775808≤x.cost∧x.cost<9223372036854775808
 gt:∀g∈m.gates,-9223372036854775808≤g.kind∧g.kind<9223372036854775808∧(g.kind=2→0≤g.k∧g.k<100)∧g.dorm.wf 100000
 pg:∀p∈m.pages,∀g∈p.gates,-9223372036854775808≤g.kind∧g.kind<9223372036854775808∧(g.kind=2→0≤g.k∧g.k<100)∧g.dorm.wf 100000
 gr:∀x∈m.groups,∀r∈x.factors,r.wf 100000
 gk:∀x∈m.groups,∃q:Nat,q<2∧x.kind=(q:Int)
 ph:∀x∈m.phases,∀v∈x.values,v.p.wf 100000
 len:(textX m).length≤10000000000
def hsTo (m:MdD) (j:Nat):BS:=evTo m m.events.length++(m.houses.take j).flatMap hsX
theorem hsTo_succ (m:MdD) (j:Nat) (hj:j<m.houses.length):hsTo m (j+1)=hsTo m j++hsX (m.houses.getD j hs0):=by
 unfold hsTo
 rw [List.take_add_one,List.getElem?_eq_getElem hj,List.getD_eq_getElem?_getD,List.getElem?_eq_getElem hj,List.flatMap_append]
 simp
def gtTo (m:MdD) (j:Nat):BS:=hsTo m m.houses.length++(m.gates.take j).flatMap (gtX [])
def gtLoTo (lo:Bool) (l:List GtD) (j:Nat):Bool:=lo||(l.take j).any fun g=>decide (g.kind=7)&&longR g.dorm
theorem gtTo_succ (m:MdD) (j:Nat) (hj:j<m.gates.length):gtTo m (j+1)=gtTo m j++gateX (m.gates.getD j gt0)++[10]:=by
 unfold gtTo
 rw [List.take_add_one,List.getElem?_eq_getElem hj,List.getD_eq_getElem?_getD,List.getElem?_eq_getElem hj,List.flatMap_append]
 simp [gtX]
theorem gtLoTo_succ (lo:Bool) (l:List GtD) (j:Nat) (hj:j<l.length):gtLoTo lo l (j+1)=(gtLoTo lo l j||(decide ((l.getD j gt0).kind=7)&&longR (l.getD j gt0).dorm)):=by
 unfold gtLoTo
 rw [List.take_add_one,List.getElem?_eq_getElem hj,List.getD_eq_getElem?_getD,List.getElem?_eq_getElem hj,List.any_append,←Bool.or_assoc]
 simp
def pgTo (m:MdD) (j:Nat):BS:=gtTo m m.gates.length++(m.pages.take j).flatMap pgX
def pgLoTo (lo:Bool) (l:List PgD) (j:Nat):Bool:=lo||(l.take j).any fun p=>p.gates.any fun g=>decide (g.kind=7)&&longR g.dorm
theorem pgTo_succ (m:MdD) (j:Nat) (hj:j<m.pages.length):pgTo m (j+1)=pgTo m j++pgX (m.pages.getD j pg0):=by
 unfold pgTo
 rw [List.take_add_one,List.getElem?_eq_getElem hj,List.getD_eq_getElem?_getD,List.getElem?_eq_getElem hj,List.flatMap_append]
 simp
theorem pgLoTo_succ (lo:Bool) (l:List PgD) (j:Nat) (hj:j<l.length):pgLoTo lo l (j+1)=gtLoTo (pgLoTo lo l j) (l.getD j pg0).gates (l.getD j pg0).gates.length:=by
 unfold pgLoTo gtLoTo
 rw [List.take_add_one,List.getElem?_eq_getElem hj,List.getD_eq_getElem?_getD,List.getElem?_eq_getElem hj,List.any_append,←Bool.or_assoc,List.take_length]
 simp
def hdrT (k name top:BS):BS:=k++32::(name++32::(kTop++32::(top++[32,123])))
theorem hdrT_x (k name top:BS):hdrT k name top++[10]=headX k name top:=by simp [hdrT,headX]
def pgIn (B:BS) (x:PgD) (k:Nat):BS:=B++headX kPage x.name x.top++(x.gates.take k).flatMap (gtX [32,32])
theorem pgIn_succ (B:BS) (x:PgD) (k:Nat) (hk:k<x.gates.length):pgIn B x (k+1)=pgIn B x k++([32,32]++gateX (x.gates.getD k gt0))++[10]:=by
 unfold pgIn
 rw [List.take_add_one,List.getElem?_eq_getElem hk,List.getD_eq_getElem?_getD,List.getElem?_eq_getElem hk,List.flatMap_append]
 simp [gtX]
theorem pgIn_end (B:BS) (x:PgD):pgIn B x x.gates.length++[125]++[10]=B++pgX x:=by
 unfold pgIn pgX
 rw [List.take_length];simp
theorem pgIn_le (B:BS) (x:PgD) (k:Nat):(pgIn B x k).length≤(B++pgX x).length:=by
 have:=take_flat_le x.gates (gtX [32,32]) k
 unfold pgIn pgX
 simp only [List.length_append]
 omega
def grTo (m:MdD) (j:Nat):BS:=pgTo m m.pages.length++(m.groups.take j).flatMap grX
def grLoTo (lo:Bool) (l:List GrD) (j:Nat):Bool:=lo||(l.take j).any fun x=>x.factors.any longR
theorem evTo_succ (m:MdD) (j:Nat) (hj:j<m.events.length):evTo m (j+1)=evTo m j++lineW (evW (m.events.getD j ev0))++[10]:=by
 unfold evTo
 rw [List.take_add_one,List.getElem?_eq_getElem hj,List.getD_eq_getElem?_getD,List.getElem?_eq_getElem hj,List.flatMap_append]
 simp [evX]
theorem evLoTo_succ (m:MdD) (j:Nat) (hj:j<m.events.length):evLoTo m (j+1)=evLo (evLoTo m j) (m.events.getD j ev0) 4:=by
 unfold evLoTo
 rw [List.take_add_one,List.getElem?_eq_getElem hj,List.getD_eq_getElem?_getD,List.getElem?_eq_getElem hj,List.any_append]
 simp [evLo]
theorem evTo_le (m:MdD) (j:Nat):(evTo m j).length≤(textX m).length:=by
 have:=take_flat_le m.events evX j
 unfold evTo textX
 simp only [List.length_append,List.length_cons,List.length_nil]
 omega
theorem hsTo_le (m:MdD) (j:Nat):(hsTo m j).length≤(textX m).length:=by
 have:=take_flat_le m.houses hsX j
 unfold hsTo evTo textX
 simp only [List.length_append,List.length_cons,List.length_nil,List.take_length]
 omega
theorem gtTo_le (m:MdD) (j:Nat):(gtTo m j).length≤(textX m).length:=by
 have:=take_flat_le m.gates (gtX []) j
 unfold gtTo hsTo evTo textX
 simp only [List.length_append,List.length_cons,List.length_nil,List.take_length]
 omega
theorem pgTo_le (m:MdD) (j:Nat):(pgTo m j).length≤(textX m).length:=by
 have:=take_flat_le m.pages pgX j
 unfold pgTo gtTo hsTo evTo textX
 simp only [List.length_append,List.length_cons,List.length_nil,List.take_length]
 omega
def grWL (x:GrD) (k:Nat):List BS:=[kGroup,x.name,if x.kind=1 then kGreek else kBeta]++(x.factors.take k).map rtxt
def grLo (lo:Bool) (x:GrD) (k:Nat):Bool:=lo||(x.factors.take k).any longR
theorem grWL_succ (x:GrD) (k:Nat) (hk:k<x.factors.length):grWL x (k+1)=grWL x k++[rtxt (x.factors.getD k rd0)]:=by
 unfold grWL
 rw [List.take_add_one,List.getElem?_eq_getElem hk,List.getD_eq_getElem?_getD,List.getElem?_eq_getElem hk,List.map_append,←List.append_assoc]
 simp
theorem grLo_succ (lo:Bool) (x:GrD) (k:Nat) (hk:k<x.factors.length):grLo lo x (k+1)=(grLo lo x k||longR (x.factors.getD k rd0)):=by
 unfold grLo
 rw [List.take_add_one,List.getElem?_eq_getElem hk,List.getD_eq_getElem?_getD,List.getElem?_eq_getElem hk,List.any_append,←Bool.or_assoc]
 simp
theorem grWL_len (x:GrD) (k:Nat) (hk:k≤x.factors.length):(grWL x k).length=k+3:=by
 unfold grWL
 rw [List.length_append,List.length_map,List.length_take]
 simp;omega
theorem grWL_end (x:GrD):grWL x x.factors.length++[kColon]++x.members=grW x:=by
 unfold grWL grW
 rw [List.take_length];simp
theorem grTo_succ (m:MdD) (j:Nat) (hj:j<m.groups.length):grTo m (j+1)=grTo m j++lineW (grW (m.groups.getD j gr0))++[10]:=by
 unfold grTo
 rw [List.take_add_one,List.getElem?_eq_getElem hj,List.getD_eq_getElem?_getD,List.getElem?_eq_getElem hj,List.flatMap_append]
 simp [grX]
theorem grLoTo_succ (lo:Bool) (l:List GrD) (j:Nat) (hj:j<l.length):grLoTo lo l (j+1)=grLo (grLoTo lo l j) (l.getD j gr0) (l.getD j gr0).factors.length:=by
 unfold grLoTo grLo
 rw [List.take_add_one,List.getElem?_eq_getElem hj,List.getD_eq_getElem?_getD,List.getElem?_eq_getElem hj,List.any_append,←Bool.or_assoc,List.take_length]
 simp
theorem grTo_le (m:MdD) (j:Nat):(grTo m j).length≤(textX m).length:=by
 have:=take_flat_le m.groups grX j
 unfold grTo pgTo gtTo hsTo evTo textX
 simp only [List.length_append,List.length_cons,List.length_nil,List.take_length]
 omega
def phTo (m:MdD) (j:Nat):BS:=grTo m m.groups.length++(m.phases.take j).flatMap phX
def phLoTo (lo:Bool) (l:List PhD) (j:Nat):Bool:=lo||(l.take j).any fun x=>x.values.any fun v=>longR v.p
def phIn (B:BS) (x:PhD) (k:Nat):BS:=B++headX kPhase x.name x.top++(x.values.take k).flatMap vlX
def vlLo (lo:Bool) (l:List VlD) (k:Nat):Bool:=lo||(l.take k).any fun v=>longR v.p
theorem phTo_succ (m:MdD) (j:Nat) (hj:j<m.phases.length):phTo m (j+1)=phTo m j++phX (m.phases.getD j ph0):=by
 unfold phTo
 rw [List.take_add_one,List.getElem?_eq_getElem hj,List.getD_eq_getElem?_getD,List.getElem?_eq_getElem hj,List.flatMap_append]
 simp
theorem phLoTo_succ (lo:Bool) (l:List PhD) (j:Nat) (hj:j<l.length):phLoTo lo l (j+1)=vlLo (phLoTo lo l j) (l.getD j ph0).values (l.getD j ph0).values.length:=by
 unfold phLoTo vlLo
 rw [List.take_add_one,List.getElem?_eq_getElem hj,List.getD_eq_getElem?_getD,List.getElem?_eq_getElem hj,List.any_append,←Bool.or_assoc,List.take_length]
 simp
theorem vlLo_succ (lo:Bool) (l:List VlD) (k:Nat) (hk:k<l.length):vlLo lo l (k+1)=(vlLo lo l k||longR (l.getD k vl0).p):=by
 unfold vlLo
 rw [List.take_add_one,List.getElem?_eq_getElem hk,List.getD_eq_getElem?_getD,List.getElem?_eq_getElem hk,List.any_append,←Bool.or_assoc]
 simp
theorem phIn_succ (B:BS) (x:PhD) (k:Nat) (hk:k<x.values.length):phIn B x (k+1)=phIn B x k++([32,32]++lineW [(x.values.getD k vl0).event,rtxt (x.values.getD k vl0).p])++[10]:=by
 unfold phIn
 rw [List.take_add_one,List.getElem?_eq_getElem hk,List.getD_eq_getElem?_getD,List.getElem?_eq_getElem hk,List.flatMap_append]
 simp [vlX]
theorem phIn_end (B:BS) (x:PhD):phIn B x x.values.length++[125]++[10]=B++phX x:=by
 unfold phIn phX
 rw [List.take_length];simp
theorem phIn_le (B:BS) (x:PhD) (k:Nat):(phIn B x k).length≤(B++phX x).length:=by
 have:=take_flat_le x.values vlX k
 unfold phIn phX
 simp only [List.length_append]
 omega
theorem phTo_le (m:MdD) (j:Nat):(phTo m j).length≤(textX m).length:=by
 have:=take_flat_le m.phases phX j
 unfold phTo grTo pgTo gtTo hsTo evTo textX
 simp only [List.length_append,List.length_cons,List.length_nil,List.take_length]
 omega
theorem phTo_end (m:MdD):phTo m m.phases.length++lineW [kTop,m.top]++[10]=textX m:=by
 unfold phTo grTo pgTo gtTo hsTo evTo textX
 simp only [List.take_length]
 simp
theorem fl_le {α:Type} {f:α→BS} {B:Nat}:∀{l:List α} {n:Nat},l.length≤n→(∀x∈l,(f x).length≤B)→(l.flatMap f).length≤n*B
 |[],_,_,_=>Nat.zero_le _
 |x::l,n+1,hn,h=>by
  rw [List.flatMap_cons,List.length_append,Nat.add_mul]
  have h1:=fl_le (l:=l) (n:=n) (by simpa using hn) fun y hy=>h y (List.mem_cons_of_mem _ hy)
  have h2:=h x List.mem_cons_self
  omega
theorem lineW_le {l:List BS} {n B:Nat} (hn:l.length≤n) (h:∀x∈l,x.length≤B):(lineW l).length≤n*(B+1)+1:=by
 have e:(joinW l).length≤n*(B+1):=by
  match l,n,hn with
  |[],_,_=>exact Nat.zero_le _
  |x::l,n+1,hn=>
   have h1:=fl_le (f:=fun y:BS=>(32:UInt8)::y) (B:=B+1) (l:=l) (n:=n) (by simpa using hn) fun y hy=>by
    have:=h y (List.mem_cons_of_mem _ hy)
    simpa using this
   have h2:=h x List.mem_cons_self
   show(x++l.flatMap fun y:BS=>(32:UInt8)::y).length≤_
   rw [List.length_append,Nat.add_mul,Nat.one_mul]
   generalize n*(B+1)=K at*
   omega
 unfold lineW
 simpa using e
theorem rtxt_le {r:RD} (h:RdOk r):(rtxt r).length≤36004:=rtxt_len (L:=1000) (by decide) h
theorem name_le {n:BS} (h:nameOk n=true):n.length≤24:=by
 unfold nameOk at h
 simp only [Bool.and_eq_true,decide_eq_true_eq] at h
 exact h.1.1.2
theorem inp_le {i:BS} (h:InpOk i):i.length≤25:=by
 rcases h with ⟨_,h,_⟩|h
 ·have:=name_le h
  rw [List.length_drop] at this
  omega
 ·have:=name_le h;omega
theorem kindW_le (k:Int):(kindW k).length≤36004:=by
 unfold kindW
 split
 ·decide
 ·rename_i h
  obtain⟨n,rfl⟩:=Int.eq_ofNat_of_zero_le (show 0≤k by omega)
  have:n<9:=by omega
  match n,this with
  |0,_|1,_|2,_|3,_|4,_|5,_|6,_|7,_|8,_=>decide
structure ShpA (x:GtD):Prop where
 k0:0≤x.kind
 k8:x.kind≤8
 n0:0≤x.k
 n16:x.k≤16
 inp:x.inputs.length≤16
 dm:x.kind=7→x.dorm.prob=true
 d0:x.kind≠7→x.dorm=rd0
theorem shp_a {x:GtD} (h:shpC x=0):ShpA x:=by
 unfold shpC at h
 rw [ite0 (by decide),ite0 (by decide),ite0 (by decide),ite0 (by decide),ite0 (by decide),ite0 (by decide)] at h
 obtain⟨h1,h2,h3,h4,h5,h6,_⟩:=h
 have hi:x.inputs.length≤16:=by
  unfold inpB at h2
  simp only [Bool.not_eq_false] at h2
  split at h2
  ·have:=beq_iff_eq.1 h2;omega
  ·split at h2
   ·have:=beq_iff_eq.1 h2;omega
   ·split at h2
    ·simp only [Bool.and_eq_true,decide_eq_true_eq] at h2;omega
    ·simp only [Bool.and_eq_true,decide_eq_true_eq] at h2;omega
 have k0:x.kind≠2→x.k=0:=fun e=>Classical.byContradiction fun z=>h4 ⟨e,z⟩
 refine⟨by omega,by omega,?_,?_,hi,fun e=> ?_,fun e=>zero_rd (by
  by_cases z:zeroB x.dorm=true
  ·exact z
  ·exact absurd ⟨e,by simpa using z⟩ h6)⟩
 ·by_cases e:x.kind=2
  ·have:¬(x.k<1∨x.k>x.inputs.length):=fun z=>h3 ⟨e,z⟩
   omega
  ·rw [k0 e];decide
 ·by_cases e:x.kind=2
  ·have:¬(x.k<1∨x.k>x.inputs.length):=fun z=>h3 ⟨e,z⟩
   omega
  ·rw [k0 e];decide
 ·by_cases z:x.dorm.prob=true
  ·exact z
  ·exact absurd ⟨e,by simpa using z⟩ h5
theorem itoa_le {k:Int} (h0:0≤k) (h1:k≤16):(itoaB k).length≤2:=by
 unfold itoaB
 rw [if_neg om]
 exact decB_len 1 _ (by show _<100;omega)
theorem gateX_le {m:MdD} (hg:Good m) {L:List GtD} (hL:GsA m L) (ho:∀g∈L,GtO g):∀g∈L,(gateX g).length≤800000:=fun g hgm=>by
 obtain⟨a1,_,_,a4,a5,_⟩:=hL.2 g hgm
 have s:=shp_a a4
 have hw:(gateW g).length≤20:=by
  have hp:∀a b:BS,(if g.kind=2 then [a] else if g.kind=7 then [b] else []).length≤1:=fun a b=>by
   split
   ·simp
   ·split<;>simp
  have:=hp (itoaB g.k) (rtxt g.dorm)
  have:=s.inp
  unfold gateW
  simp only [List.length_cons,List.length_append]
  omega
 refine Nat.le_trans (lineW_le (B:=36004) hw fun x hx=> ?_) (by decide)
 unfold gateW at hx
 simp only [List.mem_cons,List.mem_append] at hx
 rcases hx with rfl|rfl|rfl|hx|hx
 ·decide
 ·have:=name_le a1;omega
 ·exact kindW_le _
 ·split at hx
  ·rw [List.mem_singleton] at hx
   subst hx
   have:=itoa_le s.n0 s.n16;omega
  ·split at hx
   ·rw [List.mem_singleton] at hx
    subst hx
    exact rtxt_le (ho g hgm).2.1
   ·cases hx
 ·have:=inp_le (good_in hg hL (a5 x hx));omega
theorem evW_le {x:EvD} (ha:EvA x) (ho:EvO x):(lineW (evW x)).length≤400000:=by
 have hp:∀(w:BS) (r:RD),(partW w r).length≤2:=fun w r=>by unfold partW;split<;>simp
 have hm:∀(w:BS) (r:RD),w.length≤36004→(signQ r.q≠0→(rtxt r).length≤36004)→∀y∈partW w r,y.length≤36004:=fun w r h1 h2 y hy=>by
  unfold partW at hy
  split at hy
  ·cases hy
  ·rename_i e
   simp only [List.mem_cons,List.not_mem_nil,or_false] at hy
   rcases hy with rfl|rfl
   ·exact h1
   ·exact h2 e
 obtain⟨a1,a2,a3,a4,a5,a6⟩:=ha
 obtain⟨o1,o2,o3,o4⟩:=ho
 have hw:(evW x).length≤10:=by
  have h1:=hp kP x.p
  have h2:=hp kFail x.fail
  have h3:=hp kRepair x.rep
  have h4:=hp kCost (rd (x.cost:Rat))
  unfold evW
  simp only [List.length_cons,List.length_append]
  omega
 refine Nat.le_trans (lineW_le (B:=36004) hw fun y hy=> ?_) (by decide)
 unfold evW at hy
 simp only [List.mem_cons,List.mem_append] at hy
 rcases hy with rfl|rfl|((hy|hy)|hy)|hy
 ·decide
 ·have:=name_le a1;omega
 ·exact hm kP _ (by decide) (fun _=>rtxt_le o2) y hy
 ·exact hm kFail _ (by decide) (fun _=>rtxt_le o3) y hy
 ·exact hm kRepair _ (by decide) (fun _=>rtxt_le o4) y hy
 ·refine hm kCost _ (by decide) (fun hs=> ?_) y hy
  have hc:x.cost≠0:=fun e=>hs ((sign_int x.cost).2 e)
  rw [rtxt_int om]
  have:=decB_len 9 x.cost.natAbs (by show _<10000000000;omega)
  omega
theorem rate_valid {r:RD} (h:rateB r=true):r.valid=true:=by
 unfold rateB at h
 simp only [Bool.and_eq_true] at h
 exact h.1
theorem prob_valid {r:RD} (h:r.prob=true):r.valid=true:=by
 unfold RD.prob at h
 simp only [Bool.and_eq_true] at h
 exact h.1.1
theorem long_0:longR rd0=false:=by unfold longR;rw [rtxt_0];rfl
theorem sign_long {r:RD} (hw:RdOk r) (hv:r.valid=true):(decide (signQ r.q≠0)&&longR r)=longR r:=by
 by_cases hs:signQ r.q=0
 ·have hq:r.q=0:=by
   unfold signQ at hs
   split at hs
   ·assumption
   ·split at hs<;>cases hs
  have h1:=rd_self hw hv
  rw [hq] at h1
  have h2:r=rd0:=by rw [←h1];decide+kernel
  rw [h2,long_0,Bool.and_false]
 ·rw [decide_eq_true hs,Bool.true_and]
theorem cost_long {c:Int} (h0:0≤c) (h1:c≤1073741824):(decide (signQ (rd (c:Rat)).q≠0)&&longR (rd (c:Rat)))=false:=by
 by_cases hc:c=0
 ·rw [decide_eq_false (fun h=>h ((sign_int c).2 hc))];rfl
 ·have:longR (rd (c:Rat))=false:=by
   unfold longR
   rw [rtxt_int om]
   have:=decB_len 9 c.natAbs (by show _<10000000000;omega)
   exact decide_eq_false om
  rw [this,Bool.and_false]
theorem any_cong {α:Type} {p q:α→Bool}:∀{l:List α},(∀x∈l,p x=q x)→l.any p=l.any q
 |[],_=>rfl
 |x::l,h=>by
  rw [List.any_cons,List.any_cons,h x List.mem_cons_self,any_cong fun y hy=>h y (List.mem_cons_of_mem _ hy)]
theorem gt_long {m:MdD} {L:List GtD} (hL:GsA m L):(L.any fun g=>decide (g.kind=7)&&longR g.dorm)=longG L:=by
 refine any_cong fun g hg=> ?_
 have s:=shp_a (hL.2 g hg).2.2.2.1
 by_cases h7:g.kind=7
 ·rw [decide_eq_true h7,Bool.true_and]
 ·rw [s.d0 h7,long_0,Bool.and_false]
theorem lo_end {m:MdD} (ho:MdO m) (hg:Good m):phLoTo (grLoTo (pgLoTo (gtLoTo (evLoTo m m.events.length) m.gates m.gates.length) m.pages m.pages.length) m.groups m.groups.length) m.phases m.phases.length=longX m:=by
 unfold phLoTo grLoTo pgLoTo gtLoTo evLoTo longX
 simp only [List.take_length]
 rw [gt_long hg.gt,any_cong (p:=fun p:PgD=>p.gates.any fun g=>decide (g.kind=7)&&longR g.dorm) (q:=fun p=>longG p.gates) fun p hp=>gt_long (hg.pg p hp).2.1]
 rw [any_cong (p:=fun x=>evLo false x 4) (q:=longE) fun x hx=> ?_]
 obtain⟨a1,a2,a3,a4,a5,a6⟩:=hg.ev x hx
 obtain⟨o1,o2,o3,o4⟩:=ho.ev.2 x hx
 have e:evLo false x 4=((decide (signQ x.p.q≠0)&&longR x.p)||((decide (signQ x.fail.q≠0)&&longR x.fail)||((decide (signQ x.rep.q≠0)&&longR x.rep)||((decide (signQ (rd (x.cost:Rat)).q≠0)&&longR (rd (x.cost:Rat)))||false)))):=rfl
 rw [e,sign_long o2 (prob_valid a2),sign_long o3 (rate_valid a3),sign_long o4 (rate_valid a4),cost_long a5 a6]
 unfold longE
 simp [Bool.or_assoc]
theorem ite_le {p:Prop} [Decidable p] {a b:BS} {n:Nat} (ha:a.length≤n) (hb:b.length≤n):(if p then a else b).length≤n:=by split<;>assumption
theorem pgtop_le {m:MdD} (hg:Good m) {x:PgD} (hx:x∈m.pages):x.top.length≤24:=by
 obtain⟨_,a2,a3⟩:=hg.pg x hx
 rcases a3 with a3|a3
 ·obtain⟨g,hgm,e⟩:=List.mem_map.1 a3
  rw [←e];exact name_le (a2.2 g hgm).1
 ·obtain⟨g,hgm,e⟩:=List.mem_map.1 a3
  rw [←e];exact name_le (hg.ev g hgm).1
theorem gtl_le {m:MdD} (hg:Good m):m.gates.length≤64∧∀p∈m.pages,p.gates.length≤64:=by
 have h:=hg.gtl
 unfold gtN at h
 refine⟨by omega,fun p hp=> ?_⟩
 have:p.gates.length≤(m.pages.map fun p=>p.gates.length).sum:=by
  clear h hg
  generalize m.pages=L at*
  induction L with
  |nil=>cases hp
  |cons a L ih=>
   rw [List.map_cons,List.sum_cons]
   rcases List.mem_cons.1 hp with rfl|hp
   ·omega
   ·have:=ih hp;omega
 omega
theorem ph_vl {m:MdD} (hg:Good m) {x:PhD} (hx:x∈m.phases):x.values.length≤24:=by
 obtain⟨_,_,a3,a4⟩:=hg.ph x hx
 have h1:(x.values.map VlD.event).length≤(evN m).length:=nodup_len a4 fun n hn=>by
  obtain⟨v,hv,rfl⟩:=List.mem_map.1 hn
  exact(a3 v hv).1
 rw [List.length_map,List.length_map] at h1
 have:=hg.evl
 omega
theorem text_le {m:MdD} (ho:MdO m) (hg:Good m):(textX m).length≤10000000000:=by
 have h0:(lineW [kModel,m.name]).length≤2*(24+1)+1:=lineW_le (B:=24) (by simp) fun x hx=>by
  simp only [List.mem_cons,List.not_mem_nil,or_false] at hx
  rcases hx with rfl|rfl
  ·decide
  ·exact name_le hg.nm
 have h1:(m.events.flatMap evX).length≤24*400001:=fl_le hg.evl fun x hx=>by
  have:=evW_le (hg.ev x hx) (ho.ev.2 x hx)
  unfold evX;simpa using this
 have h2:(m.houses.flatMap hsX).length≤16*100:=fl_le hg.hsl fun x hx=>by
  have:(lineW [kHouse,x.name,if x.on then kOn else kOff]).length≤3*(24+1)+1:=lineW_le (B:=24) (by simp) fun y hy=>by
   simp only [List.mem_cons,List.not_mem_nil,or_false] at hy
   rcases hy with rfl|rfl|rfl
   ·decide
   ·exact name_le (hg.hs x hx).1
   ·exact ite_le (by decide) (by decide)
  unfold hsX
  rw [List.length_append,List.length_singleton];omega
 obtain⟨g1,g2⟩:=gtl_le hg
 have hgt:∀(ind:BS) (L:List GtD),ind.length≤2→GsA m L→(∀g∈L,GtO g)→L.length≤64→(L.flatMap (gtX ind)).length≤64*800003:=fun ind L hi hL hLo hl=>fl_le hl fun g hgm=>by
  have:=gateX_le hg hL hLo g hgm
  unfold gtX
  rw [List.length_append,List.length_append,List.length_singleton];omega
 have h3:=hgt [] m.gates (by decide) hg.gt ho.gt.2 g1
 have h4:(m.pages.flatMap pgX).length≤8*60000000:=fl_le hg.pgl fun x hx=>by
  have a:=hgt [32,32] x.gates (by decide) (hg.pg x hx).2.1 (ho.pg.2 x hx).2.2.2 (g2 x hx)
  have b:=name_le (hg.pg x hx).1
  have c:=pgtop_le hg hx
  unfold pgX headX
  simp only [List.length_append,List.length_cons,List.length_nil]
  omega
 have h5:(m.groups.flatMap grX).length≤8*2000000:=fl_le hg.grl fun x hx=>by
  obtain⟨b1,b2,b3,b4,b5⟩:=hg.gr x hx
  have c1:x.members.length≤24∧x.factors.length≤24:=by
   obtain⟨d1,d2,d3⟩:=b3
   split at d2<;>(split at d3<;>omega)
  have hw:(grW x).length≤52:=by unfold grW;simp only [List.length_cons,List.length_append,List.length_map];omega
  have:=lineW_le (B:=36004) hw fun y hy=>by
   unfold grW at hy
   simp only [List.mem_cons,List.mem_append] at hy
   rcases hy with rfl|rfl|rfl|hy|rfl|hy
   ·decide
   ·have:=name_le b1;omega
   ·exact ite_le (by decide) (by decide)
   ·obtain⟨r,hr,rfl⟩:=List.mem_map.1 hy
    exact rtxt_le ((ho.gr.2 x hx).2.2.2.2 r hr)
   ·decide
   ·obtain⟨e,he,h⟩:=List.mem_map.1 (b4 y hy)
    have:=name_le (hg.ev e he).1
    rw [h] at this;omega
  unfold grX
  rw [List.length_append,List.length_singleton];omega
 have h6:(m.phases.flatMap phX).length≤6*2000000:=fl_le hg.phl fun x hx=>by
  obtain⟨b1,b2,b3,_⟩:=hg.ph x hx
  have c1:=ph_vl hg hx
  have a:(x.values.flatMap vlX).length≤24*72100:=fl_le c1 fun v hv=>by
   have:(lineW [v.event,rtxt v.p]).length≤2*(36004+1)+1:=lineW_le (B:=36004) (by simp) fun y hy=>by
    simp only [List.mem_cons,List.not_mem_nil,or_false] at hy
    rcases hy with rfl|rfl
    ·obtain⟨e,he,h⟩:=List.mem_map.1 (b3 v hv).1
     have:=name_le (hg.ev e he).1
     rw [h] at this;omega
    ·exact rtxt_le ((ho.ph.2 x hx).2.2.2 v hv).2
   unfold vlX
   simp only [List.length_append,List.length_cons,List.length_nil];omega
  have b:=name_le b1
  have c:=inp_le (good_in hg hg.gt b2)
  unfold phX headX
  simp only [List.length_append,List.length_cons,List.length_nil]
  have:kPhase.length=5:=rfl
  have:kTop.length=3:=rfl
  omega
 have h7:(lineW [kTop,m.top]).length≤2*(25+1)+1:=lineW_le (B:=25) (by simp) fun x hx=>by
  simp only [List.mem_cons,List.not_mem_nil,or_false] at hx
  rcases hx with rfl|rfl
  ·decide
  ·exact inp_le (good_in hg hg.gt hg.tp)
 unfold textX
 simp only [List.length_append,List.length_cons,List.length_nil]
 omega
theorem mdP_of {m:MdD} (ho:MdO m) (h:mcC m=0):MdP m:=by
 have hg:=mcC_good h
 have hgt:∀(L:List GtD),GsA m L→(∀g∈L,GtO g)→∀g∈L,-9223372036854775808≤g.kind∧g.kind<9223372036854775808∧(g.kind=2→0≤g.k∧g.k<100)∧g.dorm.wf 100000:=fun L hL hLo g hgm=>by
  have s:=shp_a (hL.2 g hgm).2.2.2.1
  have a1:=s.k0
  have a2:=s.k8
  have a3:=s.n0
  have a4:=s.n16
  exact⟨by omega,by omega,fun _=>⟨a3,by omega⟩,RD.wf.mono (hLo g hgm).2.1 (by decide)⟩
 refine⟨fun x hx=> ?_,hgt _ hg.gt ho.gt.2,fun p hp=>hgt _ (hg.pg p hp).2.1 (ho.pg.2 p hp).2.2.2,fun x hx r hr=>RD.wf.mono ((ho.gr.2 x hx).2.2.2.2 r hr) (by decide),fun x hx=> ?_,fun x hx v hv=>RD.wf.mono ((ho.ph.2 x hx).2.2.2 v hv).2 (by decide),text_le ho hg⟩
 ·obtain⟨_,_,_,_,a5,a6⟩:=hg.ev x hx
  obtain⟨_,o2,o3,o4⟩:=ho.ev.2 x hx
  exact⟨RD.wf.mono o2 (by decide),RD.wf.mono o3 (by decide),RD.wf.mono o4 (by decide),by omega,by omega⟩
 ·rcases(hg.gr x hx).2.1 with e|e
  ·exact⟨0,by omega,e⟩
  ·exact⟨1,by omega,e⟩
end Go.PN
namespace Go.PN
open Go.AI
variable {α β : Type}
def InpR (k:Int) (l l':List BS):Prop:=if freeK k then l'.Perm l else if k=8 then l'.take 1=l.take 1∧(l'.drop 1).Perm (l.drop 1) else l'=l
structure ReG (g g':GtD):Prop where
 nm:g'.name=g.name
 kd:g'.kind=g.kind
 k:g'.k=g.k
 dm:g'.dorm=g.dorm
 inp:InpR g.kind g.inputs g'.inputs
def ReL (L L':List GtD):Prop:=∃h:GtD→GtD,(∀g∈L,ReG g (h g))∧L'.Perm (L.map h)
structure ReP (x x':PgD):Prop where
 nm:x'.name=x.name
 tp:x'.top=x.top
 gt:ReL x.gates x'.gates
structure ReR (x x':GrD):Prop where
 nm:x'.name=x.name
 kd:x'.kind=x.kind
 fa:x'.factors=x.factors
 me:x'.members.Perm x.members
structure ReH (x x':PhD):Prop where
 nm:x'.name=x.name
 tp:x'.top=x.top
 vl:x'.values.Perm x.values
structure ReM (m m':MdD):Prop where
 nm:m'.name=m.name
 tp:m'.top=m.top
 ev:m'.events.Perm m.events
 hs:m'.houses.Perm m.houses
 gt:ReL m.gates m'.gates
 pg:∃h:PgD→PgD,(∀x∈m.pages,ReP x (h x))∧m'.pages.Perm (m.pages.map h)
 gr:∃h:GrD→GrD,(∀x∈m.groups,ReR x (h x))∧m'.groups.Perm (m.groups.map h)
 ph:∃h:PhD→PhD,(∀x∈m.phases,ReH x (h x))∧m'.phases=m.phases.map h
theorem inpR_perm {k:Int} {l l':List BS} (h:InpR k l l'):l'.Perm l:=by
 unfold InpR at h
 split at h
 ·exact h
 split at h
 ·rw [←List.take_append_drop 1 l',←List.take_append_drop 1 l,h.1]
  exact h.2.append_left _
 ·rw [h]
theorem normI_r (k:Int) (l:List BS):InpR k l (normI k l):=by
 unfold InpR normI
 split
 ·exact sortK_perm id l
 split
 ·cases l with
  |nil=>exact⟨rfl,.refl _⟩
  |cons a r=>exact⟨rfl,sortK_perm id r⟩
 ·rfl
theorem turnI_r (k:Int) (l:List BS):InpR k l (turnI k l):=by
 unfold InpR turnI
 split
 ·exact List.reverse_perm l
 split
 ·cases l with
  |nil=>exact⟨rfl,.refl _⟩
  |cons a r=>exact⟨rfl,List.reverse_perm r⟩
 ·rfl
theorem normI_of {k:Int} {l l':List BS} (h:InpR k l l'):normI k l'=normI k l:=by
 unfold InpR at h
 unfold normI
 split at h
 ·rename_i e;rw [if_pos e,if_pos e];exact sort_id_perm h
 rename_i e
 rw [if_neg e,if_neg e]
 split at h
 ·rename_i e2;rw [if_pos e2,if_pos e2,h.1,sort_id_perm h.2]
 ·rename_i e2;rw [if_neg e2,if_neg e2,h]
theorem normG_r (g:GtD):ReG g (normG g):=⟨rfl,rfl,rfl,rfl,normI_r _ _⟩
theorem turnG_r (g:GtD):ReG g (turnG g):=⟨rfl,rfl,rfl,rfl,turnI_r _ _⟩
theorem normL_r (l:List GtD):ReL l (normL l):=⟨normG,fun g _=>normG_r g,sortK_perm _ _⟩
theorem turnL_r (l:List GtD):ReL l (turnL l):=⟨turnG,fun g _=>turnG_r g,List.reverse_perm _⟩
theorem normM_r (m:MdD):ReM m (normM m):=
 ⟨rfl,rfl,sortK_perm _ _,sortK_perm _ _,normL_r _,⟨normP,fun x _=>⟨rfl,rfl,normL_r _⟩,sortK_perm _ _⟩,⟨normR,fun x _=>⟨rfl,rfl,rfl,sortK_perm _ _⟩,sortK_perm _ _⟩,⟨normH,fun x _=>⟨rfl,rfl,sortK_perm _ _⟩,rfl⟩⟩
theorem turnM_r (m:MdD):ReM m (turnM m):=
 ⟨rfl,rfl,List.reverse_perm _,List.reverse_perm _,turnL_r _,⟨turnP,fun x _=>⟨rfl,rfl,turnL_r _⟩,List.reverse_perm _⟩,⟨turnR,fun x _=>⟨rfl,rfl,rfl,List.reverse_perm _⟩,List.reverse_perm _⟩,⟨turnH,fun x _=>⟨rfl,rfl,List.reverse_perm _⟩,rfl⟩⟩
theorem gtD_ext {a b:GtD} (h1:a.name=b.name) (h2:a.kind=b.kind) (h3:a.k=b.k) (h4:a.inputs=b.inputs) (h5:a.dorm=b.dorm):a=b:=by
 cases a;cases b;simp_all
theorem normG_of {g g':GtD} (h:ReG g g'):normG g'=normG g:=gtD_ext h.nm h.kd h.k (by show normI g'.kind g'.inputs=normI g.kind g.inputs;rw [h.kd];exact normI_of h.inp) h.dm
theorem map_perm_of {f:α→β} {h:α→α} {L L':List α} (hh:∀g∈L,f (h g)=f g) (hp:L'.Perm (L.map h)):(L'.map f).Perm (L.map f):=by
 have e:(L.map h).map f=L.map f:=by
  rw [List.map_map]
  exact List.map_congr_left hh
 rw [←e]
 exact hp.map f
theorem gnN_perm {L L':List GtD} (h:ReL L L'):(gnN L').Perm (gnN L):=by
 obtain⟨h,h1,h2⟩:=h
 exact map_perm_of (fun g hg=>(h1 g hg).nm) h2
theorem normL_of {L L':List GtD} (h:ReL L L') (hn:(gnN L).Nodup):normL L'=normL L:=by
 obtain⟨h,h1,h2⟩:=h
 refine sort_of_perm (map_perm_of (fun g hg=>normG_of (h1 g hg)) h2) ?_
 rw [List.map_map]
 exact hn
theorem normP_of {x x':PgD} (h:ReP x x') (hn:(gnN x.gates).Nodup):normP x'=normP x:=by
 unfold normP
 rw [h.nm,h.tp,normL_of h.gt hn]
theorem normR_of {x x':GrD} (h:ReR x x'):normR x'=normR x:=by
 unfold normR
 rw [h.nm,h.kd,h.fa,sort_id_perm h.me]
theorem normH_of {x x':PhD} (h:ReH x x') (hn:(x.values.map VlD.event).Nodup):normH x'=normH x:=by
 unfold normH
 rw [h.nm,h.tp,sort_of_perm h.vl hn]
theorem normM_of {m m':MdD} (h:ReM m m') (hg:Good m):normM m'=normM m:=by
 obtain⟨hp,p1,p2⟩:=h.pg
 obtain⟨hr,r1,r2⟩:=h.gr
 obtain⟨hh,q1,q2⟩:=h.ph
 have e1:sortK EvD.name m'.events=sortK EvD.name m.events:=sort_of_perm h.ev hg.evn
 have e2:sortK HsD.name m'.houses=sortK HsD.name m.houses:=sort_of_perm h.hs hg.hsn
 have e3:=normL_of h.gt hg.gt.1
 have e4:sortK PgD.name (m'.pages.map normP)=sortK PgD.name (m.pages.map normP):=by
  refine sort_of_perm (map_perm_of (fun x hx=>normP_of (p1 x hx) (hg.pg x hx).2.1.1) p2) ?_
  rw [List.map_map]
  exact hg.pgn
 have e5:sortK GrD.name (m'.groups.map normR)=sortK GrD.name (m.groups.map normR):=by
  refine sort_of_perm (map_perm_of (fun x hx=>normR_of (r1 x hx)) r2) ?_
  rw [List.map_map]
  exact hg.grn
 have e6:m'.phases.map normH=m.phases.map normH:=by
  rw [q2,List.map_map]
  exact List.map_congr_left fun x hx=>normH_of (q1 x hx) (hg.ph x hx).2.2.2
 unfold normM
 rw [h.nm,h.tp,e1,e2,e3,e4,e5,e6]
theorem inN_of {m m':MdD} {L L':List GtD} (h1:∀n,n∈evN m↔n∈evN m') (h2:∀n,n∈hsN m↔n∈hsN m') (h3:∀n,n∈pgN m↔n∈pgN m') (h4:∀n,n∈gnN L↔n∈gnN L') (i:BS):InN m L i↔InN m' L' i:=by
 unfold InN
 rw [h1,h2,h3,h4]
theorem shp_of {g g':GtD} (h:ReG g g'):shpC g'=shpC g:=by
 unfold shpC
 rw [h.kd,h.k,h.dm,(inpR_perm h.inp).length_eq]
theorem sp_of {g g':GtD} (h:ReG g g'):spOf g'=spOf g:=by
 unfold spOf
 rw [h.kd]
 by_cases e:g.kind=7
 ·rw [if_pos e,if_pos e]
  have:=h.inp
  unfold InpR freeK at this
  rw [e,if_neg (by decide),if_neg (by decide)] at this
  exact this
 ·rw [if_neg e,if_neg e]
theorem gtA_of {m m':MdD} {L L':List GtD} (h1:∀n,n∈evN m↔n∈evN m') (h2:∀n,n∈hsN m↔n∈hsN m') (h3:∀i,InN m L i↔InN m' L' i) {g g':GtD} (h:ReG g g') (ha:GtA m L g):GtA m' L' g':=by
 obtain⟨a1,a2,a3,a4,a5,a6,a7⟩:=ha
 have hp:=inpR_perm h.inp
 refine⟨by rw [h.nm];exact a1,by rw [h.nm,←h1];exact a2,by rw [h.nm,←h2];exact a3,by rw [shp_of h];exact a4,fun i hi=>(h3 i).1 (a5 i (hp.mem_iff.1 hi)),fun e i hi=>(h1 i).1 (a6 (by rw [←h.kd];exact e) i (hp.mem_iff.1 hi)),fun e i hi=>(h1 i).1 (a7 (by rw [←h.kd];exact e) i ?_)⟩
 have:=h.inp
 unfold InpR freeK at this
 rw [h.kd] at e
 rw [e,if_neg (by decide),if_pos rfl] at this
 exact this.2.mem_iff.1 hi
theorem gsA_of {m m':MdD} {L L':List GtD} (h1:∀n,n∈evN m↔n∈evN m') (h2:∀n,n∈hsN m↔n∈hsN m') (h3:∀n,n∈pgN m↔n∈pgN m') (h:ReL L L') (ha:GsA m L):GsA m' L':=by
 have hn:=gnN_perm h
 have hi:=inN_of h1 h2 h3 (fun n=>hn.mem_iff.symm)
 obtain⟨f,f1,f2⟩:=h
 refine⟨hn.nodup_iff.2 ha.1,fun g' hg'=> ?_⟩
 obtain⟨g,hg,rfl⟩:=List.mem_map.1 (f2.mem_iff.1 hg')
 exact gtA_of h1 h2 hi (f1 g hg) (ha.2 g hg)
theorem flat_perm {f:α→List β} {h:α→α} {L L':List α} (hh:∀g∈L,(f (h g)).Perm (f g)) (hp:L'.Perm (L.map h)):(L'.flatMap f).Perm (L.flatMap f):=by
 refine(hp.flatMap_right f).trans ?_
 rw [List.flatMap_map]
 clear hp
 induction L with
 |nil=>exact .refl _
 |cons x L ih=>
  rw [List.flatMap_cons,List.flatMap_cons]
  exact(hh x List.mem_cons_self).append (ih fun g hg=>hh g (List.mem_cons_of_mem _ hg))
theorem gtN_len (m:MdD):gtN m=m.gates.length+(m.pages.flatMap fun p=>p.gates.map fun _=>()).length:=by
 unfold gtN
 rw [List.length_flatMap]
 congr 2
 simp
theorem reL_len {L L':List GtD} (h:ReL L L'):L'.length=L.length:=by
 obtain⟨f,_,f2⟩:=h
 rw [f2.length_eq,List.length_map]
theorem good_of {m m':MdD} (h:ReM m m') (g:Good m):Good m':=by
 obtain⟨hp,p1,p2⟩:=h.pg
 obtain⟨hr,r1,r2⟩:=h.gr
 obtain⟨hh,q1,q2⟩:=h.ph
 have n1:(evN m').Perm (evN m):=h.ev.map _
 have n2:(hsN m').Perm (hsN m):=h.hs.map _
 have n3:(pgN m').Perm (pgN m):=map_perm_of (fun x hx=>(p1 x hx).nm) p2
 have m1:∀n,n∈evN m↔n∈evN m':=fun n=>n1.mem_iff.symm
 have m2:∀n,n∈hsN m↔n∈hsN m':=fun n=>n2.mem_iff.symm
 have m3:∀n,n∈pgN m↔n∈pgN m':=fun n=>n3.mem_iff.symm
 have m4:∀i,InN m m.gates i↔InN m' m'.gates i:=inN_of m1 m2 m3 fun n=>(gnN_perm h.gt).mem_iff.symm
 have lp:m'.pages.length=m.pages.length:=by rw [p2.length_eq,List.length_map]
 refine⟨by rw [h.nm];exact g.nm,by rw [h.ev.length_eq];exact g.evl,fun x hx=>g.ev x (h.ev.mem_iff.1 hx),n1.nodup_iff.2 g.evn,by rw [h.hs.length_eq];exact g.hsl,fun x hx=>⟨(g.hs x (h.hs.mem_iff.1 hx)).1,fun z=>(g.hs x (h.hs.mem_iff.1 hx)).2 ((m1 _).2 z)⟩,n2.nodup_iff.2 g.hsn,by rw [lp];exact g.pgl,?_,fun x' hx'=> ?_,n3.nodup_iff.2 g.pgn,gsA_of m1 m2 m3 h.gt g.gt,?_,by rw [h.tp];exact(m4 _).1 g.tp,by rw [r2.length_eq,List.length_map];exact g.grl,fun x' hx'=> ?_,(map_perm_of (f:=GrD.name) (fun x hx=>(r1 x hx).nm) r2).nodup_iff.2 g.grn,(flat_perm (f:=GrD.members) (fun x hx=>(r1 x hx).me) r2).nodup_iff.2 g.grm,by rw [q2,List.length_map];exact g.phl,fun x' hx'=> ?_,?_⟩
 ·have e:=g.gtl
  rw [gtN_len] at e⊢
  rw [reL_len h.gt,(flat_perm (f:=fun p:PgD=>p.gates.map fun _=>()) (fun x hx=>by
   have l1:=reL_len (p1 x hx).gt
   have:∀(a b:List GtD),a.length=b.length→(a.map fun _=>())=b.map fun _=>():=fun a b hab=>List.ext_getElem (by simpa using hab) fun i _ _=>rfl
   rw [this _ _ l1]) p2).length_eq]
  exact e
 ·obtain⟨x,hx,rfl⟩:=List.mem_map.1 (p2.mem_iff.1 hx')
  obtain⟨a1,a2,a3⟩:=g.pg x hx
  have hx2:=p1 x hx
  refine⟨by rw [hx2.nm];exact a1,gsA_of m1 m2 m3 hx2.gt a2,?_⟩
  rw [hx2.tp]
  exact a3.imp (fun z=>(gnN_perm hx2.gt).mem_iff.2 z) fun z=>(m1 _).1 z
 ·have s1:(m'.gates.flatMap spOf).Perm (m.gates.flatMap spOf):=by
   obtain⟨f,f1,f2⟩:=h.gt
   exact flat_perm (fun x hx=>by rw [sp_of (f1 x hx)]) f2
  have s2:(m'.pages.flatMap fun p=>p.gates.flatMap spOf).Perm (m.pages.flatMap fun p=>p.gates.flatMap spOf):=flat_perm (f:=fun p:PgD=>p.gates.flatMap spOf) (fun x hx=>by
   obtain⟨f,f1,f2⟩:=(p1 x hx).gt
   exact flat_perm (fun x hx=>by rw [sp_of (f1 x hx)]) f2) p2
  have e:=g.sp
  rw [List.flatMap_append,List.flatMap_assoc] at e⊢
  exact(s1.append s2).nodup_iff.2 e
 ·obtain⟨x,hx,rfl⟩:=List.mem_map.1 (r2.mem_iff.1 hx')
  obtain⟨a1,a2,a3,a4,a5⟩:=g.gr x hx
  have hx2:=r1 x hx
  refine⟨by rw [hx2.nm];exact a1,by rw [hx2.kd];exact a2,?_,fun n hn=>(m1 n).1 (a4 n (hx2.me.mem_iff.1 hn)),by rw [hx2.fa];exact a5⟩
  rw [hx2.kd,hx2.fa,hx2.me.length_eq]
  exact a3
 ·rw [q2] at hx'
  obtain⟨x,hx,rfl⟩:=List.mem_map.1 hx'
  obtain⟨a1,a2,a3,a4⟩:=g.ph x hx
  have hx2:=q1 x hx
  refine⟨by rw [hx2.nm];exact a1,by rw [hx2.tp];exact(m4 _).1 a2,fun v hv=> ?_,(hx2.vl.map _).nodup_iff.2 a4⟩
  obtain⟨b1,b2⟩:=a3 v (hx2.vl.mem_iff.1 hv)
  exact⟨(m1 _).1 b1,b2⟩
 ·rw [q2,List.map_map]
  have:m.phases.map (PhD.name∘hh)=m.phases.map PhD.name:=List.map_congr_left fun x hx=>(q1 x hx).nm
  rw [this]
  exact g.phn
end Go.PN
namespace Go.PN
open Go.AI
theorem cyc_S {α:Type} [DecidableEq α] {leaf:α→Bool} {succ:α→List α} {nodes:List α} (hnl:∀t∈nodes,leaf t=false) (hcl:∀t∈nodes,∀x∈succ t,leaf x=true∨x∈nodes):(goD (walkD leaf succ (nodes.length+1)) nodes []).1=true↔CycS nodes succ:=by
 obtain⟨h1,h2⟩:=go_ok (f:=walkD leaf succ (nodes.length+1)) (k:=0) (stk:=[]) (nodes:=nodes) (leaf:=leaf) (succ:=succ) (fun st fin x hi _ hx hs=>walk_ok hnl hcl _ st [] fin x hi om hx hs) nodes [] [] dinv_nil (Nat.zero_le _) (fun x hx=>.inr hx) (fun x _ h e=>by simp at e)
 generalize goD (walkD leaf succ (nodes.length+1)) nodes []=r at*
 refine⟨h1,fun⟨S,hS,hc⟩=> ?_⟩
 cases hr:r.1 with
 |true=>rfl
 |false=>
  exfalso
  obtain⟨fin,hi,_,_,hf⟩:=h2 hr
  have hfn:∀x∈nodes,x∈fin:=fun x hx=>(hf x hx).resolve_left (by rw [hnl x hx];simp)
  have key:∀n,∀x∈S,fin.idxOf x<n→False:=fun n=>by
   induction n with
   |zero=>intro x _ h;omega
   |succ n ih=>
    intro x hx hn
    obtain⟨hxn,y,hy,hys⟩:=hc x hx
    obtain⟨l1,l2,hs⟩:=List.append_of_mem (hfn x hxn)
    have hn1:x∉l1:=fun hm=>by
     have:=hi.fd
     rw [hs] at this
     exact(List.nodup_append.1 this).2.2 _ hm _ List.mem_cons_self rfl
    have:=idx_lt hs hn1 y ((hi.ord l1 _ l2 hs y hys).resolve_left (by rw [hnl y (hc y hy).1];simp))
    exact ih y hy om
  obtain⟨x,hx⟩:=List.exists_mem_of_ne_nil S hS
  exact key _ x hx (Nat.lt_succ_self _)
theorem cycB_S {m:MdD} (h:MdC m):cycB m=true↔CycS (nodesT m) (sucT m):=cyc_S leaf_nodes (suc_nodes (ins_ok h))
abbrev NdN:=Option BS×BS
def IsG (m:MdD) (x:NdN) (g:GtD):Prop:=(x.1=none∧g∈m.gates∨∃q∈m.pages,x.1=some q.name∧g∈q.gates)∧g.name=x.2
def ResN (m:MdD) (P:Option BS) (i:BS) (y:NdN):Prop:=(bAt i 0=64∧∃q∈m.pages,q.name=i.drop 1∧q.top∉evN m∧q.top∉hsN m∧y=(some q.name,q.top))∨(bAt i 0≠64∧i∉evN m∧i∉hsN m∧y=(P,i))
def CycN (m:MdD):Prop:=∃S:List NdN,S≠[]∧∀x∈S,∃g,IsG m x g∧∃y∈S,∃i∈g.inputs,ResN m x.1 i y
theorem cycN_back {m m':MdD} (h:ReM m m') (hc:CycN m'):CycN m:=by
 obtain⟨S,hS,hc⟩:=hc
 obtain⟨hp,p1,p2⟩:=h.pg
 obtain⟨hg,g1,g2⟩:=h.gt
 have m1:∀n,n∈evN m'↔n∈evN m:=fun n=>(h.ev.map EvD.name).mem_iff
 have m2:∀n,n∈hsN m'↔n∈hsN m:=fun n=>(h.hs.map HsD.name).mem_iff
 refine⟨S,hS,fun x hx=> ?_⟩
 obtain⟨g',⟨ha,hb⟩,y,hy,i,hi,hr⟩:=hc x hx
 have hG:∃g,IsG m x g∧i∈g.inputs:=by
  rcases ha with ⟨e,hm⟩|⟨q',hq,e,hm⟩
  ·obtain⟨g,hgm,rfl⟩:=List.mem_map.1 (g2.mem_iff.1 hm)
   exact⟨g,⟨.inl ⟨e,hgm⟩,by rw [←hb];exact(g1 g hgm).nm.symm⟩,(inpR_perm (g1 g hgm).inp).mem_iff.1 hi⟩
  ·obtain⟨q,hqm,rfl⟩:=List.mem_map.1 (p2.mem_iff.1 hq)
   obtain⟨hf,f1,f2⟩:=(p1 q hqm).gt
   obtain⟨g,hgm,rfl⟩:=List.mem_map.1 (f2.mem_iff.1 hm)
   exact⟨g,⟨.inr ⟨q,hqm,by rw [e,(p1 q hqm).nm],hgm⟩,by rw [←hb];exact(f1 g hgm).nm.symm⟩,(inpR_perm (f1 g hgm).inp).mem_iff.1 hi⟩
 obtain⟨g,hG,hi⟩:=hG
 refine⟨g,hG,y,hy,i,hi,?_⟩
 rcases hr with ⟨r1,q',hq,r2,r3,r4,r5⟩|⟨r1,r2,r3,r4⟩
 ·obtain⟨q,hqm,rfl⟩:=List.mem_map.1 (p2.mem_iff.1 hq)
  rw [(p1 q hqm).nm,(p1 q hqm).tp] at*
  exact .inl ⟨r1,q,hqm,r2,fun z=>r3 ((m1 _).2 z),fun z=>r4 ((m2 _).2 z),r5⟩
 ·exact .inr ⟨r1,fun z=>r2 ((m1 _).2 z),fun z=>r3 ((m2 _).2 z),r4⟩
def pgO (m:MdD):Nat→Option BS
 |0=>none
 |k+1=>some (m.pages.getD k pg0).name
def ndN (m:MdD) (t:Th):NdN:=(pgO m (t.2.1+1).toNat,(gtOf m t).name)
theorem getD_mem {α:Type} {l:List α} {d:α} {i:Nat} (h:i<l.length):l.getD i d∈l:=by
 rw [List.getD_eq_getElem?_getD,List.getElem?_eq_getElem h];exact List.getElem_mem h
theorem isG_nd {m:MdD} {k i:Nat} (hk:k≤m.pages.length) (hi:i<(gtsK m k).length):IsG m (ndN m (2,(k:Int)-1,(i:Int))) ((gtsK m k).getD i gt0):=by
 have e1:((k:Int)-1+1).toNat=k:=by omega
 have e2:gtOf m (2,(k:Int)-1,(i:Int))=(gtsK m k).getD i gt0:=by
  unfold gtOf
  dsimp only
  rw [e1,Int.toNat_natCast]
 unfold ndN
 rw [e2]
 dsimp only
 rw [e1]
 refine⟨?_,rfl⟩
 cases k with
 |zero=>exact .inl ⟨rfl,getD_mem hi⟩
 |succ q=>exact .inr ⟨m.pages.getD q pg0,getD_mem om,rfl,getD_mem hi⟩
theorem cycS_N {m:MdD} (hc:MdC m) (h:CycS (nodesT m) (sucT m)):CycN m:=by
 obtain⟨S,hS,hs⟩:=h
 refine⟨S.map (ndN m),by simpa using hS,fun x hx=> ?_⟩
 obtain⟨t,ht,rfl⟩:=List.mem_map.1 hx
 obtain⟨htn,y,hy,hys⟩:=hs t ht
 obtain⟨k,i,hk,hi,rfl⟩:=mem_nodesT.1 htn
 obtain⟨k',i',hk',hi',rfl⟩:=mem_nodesT.1 (hs y hy).1
 have e:sucT m (2,(k:Int)-1,(i:Int))=((gtsK m k).getD i gt0).inputs.map (resP m k):=by
  unfold sucT gtOf
  dsimp only
  rw [show((k:Int)-1+1).toNat=k from by omega,Int.toNat_natCast]
 rw [e] at hys
 obtain⟨n,hn,hr⟩:=List.mem_map.1 hys
 have hio:=ins_ok hc k hk i hi n hn
 refine⟨_,isG_nd hk hi,_,List.mem_map.2 ⟨_,hy,rfl⟩,n,hn,?_⟩
 unfold resP resA at hr
 have hE:¬evI m (resN m n)≥0:=fun z=>by rw [if_pos z] at hr;have:=congrArg Prod.fst hr;exact absurd this (by dsimp only;decide)
 rw [if_neg hE] at hr
 have hH:¬hsI m (resN m n)≥0:=fun z=>by rw [if_pos z] at hr;have:=congrArg Prod.fst hr;exact absurd this (by dsimp only;decide)
 rw [if_neg hH] at hr
 simp only [Prod.mk.injEq,true_and] at hr
 have hkk:resK m k n=k':=by omega
 rw [hkk] at hr
 have hgi:gtI (gtsK m k') (resN m n)=i':=hr.2
 obtain⟨j,hj,hj1,hj2⟩:=fidx_here (p:=fun x:GtD=>x.name==resN m n) (l:=gtsK m k') (by unfold gtI at hgi;omega)
 have hji:j=i':=by unfold gtI at hgi;omega
 subst hji
 have hnm:((gtsK m k').getD j gt0).name=resN m n:=by
  rw [List.getD_eq_getElem?_getD,List.getElem?_eq_getElem hj]
  simpa using hj2
 have hE2:resN m n∉evN m:=(evI_mem m _).1 om
 have hH2:resN m n∉hsN m:=(hsI_mem m _).1 om
 have ex:(ndN m (2,(k:Int)-1,(i:Int))).1=pgO m k:=by
  unfold ndN;dsimp only;rw [show((k:Int)-1+1).toNat=k from by omega]
 have ey:ndN m (2,(k':Int)-1,(j:Int))=(pgO m k',resN m n):=by
  unfold ndN gtOf;dsimp only;rw [show((k':Int)-1+1).toNat=k' from by omega,Int.toNat_natCast,hnm]
 rw [ex,ey]
 by_cases h64:bAt n 0=64
 ·left
  have hp:=hio.2.1 h64
  obtain⟨q,hq,hq1,hq2⟩:=fidx_here (p:=fun x:PgD=>x.name==n.drop 1) (l:=m.pages) hp
  have hq1:pgI m (n.drop 1)=q:=hq1
  unfold resN at hE2 hH2⊢
  unfold resK at hkk
  rw [if_pos h64] at hE2 hH2 hkk⊢
  rw [hq1] at hE2 hH2 hkk⊢
  rw [Int.toNat_natCast] at hE2 hH2⊢
  have hkq:k'=q+1:=by omega
  subst hkq
  have eq:m.pages.getD q pg0=m.pages[q]:=by rw [List.getD_eq_getElem?_getD,List.getElem?_eq_getElem hq];rfl
  have hpo:pgO m (q+1)=some m.pages[q].name:=by show some (m.pages.getD q pg0).name=_;rw [eq]
  rw [eq] at hE2 hH2⊢
  exact⟨h64,m.pages[q],List.getElem_mem hq,by simpa using hq2,hE2,hH2,by rw [hpo]⟩
 ·right
  unfold resN at hE2 hH2⊢
  unfold resK at hkk
  rw [if_neg h64] at hE2 hH2 hkk⊢
  subst hkk
  exact⟨h64,hE2,hH2,rfl⟩
def pgX' (m:MdD):Option BS→Nat
 |none=>0
 |some p=>(pgI m p+1).toNat
def idN (m:MdD) (x:NdN):Th:=(2,(pgX' m x.1:Int)-1,gtI (gtsK m (pgX' m x.1)) x.2)
theorem page_of {m:MdD} (hg:Good m) {q:PgD} (hq:q∈m.pages):∃j,∃h:j<m.pages.length,pgI m q.name=(j:Int)∧m.pages[j]=q:=by
 have h0:0≤pgI m q.name:=(fidx_name PgD.name m.pages q.name).2 (List.mem_map.2 ⟨q,hq,rfl⟩)
 obtain⟨j,hj,h1,h2⟩:=fidx_here h0
 exact⟨j,hj,h1,nd_inj hg.pgn _ (List.getElem_mem hj) q hq (by simpa using h2)⟩
theorem gate_of {L:List GtD} (hn:(gnN L).Nodup) {g:GtD} (hg:g∈L):∃j,∃h:j<L.length,gtI L g.name=(j:Int)∧L[j]=g:=by
 have h0:0≤gtI L g.name:=(fidx_name GtD.name L g.name).2 (List.mem_map.2 ⟨g,hg,rfl⟩)
 obtain⟨j,hj,h1,h2⟩:=fidx_here h0
 exact⟨j,hj,h1,nd_inj hn _ (List.getElem_mem hj) g hg (by simpa using h2)⟩
theorem isG_id {m:MdD} (hg:Good m) {x:NdN} {g:GtD} (h:IsG m x g):∃k i,k≤m.pages.length∧i<(gtsK m k).length∧pgX' m x.1=k∧idN m x=(2,(k:Int)-1,(i:Int))∧(gtsK m k).getD i gt0=g:=by
 obtain⟨P,n⟩:=x
 obtain⟨ha,rfl⟩:=h
 rcases ha with ⟨rfl,hm⟩|⟨q,hq,rfl,hm⟩
 ·obtain⟨j,hj,h1,h2⟩:=gate_of hg.gt.1 hm
  refine⟨0,j,Nat.zero_le _,hj,rfl,?_,by show m.gates.getD j gt0=g;rw [List.getD_eq_getElem?_getD,List.getElem?_eq_getElem hj];exact h2⟩
  show((2:Int),((0:Nat):Int)-1,gtI m.gates g.name)=_
  rw [h1]
 ·obtain⟨p,hp,h3,h4⟩:=page_of hg hq
  have hk:pgX' m (some q.name)=p+1:=by show(pgI m q.name+1).toNat=p+1;omega
  have eK:gtsK m (p+1)=q.gates:=by
   show(m.pages.getD p pg0).gates=_
   rw [List.getD_eq_getElem?_getD,List.getElem?_eq_getElem hp,←h4];rfl
  obtain⟨j,hj,h1,h2⟩:=gate_of (hg.pg q hq).2.1.1 hm
  refine⟨p+1,j,by omega,by rw [eK];exact hj,hk,?_,by rw [eK,List.getD_eq_getElem?_getD,List.getElem?_eq_getElem hj];exact h2⟩
  show((2:Int),((pgX' m (some q.name):Nat):Int)-1,gtI (gtsK m (pgX' m (some q.name))) g.name)=_
  rw [hk,eK,h1]
theorem cycN_S {m:MdD} (hg:Good m) (h:CycN m):CycS (nodesT m) (sucT m):=by
 obtain⟨S,hS,hs⟩:=h
 refine⟨S.map (idN m),by simpa using hS,fun t ht=> ?_⟩
 obtain⟨x,hx,rfl⟩:=List.mem_map.1 ht
 obtain⟨g,hG,y,hy,n,hn,hr⟩:=hs x hx
 obtain⟨k,i,hk,hi,hkx,hid,hgt⟩:=isG_id hg hG
 have e:sucT m (2,(k:Int)-1,(i:Int))=((gtsK m k).getD i gt0).inputs.map (resP m k):=by
  unfold sucT gtOf
  dsimp only
  rw [show((k:Int)-1+1).toNat=k from by omega,Int.toNat_natCast]
 refine⟨by rw [hid];exact mem_nodesT.2 ⟨k,i,hk,hi,rfl⟩,_,List.mem_map.2 ⟨y,hy,rfl⟩,?_⟩
 rw [hid,e,hgt]
 refine List.mem_map.2 ⟨n,hn,?_⟩
 unfold resP resA
 rcases hr with ⟨r1,q,hq,r2,r3,r4,rfl⟩|⟨r1,r2,r3,rfl⟩
 ·obtain⟨p,hp,h3,h4⟩:=page_of hg hq
  have hk2:pgX' m (some q.name)=p+1:=by show(pgI m q.name+1).toNat=p+1;omega
  have eN:resN m n=q.top:=by
   unfold resN
   rw [if_pos r1,←r2,h3,Int.toNat_natCast,List.getD_eq_getElem?_getD,List.getElem?_eq_getElem hp,←h4];rfl
  have eK:resK m k n=p+1:=by
   unfold resK
   rw [if_pos r1,←r2,h3];omega
  rw [eN,eK,if_neg (by have:=(evI_mem m q.top).2 r3;omega),if_neg (by have:=(hsI_mem m q.top).2 r4;omega)]
  show _=((2:Int),((pgX' m (some q.name):Nat):Int)-1,gtI (gtsK m (pgX' m (some q.name))) q.top)
  rw [hk2]
 ·have eN:resN m n=n:=by unfold resN;rw [if_neg r1]
  have eK:resK m k n=k:=by unfold resK;rw [if_neg r1]
  rw [eN,eK,if_neg (by have:=(evI_mem m n).2 r2;omega),if_neg (by have:=(hsI_mem m n).2 r3;omega)]
  show _=((2:Int),((pgX' m x.1:Nat):Int)-1,gtI (gtsK m (pgX' m x.1)) n)
  rw [hkx]
theorem mcC_of {m m':MdD} (h:ReM m m') (h0:mcC m=0):mcC m'=0:=by
 obtain⟨a,b⟩:=orC_0.1 (show orC (mcode0 m) (if cycB m then 14 else 0)=0 from h0)
 have hg:=(good_iff m).1 a
 have a':=(good_iff m').2 (good_of h hg)
 refine orC_0.2 ⟨a',?_⟩
 by_cases hc:cycB m'=true
 ·exfalso
  have h1:=(cycB_S (mcode0_ok a')).1 hc
  have h2:=cycN_S hg (cycN_back h (cycS_N (mcode0_ok a') h1))
  rw [(cycB_S (mcode0_ok a)).2 h2] at b
  cases b
 ·rw [if_neg hc]
end Go.PN
namespace Go.PN
open Go.AI
variable {α : Type}
theorem gtO_re {g g':GtD} (h:ReG g g') (ho:GtO g):GtO g':=by
 obtain⟨o1,o2,o3,o4⟩:=ho
 have hp:=inpR_perm h.inp
 exact⟨by rw [h.nm];exact o1,by rw [h.dm];exact o2,by rw [hp.length_eq];exact o3,fun i hi=>o4 i (hp.mem_iff.1 hi)⟩
theorem gsO_re {L L':List GtD} (h:ReL L L') (ho:L.length≤NG∧∀g∈L,GtO g):L'.length≤NG∧∀g∈L',GtO g:=by
 refine⟨by rw [reL_len h];exact ho.1,fun g hg=> ?_⟩
 obtain⟨f,f1,f2⟩:=h
 obtain⟨x,hx,rfl⟩:=List.mem_map.1 (f2.mem_iff.1 hg)
 exact gtO_re (f1 x hx) (ho.2 x hx)
theorem mdO_re {m m':MdD} (h:ReM m m') (ho:MdO m):MdO m':=by
 obtain⟨hp,p1,p2⟩:=h.pg
 obtain⟨hr,r1,r2⟩:=h.gr
 obtain⟨hh,q1,q2⟩:=h.ph
 refine⟨by rw [h.nm];exact ho.nm,by rw [h.tp];exact ho.tp,⟨by rw [h.ev.length_eq];exact ho.ev.1,fun x hx=>ho.ev.2 x (h.ev.mem_iff.1 hx)⟩,⟨by rw [h.hs.length_eq];exact ho.hs.1,fun x hx=>ho.hs.2 x (h.hs.mem_iff.1 hx)⟩,gsO_re h.gt ho.gt,⟨by rw [p2.length_eq,List.length_map];exact ho.pg.1,fun x' hx'=> ?_⟩,⟨by rw [r2.length_eq,List.length_map];exact ho.gr.1,fun x' hx'=> ?_⟩,⟨by rw [q2,List.length_map];exact ho.ph.1,fun x' hx'=> ?_⟩⟩
 ·obtain⟨x,hx,rfl⟩:=List.mem_map.1 (p2.mem_iff.1 hx')
  obtain⟨a1,a2,a3⟩:=ho.pg.2 x hx
  have e:=p1 x hx
  exact⟨by rw [e.nm];exact a1,by rw [e.tp];exact a2,gsO_re e.gt a3⟩
 ·obtain⟨x,hx,rfl⟩:=List.mem_map.1 (r2.mem_iff.1 hx')
  obtain⟨a1,a2,a3,a4,a5⟩:=ho.gr.2 x hx
  have e:=r1 x hx
  exact⟨by rw [e.nm];exact a1,by rw [e.me.length_eq];exact a2,fun n hn=>a3 n (e.me.mem_iff.1 hn),by rw [e.fa];exact a4,by rw [e.fa];exact a5⟩
 ·rw [q2] at hx'
  obtain⟨x,hx,rfl⟩:=List.mem_map.1 hx'
  obtain⟨a1,a2,a3,a4⟩:=ho.ph.2 x hx
  have e:=q1 x hx
  exact⟨by rw [e.nm];exact a1,by rw [e.tp];exact a2,by rw [e.vl.length_eq];exact a3,fun v hv=>a4 v (e.vl.mem_iff.1 hv)⟩
theorem norm_turn {m:MdD} (hg:Good m):normM (turnM m)=normM m:=normM_of (turnM_r m) hg
structure NrmS (m:MdD):Prop where
 ev:∀i,i+1<m.events.length→ltB (m.events.getD i ev0).name (m.events.getD (i+1) ev0).name=true
 hs:∀i,i+1<m.houses.length→ltB (m.houses.getD i hs0).name (m.houses.getD (i+1) hs0).name=true
 gr:∀i,i+1<m.groups.length→ltB (m.groups.getD i gr0).name (m.groups.getD (i+1) gr0).name=true
 pg:∀i,i+1<m.pages.length→ltB (m.pages.getD i pg0).name (m.pages.getD (i+1) pg0).name=true
 gt:∀k i,i+1<(gtsK m k).length→ltB ((gtsK m k).getD i gt0).name ((gtsK m k).getD (i+1) gt0).name=true
 inp:∀k,∀g∈gtsK m k,g.kind=0∨g.kind=1→∀i,i+1<g.inputs.length→ltB (g.inputs.getD (i+1) []) (g.inputs.getD i [])=false
end Go.PN
namespace Go.PN
open Go.AI
theorem shp_inp {x:GtD} (h:shpC x=0):1≤x.inputs.length∧(x.kind=8→2≤x.inputs.length):=by
 unfold shpC at h
 rw [ite0 (by decide),ite0 (by decide)] at h
 obtain⟨h1,h2,_⟩:=h
 unfold inpB at h2
 simp only [Bool.not_eq_false] at h2
 split at h2
 ·have:=beq_iff_eq.1 h2;omega
 ·split at h2
  ·have:=beq_iff_eq.1 h2;omega
  ·split at h2
   ·simp only [Bool.and_eq_true,decide_eq_true_eq] at h2;omega
   ·simp only [Bool.and_eq_true,decide_eq_true_eq] at h2;omega
theorem gtN_of {m:MdD} {L:List GtD} (hL:GsA m L) (ho:∀g∈L,GtO g):∀g∈L,GtN g:=fun g hg=>by
 have h:=(hL.2 g hg).2.2.2.1
 exact⟨(ho g hg).2.1,(shp_inp h).1,(shp_a h).inp,(shp_inp h).2⟩
theorem mdN_of {m:MdD} (ho:MdO m) (hg:Good m):MdN m:=by
 obtain⟨g1,g2⟩:=gtl_le hg
 refine⟨fun x hx=>(ho.ev.2 x hx).2,gtN_of hg.gt ho.gt.2,g1,fun p hp=>⟨g2 p hp,gtN_of (hg.pg p hp).2.1 (ho.pg.2 p hp).2.2.2⟩,fun x hx=> ?_,fun x hx=>⟨ph_vl hg hx,fun v hv=>((ho.ph.2 x hx).2.2.2 v hv).2⟩⟩
 obtain⟨b1,b2,b3,b4,b5⟩:=hg.gr x hx
 have c1:x.members.length≤24∧x.factors.length≤24:=by
  obtain⟨d1,d2,d3⟩:=b3
  split at d2<;>(split at d3<;>omega)
 exact⟨c1.1,c1.2,(ho.gr.2 x hx).2.2.2.2⟩
end Go.PN
namespace Go.Proofs.YtpcpaekpnfkhhaaGreatDoor
open Go.AI Go.PN
attribute [local irreducible] aw Fa Fh DrK
theorem pnorm_fa (m:MdD) (ho:MdO m):Fa Tryz.prog 17 [.agg (mdc true m)] (.tup [.agg (mdc true (if mcC m=0 then normM m else md0)),.c (errA (mcC m))]):=by
 have f1:=check_fa m ho
 by_cases hc:mcC m=0
 ·rw [if_pos hc,hc]
  rw [hc] at f1
  have e0:errA 0=.nilI:=if_pos rfl
  rw [e0] at f1⊢
  have hg:=mcC_good hc
  exact pnormT_fa m hg (mdN_of ho hg) f1
 ·rw [if_neg hc]
  have hc':(!decide (mcC m=0))=true:=by rw [decide_eq_false hc];rfl
  refine fa_of_body Tryz.func17 rfl rfl (by simp [Tryz.ntmps17]) fun C hC=> ?_
  simp only [initS,Nat.reduceAdd]
  refine xG ?_
  refine xB fun g1 hn_g1=>?_
  refine yA hn_g1 fun g2 hn_g2=>?_
  refine zA1 (oj hn_g1 (oj hn_g2 hc')) f1 ?_
  refine yT hC (oj hn_g1 (oj hn_g2 hc')) ?_
  exact .tup ⟨.agg lerl_md0,.c ler_err,trivial⟩
end Go.Proofs.YtpcpaekpnfkhhaaGreatDoor
