/- Parts of one proof, laid by a program. -/
import Derived.Test.YtfcnbgmclfkfcaaGreatM00
import Derived.Test.YtfcnbgmclfkfcaaGreatM22
set_option linter.unusedSimpArgs false
set_option linter.unusedVariables false
namespace Go.AI
@[go_sem ↓] theorem updF_3_1' (a b c x:CV):updF (ofL [a,b,c]) 1 [x]=ofL [a,x,c]:=updF_at [a,b,c] 1 x (by simp)
@[go_sem ↓] theorem updF_3_2' (a b c x:CV):updF (ofL [a,b,c]) 2 [x]=ofL [a,b,x]:=updF_at [a,b,c] 2 x (by simp)
end Go.AI
namespace Go.PN
open Go.AI
def exTo:List Int→Nat→List (Int×Int)
 |[],_=>[]
 |r::rs,i=>(r,2+(i:Int))::exTo rs (i+1)
def exL (rs:List Int):List (Int×Int):=(0,0)::(1,1)::exTo rs 0
theorem exTo_push (r:Int):∀(rs:List Int) (i:Nat),exTo (rs++[r]) i=exTo rs i++[(r,2+((i+rs.length:Nat):Int))]
 |[],i=>by simp [exTo]
 |x::rs,i=>by
  show _::exTo (rs++[r]) (i+1)=_::(exTo rs (i+1)++_)
  rw [exTo_push r rs (i+1)]
  simp only [List.length_cons]
  congr 5
  omega
theorem exL_push (rs:List Int) (r:Int):exL rs++[(r,2+(rs.length:Int))]=exL (rs++[r]):=by
 unfold exL
 rw [exTo_push]
 simp
theorem exTo_get (r:Int):∀(rs:List Int) (i:Nat),dnGet r (exTo rs i)=if r∈rs then some (2+((i+rs.idxOf r:Nat):Int)) else none
 |[],i=>by simp [exTo,dnGet]
 |x::rs,i=>by
  rw [exTo,dnGet]
  by_cases e:r=x
  ·subst e;simp
  ·rw [if_neg e,exTo_get r rs (i+1)]
   by_cases hm:r∈rs
   ·have hi:(x::rs).idxOf r=rs.idxOf r+1:=by rw [List.idxOf_cons,beq_false_of_ne (fun h=>e h.symm)];rfl
    rw [if_pos hm,if_pos (List.mem_cons_of_mem _ hm),hi]
    congr 2
    omega
   ·rw [if_neg hm,if_neg (by simp [e,hm])]
theorem exL_get {r:Int} (h0:0≤r) (rs:List Int) (hb:∀x∈rs,2≤x):dnGet r (exL rs)=exR rs r:=by
 unfold exL exR
 rw [dnGet,dnGet]
 dsimp only
 by_cases e0:r=0
 ·subst e0;simp
 ·rw [if_neg e0]
  by_cases e1:r=1
  ·subst e1;simp
  ·rw [if_neg e1,if_neg om,exTo_get,Nat.zero_add]
   split
   ·congr 1;omega
   ·rfl
theorem perm_ex {α:Type} (T A B:List α) (x:α):(T++(A++(B++[x]))).Perm (B++(x::(T++A))):=by
 have:=List.perm_append_comm (l₁:=T++A) (l₂:=B++[x])
 simpa using this
theorem ExOk.lenle {ns:List DN} {rs:List Int} {os:List DN} (h:ExOk ns rs os):rs.length≤ns.length:=nodup_range h.nd h.bd
end Go.PN
namespace Go.Proofs.YtfcnbgmclfkfcaaGreat
open Go.AI Go.PN
attribute [local irreducible] aw Fa Fh DrK
abbrev X5 (g1 g2 g3 g4 gd gT:Nat) (oo:List Int) (rs:List Int) (oN:Option Nat) (n:Nat):Heap:=
 [(g1,.cells 159 1 (ofL [.raw (.map (some gd))])),(g2,.cells 88 1 (ofL [.optr gT 0])),(g3,.cells 91 1 (ofL [fnC 130 [g1,g2,g3,g4]])),(g4,.cells 55 3 (ofL [is true oo,gs oN 3 n,.int .i64 0])),(gd,.gen (MapI keyI (dnL (exL rs))))]
abbrev HX (g1 g2 g3 g4 gd gT gU gM:Nat) (og:Option Nat) (o pl:List Int) (ns:List DN) (mm:Mem3) (oo:List Int) (rs:List Int) (oN:Option Nat) (os:List DN):Heap:=
 (X5 g1 g2 g3 g4 gd gT oo rs oN os.length++THp gT gU gM og o pl ns mm)++gh oN 145 (os.length*3) (dnsF os)
set_option maxRecDepth 100000 in
set_option maxHeartbeats 6400000 in
theorem ewalk_fh (g1 g2 g3 g4 gd gT gU gM:Nat) {o pl:List Int} {og:Option Nat} {ns:List DN} {mm:Mem3} (hs:TS o og ns mm) (hn:ns.length≤1000000000) (oo:List Int):∀(k:Nat) (r:Int) (rs:List Int) (oN:Option Nat) (os:List DN),r.toNat<k→RefOk ns r→ExOk ns rs os→(oN=none→os.length=0)→
 Fh Tryz.prog 130 (HX g1 g2 g3 g4 gd gT gU gM og o pl ns mm oo rs oN os) ([.c (.int .i64 r)]++[g1,g2,g3,g4].map fun g=>.c (.optr g 0)) (fun x h=>∃rs' oN' os' y,Ex o ns rs os rs' os' r y∧(oN'=none→os'.length=0)∧x=.c (.int .i64 y)∧h=HX g1 g2 g3 g4 gd gT gU gM og o pl ns mm oo rs' oN' os'):=by
 intro k
 induction k with
 |zero=>intro r rs oN os hk;omega
 |succ k ih=>
  intro r rs oN os hk hr hx hoN
  simp only [List.cons_append,List.nil_append,List.map_cons,List.map_nil]
  refine fh_of_body Tryz.func130 rfl rfl (by simp [Tryz.ntmps130]) fun C hC=> ?_
  simp only [initS,Nat.reduceAdd]
  simp only [HX,X5,THp,TH,List.cons_append,List.nil_append]
  refine aw_nd fun hnd=> ?_
  simp only [Heap.keys,List.map_cons] at hnd
  replace hnd:=ndP_of hnd
  dsimp only [ndP,neA] at hnd
  refine yG hnd ?_
  refine aw_lookup2 (a:=r) (kv:=dnL (exL rs)) (Kf:=keyI) (kt:=3) (et:=3) rfl rfl rfl (by kernel_rfl) ty_ki ty_iz (zE hnd) (zE hnd) (zE hnd) keyI_rep ?_
  refine yS hnd ?_
  rw [dn_get,exL_get hr.1 rs (fun x hm=>(hx.bd x hm).1)]
  cases hf:exR rs r with
  |some y=>
   try simp only [Option.map_some,Option.getD_some,Option.isSome_some,cstC]
   refine yGPGU hnd ?_
   exact⟨rs,oN,os,y,ex_same hx hr.1 hf,hoN,rfl,by simp only [HX,X5,THp,TH,List.cons_append,List.nil_append]⟩
  |none=>
   try simp only [Option.map_none,Option.getD_none,Option.isSome_none,cstC]
   refine yG hnd ?_
   refine yN hnd ?_
   have h2:2≤r:=by
    refine Classical.byContradiction fun h=> ?_
    unfold exR at hf
    rw [if_pos om] at hf
    cases hf
   have hnew:r∉rs:=fun hm=>by
    unfold exR at hf
    rw [if_neg om,if_pos hm] at hf
    cases hf
   obtain⟨g,rfl⟩:∃g,og=some g:=by
    cases og with
    |none=>have:=hs.og rfl;unfold RefOk at hr;omega
    |some g=>exact⟨g,rfl⟩
   have hi:(r-2).toNat<ns.length:=by unfold RefOk at hr;omega
   have hrl:r<ns.length+2:=hr.2
   obtain⟨w0,w1,w2,w3,w4,w5⟩:=(hs.tab.ns _ hi)
   obtain⟨kl,kh⟩:=kids_ref hs.tab hi
   have hnode:∀{rs1 rs2:List Int} {os1 os2:List DN} {xl xh:Int},Ex o ns rs os rs1 os1 (ns.getD (r-2).toNat dn0).lo xl→Ex o ns rs1 os1 rs2 os2 (ns.getD (r-2).toNat dn0).hi xh→r∉rs2∧Ex o ns rs os (rs2++[r]) (os2++[⟨(ns.getD (r-2).toNat dn0).v,xl,xh⟩]) r ((rs2.length:Int)+2):=fun a b=>ex_node hs.tab h2 hrl hnew a b
   simp only [gs,gh,List.cons_append,List.nil_append]
   clear hnd
   refine aw_nd fun hnd=> ?_
   simp only [Heap.keys,List.map_cons,List.map_append] at hnd
   replace hnd:=ndP_of hnd
   dsimp only [ndP,neA] at hnd
   generalize hx0:ns.getD (r-2).toNat dn0=nd at*
   refine yG (oj hnd hx0) ?_
   refine yA (oj hnd hx0) fun g9 hn_g9=>?_
   have J1:=oj hnd (oj hx0 hn_g9)
   refine yGWSG J1 ?_
   refine aw_callhv (hr:=[(g9,.cells 145 3 (ofL [.int .i64 nd.v,.int .i64 nd.lo,.int .i64 nd.hi]))]) (gs:=[g1,g2,g3,g4]) (ih nd.lo rs oN os om kl hx hoN) rfl rfl rfl (zE J1) ?_ (zL J1) ?_
   ·exact List.perm_append_comm (l₁:=[(g9,_)])
   rintro _ _ ⟨rs1,oN1,os1,xl,a1,hoN1,rfl,rfl⟩ _
   refine aw_perm List.perm_append_comm ?_
   simp only [HX,X5,THp,TH,gs,gh,List.cons_append,List.nil_append]
   clear hnd J1
   refine aw_nd fun hnd=> ?_
   simp only [Heap.keys,List.map_cons,List.map_append] at hnd
   replace hnd:=ndP_of hnd
   dsimp only [ndP,neA] at hnd
   refine ySG hnd ?_
   refine aw_callhv (hr:=[(g9,.cells 145 3 (ofL [.int .i64 nd.v,.int .i64 nd.lo,.int .i64 nd.hi]))]) (gs:=[g1,g2,g3,g4]) (ih nd.hi rs1 oN1 os1 om kh a1.ok hoN1) rfl rfl rfl (zE hnd) ?_ (zL hnd) ?_
   ·exact List.perm_append_comm (l₁:=[(g9,_)])
   rintro _ _ ⟨rs2,oN2,os2,xh,b1,hoN2,rfl,rfl⟩ _
   refine aw_perm List.perm_append_comm ?_
   simp only [HX,X5,THp,TH,gh,List.cons_append,List.nil_append]
   clear hnd
   refine aw_nd fun hnd=> ?_
   simp only [Heap.keys,List.map_cons,List.map_append] at hnd
   replace hnd:=ndP_of hnd
   dsimp only [ndP,neA] at hnd
   obtain⟨hout,hex⟩:=hnode a1 b1
   have l2:=b1.ok.len
   have l3:=b1.ok.lenle
   have hlen:=lenCV_gs (s:=3) hoN2
   (try simp only[go_sem,hnd,↓hlen])
   repeat first|apply wa1|apply wa2|apply wa3|apply wa4|apply wa5 rfl|apply wa6|apply wa7|(refine wb1 rfl fun R r=>?_;simp only[go_sem,hnd,↓hlen];with_reducible show R (some _);with_reducible refine r _ _ ?_;clear r R)
   refine aw_push (pre:=[(g9,.cells 145 3 (ofL [.int .i64 nd.v,.int .i64 nd.lo,.int .i64 nd.hi])),(g1,.cells 159 1 (ofL [.raw (.map (some gd))])),(g2,.cells 88 1 (ofL [.optr gT 0])),(g3,.cells 91 1 (ofL [fnC 130 [g1,g2,g3,g4]])),(g4,.cells 55 3 (ofL [is true oo,gs oN2 3 os2.length,.int .i64 0])),(gd,.gen (MapI keyI (dnL (exL rs2)))),(gT,.cells 140 5 (ofL [is true o,is true pl,.osl g 3 0 ns.length,.raw (.map (some gU)),.raw (.map (some gM))])),(gU,.gen (MapI dkV (uqTo ns 0))),(gM,.gen (MapI key3 (mmL mm))),(g,.cells 145 (ns.length*3) (dnsF ns))]) rfl rfl rfl rfl rfl rfl rfl (by simp only[go_sem,hnd,↓hlen]<;>rfl) (by simp only[go_sem,hnd,↓hlen]<;>rfl) (by rfl) om om (by simp only[go_sem,hnd,↓hlen]<;>rfl) om (by exact hoN2) (by simp only[go_sem,hnd,↓hlen]<;>rfl) (by rfl) (by rfl) (by first|rfl|simp only [Nat.mul_one,List.nil_append,List.cons_append]<;>rfl) (by unfold maxLen;omega) om (by exact lf_push (xs:=os2) rfl (⟨nd.v,xl,xh⟩:DN) om) fun gN hn_gN=> ?_
   replace hn_gN:=Heap.ne_of hn_gN
   first|dsimp only [Heap.ne,gh] at hn_gN|dsimp only [Heap.ne] at hn_gN|skip
   (try simp only[go_sem,hnd,↓hlen,hn_gN])
   simp only [gs,gh,List.cons_append,List.nil_append]
   repeat first|apply wa1|apply wa2|apply wa3|apply wa4|apply wa5 rfl|apply wa6|apply wa7|(refine wb1 rfl fun R r=>?_;simp only[go_sem,hnd,↓hlen,hn_gN];with_reducible show R (some _);with_reducible refine r _ _ ?_;clear r R)
   refine aw_store rfl rfl rfl rfl (by simp only[go_sem,hnd,↓hlen,hn_gN]<;>rfl) (by simp only[go_sem,hnd,↓hlen,hn_gN]<;>rfl) (by simp only[go_sem,hnd,↓hlen,hn_gN]<;>rfl) (by simp only[go_sem,hnd,↓hlen,hn_gN]<;>rfl) (fun _ e=>by cases e) (by first|rfl|exact solid_gs3|exact solid_gs2) (by rfl) (by first|omega|simp) rfl ?_
   (try simp only[go_sem,hnd,↓hlen,hn_gN])
   repeat first|apply wa1|apply wa2|apply wa3|apply wa4|apply wa5 rfl|apply wa6|apply wa7|(refine wb1 rfl fun R r=>?_;simp only[go_sem,hnd,↓hlen,hn_gN];with_reducible show R (some _);with_reducible refine r _ _ ?_;clear r R)
   have e1:(1:Int)+((os2.length+1:Nat):Int)=2+(rs2.length:Int):=by omega
   have e1':(1:Int)+((os2.length:Int)+1)=2+(rs2.length:Int):=by omega
   have hb2:∀x∈rs2,2≤x:=fun x hm=>(b1.ok.bd x hm).1
   refine aw_mapNew (a:=r) (kv:=dnL (exL rs2)) (Kf:=keyI) (v:=.int .i64 (2+(rs2.length:Int))) rfl rfl rfl (kt:=3) (et:=3) (by kernel_rfl) ty_ki (by simp only[go_sem,hnd,↓hlen,hn_gN]<;>rfl) (by simp only[go_sem,hnd,↓hlen,hn_gN]<;>rfl) (by simp only[go_sem,hnd,↓hlen,hn_gN]<;>rfl) keyI_rep (cv:=.c (.int .i64 (2+(rs2.length:Int)))) (by(try simp only[go_sem,hnd,↓hlen,hn_gN]);first|rfl|rw [e1]|rw [e1']) (fun S w u h=>h) (by rw [dn_get,exL_get hr.1 rs2 hb2];unfold exR;rw [if_neg om,if_neg hout];rfl) (by simp only[go_sem,hnd,↓hlen,hn_gN]<;>rfl) ?_
   rw [dnL_push,exL_push]
   (try simp only[go_sem,hnd,↓hlen,hn_gN])
   repeat first|apply wa1|apply wa2|apply wa3|apply wa4|apply wa5 rfl|apply wa6|apply wa7|(refine wb1 rfl fun R r=>?_;simp only[go_sem,hnd,↓hlen,hn_gN];with_reducible show R (some _);with_reducible refine r _ _ ?_;clear r R)
   refine aw_lookup (a:=r) (kv:=dnL (exL (rs2++[r]))) (Kf:=keyI) (kt:=3) (et:=3) rfl rfl rfl (by kernel_rfl) ty_ki ty_iz (by simp only[go_sem,hnd,↓hlen,hn_gN]<;>rfl) (by simp only[go_sem,hnd,↓hlen,hn_gN]<;>rfl) (by simp only[go_sem,hnd,↓hlen,hn_gN]<;>rfl) keyI_rep ?_
   rw [dn_get,exL_get hr.1 _ (fun x hm=>by rcases List.mem_append.1 hm with hm|hm;exact hb2 x hm;rw [List.mem_singleton] at hm;omega),hex.ref]
   try simp only [Option.map_some,Option.getD_some,cstC]
   (try simp only[go_sem,hnd,↓hlen,hn_gN])
   repeat first|apply wa1|apply wa2|apply wa3|apply wa4|apply wa5 rfl|apply wa6|apply wa7|(refine wb1 rfl fun R r=>?_;simp only[go_sem,hnd,↓hlen,hn_gN];with_reducible show R (some _);with_reducible refine r _ _ ?_;clear r R)
   refine aw_keep [(6,.c (.int .i64 ((rs2.length:Int)+2)))] (HX g1 g2 g3 g4 gd gT gU gM (some g) o pl ns mm oo (rs2++[r]) (some gN) (os2++[⟨nd.v,xl,xh⟩])) (by simp only[go_sem,hnd,↓hlen,hn_gN]<;>and_intros<;>first|exact True.intro|(with_reducible rfl)|exact c_int om|rfl) (by
    simp only [HX,X5,THp,TH,gs,gh,List.cons_append,List.nil_append,List.length_append,List.length_singleton]
    exact List.Sublist.cons _ (List.Sublist.refl _)) ?_
   (refine aw_rethq rfl fun R r=>?_;simp only[go_sem,hnd,↓hlen,hn_gN];refine r _ rfl ?_;clear r R)
   exact⟨rs2++[r],some gN,os2++[⟨nd.v,xl,xh⟩],_,hex,some_ne,rfl,rfl⟩
set_option maxRecDepth 100000 in
set_option maxHeartbeats 3200000 in
theorem export_fh (gT gU gM:Nat) {o pl:List Int} (ho:OdOk o pl) {og:Option Nat} {ns:List DN} {mm:Mem3} (hs:TS o og ns mm) (hn:ns.length≤1000000000) {r:Int} (hr:RefOk ns r):
 Fh Tryz.prog 79 (THp gT gU gM og o pl ns mm) [.c (.optr gT 0),.c (.int .i64 r)] (fun x h=>∃rs os y,Ex o ns [] [] rs os r y∧x=.agg (dgc true ⟨o,os,y⟩)∧h=THp gT gU gM og o pl ns mm):=by
 have l24:=ho.l24
 refine fh_of_body Tryz.func79 rfl rfl (by simp [Tryz.ntmps79]) fun C hC=> ?_
 simp only [initS,Nat.reduceAdd]
 unfold THp TH
 simp only [List.cons_append,List.nil_append]
 refine xG ?_
 refine xB fun g2 hn_g2=>?_
 refine yG hn_g2 ?_
 refine yA hn_g2 fun g4 hn_g4=>?_
 have J1:=oj hn_g2 hn_g4
 refine yG J1 ?_
 refine aw_copy (size:=1) (z:=[.int .i64 0]) rfl rfl rfl (zE J1) (zE J1) rfl om (zE J1) (zE J1) .row (by unfold maxLen;omega) om ?_
 refine ySG J1 ?_
 refine yA J1 fun g5 hn_g5=>?_
 have J2:=oj hn_g2 (oj hn_g4 hn_g5)
 refine yGWSG J2 ?_
 refine aw_makeMap (Kf:=keyI) rfl rfl rfl fun gd hn_gd=> ?_
 replace hn_gd:=Heap.ne_of hn_gd
 dsimp only [Heap.ne,gh] at hn_gd
 have J3:=oj hn_g2 (oj hn_g4 (oj hn_g5 hn_gd))
 refine ySG J3 ?_
 refine aw_insNew (a:=0) (kv:=[]) (Kf:=keyI) (v:=.int .i64 0) rfl rfl rfl (kt:=3) (et:=3) (by kernel_rfl) ty_ki (zE J3) (zE J3) (zE J3) keyI_rep (cv:=.c (.int .i64 0)) (zE J3) (fun S w u h=>h) rfl (zE J3) ?_
 refine ySG J3 ?_
 refine aw_insNew (a:=1) (kv:=[(0,.int .i64 0)]) (Kf:=keyI) (v:=.int .i64 1) rfl rfl rfl (kt:=3) (et:=3) (by kernel_rfl) ty_ki (zE J3) (zE J3) (zE J3) keyI_rep (cv:=.c (.int .i64 1)) (zE J3) (fun S w u h=>h) rfl (zE J3) ?_
 refine ySG J3 ?_
 refine yA J3 fun g6 hn_g6=>?_
 have J4:=oj hn_g2 (oj hn_g4 (oj hn_g5 (oj hn_gd hn_g6)))
 refine yGWSG J4 ?_
 refine yA J4 fun g7 hn_g7=>?_
 have J5:=oj hn_g2 (oj hn_g4 (oj hn_g5 (oj hn_gd (oj hn_g6 hn_g7))))
 refine yG J5 ?_
 refine aw_makeFunc (gs:=[g6,g2,g7,g5]) rfl rfl rfl (zE J5) ?_
 refine ySGWSG J5 ?_
 refine aw_callhv (hr:=[(g4,.cells 55 3 (ofL [.nils,.nils,.int .i64 0]))]) (ewalk_fh (pl:=pl) g6 g2 g7 g5 gd gT gU gM hs hn o (r.toNat+1) r [] none [] om hr (ExOk.nil ns) (fun _=>rfl)) rfl rfl rfl (zE J5) ?hp (zL J5) ?_
 ·have e:HX g6 g2 g7 g5 gd gT gU gM og o pl ns mm o [] none []=X5 g6 g2 g7 g5 gd gT o [] none 0++THp gT gU gM og o pl ns mm:=List.append_nil _
  rw [e]
  refine((permL [(g7,_),(g6,_),(gd,_),(g5,_),(g4,_),(g2,_)] [0,1,2,3,4,5] [4,1,5,0,3,2] (by decide)).append_right (THp gT gU gM og o pl ns mm)).trans ?_
  exact(List.perm_append_singleton (g4,_) (X5 g6 g2 g7 g5 gd gT o [] none 0++THp gT gU gM og o pl ns mm)).symm
 rintro _ _ ⟨rs,oN,os,y,hex,hoN,rfl,rfl⟩ _
 unfold HX X5 THp TH
 simp only [List.cons_append,List.nil_append,List.append_assoc]
 refine ySGWS J5 ?_
 refine aw_keep [(4,.c (.optr g4 0)),(5,.c (.optr g5 0))] ((g5,.cells 55 3 (ofL [is true o,gs oN 3 os.length,.int .i64 y]))::([(gT,.cells 140 5 (ofL [is true o,is true pl,gs og 3 ns.length,.raw (.map (some gU)),.raw (.map (some gM))])),(gU,.gen (MapI dkV (uqTo ns 0))),(gM,.gen (MapI key3 (mmL mm)))]++(gh og 145 (ns.length*3) (dnsF ns)++(gh oN 145 (os.length*3) (dnsF os)++[(g4,.cells 55 3 (ofL [.nils,.nils,.int .i64 0]))])))) (zB J5) (List.Sublist.cons _ (List.Sublist.cons _ (List.Sublist.cons _ (List.Sublist.cons_cons _ (List.Sublist.cons _ (List.Sublist.refl _)))))) ?_
 refine aw_perm (List.Perm.cons _ (perm_ex _ _ _ _)) ?_
 refine aw_nd fun hnd=> ?_
 refine aw_frzG (j0:=1) (og:=oN) (s:=3) (n:=os.length) (f':=ofL [is true o,dns true os,.int .i64 y]) rfl rfl (fun j hj hne=> ?_) hoN (fun g e=> ?_) ?_
 ·match j,hj,hne with
  |0,_,_=>rfl
  |1,_,hne=>exact absurd rfl hne
  |2,_,_=>rfl
 ·subst e
  intro hown
  have hm:g∈Heap.keys (THp gT gU gM og o pl ns mm):=(hC g).1 hown
  have h1:(g5::g::g4::Heap.keys (THp gT gU gM og o pl ns mm)).Nodup:=hnd
  exact(List.nodup_cons.1 (List.nodup_cons.1 h1).2).1 (List.mem_cons_of_mem _ hm)
 clear hnd J1 J2 J3 J4 J5
 simp only [List.cons_append,List.nil_append]
 have J6:=oj hn_g2 (oj hn_g4 (oj hn_g5 (oj hn_gd (oj hn_g6 hn_g7))))
 refine ySGWSG J6 ?_
 refine aw_keep [(4,.c (.optr g4 0))] ((g4,.cells 55 3 (ofL (dgc true ⟨o,os,y⟩)))::THp gT gU gM og o pl ns mm) (zB J6) (List.Sublist.cons _ (List.Sublist.refl _)) ?_
 refine aw_rethw (h':=THp gT gU gM og o pl ns mm) rfl (List.Sublist.cons _ (List.Sublist.refl _)) (fun R hR=> ?_)
 simp only [go_sem,hn_g2,hn_g4,hn_g5,hn_gd,hn_g6,hn_g7]
 refine hR _ rfl ?_
 clear hR R
 exact⟨rs,os,y,hex,rfl,rfl⟩
end Go.Proofs.YtfcnbgmclfkfcaaGreat
namespace Go.PN
open Go.AI
inductive ExR (ns:List DN):List Int→List DN→Int→List Int→List DN→Int→Prop
 |same {rs:List Int} {os:List DN} {r x:Int} (h:exR rs r=some x):ExR ns rs os r rs os x
 |node {rs rs1 rs2:List Int} {os os1 os2:List DN} {r xl xh:Int} (h:exR rs r=none) (a:ExR ns rs os (ns.getD (r-2).toNat dn0).lo rs1 os1 xl) (b:ExR ns rs1 os1 (ns.getD (r-2).toNat dn0).hi rs2 os2 xh):
  ExR ns rs os r (rs2++[r]) (os2++[⟨(ns.getD (r-2).toNat dn0).v,xl,xh⟩]) ((rs2.length:Int)+2)
theorem ExR.det {ns:List DN} {rs:List Int} {os:List DN} {r:Int} {rs1:List Int} {os1:List DN} {x1:Int} (h:ExR ns rs os r rs1 os1 x1):∀{rs2:List Int} {os2:List DN} {x2:Int},ExR ns rs os r rs2 os2 x2→rs1=rs2∧os1=os2∧x1=x2:=by
 induction h with
 |same h=>
  intro rs2 os2 x2 k
  cases k with
  |same k=>rw [h] at k;injection k with k;exact⟨rfl,rfl,k⟩
  |node k _ _=>rw [h] at k;cases k
 |node h _ _ iha ihb=>
  intro rs2 os2 x2 k
  cases k with
  |same k=>rw [h] at k;cases k
  |node k a b=>
   obtain⟨rfl,rfl,rfl⟩:=iha a
   obtain⟨rfl,rfl,rfl⟩:=ihb b
   exact⟨rfl,rfl,rfl⟩
structure ZEx (n:Nat) (ns:List DN) (rs:List Int) (os:List DN) (rs':List Int) (os':List DN) (r x:Int):Prop where
 ok:ExOk ns rs' os'
 pre:∃zs,rs'=rs++zs
 preo:∃ys,os'=os++ys
 ref:exR rs' r=some x
 run:ExR ns rs os r rs' os' x
 below:∀z∈rs',z∈rs∨z≤r
 len:rs'.length≤rs.length+(2^(n-evZ n ns r).toNat-1)
theorem zex_same {n:Nat} {ns:List DN} {rs:List Int} {os:List DN} {r x:Int} (h:ExOk ns rs os) (e:exR rs r=some x):ZEx n ns rs os rs os r x:=
 ⟨h,⟨[],by simp⟩,⟨[],by simp⟩,e,.same e,fun z hz=>.inl hz,by omega⟩
theorem exR_none {rs:List Int} {r:Int} (h2:2≤r) (hn:r∉rs):exR rs r=none:=by
 unfold exR
 rw [if_neg om,if_neg hn]
theorem zex_node {n:Nat} {ns:List DN} {rs rs1 rs2:List Int} {os os1 os2:List DN} {r xl xh:Int} (ht:ZTab n ns) (h2:2≤r) (hr:r<ns.length+2) (hnew:r∉rs)
 (a:ZEx n ns rs os rs1 os1 (ns.getD (r-2).toNat dn0).lo xl) (b:ZEx n ns rs1 os1 rs2 os2 (ns.getD (r-2).toNat dn0).hi xh):
 r∉rs2∧ZEx n ns rs os (rs2++[r]) (os2++[⟨(ns.getD (r-2).toNat dn0).v,xl,xh⟩]) r ((rs2.length:Int)+2):=by
 have hi':(r-2).toNat<ns.length:=by omega
 have nk:=(ht _ hi').nk
 obtain⟨v0,v1,l0,l1,g0,g1⟩:=nk
 obtain⟨z1,e1⟩:=a.pre
 obtain⟨z2,e2⟩:=b.pre
 obtain⟨y1,f1⟩:=a.preo
 obtain⟨y2,f2⟩:=b.preo
 have hout:r∉rs2:=fun hm=>by
  rcases b.below r hm with hm|hm
  ·rcases a.below r hm with hm|hm
   ·exact hnew hm
   ·omega
  ·omega
 have hax:exR rs2 (ns.getD (r-2).toNat dn0).lo=some xl:=by rw [e2];exact exR_app a.ref
 have hxl:=exR_lt l0 hax
 have hxh:=exR_lt g0 b.ref
 have hlen2:=b.ok.len
 refine⟨hout,⟨⟨by simp [hlen2],?_,fun z hz=> ?_,fun j hj=> ?_⟩,⟨z1++z2++[r],by rw [e2,e1];simp⟩,⟨y1++y2++[⟨(ns.getD (r-2).toNat dn0).v,xl,xh⟩],by rw [f2,f1];simp only [List.append_assoc]⟩,?_,.node (exR_none h2 hnew) a.run b.run,fun z hz=> ?_,?_⟩⟩
 ·exact List.nodup_append.2 ⟨b.ok.nd,by simp,fun a ha c hc=>by
   rw [List.mem_singleton] at hc;subst hc;exact fun e=>hout (e▸ha)⟩
 ·rcases List.mem_append.1 hz with hz|hz
  ·exact b.ok.bd z hz
  ·rw [List.mem_singleton] at hz;subst hz;exact⟨h2,hr⟩
 ·rw [List.length_append,List.length_singleton] at hj
  by_cases hjl:j<rs2.length
  ·obtain⟨lo,hi,q1,q2,q3⟩:=b.ok.node j hjl
   have e:(rs2++[r]).getD j 0=rs2.getD j 0:=by
    rw [List.getD_eq_getElem?_getD,List.getD_eq_getElem?_getD,List.getElem?_append_left hjl]
   rw [e,List.take_append_of_le_length om]
   exact⟨lo,hi,q1,q2,by rw [getD_app om];exact q3⟩
  ·have hj':j=rs2.length:=by omega
   subst hj'
   have e:(rs2++[r]).getD rs2.length 0=r:=by
    rw [List.getD_eq_getElem?_getD,List.getElem?_append_right (Nat.le_refl _),Nat.sub_self];rfl
   rw [e,List.take_append_of_le_length (Nat.le_refl _),List.take_length]
   refine⟨xl,xh,hax,b.ref,?_⟩
   rw [←hlen2,List.getD_eq_getElem?_getD,List.getElem?_append_right (Nat.le_refl _),Nat.sub_self];rfl
 ·unfold exR
  rw [if_neg om,if_pos (by simp),List.idxOf_append,if_neg hout]
  simp
 ·rcases List.mem_append.1 hz with hz|hz
  ·rcases b.below z hz with h|h
   ·rcases a.below z h with h|h
    ·exact .inl h
    ·exact .inr om
   ·exact .inr om
  ·rw [List.mem_singleton] at hz;exact .inr om
 ·have nd:=ht _ hi'
  have b1:=nd.bl
  have b2:=nd.bh
  have hlr:evZ n ns r=(ns.getD (r-2).toNat dn0).v:=evZ_node h2
  obtain⟨kl,kh⟩:=ht.kids hi'
  have ll:=(evZ_le ht kl).2.1
  have lh:=(evZ_le ht kh).2.1
  have la:=a.len
  have lb:=b.len
  obtain⟨q,hq⟩:∃q,(n-evZ n ns r).toNat=q+1:=⟨(n-evZ n ns r).toNat-1,by omega⟩
  have pa:2^((n:Int)-evZ n ns (ns.getD (r-2).toNat dn0).lo).toNat≤2^q:=Nat.pow_le_pow_right om om
  have pb:2^((n:Int)-evZ n ns (ns.getD (r-2).toNat dn0).hi).toNat≤2^q:=Nat.pow_le_pow_right om om
  have pq:0<2^q:=Nat.pow_pos om
  rw [hq,Nat.pow_succ,List.length_append,List.length_singleton]
  omega
theorem ZTab.mono {n m:Nat} {ns:List DN} (h:ZTab n ns) (hm:n≤m):ZTab m ns:=fun i hi=>by
 obtain⟨nk,h0,bl,bh,new⟩:=h i hi
 obtain⟨v0,v1,l0,l1,g0,g1⟩:=nk
 have hev:∀r,evZ n ns r≤evZ m ns r:=fun r=>by unfold evZ;split<;>omega
 exact⟨⟨v0,by omega,l0,l1,g0,g1⟩,h0,by have:=hev (ns.getD i dn0).lo;omega,by have:=hev (ns.getD i dn0).hi;omega,new⟩
theorem ExOk.inj {n:Nat} {ns:List DN} {rs:List Int} {os:List DN} (ht:ZTab n ns) (h:ExOk ns rs os) {k j:Nat} (hk:k<rs.length) (hj:j<rs.length) (e:os.getD k dn0=os.getD j dn0):k=j:=by
 obtain⟨lo,hi,e1,e2,e3⟩:=h.node j hj
 obtain⟨lo',hi'',f1,f2,f3⟩:=h.node k hk
 rw [f3,e3] at e
 injection e with ev el eh
 subst el eh
 have q1:=exR_inj (exR_take f1) (exR_take e1)
 have q2:=exR_inj (exR_take f2) (exR_take e2)
 have hb:=h.ref hj
 have hkb:=h.ref hk
 have same:ns.getD (rs.getD k 0-2).toNat dn0=ns.getD (rs.getD j 0-2).toNat dn0:=by
  cases hA:ns.getD (rs.getD k 0-2).toNat dn0
  cases hB:ns.getD (rs.getD j 0-2).toNat dn0
  rw [hA,hB] at q1 q2 ev
  dsimp only at q1 q2 ev
  rw [q1,q2,ev]
 have hik:(rs.getD k 0-2).toNat<ns.length:=by omega
 have hij:(rs.getD j 0-2).toNat<ns.length:=by omega
 have hrr:rs.getD k 0=rs.getD j 0:=by
  refine Classical.byContradiction fun hne=> ?_
  rcases Nat.lt_or_gt_of_ne (show(rs.getD k 0-2).toNat≠(rs.getD j 0-2).toNat from fun e=>hne om) with hl|hl
  ·refine(ht _ hij).new ?_
   rw [←same]
   exact take_memN.2 ⟨_,hl,hik,rfl⟩
  ·refine(ht _ hik).new ?_
   rw [same]
   exact take_memN.2 ⟨_,hl,hij,rfl⟩
 have p1:=place_get h.nd hk
 have p2:=place_get h.nd hj
 rw [hrr] at p1
 omega
theorem ExOk.evz {n:Nat} {ns:List DN} {rs:List Int} {os:List DN} (h:ExOk ns rs os) {r x:Int} (e:exR rs r=some x):evZ n os x=evZ n ns r:=by
 by_cases h2:r<2
 ·unfold exR at e;rw [if_pos h2] at e;injection e with e;subst e
  rw [ev_leaf h2,ev_leaf h2]
 ·obtain⟨j,hj,er,rfl⟩:=h.find om e
  obtain⟨lo,hi,e1,e2,e3⟩:=h.node j hj
  rw [evZ_node om,evZ_node om,show((2:Int)+(j:Int)-2).toNat=j from by omega,e3,er]
theorem ExOk.ztab {n:Nat} {ns:List DN} {rs:List Int} {os:List DN} (ht:ZTab n ns) (h:ExOk ns rs os):ZTab n os:=fun j hj=>by
 have hj':j<rs.length:=by rw [←h.len];exact hj
 obtain⟨lo,hi,e1,e2,e3⟩:=h.node j hj'
 have hb:=h.ref hj'
 have hi':(rs.getD j 0-2).toNat<ns.length:=by omega
 have nd:=ht _ hi'
 obtain⟨v0,v1,_,_,_,_⟩:=nd.nk
 obtain⟨r1,r2⟩:=ht.kids hi'
 have b1:=exR_lt r1.1 e1
 have b2:=exR_lt r2.1 e2
 rw [List.length_take] at b1 b2
 refine⟨?_,?_,?_,?_,?_⟩
 ·rw [e3];exact⟨v0,v1,b1.1,by show lo<j+2;omega,b2.1,by show hi<j+2;omega⟩
 ·rw [e3]
  dsimp only
  intro e0
  subst e0
  refine nd.hi ?_
  have:exR (rs.take j) 0=some 0:=rfl
  exact exR_inj e2 this
 ·rw [e3];dsimp only;rw [h.evz (exR_take e1)];exact nd.bl
 ·rw [e3];dsimp only;rw [h.evz (exR_take e2)];exact nd.bh
 ·intro hm
  obtain⟨k,hk,hkl,ek⟩:=take_memN.1 hm
  have:=h.inj ht (k:=k) (j:=j) om hj' ek
  omega
theorem ExOk.mem {n:Nat} {ns:List DN} {rs:List Int} {os:List DN} (ht:ZTab n ns) (h:ExOk ns rs os):∀r,RefOk ns r→∀(x:Int) (s:Nat),exR rs r=some x→memZ os x s=memZ ns r s:=by
 have leaf:∀(r x:Int) (s:Nat),r<2→exR rs r=some x→memZ os x s=memZ ns r s:=fun r x s h2 e=>by
  unfold exR at e;rw [if_pos h2] at e;injection e with e;subst e
  rw [mem_leaf om,mem_leaf om]
 refine ht.ind (fun r h0 h1 x s e=>leaf r x s om e) fun r h2 hr il ih x s e=> ?_
 have hx:=exR_lt hr.1 e
 have zt:=h.ztab ht
 obtain⟨j,hj,er,rfl⟩:=h.find om e
 obtain⟨lo,hi,e1,e2,e3⟩:=h.node j hj
 rw [er] at e1 e2 e3
 have hl:=h.len
 rw [mem_step zt om ⟨by omega,by rw [hl];omega⟩,mem_step ht h2 hr,show((2:Int)+(j:Int)-2).toNat=j from by omega,e3]
 dsimp only
 rw [ih _ _ (exR_take e2),il _ _ (exR_take e1)]
theorem idx_nums {n:Nat} {x:Int} (h2:2≤x) (hx:x<n+2):((numsL n).idxOf x:Int)=x-2:=by
 have hm:x∈numsL n:=mem_numsL.2 ⟨h2,hx⟩
 have hn:(numsL n).Nodup:=by
  unfold numsL
  exact List.Pairwise.map _ (fun a b h e=>h om) (List.nodup_range (n:=n))
 have hlen:(numsL n).length=n:=by simp [numsL]
 have hg:(numsL n).getD (x-2).toNat 0=x:=by
  rw [getDZ (by rw [hlen];omega)]
  simp [numsL]
  omega
 have:=place_get hn (k:=(x-2).toNat) (by rw [hlen];omega)
 rw [hg] at this
 unfold placeZ at this
 rw [if_pos hm] at this
 omega
theorem exR_nums {n:Nat} {x:Int} (h0:0≤x) (hx:x<n+2):exR (numsL n) x=some x:=by
 unfold exR
 by_cases h2:x<2
 ·rw [if_pos h2]
 ·rw [if_neg h2,if_pos (mem_numsL.2 ⟨by omega,hx⟩),idx_nums om hx]
  congr 1;omega
theorem ExR.again {n:Nat} {ns:List DN} (ht:ZTab n ns) {rs:List Int} {os:List DN} {r:Int} {rs':List Int} {os':List DN} {x:Int} (h:ExR ns rs os r rs' os' x):RefOk ns r→os.length=rs.length→
 (∃zs,os'=os++zs)∧rs.length≤rs'.length∧os'.length=rs'.length∧(0≤x∧x<rs'.length+2)∧∀ys,ExR (os'++ys) (numsL rs.length) os x (numsL rs'.length) os' x:=by
 induction h with
 |same h=>
  intro hr hl
  have hx:=exR_lt hr.1 h
  exact⟨⟨[],by simp⟩,Nat.le_refl _,hl,hx,fun ys=>.same (exR_nums hx.1 hx.2)⟩
 | @node rs rs1 rs2 os os1 os2 r xl xh h a b iha ihb=>
   intro hr hl
   have h2:2≤r:=by
    refine Classical.byContradiction fun hc=> ?_
    unfold exR at h
    rw [if_pos om] at h
    cases h
   have hi:(r-2).toNat<ns.length:=by unfold RefOk at hr;omega
   obtain⟨kl,kh⟩:=ht.kids hi
   obtain⟨⟨z1,e1⟩,l1,m1,x1,a1⟩:=iha kl hl
   obtain⟨⟨z2,e2⟩,l2,m2,x2,b1⟩:=ihb kh m1
   refine⟨⟨z1++z2++[_],by rw [e2,e1,List.append_assoc,List.append_assoc,List.append_assoc]⟩,by simp;omega,by simp [m2],⟨by omega,by rw [List.length_append,List.length_singleton];omega⟩,fun ys=> ?_⟩
   have hg:((os2++[(⟨(ns.getD (r-2).toNat dn0).v,xl,xh⟩:DN)])++ys).getD ((rs2.length:Int)+2-2).toNat dn0=⟨(ns.getD (r-2).toNat dn0).v,xl,xh⟩:=by
    rw [show((rs2.length:Int)+2-2).toNat=os2.length from by omega,List.append_assoc,List.getD_eq_getElem?_getD,List.getElem?_append_right (Nat.le_refl _),Nat.sub_self];rfl
   have a2:=a1 (z2++([(⟨(ns.getD (r-2).toNat dn0).v,xl,xh⟩:DN)]++ys))
   have b2:=b1 ([(⟨(ns.getD (r-2).toNat dn0).v,xl,xh⟩:DN)]++ys)
   rw [←List.append_assoc,←e2,←List.append_assoc] at a2
   rw [←List.append_assoc] at b2
   have nd:=ExR.node (ns:=(os2++[(⟨(ns.getD (r-2).toNat dn0).v,xl,xh⟩:DN)])++ys) (rs:=numsL rs.length) (os:=os) (r:=(rs2.length:Int)+2) (rs1:=numsL rs1.length) (rs2:=numsL rs2.length) (os1:=os1) (os2:=os2) (xl:=xl) (xh:=xh)
    (exR_none om (by rw [mem_numsL];omega)) (by rw [hg];exact a2) (by rw [hg];exact b2)
   rw [hg] at nd
   have hlen:(numsL rs2.length).length=rs2.length:=by simp [numsL]
   rw [hlen,←numsL_succ'] at nd
   rw [List.length_append,List.length_singleton]
   exact nd
structure ZD where
 nodes:List DN
 root:Int
structure ZOut (n:Nat) (F:Nat→Bool) (z:ZD):Prop where
 tab:ZTab n z.nodes
 ref:RefOk z.nodes z.root
 mem:∀s,memZ z.nodes z.root s=F s
 again:∃rs,ExR z.nodes [] [] z.root rs z.nodes z.root
theorem ZEx.out {n:Nat} {ns:List DN} {rs:List Int} {os:List DN} {r x:Int} (ht:ZTab n ns) (hr:RefOk ns r) (h:ZEx n ns [] [] rs os r x):ZOut n (fun s=>memZ ns r s) ⟨os,x⟩:=by
 have hx:=exR_lt hr.1 h.ref
 have hl:=h.ok.len
 obtain⟨_,_,_,_,ag⟩:=ExR.again ht h.run hr rfl
 have:=ag []
 rw [List.append_nil] at this
 exact⟨h.ok.ztab ht,⟨hx.1,by show x<os.length+2;omega⟩,fun s=>h.ok.mem ht r hr x s h.ref,⟨_,this⟩⟩
def highN (v s:Nat):Nat:=(s>>>v)<<<v
theorem high_bit (v s j:Nat):(highN v s).testBit j=(decide (v≤j)&&s.testBit j):=by
 unfold highN
 rw [Nat.testBit_shiftLeft,Nat.testBit_shiftRight]
 by_cases h:v≤j
 ·simp only [ge_iff_le,h,decide_true,Bool.true_and];congr 1;omega
 ·simp [h]
structure ZSm (n:Nat) (ns:List DN) (sl sl':List Int) (r:Int):Prop where
 pre:∃zs,sl'=sl++zs
 len:sl'.length≤sl.length+(2^(n-evZ n ns r).toNat-1)
theorem ZSm.same {n:Nat} {ns:List DN} {sl:List Int} {r:Int}:ZSm n ns sl sl r:=⟨⟨[],by simp⟩,by omega⟩
theorem ZSm.node {n:Nat} {ns:List DN} {sl s1 s2:List Int} {r:Int} (ht:ZTab n ns) (h2:2≤r) (hr:r<ns.length+2) (a:ZSm n ns (sl++[r]) s1 (ns.getD (r-2).toNat dn0).lo) (b:ZSm n ns s1 s2 (ns.getD (r-2).toNat dn0).hi):ZSm n ns sl s2 r:=by
 obtain⟨z1,e1⟩:=a.pre
 obtain⟨z2,e2⟩:=b.pre
 refine⟨⟨[r]++z1++z2,by rw [e2,e1];simp⟩,?_⟩
 have hi':(r-2).toNat<ns.length:=by omega
 have nd:=ht _ hi'
 have b1:=nd.bl
 have b2:=nd.bh
 have hlr:evZ n ns r=(ns.getD (r-2).toNat dn0).v:=evZ_node h2
 obtain⟨kl,kh⟩:=ht.kids hi'
 have ll:=(evZ_le ht kl).2.1
 have lh:=(evZ_le ht kh).2.1
 have la:=a.len
 have lb:=b.len
 rw [List.length_append,List.length_singleton] at la
 obtain⟨q,hq⟩:∃q,(n-evZ n ns r).toNat=q+1:=⟨(n-evZ n ns r).toNat-1,by omega⟩
 have pa:2^((n:Int)-evZ n ns (ns.getD (r-2).toNat dn0).lo).toNat≤2^q:=Nat.pow_le_pow_right om om
 have pb:2^((n:Int)-evZ n ns (ns.getD (r-2).toNat dn0).hi).toNat≤2^q:=Nat.pow_le_pow_right om om
 have pq:0<2^q:=Nat.pow_pos om
 rw [hq,Nat.pow_succ]
 omega
end Go.PN
