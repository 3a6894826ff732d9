/- Parts of one proof, laid by a program. -/
import Derived.Test.YtfcnbgmclfkfcaaGreatM00
import Derived.Test.YtfcnbgmclfkfcaaGreatM23
set_option linter.unusedSimpArgs false
set_option linter.unusedVariables false
namespace Go.AI
@[go_sem ↓] theorem updF_2_0' (a b x:CV):updF (ofL [a,b]) 0 [x]=ofL [x,b]:=updF_at [a,b] 0 x (by simp)
@[go_sem ↓] theorem updF_2_1' (a b x:CV):updF (ofL [a,b]) 1 [x]=ofL [a,x]:=updF_at [a,b] 1 x (by simp)
end Go.AI
namespace Go.PN
open Go.AI
abbrev zdc (t:Bool) (z:ZD):List CV:=[dns t z.nodes,.int .i64 z.root]
end Go.PN
namespace Go.Proofs.YtfcnbgmclfkfcaaGreat
open Go.AI Go.PN
attribute [local irreducible] aw Fa Fh DrK
abbrev SZ6 (g1 g2 g3 g4 gd gT:Nat) (most:Int) (sl:List Int):Heap:=
 [(g1,.cells 157 1 (ofL [.raw (.map (some gd))])),(g2,.cells 3 1 (ofL [.int .i64 most])),(g3,.cells 158 1 (ofL [fnC 220 [g1,g2,g3,g4]])),(g4,.cells 181 1 (ofL [.optr gT 0])),(gd,.gen (MapI keyI (snL sl)))]
set_option maxRecDepth 100000 in
set_option maxHeartbeats 6400000 in
theorem zswalk_fh (g1 g2 g3 g4 gd gT gU gM:Nat) (most:Int) {n:Nat} {og:Option Nat} {ns:List DN} {mm:Mem3} (hs:ZS n og ns mm) (hn:ns.length≤1000000000):∀(k:Nat) (r:Int) (sl:List Int),r.toNat<k→RefOk ns r→
 Fh Tryz.prog 220 (SZ6 g1 g2 g3 g4 gd gT most sl++ZHp gT gU gM og ns mm) ([.c (.int .i64 r)]++[g1,g2,g3,g4].map fun g=>.c (.optr g 0)) (fun x h=>∃sl',ZSm n ns sl sl' r∧x=.tup []∧h=SZ6 g1 g2 g3 g4 gd gT most sl'++ZHp gT gU gM og ns mm):=by
 intro k
 induction k with
 |zero=>intro r sl hk;omega
 |succ k ih=>
  intro r sl hk hr
  simp only [List.cons_append,List.nil_append,List.map_cons,List.map_nil]
  refine fh_of_body Tryz.func220 rfl rfl (by simp [Tryz.ntmps220]) fun C hC=> ?_
  simp only [initS,Nat.reduceAdd]
  simp only [SZ6,ZHp,ZH,List.cons_append,List.nil_append]
  refine aw_nd fun hnd=> ?_
  simp only [Heap.keys,List.map_cons] at hnd
  replace hnd:=ndP_of hnd
  dsimp only [ndP,neA] at hnd
  refine yG hnd ?_
  refine aw_split 8 (zE hnd) (fun h1=> ?_) (fun h1=> ?_)<;>refine yS hnd ?_
  ·refine yGPGU hnd ?_
   exact⟨sl,ZSm.same,rfl,rfl⟩
  have h1':=of_decide_eq_false h1
  have h2:2≤r:=by omega
  refine yG hnd ?_
  refine aw_lookup (a:=r) (kv:=snL sl) (Kf:=keyI) (kt:=3) (et:=4) rfl rfl rfl (by kernel_rfl) ty_ki ty_bz (zE hnd) (zE hnd) (zE hnd) keyI_rep ?_
  refine yS hnd ?_
  rw [sn_get]
  by_cases hm:r∈sl
  ·rw [if_pos hm]
   simp only [Option.getD_some,cstC]
   refine yGPGU hnd ?_
   exact⟨sl,ZSm.same,rfl,rfl⟩
  rw [if_neg hm]
  simp only [Option.getD_none,cstC]
  refine yG hnd ?_
  refine aw_lenMap (kv:=snL sl) (Kf:=keyI) (kt:=3) (et:=4) rfl rfl rfl (by kernel_rfl) (zE hnd) (zE hnd) ?_
  refine ySG hnd ?_
  refine yF hnd (fun h3=>?_) fun h3=>?_
  ·refine yG hnd ?_
   refine yU hnd ?_
   exact⟨sl,ZSm.same,rfl,rfl⟩
  obtain⟨g,rfl⟩:∃g,og=some g:=by
   cases og with
   |none=>have:=hs.og rfl;unfold RefOk at hr;omega
   |some g=>exact⟨g,rfl⟩
  simp only [gh,List.map_cons,List.map_nil,neA,ndP] at hnd
  simp only [gs,gh]
  have hi:(r-2).toNat<ns.length:=by unfold RefOk at hr;omega
  obtain⟨w0,w1,w2,w3,w4,w5⟩:=(hs.tab.ns _ hi)
  obtain⟨kl,kh⟩:=hs.tab.kids hi
  have hrl:r<ns.length+2:=hr.2
  have nd0:∀s1 s2,ZSm n ns (sl++[r]) s1 (ns.getD (r-2).toNat dn0).lo→ZSm n ns s1 s2 (ns.getD (r-2).toNat dn0).hi→ZSm n ns sl s2 r:=fun s1 s2 a b=>ZSm.node hs.tab h2 hrl a b
  generalize hx0:ns.getD (r-2).toNat dn0=nd at*
  have J1:=oj hnd hx0
  refine yG J1 ?_
  refine aw_mapNew (a:=r) (kv:=snL sl) (Kf:=keyI) (v:=.bool true) rfl rfl rfl (kt:=3) (et:=4) (by kernel_rfl) ty_ki (zE J1) (zE J1) (zE J1) keyI_rep (cv:=.c (.bool true)) (zE J1) (fun S w u h=>h) (by rw [sn_get,if_neg hm]) (zE J1) ?_
  rw [sn_push]
  refine ySG J1 ?_
  refine aw_cw ([(g3,.cells 158 1 (ofL [fnC 220 [g1,g2,g3,g4]])),(g4,.cells 181 1 (ofL [.optr gT 0])),(gT,.cells 224 3 (ofL [.osl g 3 0 ns.length,.raw (.map (some gU)),.raw (.map (some gM))])),(g,.cells 145 (ns.length*3) (dnsF ns))]) [(0,0),(1,0),(2,0),(3,0),(4,0),(5,0),(6,0),(7,0),(8,0),(9,0),(10,1)] ty_mixed (by kernel_rfl) eI ?_
  refine yG J1 ?_
  refine cw_callhv (gs:=[g1,g2,g3,g4]) (hr:=[]) rfl (ih nd.lo (sl++[r]) om kl) rfl rfl rfl (zE J1) (by rw [List.append_nil];exact .refl _) (zL J1) (by
   rintro _ _ ⟨_,_,rfl,rfl⟩;simp only [SZ6,ZHp,ZH,gs,gh,List.append_assoc,List.cons_append,List.nil_append];exact eI) ?_ (hm:=.inr ⟨rfl,rfl⟩)
  rintro _ _ ⟨sl1,m1,rfl,rfl⟩ _
  rw [List.append_nil]
  simp only [SZ6,ZHp,ZH,gs,gh,List.cons_append,List.nil_append]
  refine ySG J1 ?_
  refine aw_cw ([(g3,.cells 158 1 (ofL [fnC 220 [g1,g2,g3,g4]])),(g4,.cells 181 1 (ofL [.optr gT 0])),(gT,.cells 224 3 (ofL [.osl g 3 0 ns.length,.raw (.map (some gU)),.raw (.map (some gM))])),(g,.cells 145 (ns.length*3) (dnsF ns))]) [(0,0),(1,0),(2,0),(3,0),(4,0),(5,0),(6,0),(7,0),(8,0),(9,0),(10,1)] ty_mixed (by kernel_rfl) eI ?_
  refine yG J1 ?_
  refine cw_callhv (gs:=[g1,g2,g3,g4]) (hr:=[]) rfl (ih nd.hi sl1 om kh) rfl rfl rfl (zE J1) (by rw [List.append_nil];exact .refl _) (zL J1) (by
   rintro _ _ ⟨_,_,rfl,rfl⟩;simp only [SZ6,ZHp,ZH,gs,gh,List.append_assoc,List.cons_append,List.nil_append];exact eI) ?_ (hm:=.inr ⟨rfl,rfl⟩)
  rintro _ _ ⟨sl2,m2,rfl,rfl⟩ _
  rw [List.append_nil]
  refine ySG J1 ?_
  refine yV J1 ?_
  exact⟨sl2,nd0 sl1 sl2 m1 m2,rfl,rfl⟩
set_option maxRecDepth 100000 in
set_option maxHeartbeats 3200000 in
theorem zsmall_fh (gT gU gM:Nat) {n:Nat} {og:Option Nat} {ns:List DN} {mm:Mem3} (hs:ZS n og ns mm) (hn:ns.length≤1000000000) {r:Int} (hr:RefOk ns r) {most:Int} (hm:((2^n:Nat):Int)≤most+1):
 Fh Tryz.prog 197 (ZHp gT gU gM og ns mm) [.c (.optr gT 0),.c (.int .i64 r),.c (.int .i64 most)] (fun x h=>x=.c (.bool true)∧h=ZHp gT gU gM og ns mm):=by
 refine fh_of_body Tryz.func197 rfl rfl (by simp [Tryz.ntmps197]) fun C hC=> ?_
 simp only [initS,Nat.reduceAdd]
 unfold ZHp ZH
 simp only [List.cons_append,List.nil_append]
 refine xG ?_
 refine xB fun g3 hn_g3=>?_
 refine yG hn_g3 ?_
 refine yB hn_g3 fun g5 hn_g5=>?_
 refine yG (oj hn_g3 hn_g5) ?_
 refine aw_makeMap (Kf:=keyI) rfl rfl rfl fun gd hn_gd=> ?_
 replace hn_gd:=Heap.ne_of hn_gd
 dsimp only [Heap.ne,gh] at hn_gd
 have J1:=oj hn_g3 (oj hn_g5 hn_gd)
 refine ySG J1 ?_
 refine yA J1 fun g7 hn_g7=>?_
 have J2:=oj hn_g3 (oj hn_g5 (oj hn_gd hn_g7))
 refine yGWSG J2 ?_
 refine yA J2 fun g8 hn_g8=>?_
 have J3:=oj hn_g3 (oj hn_g5 (oj hn_gd (oj hn_g7 hn_g8)))
 refine yG J3 ?_
 refine aw_makeFunc (gs:=[g7,g5,g8,g3]) rfl rfl rfl (zE J3) ?_
 refine ySGWSG J3 ?_
 refine aw_callhv (hr:=[]) (zswalk_fh g7 g5 g8 g3 gd gT gU gM most hs hn (r.toNat+1) r [] om hr) rfl rfl rfl (zE J3) ?hp (zL J3) ?_
 ·rw [List.append_nil]
  exact(permL [(g8,_),(g7,_),(gd,_),(g5,_),(g3,_)] [0,1,2,3,4] [1,3,0,4,2] (by decide)).append_right (ZHp gT gU gM og ns mm)
 rintro _ _ ⟨sl,m,rfl,rfl⟩ _
 rw [List.append_nil]
 have hl:sl.length≤2^n-1:=by
  have h0:=(evZ_le hs.tab hr).1
  have:=m.len
  have hp:2^((n:Int)-evZ n ns r).toNat≤2^n:=Nat.pow_le_pow_right om om
  simp only [List.length_nil] at this
  omega
 have hd:decide ((sl.length:Int)≤most)=true:=decide_eq_true (by
  have:=Nat.pow_pos (n:=n) (show 0<2 by omega)
  omega)
 unfold ZHp ZH SZ6
 simp only [List.cons_append,List.nil_append]
 refine ySG J3 ?_
 refine aw_lenMap (kv:=snL sl) (Kf:=keyI) (kt:=3) (et:=4) rfl rfl rfl (by kernel_rfl) (zE J3) (zE J3) ?_
 rw [show(snL sl).length=sl.length from by simp [snL]]
 have J4:=oj hn_g3 (oj hn_g5 (oj hn_gd (oj hn_g7 (oj hn_g8 hd))))
 refine ySG J4 ?_
 refine aw_keep [(6,.c (.bool true))] (ZHp gT gU gM og ns mm) (zB J4) (List.sublist_append_right (SZ6 g7 g5 g8 g3 gd gT most sl) _) ?_
 refine yU J4 ?_
 exact⟨rfl,rfl⟩
abbrev XZ5 (g1 g2 g3 g4 gd gT:Nat) (rs:List Int) (oN:Option Nat) (n:Nat):Heap:=
 [(g1,.cells 159 1 (ofL [.raw (.map (some gd))])),(g2,.cells 181 1 (ofL [.optr gT 0])),(g3,.cells 91 1 (ofL [fnC 221 [g1,g2,g3,g4]])),(g4,.cells 133 2 (ofL [gs oN 3 n,.int .i64 0])),(gd,.gen (MapI keyI (dnL (exL rs))))]
abbrev HXZ (g1 g2 g3 g4 gd gT gU gM:Nat) (og:Option Nat) (ns:List DN) (mm:Mem3) (rs:List Int) (oN:Option Nat) (os:List DN):Heap:=
 (XZ5 g1 g2 g3 g4 gd gT rs oN os.length++ZHp gT gU gM og ns mm)++gh oN 145 (os.length*3) (dnsF os)
set_option maxRecDepth 100000 in
set_option maxHeartbeats 6400000 in
theorem zewalk_fh (g1 g2 g3 g4 gd gT gU gM:Nat) {n:Nat} {og:Option Nat} {ns:List DN} {mm:Mem3} (hs:ZS n og ns mm) (hn:ns.length≤1000000000):∀(k:Nat) (r:Int) (rs:List Int) (oN:Option Nat) (os:List DN),r.toNat<k→RefOk ns r→ExOk ns rs os→(oN=none→os.length=0)→
 Fh Tryz.prog 221 (HXZ g1 g2 g3 g4 gd gT gU gM og ns mm rs oN os) ([.c (.int .i64 r)]++[g1,g2,g3,g4].map fun g=>.c (.optr g 0)) (fun x h=>∃rs' oN' os' y,ZEx n ns rs os rs' os' r y∧(oN'=none→os'.length=0)∧x=.c (.int .i64 y)∧h=HXZ g1 g2 g3 g4 gd gT gU gM og ns mm rs' oN' os'):=by
 intro k
 induction k with
 |zero=>intro r rs oN os hk;omega
 |succ k ih=>
  intro r rs oN os hk hr hx hoN
  simp only [List.cons_append,List.nil_append,List.map_cons,List.map_nil]
  refine fh_of_body Tryz.func221 rfl rfl (by simp [Tryz.ntmps221]) fun C hC=> ?_
  simp only [initS,Nat.reduceAdd]
  simp only [HXZ,XZ5,ZHp,ZH,List.cons_append,List.nil_append]
  refine aw_nd fun hnd=> ?_
  simp only [Heap.keys,List.map_cons] at hnd
  replace hnd:=ndP_of hnd
  dsimp only [ndP,neA] at hnd
  refine yG hnd ?_
  refine aw_lookup2 (a:=r) (kv:=dnL (exL rs)) (Kf:=keyI) (kt:=3) (et:=3) rfl rfl rfl (by kernel_rfl) ty_ki ty_iz (zE hnd) (zE hnd) (zE hnd) keyI_rep ?_
  refine yS hnd ?_
  rw [dn_get,exL_get hr.1 rs (fun x hm=>(hx.bd x hm).1)]
  cases hf:exR rs r with
  |some y=>
   try simp only [Option.map_some,Option.getD_some,Option.isSome_some,cstC]
   refine yGPGU hnd ?_
   exact⟨rs,oN,os,y,zex_same hx hf,hoN,rfl,by simp only [HXZ,XZ5,ZHp,ZH,List.cons_append,List.nil_append]⟩
  |none=>
   try simp only [Option.map_none,Option.getD_none,Option.isSome_none,cstC]
   refine yG hnd ?_
   refine yN hnd ?_
   have h2:2≤r:=by
    refine Classical.byContradiction fun h=> ?_
    unfold exR at hf
    rw [if_pos om] at hf
    cases hf
   have hnew:r∉rs:=fun hm=>by
    unfold exR at hf
    rw [if_neg om,if_pos hm] at hf
    cases hf
   obtain⟨g,rfl⟩:∃g,og=some g:=by
    cases og with
    |none=>have:=hs.og rfl;unfold RefOk at hr;omega
    |some g=>exact⟨g,rfl⟩
   have hi:(r-2).toNat<ns.length:=by unfold RefOk at hr;omega
   have hrl:r<ns.length+2:=hr.2
   obtain⟨w0,w1,w2,w3,w4,w5⟩:=(hs.tab.ns _ hi)
   obtain⟨kl,kh⟩:=hs.tab.kids hi
   have hnode:∀{rs1 rs2:List Int} {os1 os2:List DN} {xl xh:Int},ZEx n ns rs os rs1 os1 (ns.getD (r-2).toNat dn0).lo xl→ZEx n ns rs1 os1 rs2 os2 (ns.getD (r-2).toNat dn0).hi xh→r∉rs2∧ZEx n ns rs os (rs2++[r]) (os2++[⟨(ns.getD (r-2).toNat dn0).v,xl,xh⟩]) r ((rs2.length:Int)+2):=fun a b=>zex_node hs.tab h2 hrl hnew a b
   simp only [gs,gh,List.cons_append,List.nil_append]
   clear hnd
   refine aw_nd fun hnd=> ?_
   simp only [Heap.keys,List.map_cons,List.map_append] at hnd
   replace hnd:=ndP_of hnd
   dsimp only [ndP,neA] at hnd
   generalize hx0:ns.getD (r-2).toNat dn0=nd at*
   refine yG (oj hnd hx0) ?_
   refine yA (oj hnd hx0) fun g9 hn_g9=>?_
   have J1:=oj hnd (oj hx0 hn_g9)
   refine yGWSG J1 ?_
   refine aw_callhv (hr:=[(g9,.cells 145 3 (ofL [.int .i64 nd.v,.int .i64 nd.lo,.int .i64 nd.hi]))]) (gs:=[g1,g2,g3,g4]) (ih nd.lo rs oN os om kl hx hoN) rfl rfl rfl (zE J1) ?_ (zL J1) ?_
   ·exact List.perm_append_comm (l₁:=[(g9,_)])
   rintro _ _ ⟨rs1,oN1,os1,xl,a1,hoN1,rfl,rfl⟩ _
   refine aw_perm List.perm_append_comm ?_
   simp only [HXZ,XZ5,ZHp,ZH,gs,gh,List.cons_append,List.nil_append]
   clear hnd J1
   refine aw_nd fun hnd=> ?_
   simp only [Heap.keys,List.map_cons,List.map_append] at hnd
   replace hnd:=ndP_of hnd
   dsimp only [ndP,neA] at hnd
   refine ySG hnd ?_
   refine aw_callhv (hr:=[(g9,.cells 145 3 (ofL [.int .i64 nd.v,.int .i64 nd.lo,.int .i64 nd.hi]))]) (gs:=[g1,g2,g3,g4]) (ih nd.hi rs1 oN1 os1 om kh a1.ok hoN1) rfl rfl rfl (zE hnd) ?_ (zL hnd) ?_
   ·exact List.perm_append_comm (l₁:=[(g9,_)])
   rintro _ _ ⟨rs2,oN2,os2,xh,b1,hoN2,rfl,rfl⟩ _
   refine aw_perm List.perm_append_comm ?_
   simp only [HXZ,XZ5,ZHp,ZH,gh,List.cons_append,List.nil_append]
   clear hnd
   refine aw_nd fun hnd=> ?_
   simp only [Heap.keys,List.map_cons,List.map_append] at hnd
   replace hnd:=ndP_of hnd
   dsimp only [ndP,neA] at hnd
   obtain⟨hout,hex⟩:=hnode a1 b1
   have l2:=b1.ok.len
   have l3:=b1.ok.lenle
   have hlen:=lenCV_gs (s:=3) hoN2
   (try simp only[go_sem,hnd,↓hlen])
   repeat first|apply wa1|apply wa2|apply wa3|apply wa4|apply wa5 rfl|apply wa6|apply wa7|(refine wb1 rfl fun R r=>?_;simp only[go_sem,hnd,↓hlen];with_reducible show R (some _);with_reducible refine r _ _ ?_;clear r R)
   refine aw_push (pre:=[(g9,.cells 145 3 (ofL [.int .i64 nd.v,.int .i64 nd.lo,.int .i64 nd.hi])),(g1,.cells 159 1 (ofL [.raw (.map (some gd))])),(g2,.cells 181 1 (ofL [.optr gT 0])),(g3,.cells 91 1 (ofL [fnC 221 [g1,g2,g3,g4]])),(g4,.cells 133 2 (ofL [gs oN2 3 os2.length,.int .i64 0])),(gd,.gen (MapI keyI (dnL (exL rs2)))),(gT,.cells 224 3 (ofL [.osl g 3 0 ns.length,.raw (.map (some gU)),.raw (.map (some gM))])),(gU,.gen (MapI dkV (uqTo ns 0))),(gM,.gen (MapI keyS (mmL mm))),(g,.cells 145 (ns.length*3) (dnsF ns))]) rfl rfl rfl rfl rfl rfl rfl (by simp only[go_sem,hnd,↓hlen]<;>rfl) (by simp only[go_sem,hnd,↓hlen]<;>rfl) (by rfl) om om (by simp only[go_sem,hnd,↓hlen]<;>rfl) om (by exact hoN2) (by simp only[go_sem,hnd,↓hlen]<;>rfl) (by rfl) (by rfl) (by first|rfl|simp only [Nat.mul_one,List.nil_append,List.cons_append]<;>rfl) (by unfold maxLen;omega) om (by exact lf_push (xs:=os2) rfl (⟨nd.v,xl,xh⟩:DN) om) fun gN hn_gN=> ?_
   replace hn_gN:=Heap.ne_of hn_gN
   first|dsimp only [Heap.ne,gh] at hn_gN|dsimp only [Heap.ne] at hn_gN|skip
   (try simp only[go_sem,hnd,↓hlen,hn_gN])
   simp only [gs,gh,List.cons_append,List.nil_append]
   repeat first|apply wa1|apply wa2|apply wa3|apply wa4|apply wa5 rfl|apply wa6|apply wa7|(refine wb1 rfl fun R r=>?_;simp only[go_sem,hnd,↓hlen,hn_gN];with_reducible show R (some _);with_reducible refine r _ _ ?_;clear r R)
   refine aw_store rfl rfl rfl rfl (by simp only[go_sem,hnd,↓hlen,hn_gN]<;>rfl) (by simp only[go_sem,hnd,↓hlen,hn_gN]<;>rfl) (by simp only[go_sem,hnd,↓hlen,hn_gN]<;>rfl) (by simp only[go_sem,hnd,↓hlen,hn_gN]<;>rfl) (fun _ e=>by cases e) (by first|rfl|exact solid_gs3|exact solid_gs2) (by rfl) (by first|omega|simp) rfl ?_
   (try simp only[go_sem,hnd,↓hlen,hn_gN])
   repeat first|apply wa1|apply wa2|apply wa3|apply wa4|apply wa5 rfl|apply wa6|apply wa7|(refine wb1 rfl fun R r=>?_;simp only[go_sem,hnd,↓hlen,hn_gN];with_reducible show R (some _);with_reducible refine r _ _ ?_;clear r R)
   have e1:(1:Int)+((os2.length+1:Nat):Int)=2+(rs2.length:Int):=by omega
   have e1':(1:Int)+((os2.length:Int)+1)=2+(rs2.length:Int):=by omega
   have hb2:∀x∈rs2,2≤x:=fun x hm=>(b1.ok.bd x hm).1
   refine aw_mapNew (a:=r) (kv:=dnL (exL rs2)) (Kf:=keyI) (v:=.int .i64 (2+(rs2.length:Int))) rfl rfl rfl (kt:=3) (et:=3) (by kernel_rfl) ty_ki (by simp only[go_sem,hnd,↓hlen,hn_gN]<;>rfl) (by simp only[go_sem,hnd,↓hlen,hn_gN]<;>rfl) (by simp only[go_sem,hnd,↓hlen,hn_gN]<;>rfl) keyI_rep (cv:=.c (.int .i64 (2+(rs2.length:Int)))) (by(try simp only[go_sem,hnd,↓hlen,hn_gN]);first|rfl|rw [e1]|rw [e1']) (fun S w u h=>h) (by rw [dn_get,exL_get hr.1 rs2 hb2];unfold exR;rw [if_neg om,if_neg hout];rfl) (by simp only[go_sem,hnd,↓hlen,hn_gN]<;>rfl) ?_
   rw [dnL_push,exL_push]
   (try simp only[go_sem,hnd,↓hlen,hn_gN])
   repeat first|apply wa1|apply wa2|apply wa3|apply wa4|apply wa5 rfl|apply wa6|apply wa7|(refine wb1 rfl fun R r=>?_;simp only[go_sem,hnd,↓hlen,hn_gN];with_reducible show R (some _);with_reducible refine r _ _ ?_;clear r R)
   refine aw_lookup (a:=r) (kv:=dnL (exL (rs2++[r]))) (Kf:=keyI) (kt:=3) (et:=3) rfl rfl rfl (by kernel_rfl) ty_ki ty_iz (by simp only[go_sem,hnd,↓hlen,hn_gN]<;>rfl) (by simp only[go_sem,hnd,↓hlen,hn_gN]<;>rfl) (by simp only[go_sem,hnd,↓hlen,hn_gN]<;>rfl) keyI_rep ?_
   rw [dn_get,exL_get hr.1 _ (fun x hm=>by rcases List.mem_append.1 hm with hm|hm;exact hb2 x hm;rw [List.mem_singleton] at hm;omega),hex.ref]
   try simp only [Option.map_some,Option.getD_some,cstC]
   (try simp only[go_sem,hnd,↓hlen,hn_gN])
   repeat first|apply wa1|apply wa2|apply wa3|apply wa4|apply wa5 rfl|apply wa6|apply wa7|(refine wb1 rfl fun R r=>?_;simp only[go_sem,hnd,↓hlen,hn_gN];with_reducible show R (some _);with_reducible refine r _ _ ?_;clear r R)
   refine aw_keep [(6,.c (.int .i64 ((rs2.length:Int)+2)))] (HXZ g1 g2 g3 g4 gd gT gU gM (some g) ns mm (rs2++[r]) (some gN) (os2++[⟨nd.v,xl,xh⟩])) (by simp only[go_sem,hnd,↓hlen,hn_gN]<;>and_intros<;>first|exact True.intro|(with_reducible rfl)|exact c_int om|rfl) (by
    simp only [HXZ,XZ5,ZHp,ZH,gs,gh,List.cons_append,List.nil_append,List.length_append,List.length_singleton]
    exact List.Sublist.cons _ (List.Sublist.refl _)) ?_
   (refine aw_rethq rfl fun R r=>?_;simp only[go_sem,hnd,↓hlen,hn_gN];refine r _ rfl ?_;clear r R)
   exact⟨rs2++[r],some gN,os2++[⟨nd.v,xl,xh⟩],_,hex,some_ne,rfl,rfl⟩
set_option maxRecDepth 100000 in
set_option maxHeartbeats 3200000 in
theorem zexport_fh (gT gU gM:Nat) {n:Nat} {og:Option Nat} {ns:List DN} {mm:Mem3} (hs:ZS n og ns mm) (hn:ns.length≤1000000000) {r:Int} (hr:RefOk ns r):
 Fh Tryz.prog 198 (ZHp gT gU gM og ns mm) [.c (.optr gT 0),.c (.int .i64 r)] (fun x h=>∃rs os y,ZEx n ns [] [] rs os r y∧x=.agg (zdc true ⟨os,y⟩)∧h=ZHp gT gU gM og ns mm):=by
 refine fh_of_body Tryz.func198 rfl rfl (by simp [Tryz.ntmps198]) fun C hC=> ?_
 simp only [initS,Nat.reduceAdd]
 unfold ZHp ZH
 simp only [List.cons_append,List.nil_append]
 refine xG ?_
 refine xB fun g2 hn_g2=>?_
 refine yG hn_g2 ?_
 refine yA hn_g2 fun g4 hn_g4=>?_
 refine yG (oj hn_g2 hn_g4) ?_
 refine yA (oj hn_g2 hn_g4) fun g5 hn_g5=>?_
 refine yG (oj hn_g2 (oj hn_g4 hn_g5)) ?_
 refine aw_makeMap (Kf:=keyI) rfl rfl rfl fun gd hn_gd=> ?_
 replace hn_gd:=Heap.ne_of hn_gd
 dsimp only [Heap.ne,gh] at hn_gd
 have J1:=oj hn_g2 (oj hn_g4 (oj hn_g5 hn_gd))
 refine ySG J1 ?_
 refine aw_insNew (a:=0) (kv:=[]) (Kf:=keyI) (v:=.int .i64 0) rfl rfl rfl (kt:=3) (et:=3) (by kernel_rfl) ty_ki (zE J1) (zE J1) (zE J1) keyI_rep (cv:=.c (.int .i64 0)) (zE J1) (fun S w u h=>h) rfl (zE J1) ?_
 refine ySG J1 ?_
 refine aw_insNew (a:=1) (kv:=[(0,.int .i64 0)]) (Kf:=keyI) (v:=.int .i64 1) rfl rfl rfl (kt:=3) (et:=3) (by kernel_rfl) ty_ki (zE J1) (zE J1) (zE J1) keyI_rep (cv:=.c (.int .i64 1)) (zE J1) (fun S w u h=>h) rfl (zE J1) ?_
 refine ySG J1 ?_
 refine yA J1 fun g6 hn_g6=>?_
 have J2:=oj hn_g2 (oj hn_g4 (oj hn_g5 (oj hn_gd hn_g6)))
 refine yGWSG J2 ?_
 refine yA J2 fun g7 hn_g7=>?_
 have J3:=oj hn_g2 (oj hn_g4 (oj hn_g5 (oj hn_gd (oj hn_g6 hn_g7))))
 refine yG J3 ?_
 refine aw_makeFunc (gs:=[g6,g2,g7,g5]) rfl rfl rfl (zE J3) ?_
 refine ySGWSG J3 ?_
 refine aw_callhv (hr:=[(g4,.cells 133 2 (ofL [.nils,.int .i64 0]))]) (zewalk_fh g6 g2 g7 g5 gd gT gU gM hs hn (r.toNat+1) r [] none [] om hr (ExOk.nil ns) (fun _=>rfl)) rfl rfl rfl (zE J3) ?hp (zL J3) ?_
 ·have e:HXZ g6 g2 g7 g5 gd gT gU gM og ns mm [] none []=XZ5 g6 g2 g7 g5 gd gT [] none 0++ZHp gT gU gM og ns mm:=List.append_nil _
  rw [e]
  refine((permL [(g7,_),(g6,_),(gd,_),(g5,_),(g4,_),(g2,_)] [0,1,2,3,4,5] [4,1,5,0,3,2] (by decide)).append_right (ZHp gT gU gM og ns mm)).trans ?_
  exact(List.perm_append_singleton (g4,_) (XZ5 g6 g2 g7 g5 gd gT [] none 0++ZHp gT gU gM og ns mm)).symm
 rintro _ _ ⟨rs,oN,os,y,hex,hoN,rfl,rfl⟩ _
 unfold HXZ XZ5 ZHp ZH
 simp only [List.cons_append,List.nil_append,List.append_assoc]
 refine ySGWS J3 ?_
 refine aw_keep [(4,.c (.optr g4 0)),(5,.c (.optr g5 0))] ((g5,.cells 133 2 (ofL [gs oN 3 os.length,.int .i64 y]))::([(gT,.cells 224 3 (ofL [gs og 3 ns.length,.raw (.map (some gU)),.raw (.map (some gM))])),(gU,.gen (MapI dkV (uqTo ns 0))),(gM,.gen (MapI keyS (mmL mm)))]++(gh og 145 (ns.length*3) (dnsF ns)++(gh oN 145 (os.length*3) (dnsF os)++[(g4,.cells 133 2 (ofL [.nils,.int .i64 0]))])))) (zB J3) (List.Sublist.cons _ (List.Sublist.cons _ (List.Sublist.cons _ (List.Sublist.cons_cons _ (List.Sublist.cons _ (List.Sublist.refl _)))))) ?_
 refine aw_perm (List.Perm.cons _ (perm_ex _ _ _ _)) ?_
 refine aw_nd fun hnd=> ?_
 refine aw_frzG (j0:=0) (og:=oN) (s:=3) (n:=os.length) (f':=ofL [dns true os,.int .i64 y]) rfl rfl (fun j hj hne=> ?_) hoN (fun g e=> ?_) ?_
 ·match j,hj,hne with
  |0,_,hne=>exact absurd rfl hne
  |1,_,_=>rfl
 ·subst e
  intro hown
  have hm:g∈Heap.keys (ZHp gT gU gM og ns mm):=(hC g).1 hown
  have h1:(g5::g::g4::Heap.keys (ZHp gT gU gM og ns mm)).Nodup:=hnd
  exact(List.nodup_cons.1 (List.nodup_cons.1 h1).2).1 (List.mem_cons_of_mem _ hm)
 clear hnd J1 J2 J3
 simp only [List.cons_append,List.nil_append]
 have J4:=oj hn_g2 (oj hn_g4 (oj hn_g5 (oj hn_gd (oj hn_g6 hn_g7))))
 refine ySGWSG J4 ?_
 refine aw_keep [(4,.c (.optr g4 0))] ((g4,.cells 133 2 (ofL (zdc true ⟨os,y⟩)))::ZHp gT gU gM og ns mm) (zB J4) (List.Sublist.cons _ (List.Sublist.refl _)) ?_
 refine aw_rethw (h':=ZHp gT gU gM og ns mm) rfl (List.Sublist.cons _ (List.Sublist.refl _)) (fun R hR=> ?_)
 simp only [go_sem,hn_g2,hn_g4,hn_g5,hn_gd,hn_g6,hn_g7]
 refine hR _ rfl ?_
 clear hR R
 exact⟨rs,os,y,hex,rfl,rfl⟩
end Go.Proofs.YtfcnbgmclfkfcaaGreat
namespace Go.PN
open Go.AI
theorem mkZ_take {n:Nat} {ns:List DN} (h:ZTab n ns) {k:Nat} (hk:k<ns.length):mkZ (ns.take k) (ns.getD k dn0).v (ns.getD k dn0).lo (ns.getD k dn0).hi=(ns.take (k+1),2+(k:Int)):=by
 have nd:=h k hk
 have hl:(ns.take k).length=k:=by rw [List.length_take];omega
 unfold mkZ
 rw [if_neg nd.hi]
 cases hf:findN ⟨(ns.getD k dn0).v,(ns.getD k dn0).lo,(ns.getD k dn0).hi⟩ (ns.take k) 0 with
 |some i=>
  obtain⟨_,i2,i3⟩:=findN_some hf
  rw [Nat.sub_zero] at i3
  exfalso
  refine nd.new ?_
  rw [show ns.getD k dn0=⟨(ns.getD k dn0).v,(ns.getD k dn0).lo,(ns.getD k dn0).hi⟩ from rfl,←i3,List.getD_eq_getElem?_getD,List.getElem?_eq_getElem om]
  exact List.getElem_mem _
 |none=>
  rw [takeDN_push hk,hl]
theorem ZTab.take {n:Nat} {ns:List DN} (h:ZTab n ns) (k:Nat):ZTab n (ns.take k):=fun i hi=>by
 rw [List.length_take] at hi
 obtain⟨nk,h0,bl,bh,new⟩:=h i om
 have e:∀j,j<k→j<ns.length→(ns.take k).getD j dn0=ns.getD j dn0:=fun j h1 h2=>by
  rw [List.getD_eq_getElem?_getD,List.getD_eq_getElem?_getD,List.getElem?_take,if_pos h1]
 obtain⟨v0,v1,l0,l1,g0,g1⟩:=nk
 have hev:∀r:Int,0≤r→r<i+2→evZ n (ns.take k) r=evZ n ns r:=fun r h0 h1=>by
  unfold evZ
  split
  ·rfl
  ·rw [e _ om om]
 rw [←e i om om] at v0 v1 l0 l1 g0 g1 h0 bl bh new
 refine⟨⟨v0,v1,l0,l1,g0,g1⟩,h0,by rw [hev _ l0 om];exact bl,by rw [hev _ g0 om];exact bh,?_⟩
 rw [List.take_take,Nat.min_eq_left om]
 exact new
end Go.PN
namespace Go.Proofs.YtfcnbgmclfkfcaaGreat
open Go.AI Go.PN
attribute [local irreducible] aw Fa Fh DrK
set_option maxRecDepth 100000 in
set_option maxHeartbeats 1600000 in
theorem newSets_fh:Fh Tryz.prog 195 [] [] (fun x h=>∃gT gU gM,x=.c (.optr gT 0)∧h=ZHp gT gU gM none [] []):=by
 refine fh_of_body Tryz.func195 rfl rfl (by simp [Tryz.ntmps195]) fun C hC=> ?_
 simp only [initS,Nat.reduceAdd]
 refine xG ?_
 refine aw_makeMap (Kf:=dkV) rfl rfl rfl fun gU hn_gU=> ?_
 replace hn_gU:=Heap.ne_of hn_gU
 dsimp only [Heap.ne] at hn_gU
 refine ySG hn_gU ?_
 refine aw_makeMap (Kf:=keyS) rfl rfl rfl fun gM hn_gM=> ?_
 replace hn_gM:=Heap.ne_of hn_gM
 dsimp only [Heap.ne] at hn_gM
 have J1:=oj hn_gU hn_gM
 refine ySG J1 ?_
 refine yB J1 fun gT hn_gT=>?_
 have J2:=oj hn_gU (oj hn_gM hn_gT)
 refine yG J2 ?_
 refine aw_perm (permL [(gT,_),(gM,_),(gU,_)] [0,1,2] [0,2,1] (by decide)) ?_
 refine yU J2 ?_
 exact⟨gT,gU,gM,rfl,rfl⟩
set_option maxRecDepth 100000 in
set_option maxHeartbeats 3200000 in
theorem zimport_fh (gT gU gM:Nat) {n:Nat} (z:ZD) (ht:ZTab n z.nodes) (hr:RefOk z.nodes z.root) (hn:z.nodes.length≤1000000):
 Fh Tryz.prog 200 (ZHp gT gU gM none [] []) [.c (.optr gT 0),.agg (zdc false z)] (fun x h=>∃og,(og=none→z.nodes.length=0)∧x=.c (.int .i64 z.root)∧h=ZHp gT gU gM og z.nodes []):=by
 have k2:=hr.1
 have k3:=hr.2
 refine fh_of_body Tryz.func200 rfl rfl (by simp [Tryz.ntmps200]) fun C hC=> ?_
 simp only [initS,Nat.reduceAdd]
 simp only [ZHp,ZH,List.cons_append,List.nil_append]
 refine xG ?_
 refine xB fun g3 hn_g3=>?_
 refine yG hn_g3 ?_
 refine aw_make (n:=z.nodes.length+2) (c:=z.nodes.length+2) (size:=1) (bytes:=8) (z:=[.int .i64 0]) rfl rfl rfl (zE hn_g3) (zE hn_g3) rfl om (zE hn_g3) (zE hn_g3) om om om om om fun g5 hn_g5=> ?_
 clear hn_g5 hn_g3
 simp only [Nat.mul_one]
 rw [make_is]
 refine aw_nd fun hnd=> ?_
 simp only [Heap.keys,List.map_cons] at hnd
 replace hnd:=ndP_of hnd
 dsimp only [ndP,neA] at hnd
 refine ySGWS hnd ?_
 rw [updF_is (zs:=List.replicate (z.nodes.length+2) 0) (i:=1) (v:=1) (by rw [List.length_replicate];omega)]
 refine yG hnd ?_
 refine aw_lp (fun x:Nat×Option Nat×List Int=>[(0,.c (.optr gT 0)),(3,.c (.optr g3 0)),(5,.c (.osl g5 1 0 (z.nodes.length+2))),(16,.c (dns false z.nodes)),(17,.c (.int .i64 z.nodes.length)),(18,.c (.int .i64 x.1))]) (fun x=>[(g5,.cells 3 (z.nodes.length+2) (isF x.2.2)),(g3,.cells 133 2 (ofL (zdc false z)))]++ZHp gT gU gM x.2.1 (z.nodes.take x.1) [])
  (fun x=>x.1≤z.nodes.length∧(x.2.1=none→(z.nodes.take x.1).length=0)∧x.2.2.length=z.nodes.length+2∧∀j:Nat,j<x.1+2→x.2.2.getD j 0=j) (fun x=>z.nodes.length-x.1) (0,none,(List.replicate (z.nodes.length+2) 0).set 1 1) (zB hnd) zZ ⟨Nat.zero_le _,fun _=>rfl,by simp,fun j hj=> ?_⟩ ?_
 ·obtain rfl|rfl:j=0∨j=1:=by dsimp only at hj;omega
  ·rw [getZset' om];simp
  ·rw [getZset (by rw [List.length_replicate];omega)];rfl
 clear hnd
 rintro ⟨k,og',rs⟩ ⟨hk,hs',hrl,hi⟩
 dsimp only at hk hs' hrl hi⊢
 simp only [ZHp,ZH,List.cons_append,List.nil_append]
 refine aw_nd fun hnd=> ?_
 simp only [Heap.keys,List.map_cons] at hnd
 replace hnd:=ndP_of hnd
 dsimp only [ndP,neA] at hnd
 refine yG hnd ?_
 refine yF hnd (fun h1=>?_) fun h1=>?_
 ·have h1':k<z.nodes.length:=dT h1
  obtain⟨v0,v1,l0,l1,q0,q1⟩:=(ht k h1').nk
  have hmk:=mkZ_take ht h1'
  have hlt:(z.nodes.take k).length=k:=by rw [List.length_take];omega
  refine yG hnd ?_
  refine yA hnd fun g7 hn_g7=>?_
  clear hn_g7
  refine aw_nd fun hnd2=> ?_
  simp only [Heap.keys,List.map_cons] at hnd2
  replace hnd2:=ndP_of hnd2
  dsimp only [ndP,neA] at hnd2
  clear hnd
  refine yGWS hnd2 ?_
  have e1:rs.getD (z.nodes.getD k dn0).lo.toNat 0=(z.nodes.getD k dn0).lo:=by rw [hi _ om];omega
  have e2:rs.getD (z.nodes.getD k dn0).hi.toNat 0=(z.nodes.getD k dn0).hi:=by rw [hi _ om];omega
  generalize hx0:z.nodes.getD k dn0=nd at*
  have J1:=oj hnd2 hx0
  refine yG J1 ?_
  refine aw_cw ([(g5,.cells 3 (z.nodes.length+2) (isF rs)),(g7,.cells 145 3 (ofL [.int .i64 nd.v,.int .i64 nd.lo,.int .i64 nd.hi]))]) [(0,0),(1,0),(2,0),(3,0),(4,0),(5,0),(6,0),(7,0),(8,0),(9,0),(10,0),(11,0),(12,0),(13,0),(14,0),(15,0),(16,1),(17,0),(18,2)] ty_mixed (by kernel_rfl) eI ?_
  refine yG J1 ?_
  have mk:=zmake_fh gT gU gM og' (z.nodes.take k) [] nd.v nd.lo nd.hi hs' om
  rw [hmk] at mk
  rw [e1,e2]
  refine cw_callh (hc:=ZHp gT gU gM og' (z.nodes.take k) []) (hr:=[(g7,.cells 145 3 (ofL [.int .i64 nd.v,.int .i64 nd.lo,.int .i64 nd.hi])),(g5,.cells 3 (z.nodes.length+2) (isF rs)),(g3,.cells 133 2 (ofL (zdc false z)))]) rfl mk rfl rfl rfl (List.perm_append_comm (l₁:=[(g7,_),(g5,_),(g3,_)])) (zL J1) (by
   rintro _ _ ⟨_,_,rfl,rfl⟩;exact has0_app2 eI) ?_ (hm:=.inr ⟨rfl,rfl⟩)
  rintro _ _ ⟨og2,hog2,rfl,rfl⟩ _
  refine yS J1 ?_
  refine cw_perm List.perm_append_comm ?_
  simp only [List.cons_append,List.nil_append]
  refine ySG J1 ?_
  refine cw_store (FP':=[]) rfl rfl rfl rfl rfl (zE J1) (zE J1) (zE J1) (zE J1) (fun _ e=>by cases e) rfl rfl (by show(2+(k:Int)).toNat+1≤_;omega) rfl has0_nil ?_
  simp only [AV.cells]
  rw [show((2:Int)+(k:Int)).toNat=2+k from by omega,updF_is om]
  refine ySG J1 ?_
  refine aw_stop ⟨(k+1,og2,rs.set (2+k) (2+(k:Int))),by dsimp only;omega,(zB J1),List.Sublist.cons _ (List.Sublist.refl _),by dsimp only;omega,hog2,by dsimp only;rw [List.length_set];exact hrl,fun j hj=> ?_⟩
  dsimp only at hj⊢
  by_cases e:j=2+k
  ·subst e;rw [getZset om];omega
  ·rw [getZset' om];exact hi j om
 ·have h1':k=z.nodes.length:=dF h1
  subst h1'
  have e1:rs.getD z.root.toNat 0=z.root:=by rw [hi _ om];omega
  refine yG (oj hnd e1) ?_
  refine aw_keep [(4,.c (.int .i64 z.root))] (ZHp gT gU gM og' (z.nodes.take z.nodes.length) []) (zB (oj hnd e1)) (List.Sublist.cons _ (List.Sublist.cons _ (List.Sublist.refl _))) ?_
  refine yU (oj hnd e1) ?_
  rw [List.take_length] at hs'⊢
  exact⟨og',hs',rfl,rfl⟩
end Go.Proofs.YtfcnbgmclfkfcaaGreat
namespace Go.PN
open Go.AI
def wtQ (y n:Nat) (qs:List Rat):Nat→Rat
 |0=>1
 |k+1=>wtQ y n qs k*wfac y n k (qs.getD k 0)
def smQ (qs:List Rat) (tb:List Bool):Nat→Rat
 |0=>0
 |k+1=>if tb.getD k false then smQ qs tb k+wtQ k (2^qs.length-1-k) qs qs.length else smQ qs tb k
theorem rd0_rd:rd0=rd 0:=rd_zero.symm
theorem map_rd_q (qs:List Rat) (k:Nat):((qs.map rd).getD k rd0).q=qs.getD k 0:=by
 rw [List.getD_eq_getElem?_getD,List.getD_eq_getElem?_getD,List.getElem?_map]
 cases qs[k]? with
 |none=>show rd0.q=0;rw [rd0_rd,rd_q]
 |some x=>exact rd_q x
theorem wtTo_rd (y n:Nat) (qs:List Rat):∀k,wtTo y n (qs.map rd) k=wtQ y n qs k
 |0=>rfl
 |k+1=>by rw [wtTo,wtQ,wtTo_rd y n qs k,map_rd_q]
theorem sumQ_rd (qs:List Rat) (tb:List Bool):∀k,sumQ (qs.map rd) tb k=smQ qs tb k
 |0=>rfl
 |k+1=>by rw [sumQ,smQ,sumQ_rd qs tb k,stQ,List.length_map,wtTo_rd]
theorem pcode_rd {qs:List Rat} {v:Int} (hl:(qs.length:Int)=v) (h:qs.all (fun q=>decide (0≤q)&&decide (q≤1))=true):pcode (qs.map rd) v=0:=by
 unfold pcode
 rw [if_neg (by simpa using hl),if_pos ?_]
 rw [List.all_map,List.all_eq_true]
 intro q hq
 have:=List.all_eq_true.1 h q hq
 show(rd q).prob=true
 unfold RD.prob
 rw [rd_valid,rd_q,Bool.true_and]
 exact this
end Go.PN
namespace Go.AI
section
variable {E : Env} {K : List It} {σ : Sl} {h : Heap}
theorem Sl.set_set (t:Nat) (u v:AV):∀σ:Sl,(σ.set t u).set t v=σ.set t v
 |[]=>by simp [Sl.set]
 |(t',x)::σ=>by
  simp only [Sl.set]
  by_cases e:t'=t
  ·rw [if_pos e,if_pos e];simp [Sl.set]
  ·rw [if_neg e,if_neg e];simp only [Sl.set,if_neg e];rw [Sl.set_set t u v σ]
theorem aw_frzT {t g s off n m:Nat} {ty:TypeId} {f:Nat→CV} (f':Nat→CV) {σ':Sl} {h':Heap} (ht:σ.get t=.c (.osl g s off n)) (hg:h.get g=some (.cells ty m f)) (hm:off+n*s≤m) (hn:¬E.C.own0 g) (hf:∀j,j<n*s→f (off+j)=f' j) (hσ:σ.set t (.c (.row true s n f'))=σ') (hh:h.del g=h')
 (k:aw E K σ' h'):aw E K σ h:=by
 refine aw_frz ht hg hm hn rfl hh ?_
 refine aw_conv (t:=t) (v:=.c (.row true s n f')) (σ':=σ') (fun S w u hr=> ?_) ?_ k
 ·rw [Sl.get_set,if_pos rfl] at hr
  obtain⟨A,c,hv,hc,hn⟩:=hr
  refine⟨A,c,hv,hc,fun h0=> ?_⟩
  obtain⟨ad,hA,hS,hj⟩:=hn h0
  refine⟨ad,hA,hS,fun j hjl=> ?_⟩
  obtain⟨u,hu,hru⟩:=hj j hjl
  exact⟨u,hu,by rw [←hf j hjl];exact hru⟩
 ·rw [←hσ,Sl.set_set]
end
end Go.AI

namespace Go.AI
section
variable {E : Env} {K : List It} {σ σ' : Sl} {h : Heap}
theorem aw_frzGT {t s n n':Nat} {og:Option Nat} {ty:TypeId} {f f':Nat→CV} (hog:og=none→n=0) (hnn:n=n') (ht:σ.get t=.c (gs og s n)) (hn:∀g,og=some g→¬E.C.own0 g) (hf:∀j,j<n*s→f j=f' j) (hσ:σ.set t (.c (.row true s n' f'))=σ') (k:aw E K σ' h):aw E K σ (gh og ty (n*s) f++h):=by
 subst hnn
 cases og with
 |none=>
  have h0:=hog rfl
  subst h0
  refine aw_conv (t:=t) (v:=.c (.row true s 0 f')) (fun S w u hr=> ?_) hσ k
  rw [ht] at hr
  exact repC_nil hr
 |some g=>
  refine aw_frzT (t:=t) (g:=g) (s:=s) (off:=0) (n:=n) (m:=n*s) (ty:=ty) (f:=f) f' ht ?_ om (hn g rfl) (fun j hj=>by rw [Nat.zero_add];exact hf j hj) hσ ?_ k
  ·show Heap.get ((g,_)::h) g=_
   simp [Heap.get]
  ·show Heap.del ((g,_)::h) g=_
   simp [Heap.del]
end
end Go.AI
namespace Go.PN
open Go.AI
theorem keysL {A B:Heap} (h:(A++B).keys.Nodup):A.keys.Nodup:=((List.sublist_append_left A B).map _).nodup h
end Go.PN
namespace Go.PN
open Go.AI
def RS {α:Type} (R:α→Nat→α→Prop):α→List Nat→α→Prop
 |x,[],y=>x=y
 |x,s::l,y=>∃z,R x s z∧RS R z l y
theorem RS.app {α:Type} {R:α→Nat→α→Prop}:∀{l m:List Nat} {x y z:α},RS R x l y→RS R y m z→RS R x (l++m) z
 |[],_,_,_,_,h,k=>by
  have h:_=_:=h
  subst h;exact k
 |_::_,_,_,_,_,⟨w,h1,h2⟩,k=>⟨w,h1,h2.app k⟩
end Go.PN
namespace Go.Proofs.YtfcnbgmclfkfcaaGreat
open Go.AI Go.PN
attribute [local irreducible] aw Fa Fh DrK
@[go_sem] theorem ty_fi2_s:tSz Tryz.prog 226=some (false,1):=by kernel_rfl
@[go_sem] theorem ty_fi2_z:tZero Tryz.prog 226=some [.raw .nilFunc]:=by kernel_rfl
abbrev E3 (gF gA gW gT:Nat) (fc:FuncId) (gs':List Nat):Heap:=
 [(gF,.cells 158 1 (ofL [fnC fc gs'])),(gA,.cells 181 1 (ofL [.optr gT 0])),(gW,.cells 226 1 (ofL [fnC 203 [gF,gA,gW]]))]
set_option maxRecDepth 100000 in
set_option maxHeartbeats 6400000 in
theorem zeachw_fh {α:Type} (H:α→Heap) (F:α→Nat→Prop) (R:α→Nat→α→Prop) (fc:FuncId) (gs':List Nat) (gF gA gW gT gU gM:Nat) {n:Nat} (h24:n≤24) {og:Option Nat} {ns:List DN} {mm:Mem3} (hs:ZS n og ns mm) (hn:ns.length≤1000000000)
 (hcb:∀(x:α) (s m:Nat),F x (m+1)→s<2^n→Fh Tryz.prog fc (H x) ([.c (.int .i64 s)]++gs'.map fun g=>.c (.optr g 0)) (fun r h=>∃y,R x s y∧F y m∧r=.tup []∧h=H y)):∀(k:Nat) (r:Int) (b m:Nat) (x:α),r.toNat<k→RefOk ns r→b<2^n→F x (m+(setsZ ns r b).length)→
 Fh Tryz.prog 203 (E3 gF gA gW gT fc gs'++(ZHp gT gU gM og ns mm++H x)) ([.c (.int .i64 r),.c (.int .i64 b)]++[gF,gA,gW].map fun g=>.c (.optr g 0)) (fun z h=>∃y,RS R x (setsZ ns r b) y∧F y m∧z=.tup []∧h=E3 gF gA gW gT fc gs'++(ZHp gT gU gM og ns mm++H y)):=by
 intro k
 induction k with
 |zero=>intro r b m x hk;omega
 |succ k ih=>
  intro r b m x hk hr hb hx
  simp only [List.cons_append,List.nil_append,List.map_cons,List.map_nil]
  refine fh_of_body Tryz.func203 rfl rfl (by simp [Tryz.ntmps203]) fun C hC=> ?_
  simp only [initS,Nat.reduceAdd]
  refine aw_nd fun hnd0=> ?_
  have hnd:=keysL (A:=E3 gF gA gW gT fc gs'++ZHp gT gU gM og ns mm) (B:=H x) (by rw [List.append_assoc];exact hnd0)
  simp only [E3,ZHp,ZH,List.cons_append,List.nil_append,Heap.keys,List.map_cons] at hnd⊢
  replace hnd:=ndP_of hnd
  dsimp only [ndP,neA] at hnd
  refine yG hnd ?_
  refine yF hnd (fun h1=>?_) fun h1=>?_
  ·have h1':=of_decide_eq_true h1
   refine yG hnd ?_
   refine yF hnd (fun h2=>?_) fun h2=>?_
   ·have h2':r=1:=by simpa using h2
    refine yG hnd ?_
    refine aw_callhv (gs:=gs') (hc:=H x) (hr:=E3 gF gA gW gT fc gs'++ZHp gT gU gM og ns mm) (hcb x b m (by rw [sets_leaf h1',if_pos h2'] at hx;exact hx) hb) rfl rfl rfl (zE hnd) (by
     show(E3 gF gA gW gT fc gs'++(ZHp gT gU gM og ns mm++H x)).Perm _
     rw [←List.append_assoc]
     exact List.perm_append_comm) (zL hnd) ?_
    rintro _ _ ⟨y,y1,y2,rfl,rfl⟩ _
    refine aw_perm List.perm_append_comm ?_
    rw [List.append_assoc]
    refine ySG hnd ?_
    refine yU hnd ?_
    refine⟨y,?_,y2,rfl,rfl⟩
    rw [sets_leaf h1',if_pos h2']
    exact⟨y,y1,rfl⟩
   ·refine yG hnd ?_
    refine yU hnd ?_
    have h2':¬r=1:=by simpa using h2
    rw [sets_leaf h1',if_neg h2'] at hx
    refine⟨x,?_,hx,rfl,rfl⟩
    rw [sets_leaf h1',if_neg h2']
    rfl
  have h1':=of_decide_eq_false h1
  have hr2:2≤r:=by omega
  obtain⟨g,rfl⟩:∃g,og=some g:=by
   cases og with
   |none=>have:=hs.og rfl;unfold RefOk at hr;omega
   |some g=>exact⟨g,rfl⟩
  simp only [gh,List.map_cons,List.map_nil,neA,ndP] at hnd
  simp only [gs,gh,List.cons_append,List.nil_append]
  have hi:(r-2).toNat<ns.length:=by unfold RefOk at hr;omega
  obtain⟨w0,w1,w2,w3,w4,w5⟩:=(hs.tab _ hi).nk
  obtain⟨kl,kh⟩:=hs.tab.kids hi
  have hst:=sets_step hs.tab hr2 hr b
  generalize hx0:ns.getD (r-2).toNat dn0=nd at*
  obtain⟨v,hv⟩:∃v:Nat,nd.v=v:=⟨nd.v.toNat,by omega⟩
  have hv24:v<n:=by omega
  have hp:2^v<2^n:=Nat.pow_lt_pow_right om hv24
  have hp24:2^n≤2^24:=Nat.pow_le_pow_right om h24
  have hbv:b|||2^v<2^n:=Nat.or_lt_two_pow hb hp
  have hsh:shlZ .i64 1 nd.v=((2^v:Nat):Int):=by rw [hv];exact shl_one v om
  have hor:orZ .i64 (b:Int) ((2^v:Nat):Int)=((b|||2^v:Nat):Int):=orZ_nat _ _ om om
  rw [hv,Int.toNat_natCast] at hst
  rw [hst,List.length_append,Nat.add_comm (setsZ ns nd.lo b).length,←Nat.add_assoc] at hx
  have J1:=oj hnd (oj hnd (oj hx0 (oj hsh hor)))
  refine yG J1 ?_
  refine yA J1 fun g7 hn_g7=>?_
  clear hn_g7 J1
  refine aw_nd fun hnd2=> ?_
  have hnd3:=keysL (A:=(g7,.cells 145 3 (ofL [.int .i64 0,.int .i64 0,.int .i64 0]))::E3 gF gA gW gT fc gs'++ZHp gT gU gM (some g) ns mm) (B:=H x) hnd2
  simp only [E3,ZHp,ZH,gh,List.cons_append,List.nil_append,Heap.keys,List.map_cons,List.map_nil] at hnd3
  replace hnd3:=ndP_of hnd3
  dsimp only [ndP,neA] at hnd3
  clear hnd
  have J2:=oj hnd3 (oj hx0 (oj hsh hor))
  refine yGWSG J2 ?_
  refine aw_callhv (gs:=[gF,gA,gW]) (hr:=[(g7,.cells 145 3 (ofL [.int .i64 nd.v,.int .i64 nd.lo,.int .i64 nd.hi]))]) (ih nd.lo b _ x om kl hb hx) rfl rfl rfl (zE J2) (List.perm_append_comm (l₁:=[(g7,_)])) (zL J2) ?_
  rintro _ _ ⟨y,y1,y2,rfl,rfl⟩ _
  refine aw_perm List.perm_append_comm ?_
  simp only [E3,ZHp,ZH,gs,gh,List.cons_append,List.nil_append]
  refine ySG J2 ?_
  refine aw_cw ([(gW,.cells 226 1 (ofL [fnC 203 [gF,gA,gW]])),(g7,.cells 145 3 (ofL [.int .i64 nd.v,.int .i64 nd.lo,.int .i64 nd.hi]))]) [(0,0),(1,0),(2,0),(3,0),(4,0),(5,0),(6,0),(7,0),(8,2)] ty_mixed (by kernel_rfl) eI ?_
  refine yG J2 ?_
  refine cw_callhv (FP':=[]) (gs:=[gF,gA,gW]) (hr:=[(g7,.cells 145 3 (ofL [.int .i64 nd.v,.int .i64 nd.lo,.int .i64 nd.hi]))]) rfl (ih nd.hi (b|||2^v) m y om kh hbv y2) rfl rfl rfl (zE J2) (List.perm_append_comm (l₁:=[(g7,_)])) (zL J2) (fun _ _ _=>has0_nil) ?_
  rintro _ _ ⟨z,z1,z2,rfl,rfl⟩ _
  refine ySG J2 ?_
  refine aw_keep [] (E3 gF gA gW gT fc gs'++(ZHp gT gU gM (some g) ns mm++H z)) (zB J2) (List.sublist_append_left _ _) ?_
  refine yV J2 ?_
  exact⟨z,by rw [hst];exact y1.app z1,z2,rfl,rfl⟩
set_option maxRecDepth 100000 in
set_option maxHeartbeats 3200000 in
theorem zeach_fh {α:Type} (H:α→Heap) (F:α→Nat→Prop) (R:α→Nat→α→Prop) (fc:FuncId) (gs':List Nat) (gT gU gM:Nat) {n:Nat} (h24:n≤24) {og:Option Nat} {ns:List DN} {mm:Mem3} (hs:ZS n og ns mm) (hn:ns.length≤1000000000)
 (hcb:∀(x:α) (s m:Nat),F x (m+1)→s<2^n→Fh Tryz.prog fc (H x) ([.c (.int .i64 s)]++gs'.map fun g=>.c (.optr g 0)) (fun r h=>∃y,R x s y∧F y m∧r=.tup []∧h=H y)) {r:Int} (hr:RefOk ns r) (x:α) {m:Nat} (hx:F x (m+(setsZ ns r 0).length)):
 Fh Tryz.prog 157 (ZHp gT gU gM og ns mm++H x) [.c (.optr gT 0),.c (.int .i64 r),.c (fnC fc gs')] (fun z h=>∃y,RS R x (setsZ ns r 0) y∧F y m∧z=.tup []∧h=ZHp gT gU gM og ns mm++H y):=by
 refine fh_of_body Tryz.func157 rfl rfl (by simp [Tryz.ntmps157]) fun C hC=> ?_
 simp only [initS,Nat.reduceAdd]
 refine xG ?_
 refine xB fun gA hn_gA=>?_
 refine yG hn_gA ?_
 refine yB hn_gA fun gF hn_gF=>?_
 refine yG (oj hn_gA hn_gF) ?_
 refine yA (oj hn_gA hn_gF) fun gW hn_gW=>?_
 have J1:=oj hn_gA (oj hn_gF hn_gW)
 refine yG J1 ?_
 refine aw_makeFunc (gs:=[gF,gA,gW]) rfl rfl rfl (zE J1) ?_
 refine ySGWSG J1 ?_
 refine aw_callhv (hr:=[]) (zeachw_fh H F R fc gs' gF gA gW gT gU gM h24 hs hn hcb (r.toNat+1) r 0 m x om hr (Nat.pow_pos om) hx) rfl rfl rfl (zE J1) ?hp (zL J1) ?_
 ·rw [List.append_nil]
  exact(permL [(gW,_),(gF,_),(gA,_)] [0,1,2] [1,2,0] (by decide)).append_right (ZHp gT gU gM og ns mm++H x)
 rintro _ _ ⟨y,y1,y2,rfl,rfl⟩ _
 rw [List.append_nil]
 refine ySG J1 ?_
 refine aw_keep [] (ZHp gT gU gM og ns mm++H y) (zB J1) (List.sublist_append_right (E3 gF gA gW gT fc gs') _) ?_
 refine yV J1 ?_
 exact⟨y,y1,y2,rfl,rfl⟩
end Go.Proofs.YtfcnbgmclfkfcaaGreat
namespace Go.Proofs.YtfcnbgmclfkfcaaGreat
open Go.AI Go.PN
attribute [local irreducible] aw Fa Fh DrK
abbrev CB (gA gB gT:Nat) (a:Int):Heap:=[(gB,.cells 3 1 (ofL [.int .i64 a])),(gA,.cells 181 1 (ofL [.optr gT 0]))]
def CountOk (n gT gU gM:Nat) (k:Nat):Prop:=∀(og:Option Nat) (ns:List DN) (mm:Mem3) (a:Int),ZS n og ns mm→ns.length≤1000000000→RefOk ns a→a.toNat<k→
    Fh Tryz.prog 156 (ZHp gT gU gM og ns mm) [.c (.optr gT 0),.c (.int .i64 a)]
     (fun x h=>∃mm',ZP n ns mm (evZ n ns a) 0 og ns mm'∧x=.c (.int .i64 (cntZ ns a))∧h=ZHp gT gU gM og ns mm')
set_option maxRecDepth 100000 in
set_option maxHeartbeats 6400000 in
theorem zcclo_fh (n gT gU gM:Nat) (h24:n≤24) (k:Nat) (ih:CountOk n gT gU gM k) (gA gB:Nat) (og:Option Nat) (ns:List DN) (mm:Mem3) (a:Int) (hs:ZS n og ns mm) (hn:ns.length≤1000000000) (ha:RefOk ns a) (ha2:2≤a) (hk:a.toNat<k+1):
 Fh Tryz.prog 202 (ZHp gT gU gM og ns mm++CB gA gB gT a) ([]++[gA,gB].map fun g=>.c (.optr g 0))
  (fun x h=>∃og' ns' mm' r,(ZP n ns mm (evZ n ns a+1) 0 og' ns' mm'∧og'=og∧ns'=ns∧r=cntZ ns a)∧(og'=none→ns'.length=0)∧ns'.length≤1000000000∧x=.c (.int .i64 r)∧h=ZHp gT gU gM og' ns' mm'++CB gA gB gT a):=by
 simp only [List.nil_append,List.map_cons,List.map_nil]
 refine fh_of_body Tryz.func202 rfl rfl (by simp [Tryz.ntmps202]) fun C hC=> ?_
 simp only [initS,Nat.reduceAdd]
 obtain⟨g,rfl⟩:∃g,og=some g:=by
  cases og with
  |none=>have:=hs.og rfl;unfold RefOk at ha;omega
  |some g=>exact⟨g,rfl⟩
 refine aw_nd fun hnd=> ?_
 simp only [CB,ZHp,ZH,gs,gh,List.cons_append,List.nil_append,Heap.keys,List.map_cons,List.map_nil] at hnd⊢
 replace hnd:=ndP_of hnd
 dsimp only [ndP,neA] at hnd
 have hi:(a-2).toNat<ns.length:=by unfold RefOk at ha;omega
 obtain⟨w0,w1,w2,w3,w4,w5⟩:=(hs.tab _ hi).nk
 obtain⟨kl,kh⟩:=hs.tab.kids hi
 have ka:=kz_node hs.tab ha ha2
 have q1:=ka.ea
 have q2:=ka.eb
 rw [←evZ_node (n:=n) ha2] at q1 q2
 have hst:=cnt_step hs.tab ha2 ha
 have b1:=cntZ_le hs.tab _ kl
 have b2:=cntZ_le hs.tab _ kh
 have hpow:∀m:Nat,(2:Int)^(n-m)≤16777216:=fun m=>by
  have h1:2^(n-m)≤2^24:=Nat.pow_le_pow_right om om
  have e:((2:Int)^(n-m))=((2^(n-m):Nat):Int):=by simp
  rw [e]
  have e24:(2:Nat)^24=16777216:=rfl
  omega
 have c1:=Int.le_trans b1.2 (hpow _)
 have c2:=Int.le_trans b2.2 (hpow _)
 have b1':=b1.1
 have b2':=b2.1
 clear b1 b2
 generalize hx0:ns.getD (a-2).toNat dn0=nd at*
 have J1:=oj hnd hx0
 refine yG J1 ?_
 refine aw_cw ([(gA,.cells 181 1 (ofL [.optr gT 0])),(gB,.cells 3 1 (ofL [.int .i64 a])),(gT,.cells 224 3 (ofL [.osl g 3 0 ns.length,.raw (.map (some gU)),.raw (.map (some gM))])),(g,.cells 145 (ns.length*3) (dnsF ns))]) [(0,0),(1,0),(2,0),(3,0),(4,0),(5,0),(6,0),(7,0),(8,1),(9,2)] ty_mixed (by kernel_rfl) eI ?_
 refine yG J1 ?_
 refine cw_alloc rfl rfl rfl rfl (zE J1) eI (fun g3 hn_g3=> ?_) (hm:=.inr ⟨rfl,rfl⟩)
 replace hn_g3:=Heap.ne_of hn_g3
 dsimp only [Heap.ne] at hn_g3
 have J2:=oj hnd (oj hx0 hn_g3)
 refine ySG J2 ?_
 refine cw_store (FP':=[]) rfl rfl rfl rfl rfl (zE J2) (zE J2) (zE J2) (zE J2) (fun _ e=>by cases e) rfl rfl (Nat.le_refl 3) rfl has0_nil ?_
 refine ySG J2 ?_
 refine aw_cw ([(gA,.cells 181 1 (ofL [.optr gT 0])),(g3,.cells 145 3 (ofL [.int .i64 nd.v,.int .i64 nd.lo,.int .i64 nd.hi]))]) [(0,0),(1,0),(2,0),(4,0),(5,0),(6,0),(3,1),(7,1),(8,0),(9,0)] ty_mixed (by kernel_rfl) eI ?_
 refine yG J2 ?_
 have hpm:∀mm,((g3,.cells 145 3 (ofL [.int .i64 nd.v,.int .i64 nd.lo,.int .i64 nd.hi]))::(ZHp gT gU gM (some g) ns mm++CB gA gB gT a)).Perm (ZHp gT gU gM (some g) ns mm++((g3,.cells 145 3 (ofL [.int .i64 nd.v,.int .i64 nd.lo,.int .i64 nd.hi]))::CB gA gB gT a)):=fun mm=>List.perm_middle.symm
 refine cw_callh (hc:=ZHp gT gU gM (some g) ns mm) (hr:=(g3,.cells 145 3 (ofL [.int .i64 nd.v,.int .i64 nd.lo,.int .i64 nd.hi]))::CB gA gB gT a) rfl (ih (some g) ns mm nd.lo hs hn kl om) rfl rfl rfl (hpm mm) (zL J2) (by rintro _ _ ⟨_,_,rfl,rfl⟩;exact has0_app2 eI) ?_ (hm:=.inr ⟨rfl,rfl⟩)
 rintro _ _ ⟨mm1,p1,rfl,rfl⟩ _
 refine ySG J2 ?_
 refine cw_callh (hc:=ZHp gT gU gM (some g) ns mm1) (hr:=(g3,.cells 145 3 (ofL [.int .i64 nd.v,.int .i64 nd.lo,.int .i64 nd.hi]))::CB gA gB gT a) rfl (ih (some g) ns mm1 nd.hi p1.zs hn kh om) rfl rfl rfl (.refl _) (zL J2) (by rintro _ _ ⟨_,_,rfl,rfl⟩;exact has0_app2 eI) ?_ (hm:=.inr ⟨rfl,rfl⟩)
 rintro _ _ ⟨mm2,p2,rfl,rfl⟩ _
 refine ySG J2 ?_
 refine aw_perm (hpm mm2).symm ?_
 refine aw_keep [(2,.c (.int .i64 (cntZ ns nd.lo+cntZ ns nd.hi)))] (ZHp gT gU gM (some g) ns mm2++CB gA gB gT a) (zB J2) (List.Sublist.cons _ (List.Sublist.refl _)) ?_
 refine yU J2 ?_
 exact⟨some g,ns,mm2,_,⟨p1.trans p2 (Nat.le_refl _) om om,rfl,rfl,rfl⟩,hs.og,hn,by rw [hst],rfl⟩
set_option maxRecDepth 100000 in
set_option maxHeartbeats 3200000 in
theorem zcount_ok (n gT gU gM:Nat) (h24:n≤24):∀k,CountOk n gT gU gM k:=by
 intro k
 induction k with
 |zero=>intro og ns mm a _ _ _ hk;omega
 |succ k ih=>
  intro og ns mm a hs hn ha hk
  refine fh_of_body Tryz.func156 rfl rfl (by simp [Tryz.ntmps156]) fun C hC=> ?_
  simp only [initS,Nat.reduceAdd]
  refine xG ?_
  refine xB fun gA hn_gA=>?_
  refine yG hn_gA ?_
  refine yB hn_gA fun gB hn_gB=>?_
  have J1:=oj hn_gA hn_gB
  refine yG J1 ?_
  refine yF J1 (fun h1=>?_) fun h1=>?_
  ·have h1':=of_decide_eq_true h1
   refine yG J1 ?_
   refine aw_keep [(4,.c (.int .i64 a))] (ZHp gT gU gM og ns mm) (zB J1) (List.Sublist.cons _ (List.Sublist.cons _ (List.Sublist.refl _))) ?_
   refine yU J1 ?_
   exact⟨mm,hs.same _ _,by rw [cnt_leaf ha.1 h1'],rfl⟩
  have h1':=of_decide_eq_false h1
  refine yG J1 ?_
  refine aw_makeFunc (f:=202) (gs:=[gA,gB]) rfl rfl rfl (zE J1) ?_
  refine yS J1 ?_
  have hm1:memGet (99,a,0) mm=none→Fh Tryz.prog 202 (ZHp gT gU gM og ns mm++CB gA gB gT a) ([]++[gA,gB].map fun g=>.c (.optr g 0)) (fun x h=>∃og' ns' mm' r,(ZP n ns mm (evZ n ns a+1) 0 og' ns' mm'∧og'=og∧ns'=ns∧r=cntZ ns a)∧(og'=none→ns'.length=0)∧ns'.length≤1000000000∧memGet (99,a,0) mm'=none∧x=.c (.int .i64 r)∧h=ZHp gT gU gM og' ns' mm'++CB gA gB gT a):=fun hm=>by
   refine(zcclo_fh n gT gU gM h24 k ih gA gB og ns mm a hs hn ha om hk).mono ?_
   rintro x h ⟨og',ns',mm',r,⟨p,w⟩,e1,e2,e3,e4⟩
   refine⟨og',ns',mm',r,⟨p,w⟩,e1,e2,p.absent hm ?_,e3,e4⟩
   unfold lvE
   rw [if_neg (by simp),p.lat.ev ha]
   omega
  refine aw_callh (hc:=ZHp gT gU gM og ns mm++CB gA gB gT a) (hr:=[]) (remember_fh gT gU gM (CB gA gB gT a) 202 [gA,gB] 99 a 0 hs.og om _ hm1) rfl rfl rfl (by rw [List.append_nil];exact List.perm_append_comm (l₁:=CB gA gB gT a)) (zL J1) ?_
  rintro _ _ (⟨r,hm,rfl,rfl⟩|⟨hm,og',ns',mm',r,⟨p,rfl,rfl,rfl⟩,rfl,rfl⟩) _
  ·rw [List.append_nil]
   refine ySG J1 ?_
   refine aw_keep [(4,.c (.int .i64 r))] (ZHp gT gU gM og ns mm) (zB J1) (List.sublist_append_left _ _) ?_
   refine yU J1 ?_
   have me:=hs.mem _ (mem_mem hm)
   rcases me with ⟨e1,_⟩|⟨e1,_⟩|⟨_,_,e2⟩
   ·cases e1
   ·cases e1
   ·exact⟨mm,hs.same _ _,by rw [←e2],rfl⟩
  ·rw [List.append_nil]
   refine ySG J1 ?_
   refine aw_keep [(4,.c (.int .i64 (cntZ ns' a)))] (ZHp gT gU gM og' ns' (mm'++[((99,a,0),cntZ ns' a)])) (zB J1) (List.sublist_append_left _ _) ?_
   refine yU J1 ?_
   refine⟨_,p.note (.inr (.inr ⟨rfl,ha,rfl⟩)) om ?_,rfl,rfl⟩
   unfold lvE
   rw [if_neg (by simp)]
   exact Int.le_refl _
end Go.Proofs.YtfcnbgmclfkfcaaGreat
