/- Parts of one proof, laid by a program. -/
import Derived.Test.YtfcnbgmclfkfcaaGreatM00
import Derived.Test.YtfcnbgmclfkfcaaGreatM25
import Derived.Test.YtfcnbgmclfkfcaaGreatProg
import Derived.Shelf.SlSortCmp.Whole1
set_option linter.unusedSimpArgs false
set_option linter.unusedVariables false
namespace Go.PN
open Go.AI Go.Proofs.YtfcnbgmclfkfcaaGreat
structure DlOk (n:Nat) (dns ns:List DN) (dl:List (Int×Int)):Prop where
 sem:∀z∈dl,SolP n (natL n) dns ns z.1 z.2
 low:∀q:Int,0≤q→q<2→dnGet q dl≠none
theorem DlOk.later {n:Nat} {dns a b:List DN} {dl:List (Int×Int)} {k:Nat} (h:DlOk n dns a dl) (ha:ZTab n a) (l:ZLat n a b k):DlOk n dns b dl:=⟨fun z hz=>(h.sem z hz).later ha l,h.low⟩
def roomS (n:Nat) (dns:List DN) (r:Int):Nat:=(2^((n:Int)-lvZ (natL n) dns r).toNat-1)*3^(n+1)
theorem room_arith {a b P B:Nat} (pa:a≤P) (pb:b≤P) (hP:0<P):(a-1)*B+(b-1)*B+B≤(P*2-1)*B:=by
 have ea:=Nat.mul_le_mul_right B (Nat.sub_le_sub_right pa 1)
 have eb:=Nat.mul_le_mul_right B (Nat.sub_le_sub_right pb 1)
 have e:(P*2-1)*B=(P-1)*B+(P-1)*B+B:=by
  obtain⟨p,rfl⟩:∃p,P=p+1:=⟨P-1,by omega⟩
  rw [show(p+1)*2-1=p+p+1 from by omega,Nat.add_sub_cancel,Nat.add_mul,Nat.add_mul,Nat.one_mul]
 rw [e]
 exact Nat.add_le_add_right (Nat.add_le_add ea eb) B
theorem roomS_node {n:Nat} {dns:List DN} (ht:TabOk (natL n) dns) {r:Int} (h2:2≤r) (hr:RefOk dns r):roomS n dns (dns.getD (r-2).toNat dn0).lo+roomS n dns (dns.getD (r-2).toNat dn0).hi+3^(n+1)≤roomS n dns r:=by
 have hi:(r-2).toNat<dns.length:=by unfold RefOk at hr;omega
 have nd:=ht _ hi
 obtain⟨v0,v1,_⟩:=nd.nk
 rw [natL_len] at v1
 have hpl:=place_natL v0 v1
 have bl:=nd.bl
 have bh:=nd.bh
 rw [hpl] at bl bh
 have hlr:lvZ (natL n) dns r=(dns.getD (r-2).toNat dn0).v:=by unfold lvZ;rw [if_neg om];exact hpl
 unfold roomS
 obtain⟨q,hq⟩:∃q,((n:Int)-lvZ (natL n) dns r).toNat=q+1:=⟨((n:Int)-lvZ (natL n) dns r).toNat-1,by omega⟩
 have pa:2^((n:Int)-lvZ (natL n) dns (dns.getD (r-2).toNat dn0).lo).toNat≤2^q:=Nat.pow_le_pow_right om om
 have pb:2^((n:Int)-lvZ (natL n) dns (dns.getD (r-2).toNat dn0).hi).toNat≤2^q:=Nat.pow_le_pow_right om om
 have pq:0<2^q:=Nat.pow_pos om
 rw [hq,Nat.pow_succ]
 exact room_arith pa pb pq
end Go.PN
namespace Go.Proofs.YtfcnbgmclfkfcaaGreat
open Go.AI Go.PN
attribute [local irreducible] aw Fa Fh DrK
abbrev Y5 (g1 g2 g3 g4 gd gT gD:Nat) (dl:List (Int×Int)):Heap:=
 [(g1,.cells 159 1 (ofL [.raw (.map (some gd))])),(g2,.cells 88 1 (ofL [.optr gD 0])),(g3,.cells 91 1 (ofL [fnC 217 [g1,g2,g3,g4]])),(g4,.cells 181 1 (ofL [.optr gT 0])),(gd,.gen (MapI keyI (dnL dl)))]
abbrev HY (g1 g2 g3 g4 gd gT gU gM gD gV gW:Nat) (oh:Option Nat) (o pl:List Int) (dns:List DN) (dmm:Mem3) (dl:List (Int×Int)) (og:Option Nat) (ns:List DN) (mm:Mem3):Heap:=
 (Y5 g1 g2 g3 g4 gd gT gD dl++THp gD gV gW oh o pl dns dmm)++ZHp gT gU gM og ns mm
set_option maxRecDepth 100000 in
set_option maxHeartbeats 12800000 in
theorem zsolw_fh (g1 g2 g3 g4 gd gT gU gM gD gV gW:Nat) {n:Nat} (h24:n≤24) {oh:Option Nat} {pl:List Int} {dns:List DN} {dmm:Mem3} (ds:TS (natL n) oh dns dmm) (hdn:dns.length≤1000000000):∀(k:Nat) (r:Int) (dl:List (Int×Int)) (og:Option Nat) (ns:List DN) (mm:Mem3),r.toNat<k→RefOk dns r→MonS (fun s=>evalD dns s r)→ZS n og ns mm→DlOk n dns ns dl→ns.length+roomS n dns r≤1000000000→
 Fh Tryz.prog 217 (HY g1 g2 g3 g4 gd gT gU gM gD gV gW oh (natL n) pl dns dmm dl og ns mm) ([.c (.int .i64 r)]++[g1,g2,g3,g4].map fun g=>.c (.optr g 0)) (fun x h=>∃dl' og' ns' mm' y,ZS n og' ns' mm'∧ZLat n ns ns' (roomS n dns r)∧DlOk n dns ns' dl'∧(∀z∈dl',z∈dl∨z.1≤r)∧SolP n (natL n) dns ns' r y∧x=.c (.int .i64 y)∧h=HY g1 g2 g3 g4 gd gT gU gM gD gV gW oh (natL n) pl dns dmm dl' og' ns' mm'):=by
 intro k
 induction k with
 |zero=>intro r dl og ns mm hk;omega
 |succ k ih=>
  intro r dl og ns mm hk hr hmon hs hd hroom
  simp only [List.cons_append,List.nil_append,List.map_cons,List.map_nil]
  refine fh_of_body Tryz.func217 rfl rfl (by simp [Tryz.ntmps217]) fun C hC=> ?_
  simp only [initS,Nat.reduceAdd]
  refine aw_nd fun hnd0=> ?_
  have hnd:=keysL hnd0
  simp only [HY,Y5,THp,TH,List.cons_append,List.nil_append,Heap.keys,List.map_cons] at hnd⊢
  replace hnd:=ndP_of hnd
  dsimp only [ndP,neA] at hnd
  refine yG hnd ?_
  refine aw_lookup2 (a:=r) (kv:=dnL dl) (Kf:=keyI) (kt:=3) (et:=3) rfl rfl rfl (by kernel_rfl) ty_ki ty_iz (zE hnd) (zE hnd) (zE hnd) keyI_rep ?_
  refine yS hnd ?_
  rw [dn_get]
  cases hf:dnGet r dl with
  |some y=>
   have hy:=hd.sem _ (dn_mem hf)
   try simp only [Option.map_some,Option.getD_some,Option.isSome_some,cstC]
   refine yGNG hnd ?_
   refine yU hnd ?_
   exact⟨dl,og,ns,mm,y,hs,ZLat.refl hs.tab _,hd,fun z hz=>.inl hz,hy,rfl,rfl⟩
  |none=>
   try simp only [Option.map_none,Option.getD_none,Option.isSome_none,cstC]
   refine yG hnd ?_
   refine yP hnd ?_
   have h2:2≤r:=by
    refine Classical.byContradiction fun h=> ?_
    exact hd.low r hr.1 om hf
   obtain⟨g,rfl⟩:∃g,oh=some g:=by
    cases oh with
    |none=>have:=ds.og rfl;unfold RefOk at hr;omega
    |some g=>exact⟨g,rfl⟩
   have hi:(r-2).toNat<dns.length:=by unfold RefOk at hr;omega
   obtain⟨w0,w1,w2,w3,w4,w5⟩:=(ds.tab.ns _ hi)
   obtain⟨kl,kh⟩:=kids_ref ds.tab hi
   have hrn:=roomS_node ds.tab h2 hr
   have h3n:0<3^n:=Nat.pow_pos om
   obtain⟨e1,e2,e3⟩:=mon_kids ds.tab h2 hr
   obtain⟨m0,m1⟩:=mon_sub e1 e2 e3 hmon
   have hst:∀{n1 n2 n3:List DN} {k2 k3:Nat} {xl xh w:Int},ZTab n n1→SolP n (natL n) dns n1 (dns.getD (r-2).toNat dn0).lo xl→ZLat n n1 n2 k2→SolP n (natL n) dns n2 (dns.getD (r-2).toNat dn0).hi xh→ZLat n n2 n3 k3→WOk n n3 xh xl w→_:=fun t1 sl l2 sh l3 wk=>sol_step ds.tab h2 hr hmon t1 sl l2 sh l3 wk
   simp only [gs,gh,List.cons_append,List.nil_append]
   clear hnd e1 e2 e3
   have hnd:=keysL hnd0
   simp only [Y5,THp,TH,gh,List.cons_append,List.nil_append,Heap.keys,List.map_cons,List.map_nil] at hnd
   replace hnd:=ndP_of hnd
   dsimp only [ndP,neA] at hnd
   generalize hx0:dns.getD (r-2).toNat dn0=nd at*
   refine yG (oj hnd hx0) ?_
   refine yA (oj hnd hx0) fun g9 hn_g9=>?_
   have J1:=oj hnd (oj hx0 hn_g9)
   refine yGWSG J1 ?_
   refine aw_callhv (hr:=[(g9,.cells 145 3 (ofL [.int .i64 nd.v,.int .i64 nd.lo,.int .i64 nd.hi]))]) (gs:=[g1,g2,g3,g4]) (ih nd.lo dl og ns mm om kl m0 hs hd om) rfl rfl rfl (zE J1) ?_ (zL J1) ?_
   ·exact List.perm_append_comm (l₁:=[(g9,_)])
   rintro _ _ ⟨dl1,og1,ns1,mm1,xl,s1,l1,d1,n1,p1,rfl,rfl⟩ _
   have ll1:=l1.len
   refine aw_perm List.perm_append_comm ?_
   clear hnd J1
   refine aw_nd fun hnd1=> ?_
   have hnd:=keysL (A:=[(g9,.cells 145 3 (ofL [.int .i64 nd.v,.int .i64 nd.lo,.int .i64 nd.hi]))]++(Y5 g1 g2 g3 g4 gd gT gD dl1++THp gD gV gW (some g) (natL n) pl dns dmm)) (B:=ZHp gT gU gM og1 ns1 mm1) hnd1
   simp only [Y5,THp,TH,gh,List.cons_append,List.nil_append,Heap.keys,List.map_cons,List.map_nil] at hnd
   replace hnd:=ndP_of hnd
   dsimp only [ndP,neA] at hnd
   simp only [HY,Y5,THp,TH,gs,gh,List.cons_append,List.nil_append]
   have J2:=oj hnd hx0
   refine ySG J2 ?_
   refine aw_cw ([(g4,.cells 181 1 (ofL [.optr gT 0])),(g3,.cells 91 1 (ofL [fnC 217 [g1,g2,g3,g4]])),(g9,.cells 145 3 (ofL [.int .i64 nd.v,.int .i64 nd.lo,.int .i64 nd.hi]))]) [(0,0),(1,0),(2,0),(3,0),(4,0),(5,0),(6,0),(7,0),(9,0),(8,1),(10,1),(11,1),(12,0)] ty_mixed (by kernel_rfl) eI ?_
   refine yG J2 ?_
   refine cw_callhv (hr:=[(g9,.cells 145 3 (ofL [.int .i64 nd.v,.int .i64 nd.lo,.int .i64 nd.hi]))]) (gs:=[g1,g2,g3,g4]) rfl (ih nd.hi dl1 og1 ns1 mm1 om kh m1 s1 d1 om) rfl rfl rfl (zE J2) (List.perm_append_comm (l₁:=[(g9,_)])) (zL J2) (by
    rintro _ _ ⟨_,_,_,_,_,_,_,_,_,_,rfl,rfl⟩;simp only [HY,Y5,List.cons_append,List.nil_append];exact eI) ?_ (hm:=.inr ⟨rfl,rfl⟩)
   rintro _ _ ⟨dl2,og2,ns2,mm2,xh,s2,l2,d2,n2,p2,rfl,rfl⟩ _
   have ll2:=l2.len
   refine ySG J2 ?_
   have hpm:∀(og:Option Nat) (ns:List DN) (mm:Mem3),(ZHp gT gU gM og ns mm++((Y5 g1 g2 g3 g4 gd gT gD dl2++THp gD gV gW (some g) (natL n) pl dns dmm)++([(g9,.cells 145 3 (ofL [.int .i64 nd.v,.int .i64 nd.lo,.int .i64 nd.hi]))]:Heap))).Perm ((g9,.cells 145 3 (ofL [.int .i64 nd.v,.int .i64 nd.lo,.int .i64 nd.hi]))::HY g1 g2 g3 g4 gd gT gU gM gD gV gW (some g) (natL n) pl dns dmm dl2 og ns mm):=fun og ns mm=>by
    rw [←List.append_assoc]
    exact(List.perm_append_singleton _ _).trans (.cons _ List.perm_append_comm)
   refine cw_callh (hc:=ZHp gT gU gM og2 ns2 mm2) (hr:=(Y5 g1 g2 g3 g4 gd gT gD dl2++THp gD gV gW (some g) (natL n) pl dns dmm)++([(g9,.cells 145 3 (ofL [.int .i64 nd.v,.int .i64 nd.lo,.int .i64 nd.hi]))]:Heap)) rfl (zwithout_fh gT gU gM h24 s2 om p2.rx (l2.ref p1.rx)) rfl rfl rfl ((List.perm_append_singleton _ _).trans (hpm og2 ns2 mm2).symm) (zL J2) (by
    rintro _ _ ⟨_,_,_,_,_,_,rfl,rfl⟩;refine has0_app2 ?_;simp only [Y5,List.cons_append,List.nil_append];exact eI) ?_ (hm:=.inr ⟨rfl,rfl⟩)
   rintro _ _ ⟨og3,ns3,mm3,w,zp,wk,rfl,rfl⟩ _
   have l3:=zp.lat
   have ll3:=l3.len
   refine ySG J2 ?_
   obtain⟨l4,sp⟩:=hst s1.tab p1 l2 p2 l3 wk
   have hB:0<3^(n+1):=Nat.pow_pos om
   refine cw_callh (hc:=ZHp gT gU gM og3 ns3 mm3) (hr:=(Y5 g1 g2 g3 g4 gd gT gD dl2++THp gD gV gW (some g) (natL n) pl dns dmm)++([(g9,.cells 145 3 (ofL [.int .i64 nd.v,.int .i64 nd.lo,.int .i64 nd.hi]))]:Heap)) rfl (zmake_fh gT gU gM og3 ns3 mm3 nd.v xl w zp.og om) rfl rfl rfl (.refl _) (zL J2) (by
    rintro _ _ ⟨_,_,rfl,rfl⟩;refine has0_app2 ?_;simp only [Y5,List.cons_append,List.nil_append];exact eI) ?_ (hm:=.inr ⟨rfl,rfl⟩)
   rintro _ _ ⟨og4,ho4,rfl,rfl⟩ _
   refine ySG J2 ?_
   generalize hmk:mkZ ns3 nd.v xl w=mk at*
   have hnew:∀z∈dl2,z.1≠r:=fun z hz=>by
    rcases n2 z hz with h|h
    ·rcases n1 z h with h|h
     ·exact dn_none hf z h
     ·omega
    ·omega
   refine aw_perm (hpm og4 mk.1 mm3) ?_
   simp only [HY,Y5,THp,TH,gs,gh,List.cons_append,List.nil_append]
   refine ySG J2 ?_
   refine aw_mapNew (a:=r) (kv:=dnL dl2) (Kf:=keyI) (v:=.int .i64 mk.2) rfl rfl rfl (kt:=3) (et:=3) (by kernel_rfl) ty_ki (zE J2) (zE J2) (zE J2) keyI_rep (cv:=.c (.int .i64 mk.2)) (zE J2) (fun S w u h=>h) (by rw [dn_get,dn_none' hnew];rfl) (zE J2) ?_
   rw [dnL_push]
   refine ySG J2 ?_
   refine aw_keep [(6,.c (.int .i64 mk.2))] (HY g1 g2 g3 g4 gd gT gU gM gD gV gW (some g) (natL n) pl dns dmm (dl2++[(r,mk.2)]) og4 mk.1 mm3) (zB J2) (List.Sublist.cons _ (List.Sublist.refl _)) ?_
   refine yU J2 ?_
   have l23:=l2.trans l3 (Nat.le_refl _)
   have l24':=l23.trans l4 (Nat.le_refl _)
   have l34:=l3.trans l4 (Nat.le_refl _)
   refine⟨dl2++[(r,mk.2)],og4,mk.1,mm3,mk.2,⟨ho4,l4.tab,zp.mem.later l4 l3.tab⟩,l1.trans l24' om,⟨fun z hz=> ?_,fun q q0 q1=>dn_app (d2.low q q0 q1)⟩,fun z hz=> ?_,sp,rfl,rfl⟩
   ·rcases List.mem_append.1 hz with hz|hz
    ·exact(d2.later s2.tab l34).sem z hz
    ·rw [List.mem_singleton] at hz;subst hz;exact sp
   ·rcases List.mem_append.1 hz with hz|hz
    ·rcases n2 z hz with h|h
     ·rcases n1 z h with h|h
      ·exact .inl h
      ·exact .inr om
     ·exact .inr om
    ·rw [List.mem_singleton] at hz;subst hz;exact .inr (Int.le_refl _)
set_option maxRecDepth 100000 in
set_option maxHeartbeats 3200000 in
theorem zsolutions_fh (gT gU gM gD gV gW:Nat) {n:Nat} (h24:n≤24) {oh:Option Nat} {pl:List Int} {dns:List DN} {dmm:Mem3} (ds:TS (natL n) oh dns dmm) (hdn:dns.length≤1000000000) {r:Int} (hr:RefOk dns r) (hmon:MonS fun s=>evalD dns s r) {og:Option Nat} {ns:List DN} {mm:Mem3} (hs:ZS n og ns mm) (hroom:ns.length+roomS n dns r≤1000000000):
 Fh Tryz.prog 196 (ZHp gT gU gM og ns mm++THp gD gV gW oh (natL n) pl dns dmm) [.c (.optr gT 0),.c (.optr gD 0),.c (.int .i64 r)] (fun x h=>∃og' ns' mm' y,ZS n og' ns' mm'∧ZLat n ns ns' (roomS n dns r)∧SolP n (natL n) dns ns' r y∧x=.c (.int .i64 y)∧h=ZHp gT gU gM og' ns' mm'++THp gD gV gW oh (natL n) pl dns dmm):=by
 refine fh_of_body Tryz.func196 rfl rfl (by simp [Tryz.ntmps196]) fun C hC=> ?_
 simp only [initS,Nat.reduceAdd]
 refine xG ?_
 refine xB fun g3 hn_g3=>?_
 refine yG hn_g3 ?_
 refine yB hn_g3 fun g4 hn_g4=>?_
 refine yG (oj hn_g3 hn_g4) ?_
 refine aw_makeMap (Kf:=keyI) rfl rfl rfl fun gd hn_gd=> ?_
 replace hn_gd:=Heap.ne_of hn_gd
 dsimp only [Heap.ne] at hn_gd
 have J1:=oj hn_g3 (oj hn_g4 hn_gd)
 refine ySG J1 ?_
 refine aw_insNew (a:=0) (kv:=[]) (Kf:=keyI) (v:=.int .i64 0) rfl rfl rfl (kt:=3) (et:=3) (by kernel_rfl) ty_ki (zE J1) (zE J1) (zE J1) keyI_rep (cv:=.c (.int .i64 0)) (zE J1) (fun S w u h=>h) rfl (zE J1) ?_
 refine ySG J1 ?_
 refine aw_insNew (a:=1) (kv:=[(0,.int .i64 0)]) (Kf:=keyI) (v:=.int .i64 1) rfl rfl rfl (kt:=3) (et:=3) (by kernel_rfl) ty_ki (zE J1) (zE J1) (zE J1) keyI_rep (cv:=.c (.int .i64 1)) (zE J1) (fun S w u h=>h) rfl (zE J1) ?_
 refine ySG J1 ?_
 refine yA J1 fun g7 hn_g7=>?_
 have J2:=oj hn_g3 (oj hn_g4 (oj hn_gd hn_g7))
 refine yGWSG J2 ?_
 refine yA J2 fun g8 hn_g8=>?_
 have J3:=oj hn_g3 (oj hn_g4 (oj hn_gd (oj hn_g7 hn_g8)))
 refine yG J3 ?_
 refine aw_makeFunc (gs:=[g7,g4,g8,g3]) rfl rfl rfl (zE J3) ?_
 refine ySGWSG J3 ?_
 have hd0:DlOk n dns ns [(0,0),(1,1)]:=⟨fun z hz=>by
  simp only [List.mem_cons,List.not_mem_nil,or_false] at hz
  rcases hz with rfl|rfl
  ·exact sol_leaf (natL_len n) (by decide) (by decide)
  ·exact sol_leaf (natL_len n) (by decide) (by decide),fun q q0 q1=>by
  obtain rfl|rfl:q=0∨q=1:=by omega
  ·simp [dnGet]
  ·simp [dnGet]⟩
 refine aw_callhv (hr:=[]) (zsolw_fh g7 g4 g8 g3 gd gT gU gM gD gV gW h24 (pl:=pl) ds hdn (r.toNat+1) r [(0,0),(1,1)] og ns mm om hr hmon hs hd0 hroom) rfl rfl rfl (zE J3) ?hp (zL J3) ?_
 ·rw [List.append_nil]
  show([(g8,_),(g7,_),(gd,_),(g4,_),(g3,_)]++(ZHp gT gU gM og ns mm++THp gD gV gW oh (natL n) pl dns dmm)).Perm ((Y5 g7 g4 g8 g3 gd gT gD [(0,0),(1,1)]++THp gD gV gW oh (natL n) pl dns dmm)++ZHp gT gU gM og ns mm)
  rw [List.append_assoc]
  exact(permL [(g8,_),(g7,_),(gd,_),(g4,_),(g3,_)] [0,1,2,3,4] [1,3,0,4,2] (by decide)).append List.perm_append_comm
 rintro _ _ ⟨dl',og',ns',mm',y,s1,l1,_,_,p1,rfl,rfl⟩ _
 rw [List.append_nil]
 refine ySG J3 ?_
 refine aw_perm ((show(HY g7 g4 g8 g3 gd gT gU gM gD gV gW oh (natL n) pl dns dmm dl' og' ns' mm').Perm _ from by
  unfold HY
  rw [List.append_assoc]
  exact(List.Perm.refl _).append List.perm_append_comm):(HY g7 g4 g8 g3 gd gT gU gM gD gV gW oh (natL n) pl dns dmm dl' og' ns' mm').Perm (Y5 g7 g4 g8 g3 gd gT gD dl'++(ZHp gT gU gM og' ns' mm'++THp gD gV gW oh (natL n) pl dns dmm))) ?_
 refine aw_keep [(6,.c (.int .i64 y))] (ZHp gT gU gM og' ns' mm'++THp gD gV gW oh (natL n) pl dns dmm) (zB J3) (List.sublist_append_right (Y5 g7 g4 g8 g3 gd gT gD dl') _) ?_
 refine yU J3 ?_
 exact⟨og',ns',mm',y,s1,l1,p1,rfl,rfl⟩
end Go.Proofs.YtfcnbgmclfkfcaaGreat
namespace Go.PN
open Go.AI Go.Proofs.YtfcnbgmclfkfcaaGreat
def SolOut (n:Nat) (f:Nat→Bool) (z:ZD):Prop:=∃F,ZOut n F z∧(∀s,F s=true↔MinT f s)∧z.nodes.length≤4096
theorem mono_n10 {n:Nat} (h:n≤10):n*monoN n≤50000000:=by
 have h1:2^n≤1024:=Nat.le_trans (Nat.pow_le_pow_right om h) (by decide)
 have h2:2^(n+1)≤2048:=Nat.le_trans (Nat.pow_le_pow_right om (show n+1≤11 by omega)) (by decide)
 have h3:=Nat.mul_le_mul h1 h2
 have h4:monoN n≤4196352:=by unfold monoN;omega
 have:=Nat.mul_le_mul h h4
 omega
theorem room_10 {n:Nat} (h:n≤10) {dns:List DN} {r:Int} (h0:0≤lvZ (natL n) dns r):roomS n dns r≤200000000:=by
 unfold roomS
 have h1:2^((n:Int)-lvZ (natL n) dns r).toNat≤1024:=Nat.le_trans (Nat.pow_le_pow_right om (show((n:Int)-lvZ (natL n) dns r).toNat≤10 by omega)) (by decide)
 have h2:3^(n+1)≤177147:=Nat.le_trans (Nat.pow_le_pow_right om (show n+1≤11 by omega)) (by decide)
 have h3:=Nat.mul_le_mul (show 2^((n:Int)-lvZ (natL n) dns r).toNat-1≤1023 by omega) h2
 omega
theorem monS_tab {n:Nat} {ns:List DN} (ht:TabOk (natL n) ns) {r:Int} (hr:RefOk ns r) (hm:MonoF n fun s=>evalD ns s r):MonS fun s=>evalD ns s r:=by
 refine monS_of hm fun s t hst=> ?_
 have hmem:∀v:Int,0≤v→v<(natL n).length→v∈natL n:=fun v h0 h1=>by
  have:=(natL_perm n).all (j:=v.toNat) om
  rwa [show((v.toNat:Nat):Int)=v from by omega] at this
 have h0:=lv3_nonneg hmem ht hr
 exact tab_indep ht (P:= -1) (fun j hj _=>hst j (by rw [natL_len] at hj;exact hj)) r.toNat r (Nat.le_refl _) hr om
end Go.PN
namespace Go.Proofs.YtfcnbgmclfkfcaaGreat
open Go.AI Go.PN
attribute [local irreducible] aw Fa Fh DrK
set_option maxRecDepth 100000 in
set_option maxHeartbeats 6400000 in
theorem csol_fh (d:DG) (h0:dcode d=0) (h10:d.order.length≤10):Fh Tryz.prog 154 [] [.agg (dgc false d)] (fun x h=>h=[]∧((¬MonoF d.order.length (fun s=>evalD d.nodes s d.root)∧x=.tup [.agg [.nils,.int .i64 0],.c (errA 7)])∨
 (MonoF d.order.length (fun s=>evalD d.nodes s d.root)∧∃z,SolOut d.order.length (fun s=>evalD d.nodes s d.root) z∧x=.tup [.agg (zdc true z),.c .nilI]))):=by
 have N:=cnatural_fh d h0 om
 have hod:OdOk (natL d.order.length) (placesL (natL d.order.length)):=⟨natL_perm _,pl_ok (natL_perm _),by rw [natL_len];omega⟩
 have hol:=natL_len d.order.length
 have hmn:=mono_n10 h10
 have hp:2^(d.order.length+1)≤2048:=Nat.le_trans (Nat.pow_le_pow_right om (show d.order.length+1≤11 by omega)) (by decide)
 refine fh_of_body Tryz.func154 rfl rfl (by simp [Tryz.ntmps154]) fun C hC=> ?_
 simp only [initS,Nat.reduceAdd]
 refine xG ?_
 refine xB fun g1 hn_g1=>?_
 refine yG hn_g1 ?_
 refine yA hn_g1 fun g2 hn_g2=>?_
 have J1:=oj hn_g1 hn_g2
 refine yG J1 ?_
 refine aw_callh (hc:=[]) (hr:=[(g2,.cells 133 2 (ofL [.nils,.int .i64 0])),(g1,.cells 55 3 (ofL (dgc false d)))]) N rfl rfl rfl (.refl _) (zL J1) ?_
 rintro _ _ ⟨gD,gV,gW,og,ns,mm,r,hs,hr,he,hn,rfl,rfl⟩ _
 have M:=monotone_fh gD gV gW hod hs (by rw [hol];omega) hr
 rw [hol] at M
 refine aw_perm List.perm_append_comm ?_
 refine ySGNG J1 ?_
 refine aw_callh (hr:=[(g2,.cells 133 2 (ofL [.nils,.int .i64 0])),(g1,.cells 55 3 (ofL (dgc false d)))]) M rfl rfl rfl (List.perm_append_comm (l₁:=[(g2,_),(g1,_)])) (zL J1) ?_
 rintro _ _ ⟨b,og',ns',mm',hb,hs',hl',rfl,rfl⟩ _
 have hl2:=hl'.len
 refine aw_perm List.perm_append_comm ?_
 have hfe:(fun s=>evalD ns s r)=fun s=>evalD d.nodes s d.root:=funext he
 have hfe':(fun s=>evalD ns' s r)=fun s=>evalD d.nodes s d.root:=by rw [←hfe];exact funext fun s=>hl'.eval hs.tab hr s
 rw [hfe] at hb
 cases b
 ·have hnm:¬MonoF d.order.length (fun s=>evalD d.nodes s d.root):=fun h=>by have:=hb.2 h;cases this
  refine ySGPG J1 ?_
  refine yW J1 ?_
  refine ySG J1 ?_
  refine aw_rethw (h':=[]) rfl (List.nil_sublist _) (fun R hR=> ?_)
  simp only [go_sem,hn_g1,hn_g2]
  refine hR _ rfl ?_
  clear hR R
  exact⟨rfl,.inl ⟨hnm,rfl⟩⟩
 ·have hm:=hb.1 rfl
  have hr':=hl'.ref hr
  have hms:=monS_tab hs'.tab hr' (by rw [hfe'];exact hm)
  have J2:=oj hn_g1 hn_g2
  refine ySGNG J2 ?_
  refine aw_callh (hc:=[]) newSets_fh rfl rfl rfl (.refl _) (zL J2) ?_
  rintro _ _ ⟨gT,gU,gM,rfl,rfl⟩ _
  refine ySG J2 ?_
  have hz0:ZS d.order.length none [] []:=⟨fun _=>rfl,fun i hi=>absurd hi (Nat.not_lt_zero _),fun e he=>absurd he List.not_mem_nil⟩
  have hmem:∀v:Int,0≤v→v<(natL d.order.length).length→v∈natL d.order.length:=hod.mem
  have hrm:=room_10 h10 (dns:=ns') (r:=r) (lv3_nonneg hmem hs'.tab hr')
  have hpm:([(g2,AObj.cells 133 2 (ofL [.nils,.int .i64 0])),(g1,AObj.cells 55 3 (ofL (dgc false d)))]++THp gD gV gW og' (natL d.order.length) (placesL (natL d.order.length)) ns' mm').Perm (THp gD gV gW og' (natL d.order.length) (placesL (natL d.order.length)) ns' mm'++[(g2,AObj.cells 133 2 (ofL [.nils,.int .i64 0])),(g1,AObj.cells 55 3 (ofL (dgc false d)))]):=List.perm_append_comm
  refine aw_callh (hc:=ZHp gT gU gM none [] []++THp gD gV gW og' (natL d.order.length) (placesL (natL d.order.length)) ns' mm') (hr:=[(g2,.cells 133 2 (ofL [.nils,.int .i64 0])),(g1,.cells 55 3 (ofL (dgc false d)))]) (zsolutions_fh gT gU gM gD gV gW om hs' om hr' hms hz0 (by simp only [List.length_nil];omega)) rfl rfl rfl (by rw [List.append_assoc];exact(List.Perm.refl _).append hpm) (zL J2) ?_
  rintro _ _ ⟨oz,zn,zm,x,hz,zl,sp,rfl,rfl⟩ _
  have zlen:=zl.len
  simp only [List.length_nil] at zlen
  refine aw_perm (h':=ZHp gT gU gM oz zn zm++(THp gD gV gW og' (natL d.order.length) (placesL (natL d.order.length)) ns' mm'++[(g2,.cells 133 2 (ofL [.nils,.int .i64 0])),(g1,.cells 55 3 (ofL (dgc false d)))])) (by rw [List.append_assoc]) ?_
  refine ySG J2 ?_
  have hp10:2^d.order.length≤1024:=Nat.le_trans (Nat.pow_le_pow_right om h10) (by decide)
  refine aw_callh (hc:=ZHp gT gU gM oz zn zm) (zsmall_fh gT gU gM hz om sp.rx (most:=4096) om) rfl rfl rfl (.refl _) (zL J2) ?_
  rintro _ _ ⟨rfl,rfl⟩ _
  refine ySGNG J2 ?_
  refine aw_callh (hc:=ZHp gT gU gM oz zn zm) (zexport_fh gT gU gM hz om sp.rx) rfl rfl rfl (.refl _) (zL J2) ?_
  rintro _ _ ⟨rs,os,y,hex,rfl,rfl⟩ _
  have ho:=hex.out hz.tab sp.rx
  have hlen:os.length≤4096:=by
   have h1:=hex.len
   have h2:=hex.ok.len
   have h3:=(evZ_le hz.tab sp.rx).1
   have h4:2^((d.order.length:Int)-evZ d.order.length zn x).toNat≤2^d.order.length:=Nat.pow_le_pow_right om om
   simp only [List.length_nil] at h1
   omega
  have hso:SolOut d.order.length (fun s=>evalD d.nodes s d.root) ⟨os,y⟩:=⟨_,ho,fun s=>by rw [sp.sem s,hfe'],hlen⟩
  refine aw_perm (h':=[(g2,.cells 133 2 (ofL [.nils,.int .i64 0])),(g1,.cells 55 3 (ofL (dgc false d)))]++(ZHp gT gU gM oz zn zm++THp gD gV gW og' (natL d.order.length) (placesL (natL d.order.length)) ns' mm')) (by rw [←List.append_assoc];exact List.perm_append_comm) ?_
  refine ySGWSG J2 ?_
  refine aw_rethw (h':=[]) rfl (List.nil_sublist _) (fun R hR=> ?_)
  simp only [go_sem,hn_g1,hn_g2]
  refine hR _ rfl ?_
  clear hR R
  exact⟨rfl,.inr ⟨hm,⟨os,y⟩,hso,rfl⟩⟩
end Go.Proofs.YtfcnbgmclfkfcaaGreat
namespace Go.PN
open Go.AI
def keyLt (a b:Nat):Bool:=decide (popN a<popN b)||(decide (popN a=popN b)&&decide (a<b))
theorem key_irr (a:Nat):keyLt a a=false:=by simp [keyLt]
theorem key_trans {a b c:Nat} (h:keyLt a b=true) (k:keyLt b c=true):keyLt a c=true:=by
 simp only [keyLt,Bool.or_eq_true,Bool.and_eq_true,decide_eq_true_eq] at*
 omega
theorem key_asym {a b:Nat} (h:keyLt a b=true):keyLt b a=false:=by
 simp only [keyLt,Bool.or_eq_true,Bool.and_eq_true,decide_eq_true_eq,Bool.or_eq_false_iff,Bool.and_eq_false_iff,decide_eq_false_iff_not] at*
 omega
theorem key_total {a b:Nat} (h:keyLt a b=false) (hne:a≠b):keyLt b a=true:=by
 simp only [keyLt,Bool.or_eq_true,Bool.and_eq_true,decide_eq_true_eq,Bool.or_eq_false_iff,Bool.and_eq_false_iff,decide_eq_false_iff_not] at*
 omega
def Srt (l:List Nat):Prop:=l.Pairwise fun a b=>keyLt a b=true
theorem srt_ext:∀{l m:List Nat},Srt l→Srt m→(∀x,x∈l↔x∈m)→l=m
 |[],[],_,_,_=>rfl
 |[],b::m,_,_,h=>absurd ((h b).2 (List.mem_cons_self ..)) List.not_mem_nil
 |a::l,[],_,_,h=>absurd ((h a).1 (List.mem_cons_self ..)) List.not_mem_nil
 |a::l,b::m,hl,hm,h=>by
  have hl':=List.pairwise_cons.1 hl
  have hm':=List.pairwise_cons.1 hm
  have e:a=b:=by
   refine Classical.byContradiction fun hne=> ?_
   have h1:a∈m:=by
    rcases List.mem_cons.1 ((h a).1 (List.mem_cons_self ..)) with h1|h1
    ·exact absurd h1 hne
    ·exact h1
   have h2:b∈l:=by
    rcases List.mem_cons.1 ((h b).2 (List.mem_cons_self ..)) with h2|h2
    ·exact absurd h2.symm hne
    ·exact h2
   have k1:=hl'.1 b h2
   have k2:=hm'.1 a h1
   rw [key_asym k1] at k2
   cases k2
  subst e
  have:l=m:=srt_ext hl'.2 hm'.2 fun x=>by
   constructor
   ·intro hx
    rcases List.mem_cons.1 ((h x).1 (List.mem_cons_of_mem _ hx)) with h1|h1
    ·subst h1
     have:=hl'.1 x hx
     rw [key_irr] at this;cases this
    ·exact h1
   ·intro hx
    rcases List.mem_cons.1 ((h x).2 (List.mem_cons_of_mem _ hx)) with h1|h1
    ·subst h1
     have:=hm'.1 x hx
     rw [key_irr] at this;cases this
    ·exact h1
  rw [this]
def insA (x:Nat) (l:List Nat) (k:Nat):List Nat:=l.take k++x::l.drop k
def insN (x:Nat) (l:List Nat):List Nat:=
 if l.getD (l.findIdx fun y=> !keyLt y x) x=x∧l.findIdx (fun y=> !keyLt y x)<l.length then l else insA x l (l.findIdx fun y=> !keyLt y x)
def sortN (xs:List Nat):List Nat:=xs.foldl (fun acc x=>insN x acc) []
theorem insA_mem {x y:Nat} {l:List Nat} {k:Nat}:y∈insA x l k↔y=x∨y∈l:=by
 unfold insA
 rw [List.mem_append,List.mem_cons]
 have:y∈l↔y∈l.take k∨y∈l.drop k:=by rw [←List.mem_append,List.take_append_drop]
 rw [this]
 constructor
 ·rintro (h|h|h)
  ·exact .inr (.inl h)
  ·exact .inl h
  ·exact .inr (.inr h)
 ·rintro (h|h|h)
  ·exact .inr (.inl h)
  ·exact .inl h
  ·exact .inr (.inr h)
theorem ins_mem {x y:Nat} {l:List Nat}:y∈insN x l↔y=x∨y∈l:=by
 unfold insN
 split
 ·rename_i h
  constructor
  ·exact .inr
  ·rintro (h1|h1)
   ·subst h1
    rw [←h.1,List.getD_eq_getElem?_getD,List.getElem?_eq_getElem h.2]
    exact List.getElem_mem _
   ·exact h1
 ·exact insA_mem
theorem ins_srt {x:Nat} {l:List Nat} (hl:Srt l):Srt (insN x l):=by
 unfold insN
 split
 ·exact hl
 ·rename_i h
  have hb:∀j (hj:j<l.length),j<(l.findIdx fun y=> !keyLt y x)→keyLt l[j] x=true:=fun j hj hlt=>by
   have:=List.not_of_lt_findIdx (p:=fun y=> !keyLt y x) (xs:=l) (i:=j) hlt
   simpa using this
  have ha:∀j (hj:j<l.length),(l.findIdx fun y=> !keyLt y x)≤j→keyLt x l[j]=true:=fun j hj hle=>by
   have hlt:(l.findIdx fun y=> !keyLt y x)<l.length:=by omega
   have h1:keyLt l[l.findIdx fun y=> !keyLt y x] x=false:=by
    have:=List.findIdx_getElem (p:=fun y=> !keyLt y x) (xs:=l) (w:=hlt)
    simpa using this
   have hne:l[l.findIdx fun y=> !keyLt y x]≠x:=fun e=>h ⟨by rw [List.getD_eq_getElem?_getD,List.getElem?_eq_getElem hlt];exact e,hlt⟩
   have h2:=key_total h1 hne
   rcases Nat.lt_or_ge (l.findIdx fun y=> !keyLt y x) j with h3|h3
   ·exact key_trans h2 (List.pairwise_iff_getElem.1 hl _ _ hlt hj h3)
   ·have:j=l.findIdx fun y=> !keyLt y x:=by omega
    subst this
    exact h2
  generalize (l.findIdx fun y=> !keyLt y x)=k at*
  unfold insA Srt
  rw [List.pairwise_append]
  refine⟨hl.sublist (List.take_sublist _ _),List.pairwise_cons.2 ⟨fun y hy=> ?_,hl.sublist (List.drop_sublist _ _)⟩,fun a hma b hmb=> ?_⟩
  ·obtain⟨i,hi,e⟩:=List.getElem_of_mem hy
   rw [List.getElem_drop] at e
   rw [←e]
   exact ha _ (by rw [List.length_drop] at hi;omega) om
  ·obtain⟨i,hi,e⟩:=List.getElem_of_mem hma
   rw [List.length_take] at hi
   rw [List.getElem_take] at e
   have h1:=hb i om om
   rw [e] at h1
   rcases List.mem_cons.1 hmb with h2|h2
   ·rw [h2];exact h1
   ·obtain⟨j,hj,e2⟩:=List.getElem_of_mem h2
    rw [List.getElem_drop] at e2
    rw [←e2]
    exact key_trans h1 (ha _ (by rw [List.length_drop] at hj;omega) om)
theorem sort_fold:∀(xs acc:List Nat),Srt acc→Srt (xs.foldl (fun acc x=>insN x acc) acc)∧∀y,y∈xs.foldl (fun acc x=>insN x acc) acc↔y∈acc∨y∈xs
 |[],acc,h=>⟨h,fun y=>by simp⟩
 |x::xs,acc,h=>by
  obtain⟨h1,h2⟩:=sort_fold xs (insN x acc) (ins_srt h)
  refine⟨h1,fun y=> ?_⟩
  show y∈xs.foldl (fun acc x=>insN x acc) (insN x acc)↔_
  rw [h2,ins_mem,List.mem_cons]
  constructor
  ·rintro ((h3|h3)|h3)
   ·exact .inr (.inl h3)
   ·exact .inl h3
   ·exact .inr (.inr h3)
  ·rintro (h3|h3|h3)
   ·exact .inl (.inr h3)
   ·exact .inl (.inl h3)
   ·exact .inr h3
theorem sort_srt (xs:List Nat):Srt (sortN xs):=(sort_fold xs [] List.Pairwise.nil).1
theorem sort_mem {xs:List Nat} {y:Nat}:y∈sortN xs↔y∈xs:=by
 have:=(sort_fold xs [] List.Pairwise.nil).2 y
 unfold sortN
 simpa using this
def zL (l:List Nat):List Int:=l.map fun(s:Nat)=>(s:Int)
theorem zL_len (l:List Nat):(zL l).length=l.length:=by simp [zL]
theorem zL_get (l:List Nat) (i:Nat):(zL l).getD i 0=((l.getD i 0:Nat):Int):=by
 unfold zL
 rw [List.getD_eq_getElem?_getD,List.getD_eq_getElem?_getD,List.getElem?_map]
 cases l[i]?<;>simp
theorem zL_push (l:List Nat) (x:Nat):zL l++[(x:Int)]=zL (l++[x]):=by simp [zL]
def subT (t s:Nat):Bool:=decide (t&&&s=t)
theorem subT_iff {t s:Nat}:subT t s=true↔SubN t s:=by
 unfold subT
 rw [decide_eq_true_eq]
 constructor
 ·intro h j hj
  rw [←h,Nat.testBit_and] at hj
  simp only [Bool.and_eq_true] at hj
  exact hj.2
 ·intro h
  refine Nat.eq_of_testBit_eq fun j=> ?_
  rw [Nat.testBit_and]
  cases ht:t.testBit j
  ·rfl
  ·rw [h j ht];rfl
end Go.PN
namespace Go.PN
open Go.AI
theorem ltake {l:List Nat} {k:Nat} (hk:k<l.length):l.take (k+1)=l.take k++[l.getD k 0]:=by
 rw [List.take_succ_eq_append_getElem hk,List.getD_eq_getElem?_getD,List.getElem?_eq_getElem hk];rfl
end Go.PN
namespace Go.Proofs.YtfcnbgmclfkfcaaGreat
open Go.AI Go.PN
attribute [local irreducible] aw Fa Fh DrK
def failsB (l:List Nat) (s:Nat):Bool:=l.any fun t=>subT t s
end Go.Proofs.YtfcnbgmclfkfcaaGreat
namespace Go.PN
open Go.AI Go.Proofs.YtfcnbgmclfkfcaaGreat
theorem dn_ext {a b:List DN} (hl:a.length=b.length) (h:∀j,j<a.length→a.getD j dn0=b.getD j dn0):a=b:=by
 refine List.ext_getElem hl fun j h1 h2=> ?_
 have:=h j h1
 rwa [getDN h1,getDN h2] at this
end Go.PN
namespace Go.Proofs.YtfcnbgmclfkfcaaGreat
open Go.AI Go.PN
attribute [local irreducible] aw Fa Fh DrK
theorem sortN_len (xs:List Nat):(sortN xs).length≤xs.length:=by
 have h:∀(xs acc:List Nat),(xs.foldl (fun acc x=>insN x acc) acc).length≤acc.length+xs.length:=by
  intro xs
  induction xs with
  |nil=>intro acc;simp
  |cons x xs ih=>
   intro acc
   have:=ih (insN x acc)
   have hl:(insN x acc).length≤acc.length+1:=by
    unfold insN
    split
    ·omega
    ·unfold insA
     rw [List.length_append,List.length_cons,List.length_take,List.length_drop]
     omega
   simp only [List.foldl_cons,List.length_cons]
   omega
 have:=h xs []
 unfold sortN
 simpa using this
end Go.Proofs.YtfcnbgmclfkfcaaGreat
namespace Go.Proofs.YtfcnbgmclfkfcaaGreat
open Go.AI Go.PN
attribute [local irreducible] aw Fa Fh DrK
set_option maxHeartbeats 800000 in
theorem slEqDN_fa (xs ys:List DN) (hl:xs.length≤68719476736) (hl2:ys.length≤68719476736):Fa Tryz.prog 222 [.c (dns false xs),.c (dns false ys)] (.c (.bool (decide (xs=ys)))):=by
 refine fa_of_body Tryz.func222 rfl rfl (by simp [Tryz.ntmps222]) fun C hC=> ?_
 simp only [initS,Nat.reduceAdd]
 refine xG ?_
 refine xF (fun hb=>?_) fun hb=>?_
 ·refine xGT hC ?_
  refine .one (.c (ler_bool ?_))
  have:xs≠ys:=fun e=>by rw [e] at hb;simp at hb
  simp [this]
 ·have hlen:xs.length=ys.length:=by
   have:((xs.length:Int)==(ys.length:Int))=true:=by simpa [bne] using hb
   have:=eq_of_beq this;omega
  refine xG ?_
  refine aw_lp (fun i:Nat=>[(0,.c (dns false xs)),(1,.c (dns false ys)),(12,.c (.int .i64 xs.length)),(13,.c (.int .i64 i))]) (fun _=>[]) (fun i=>i≤xs.length∧∀j,j<i→xs.getD j dn0=ys.getD j dn0) (fun i=>xs.length-i) 0 eB zZ ⟨Nat.zero_le _,fun j hj=>by omega⟩ ?_
  rintro i ⟨hi,hs⟩
  refine xG ?_
  refine xF (fun hb=>?_) fun hb=>?_
  ·have hin:i<xs.length:=dT hb
   refine xG ?_
   refine aw_dr 9 ty_mixed (by kernel_rfl) ?_
   refine xG ?_
   refine xF (fun hc=>?_) fun hc=>?_
   ·have hc':¬xs.getD i dn0=ys.getD i dn0:=by
     rw [eqDN] at hc
     simpa using hc
    refine xGT hC ?_
    refine .one (.c (ler_bool ?_))
    have:xs≠ys:=fun e=>hc' (by rw [e])
    simp [this]
   ·have he:xs.getD i dn0=ys.getD i dn0:=by
     rw [eqDN] at hc
     simpa using hc
    refine xG ?_
    refine aw_stop ⟨i+1,by omega,eB,zZ,by omega,fun j hj=> ?_⟩
    by_cases hji:j=i
    ·rw [hji];exact he
    ·exact hs j om
  ·have hin:i=xs.length:=dF hb
   subst hin
   refine xGT hC ?_
   refine .one (.c (ler_bool ?_))
   have:=dn_ext hlen hs
   simp [this]
theorem bz_ty:tZ1 Tryz.prog 4=some (.bool false):=by kernel_rfl
set_option maxRecDepth 100000 in
set_option maxHeartbeats 6400000 in
theorem zcheck_fa {n:Nat} {F:Nat→Bool} (z:ZD) (hz:ZOut n F z) (h24:n≤24) (hn:z.nodes.length≤4096):Fa Tryz.prog 199 [.agg (zdc false z)] (.c .nilI):=by
 have ht:=hz.tab
 have hr:=hz.ref
 refine fa_of_body Tryz.func199 rfl rfl (by simp [Tryz.ntmps199]) fun C hC=> ?_
 simp only [initS,Nat.reduceAdd]
 refine xG ?_
 refine xB fun g1 hn_g1=>?_
 refine yG hn_g1 ?_
 have t0:decide ((z.nodes.length:Int)>4096)=false:=decide_eq_false om
 have J1:=oj hn_g1 t0
 refine yS J1 ?_
 refine yN J1 ?_
 refine yG J1 ?_
 refine aw_makeMap (Kf:=dkV) rfl rfl rfl fun gm hn_gm=> ?_
 replace hn_gm:=Heap.ne_of hn_gm
 dsimp only [Heap.ne] at hn_gm
 have J2:=oj hn_g1 (oj t0 hn_gm)
 refine ySG J2 ?_
 refine aw_lp (fun i:Nat=>[(1,.c (.optr g1 0)),(3,.c (.raw (.map (some gm)))),(15,.c (dns false z.nodes)),(16,.c (.int .i64 z.nodes.length)),(17,.c (.int .i64 i))]) (fun i=>[(gm,.gen (MapI dkV (dkL (z.nodes.take i)))),(g1,.cells 133 2 (ofL (zdc false z)))]) (fun i=>i≤z.nodes.length) (fun i=>z.nodes.length-i) 0 (zB J2) zZ (Nat.zero_le _) ?_
 rintro i hi
 refine yG J2 ?_
 refine yF J2 (fun h1=>?_) fun h1=>?_
 ·have hin:i<z.nodes.length:=dT h1
  have nd:=ht i hin
  obtain⟨v0,v1,l0,l1,q0,q1⟩:=nd.nk
  have nh:=nd.hi
  have bl:=nd.bl
  have bh:=nd.bh
  have nw:=nd.new
  have evl:∀r:Int,2≤r→evZ n z.nodes r=(z.nodes.getD (r-2).toNat dn0).v:=fun r hr=>evZ_node hr
  generalize hx0:z.nodes.getD i dn0=nd at*
  have c1:decide (nd.v<0)=false:=decide_eq_false om
  have c2:decide (nd.v≥24)=false:=decide_eq_false om
  have c3:decide ((if nd.hi<nd.lo then nd.hi else nd.lo)<0)=false:=decide_eq_false (by split<;>omega)
  have c4:decide ((if nd.hi>nd.lo then nd.hi else nd.lo)>1+(i:Int))=false:=decide_eq_false (by split<;>omega)
  have c5:=ieq_f nh
  refine yG J2 ?_
  refine yA J2 fun g5 hn_g5=>?_
  have J3:=oj hn_g1 (oj t0 (oj hn_gm (oj hn_g5 (oj c1 (oj c2 (oj c3 (oj c4 (oj c5 hx0))))))))
  refine yGWSGNG J3 ?_
  refine yN J3 ?_
  refine aw_seq ?_
  refine aw_cut (fun _:Unit=>[(1,.c (.optr g1 0)),(3,.c (.raw (.map (some gm)))),(5,.c (.optr g5 0)),(15,.c (dns false z.nodes)),(16,.c (.int .i64 z.nodes.length)),(17,.c (.int .i64 i)),(55,.c (.bool false))]) (fun _=>[(g5,.cells 145 3 (ofL [.int .i64 nd.v,.int .i64 nd.lo,.int .i64 nd.hi])),(gm,.gen (MapI dkV (dkL (z.nodes.take i)))),(g1,.cells 133 2 (ofL (zdc false z)))]) (fun _=>(0:Nat)=0) ?_ ?_
  ·by_cases a1:nd.lo≥2
   ·have d1:decide (nd.lo≥2)=true:=decide_eq_true a1
    have d2:decide ((z.nodes.getD (nd.lo-2).toNat dn0).v≤nd.v)=false:=decide_eq_false (by rw [evl _ a1] at bl;omega)
    by_cases a2:nd.hi≥2
    ·have d3:decide (nd.hi≥2)=true:=decide_eq_true a2
     have d4:decide ((z.nodes.getD (nd.hi-2).toNat dn0).v≤nd.v)=false:=decide_eq_false (by rw [evl _ a2] at bh;omega)
     have J4:=oj hn_g1 (oj t0 (oj hn_gm (oj hn_g5 (oj c1 (oj c2 (oj c3 (oj c4 (oj c5 (oj hx0 (oj d1 (oj d2 (oj d3 d4))))))))))))
     refine yG J4 ?_
     refine aw_dr 35 ty_mixed (by kernel_rfl) ?_
     refine yG J4 ?_
     exact aw_stop ⟨(),(zB J4),zZ,rfl⟩
    ·have d3:decide (nd.hi≥2)=false:=decide_eq_false a2
     have J5:=oj hn_g1 (oj t0 (oj hn_gm (oj hn_g5 (oj c1 (oj c2 (oj c3 (oj c4 (oj c5 (oj hx0 (oj d1 (oj d2 d3)))))))))))
     refine yG J5 ?_
     refine aw_dr 35 ty_mixed (by kernel_rfl) ?_
     refine yG J5 ?_
     exact aw_stop ⟨(),(zB J5),zZ,rfl⟩
   ·have d1:decide (nd.lo≥2)=false:=decide_eq_false a1
    by_cases a2:nd.hi≥2
    ·have d3:decide (nd.hi≥2)=true:=decide_eq_true a2
     have d4:decide ((z.nodes.getD (nd.hi-2).toNat dn0).v≤nd.v)=false:=decide_eq_false (by rw [evl _ a2] at bh;omega)
     have J6:=oj hn_g1 (oj t0 (oj hn_gm (oj hn_g5 (oj c1 (oj c2 (oj c3 (oj c4 (oj c5 (oj hx0 (oj d1 (oj d3 d4)))))))))))
     refine yG J6 ?_
     refine aw_dr 35 ty_mixed (by kernel_rfl) ?_
     refine yG J6 ?_
     exact aw_stop ⟨(),(zB J6),zZ,rfl⟩
    ·have d3:decide (nd.hi≥2)=false:=decide_eq_false a2
     have J7:=oj hn_g1 (oj t0 (oj hn_gm (oj hn_g5 (oj c1 (oj c2 (oj c3 (oj c4 (oj c5 (oj hx0 (oj d1 d3))))))))))
     refine yG J7 ?_
     refine aw_dr 35 ty_mixed (by kernel_rfl) ?_
     refine yG J7 ?_
     exact aw_stop ⟨(),(zB J7),zZ,rfl⟩
  rintro _ _
  refine yN J3 ?_
  refine yG J3 ?_
  refine aw_lookup (a:=dk nd) (kv:=dkL (z.nodes.take i)) (Kf:=dkV) (z:=.bool false) rfl rfl rfl (kt:=145) (et:=4) (by kernel_rfl) dk_ok bz_ty (zE J3) (zE J3) (zE J3) dk_rep ?_
  rw [dkL_cst,decide_eq_false nw]
  refine ySGNG J3 ?_
  refine aw_mapNew (a:=dk nd) (kv:=dkL (z.nodes.take i)) (Kf:=dkV) (v:=.bool true) rfl rfl rfl (kt:=145) (et:=4) (by kernel_rfl) dk_ok (zE J3) (zE J3) (zE J3) dk_rep (cv:=.c (.bool true)) (zE J3) (fun S w u h=>h) (by rw [dkL_get,if_neg nw]) (zE J3) ?_
  rw [←dkL_push,←hx0,←takeDN_push hin]
  have J8:=oj hn_g1 (oj t0 (oj hn_gm (oj hn_g5 (oj c1 (oj c2 (oj c3 (oj c4 (oj c5 hx0))))))))
  refine ySG J8 ?_
  exact aw_stop ⟨i+1,by omega,(zB J8),List.Sublist.cons _ (List.Sublist.refl _),by omega⟩
 ·have hin:i=z.nodes.length:=dF h1
  subst hin
  obtain⟨rs,hag⟩:=hz.again
  have r1:decide (z.root<0)=false:=decide_eq_false (by have:=hr.1;omega)
  have r2:decide (z.root>1+(z.nodes.length:Int))=false:=decide_eq_false (by have:=hr.2;omega)
  have J9:=oj hn_g1 (oj t0 (oj hn_gm (oj r1 r2)))
  refine yGNG J9 ?_
  refine aw_callh (hc:=[]) (hr:=[(gm,.gen (MapI dkV (dkL (z.nodes.take z.nodes.length)))),(g1,.cells 133 2 (ofL (zdc false z)))]) newSets_fh rfl rfl rfl (.refl _) (zL J9) ?_
  rintro _ _ ⟨gT,gU,gM,rfl,rfl⟩ _
  refine aw_perm List.perm_append_comm ?_
  refine ySG J9 ?_
  refine aw_callh (hc:=ZHp gT gU gM none [] []) (hr:=[(gm,.gen (MapI dkV (dkL (z.nodes.take z.nodes.length)))),(g1,.cells 133 2 (ofL (zdc false z)))]) (zimport_fh gT gU gM z ht hr om) rfl rfl rfl (List.perm_append_comm (l₁:=[(gm,_),(g1,_)])) (zL J9) ?_
  rintro _ _ ⟨og,hog,rfl,rfl⟩ _
  refine ySG J9 ?_
  have hs:ZS n og z.nodes []:=⟨hog,ht,fun e he=>absurd he List.not_mem_nil⟩
  refine aw_callh (hc:=ZHp gT gU gM og z.nodes []) (hr:=[(gm,.gen (MapI dkV (dkL (z.nodes.take z.nodes.length)))),(g1,.cells 133 2 (ofL (zdc false z)))]) (zexport_fh gT gU gM hs om hr) rfl rfl rfl (.refl _) (zL J9) ?_
  rintro _ _ ⟨rs',os,y,hex,rfl,rfl⟩ _
  obtain⟨_,rfl,rfl⟩:=hex.run.det hag
  refine aw_perm List.perm_append_comm ?_
  refine ySG J9 ?_
  refine yA J9 fun g7 hn_g7=>?_
  refine yG (oj hn_g1 (oj t0 (oj hn_gm (oj r1 (oj r2 hn_g7))))) ?_
  have y1:=ieq_t (rfl:z.root=z.root)
  have J10:=oj hn_g1 (oj t0 (oj hn_gm (oj r1 (oj r2 (oj hn_g7 y1)))))
  refine yW J10 ?_
  refine ySG J10 ?_
  refine aw_callq (slEqDN_fa z.nodes z.nodes om om) rfl rfl rfl (zL J10) ?_
  rw [decide_eq_true (rfl:z.nodes=z.nodes)]
  refine ySGNG J10 ?_
  refine yT hC J10 ?_
  exact .one (.c .nilI)
end Go.Proofs.YtfcnbgmclfkfcaaGreat
namespace Go.AI
open Go.PN
def zdZ:ZD:=⟨[],0⟩
def zdsF (ds:List ZD):Nat→CV:=lf 2 (fun d:ZD=>[dns false d.nodes,CV.int .i64 d.root]) zdZ ds
@[go_sem] theorem zdsF_0 (ps:List ZD) (i:Nat):zdsF ps (i*2)=dns false (ps.getD i zdZ).nodes:=by
 have:=lf_at (s:=2) (c:=fun d:ZD=>[dns false d.nodes,CV.int .i64 d.root]) (d:=zdZ) (xs:=ps) (i:=i) (k:=0) om
 exact this
@[go_sem] theorem zdsF_1 (ps:List ZD) (i:Nat):zdsF ps (i*2+1)=.int .i64 (ps.getD i zdZ).root:=by
 have:=lf_at (s:=2) (c:=fun d:ZD=>[dns false d.nodes,CV.int .i64 d.root]) (d:=zdZ) (xs:=ps) (i:=i) (k:=1) om
 exact this
abbrev zds (t:Bool) (ds:List ZD):CV:=.row t 2 ds.length (zdsF ds)
end Go.AI
namespace Go.Proofs.YtfcnbgmclfkfcaaGreat
open Go.AI Go.PN
attribute [local irreducible] aw Fa Fh DrK
set_option maxRecDepth 100000 in
set_option maxHeartbeats 3200000 in
theorem zopen_fh {n:Nat} {F:Nat→Bool} (z:ZD) (hz:ZOut n F z) (h24:n≤24) (hn:z.nodes.length≤4096):
 Fh Tryz.prog 155 [] [.c (zds false [z])] (fun x h=>∃gT gU gM og,(og=none→z.nodes.length=0)∧x=.tup [.c (.optr gT 0),.c (is true [z.root]),.c .nilI]∧h=ZHp gT gU gM og z.nodes []):=by
 refine fh_of_body Tryz.func155 rfl rfl (by simp [Tryz.ntmps155]) fun C hC=> ?_
 simp only [initS,Nat.reduceAdd]
 refine xG ?_
 refine aw_callh (hc:=[]) (hr:=[]) newSets_fh rfl rfl rfl (.refl _) eL ?_
 rintro _ _ ⟨gT,gU,gM,rfl,rfl⟩ _
 rw [List.append_nil]
 refine xSG ?_
 refine aw_lp (fun x:Nat×Option Nat×Option Nat×List DN×List Int=>[(0,.c (zds false [z])),(5,.c (.optr gT 0)),(6,.c (gs x.2.1 1 x.1)),(11,.c (zds false [z])),(12,.c (.int .i64 1)),(13,.c (.int .i64 x.1))]) (fun x=>ZHp gT gU gM x.2.2.1 x.2.2.2.1 []++gh x.2.1 3 (x.1*1) (isF x.2.2.2.2))
  (fun x=>x.1≤1∧(x.2.1=none→x.1=0)∧(x.2.2.1=none→x.2.2.2.1.length=0)∧x.2.2.2.2.length=x.1∧(x.1=0→x.2.2.2.1=[]∧x.2.2.1=none)∧(x.1=1→x.2.2.2.1=z.nodes∧x.2.2.2.2=[z.root])) (fun x=>1-x.1) (0,none,none,[],[]) eB (by simp only [gh,List.append_nil];exact List.Sublist.refl _) ⟨Nat.zero_le _,fun _=>rfl,fun _=>rfl,rfl,fun _=>⟨rfl,rfl⟩,fun h=>by cases h⟩ ?_
 rintro ⟨k,ogr,og,ns,rl⟩ ⟨hk,hogr,hog,hrl,h0,h1⟩
 dsimp only at hk hogr hog hrl h0 h1⊢
 refine xG ?_
 refine xF (fun hb=>?_) fun hb=>?_
 ·have hk0:k=0:=dT hb
  subst hk0
  obtain⟨rfl,rfl⟩:=h0 rfl
  obtain rfl:rl=[]:=List.length_eq_zero_iff.1 hrl
  refine xG ?_
  refine xA fun g8 hn_g8=>?_
  refine yGWSG hn_g8 ?_
  refine yC hn_g8 (zcheck_fa z hz h24 hn) ?_
  refine yGNG hn_g8 ?_
  refine aw_callh (hc:=ZHp gT gU gM none [] []) (hr:=(g8,.cells 133 2 (ofL [dns false z.nodes,.int .i64 z.root]))::gh ogr 3 0 (isF [])) (zimport_fh gT gU gM z hz.tab hz.ref om) rfl rfl rfl (perm_mid (g8,_) _ _) (zL hn_g8) ?_
  rintro _ _ ⟨og1,hog1,rfl,rfl⟩ _
  refine aw_perm (perm_mid (g8,_) _ _).symm ?_
  simp only [ZHp,ZH,List.cons_append,List.nil_append,List.append_assoc]
  refine ySG hn_g8 ?_
  refine aw_push (pre:=(g8,.cells 133 2 (ofL [dns false z.nodes,.int .i64 z.root]))::([(gT,.cells 224 3 (ofL [gs og1 3 z.nodes.length,.raw (.map (some gU)),.raw (.map (some gM))])),(gU,.gen (MapI dkV (uqTo z.nodes 0))),(gM,.gen (MapI keyS (mmL [])))]++gh og1 145 (z.nodes.length*3) (dnsF z.nodes))) rfl rfl rfl rfl rfl rfl rfl (zE hn_g8) (zE hn_g8) (by rfl) om om (zE hn_g8) om (by exact hogr) (zE hn_g8) (by rfl) (by rfl) (by first|rfl|simp only [Nat.mul_one,List.nil_append,List.cons_append]<;>rfl) (by unfold maxLen;omega) om (by exact(fun j hj=>is_push (zs:=[]) (n:=0) rfl z.root j hj)) fun g hn_g=> ?_
  replace hn_g:=Heap.ne_of hn_g
  first|dsimp only [Heap.ne,gh] at hn_g|dsimp only [Heap.ne] at hn_g|skip
  have J1:=oj hn_g8 hn_g
  refine ySG J1 ?_
  refine aw_stop ⟨(1,some g,og1,z.nodes,[z.root]),by dsimp only;omega,(zB J1),?_,by dsimp only;omega,some_ne,hog1,rfl,(fun h=>by cases h),fun _=>⟨rfl,rfl⟩⟩
  simp only [ZHp,ZH,List.cons_append,List.nil_append,List.append_assoc]
  exact List.Sublist.cons _ (List.Sublist.refl _)
 ·have hk1:k=1:=dF hb
  subst hk1
  obtain⟨rfl,rfl⟩:=h1 rfl
  obtain⟨g,rfl⟩:∃g,ogr=some g:=by
   cases ogr with
   |none=>have:=hogr rfl;omega
   |some g=>exact⟨g,rfl⟩
  simp only [gs,gh]
  refine xG ?_
  refine aw_nd fun hnd=> ?_
  have hg:g∉(ZHp gT gU gM og z.nodes []).keys:=by
   have h2:((ZHp gT gU gM og z.nodes []).keys++[g]).Nodup:=by simpa [Heap.keys] using hnd
   exact fun hm=>(List.nodup_append.1 h2).2.2 g hm g (by simp) rfl
  refine aw_frz (t:=3) (f:=isF [z.root]) rfl (Heap.get_app hg) om (fun h=>by have:=(hC g).1 h;simp [Heap.keys] at this) rfl (Heap.del_app hg) ?_
  have e:(CV.row true 1 1 fun j=>isF [z.root] (0+j))=is true [z.root]:=by simp only [Nat.zero_add];rfl
  rw [e]
  refine xS ?_
  refine xU ?_
  exact⟨gT,gU,gM,og,hog,rfl,rfl⟩
end Go.Proofs.YtfcnbgmclfkfcaaGreat
namespace Go.Proofs.YtfcnbgmclfkfcaaGreat
open Go.Shelf Go.Proofs
def sortRen:Go.Shelf.Ren:=⟨fun|6=>159|15=>205|14=>204|28=>186|29=>230|20=>183|21=>223|22=>224|23=>225|24=>226|25=>227|26=>228|27=>229|46=>239|47=>240|48=>241|49=>242|50=>243|57=>245|n=>n,fun|22=>52|24=>3|25=>90|3=>3|39=>172|0=>0|53=>130|55=>170|4=>4|46=>236|45=>235|50=>160|5=>5|9=>9|66=>242|70=>246|76=>248|77=>188|n=>n,fun n=>n⟩
theorem sortL:SlLaysF.n6 Tryz.prog sortRen where
 mixed:=by kernel_rfl
 f6:=⟨"slices.SortFunc[[]int,int]",by decide,Tryz.func159.trans (congrArg some (by kernel_rfl))⟩
 f14:=⟨"slices.pdqsortCmpFunc[int]",by decide,Tryz.func204.trans (congrArg some (by kernel_rfl))⟩
 f15:=Tryz.func205.trans (congrArg some (by kernel_rfl))
 f20:=⟨"slices.insertionSortCmpFunc[int]",by decide,Tryz.func183.trans (congrArg some (by kernel_rfl))⟩
 f21:=⟨"slices.heapSortCmpFunc[int]",by decide,Tryz.func223.trans (congrArg some (by kernel_rfl))⟩
 f22:=⟨"slices.breakPatternsCmpFunc[int]",by decide,Tryz.func224.trans (congrArg some (by kernel_rfl))⟩
 f23:=⟨"slices.choosePivotCmpFunc[int]",by decide,Tryz.func225.trans (congrArg some (by kernel_rfl))⟩
 f24:=⟨"slices.reverseRangeCmpFunc[int]",by decide,Tryz.func226.trans (congrArg some (by kernel_rfl))⟩
 f25:=⟨"slices.partialInsertionSortCmpFunc[int]",by decide,Tryz.func227.trans (congrArg some (by kernel_rfl))⟩
 f26:=⟨"slices.partitionEqualCmpFunc[int]",by decide,Tryz.func228.trans (congrArg some (by kernel_rfl))⟩
 f27:=⟨"slices.partitionCmpFunc[int]",by decide,Tryz.func229.trans (congrArg some (by kernel_rfl))⟩
 f28:=Tryz.func186.trans (congrArg some (by kernel_rfl))
 f29:=Tryz.func230.trans (congrArg some (by kernel_rfl))
 f46:=⟨"slices.siftDownCmpFunc[int]",by decide,Tryz.func239.trans (congrArg some (by kernel_rfl))⟩
 f47:=Tryz.func240.trans (congrArg some (by kernel_rfl))
 f48:=Tryz.func241.trans (congrArg some (by kernel_rfl))
 f49:=⟨"slices.medianAdjacentCmpFunc[int]",by decide,Tryz.func242.trans (congrArg some (by kernel_rfl))⟩
 f50:=⟨"slices.medianCmpFunc[int]",by decide,Tryz.func243.trans (congrArg some (by kernel_rfl))⟩
 f57:=⟨"slices.order2CmpFunc[int]",by decide,Tryz.func245.trans (congrArg some (by kernel_rfl))⟩
 t0:=Tryz.underlying0
 a0:=Tryz.isAgg0
 z0:=Tryz.sizeOf0
 v0:=Tryz.zeroValue0
 t3:=Tryz.underlying3
 a3:=Tryz.isAgg3
 z3:=Tryz.sizeOf3
 v3:=Tryz.zeroValue3
 t4:=Tryz.underlying4
 a4:=Tryz.isAgg4
 z4:=Tryz.sizeOf4
 v4:=Tryz.zeroValue4
 t5:=Tryz.underlying5
 a5:=Tryz.isAgg5
 z5:=Tryz.sizeOf5
 v5:=Tryz.zeroValue5
 t9:=Tryz.underlying9
 a9:=Tryz.isAgg9
 z9:=Tryz.sizeOf9
 v9:=Tryz.zeroValue9
 t22:=Tryz.underlying52
 a22:=Tryz.isAgg52
 z22:=Tryz.sizeOf52
 v22:=Tryz.zeroValue52
 a24:=Tryz.isAgg3
 z24:=Tryz.sizeOf3
 t25:=Tryz.underlying90
 a25:=Tryz.isAgg90
 z25:=Tryz.sizeOf90
 v25:=Tryz.zeroValue90
 t39:=Tryz.underlying172
 a39:=Tryz.isAgg172
 z39:=Tryz.sizeOf172
 v39:=Tryz.zeroValue172
 t45:=Tryz.underlying235
 a45:=Tryz.isAgg235
 z45:=Tryz.sizeOf235
 v45:=Tryz.zeroValue235
 t46:=Tryz.underlying236
 a46:=Tryz.isAgg236
 z46:=Tryz.sizeOf236
 v46:=Tryz.zeroValue236
 t50:=Tryz.underlying160
 a50:=Tryz.isAgg160
 z50:=Tryz.sizeOf160
 v50:=Tryz.zeroValue160
 t53:=Tryz.underlying130
 a53:=Tryz.isAgg130
 z53:=Tryz.sizeOf130
 v53:=Tryz.zeroValue130
 t55:=Tryz.underlying170
 a55:=Tryz.isAgg170
 z55:=Tryz.sizeOf170
 v55:=Tryz.zeroValue170
 t66:=Tryz.underlying242
 a66:=Tryz.isAgg242
 z66:=Tryz.sizeOf242
 v66:=Tryz.zeroValue242
 t70:=Tryz.underlying246
 a70:=Tryz.isAgg246
 z70:=Tryz.sizeOf246
 v70:=Tryz.zeroValue246
 t76:=Tryz.underlying248
 a76:=Tryz.isAgg248
 z76:=Tryz.sizeOf248
 v76:=Tryz.zeroValue248
 t77:=Tryz.underlying188
 a77:=Tryz.isAgg188
 z77:=Tryz.sizeOf188
 v77:=Tryz.zeroValue188
end Go.Proofs.YtfcnbgmclfkfcaaGreat
namespace Go.AI
theorem solid_gs2 {og:Option Nat} {s n:Nat} {k:IntKind} {z:Int}:(AV.agg [gs og s n,.int k z]).cells.all CV.solid=true:=by
 cases og<;>rfl
end Go.AI

