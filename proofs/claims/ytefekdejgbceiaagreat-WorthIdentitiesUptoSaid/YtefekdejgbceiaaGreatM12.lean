/- Parts of one proof, laid by a program. -/
import Derived.Test.YtefekdejgbceiaaGreatM00
import Derived.Test.YtefekdejgbceiaaGreatM11
import Derived.Test.YtefekdejgbceiaaGreatProg
import Derived.Shelf.SlSortCmp.Whole1
set_option linter.unusedSimpArgs false
set_option linter.unusedVariables false
set_option maxRecDepth 100000
set_option maxHeartbeats 12800000
namespace Go.PN
open Go.AI Go.Proofs.YtefekdejgbceiaaGreat
structure DlOk (n:Nat) (dns ns:List DN) (dl:List (Int×Int)):Prop where
 sem:∀z∈dl,SolP n (natL n) dns ns z.1 z.2
 low:∀q:Int,0≤q→q<2→dnGet q dl≠none
theorem DlOk.later {n:Nat} {dns a b:List DN} {dl:List (Int×Int)} {k:Nat} (h:DlOk n dns a dl) (ha:ZTab n a) (l:ZLat n a b k):DlOk n dns b dl:=⟨fun z hz=>(h.sem z hz).later ha l,h.low⟩
def roomS (n:Nat) (dns:List DN) (r:Int):Nat:=(2^((n:Int)-lvZ (natL n) dns r).toNat-1)*3^(n+1)
theorem room_arith {a b P B:Nat} (pa:a≤P) (pb:b≤P) (hP:0<P):(a-1)*B+(b-1)*B+B≤(P*2-1)*B:=by
 have ea:=Nat.mul_le_mul_right B (Nat.sub_le_sub_right pa 1)
 have eb:=Nat.mul_le_mul_right B (Nat.sub_le_sub_right pb 1)
 have e:(P*2-1)*B=(P-1)*B+(P-1)*B+B:=by
  obtain⟨p,rfl⟩:∃p,P=p+1:=⟨P-1,by omega⟩
  rw [show(p+1)*2-1=p+p+1 from by omega,Nat.add_sub_cancel,Nat.add_mul,Nat.add_mul,Nat.one_mul]
 rw [e]
 exact Nat.add_le_add_right (Nat.add_le_add ea eb) B
theorem roomS_node {n:Nat} {dns:List DN} (ht:TabOk (natL n) dns) {r:Int} (h2:2≤r) (hr:RefOk dns r):roomS n dns (dns.getD (r-2).toNat dn0).lo+roomS n dns (dns.getD (r-2).toNat dn0).hi+3^(n+1)≤roomS n dns r:=by
 have hi:(r-2).toNat<dns.length:=by unfold RefOk at hr;omega
 have nd:=ht _ hi
 obtain⟨v0,v1,_⟩:=nd.nk
 rw [natL_len] at v1
 have hpl:=place_natL v0 v1
 have bl:=nd.bl
 have bh:=nd.bh
 rw [hpl] at bl bh
 have hlr:lvZ (natL n) dns r=(dns.getD (r-2).toNat dn0).v:=by unfold lvZ;rw [if_neg om];exact hpl
 unfold roomS
 obtain⟨q,hq⟩:∃q,((n:Int)-lvZ (natL n) dns r).toNat=q+1:=⟨((n:Int)-lvZ (natL n) dns r).toNat-1,by omega⟩
 have pa:2^((n:Int)-lvZ (natL n) dns (dns.getD (r-2).toNat dn0).lo).toNat≤2^q:=Nat.pow_le_pow_right om om
 have pb:2^((n:Int)-lvZ (natL n) dns (dns.getD (r-2).toNat dn0).hi).toNat≤2^q:=Nat.pow_le_pow_right om om
 have pq:0<2^q:=Nat.pow_pos om
 rw [hq,Nat.pow_succ]
 exact room_arith pa pb pq
end Go.PN
namespace Go.Proofs.YtefekdejgbceiaaGreat
open Go.AI Go.PN
attribute [local irreducible] aw Fa Fh DrK
abbrev Y5 (g1 g2 g3 g4 gd gT gD:Nat) (dl:List (Int×Int)):Heap:=
 [(g1,.cells 120 1 (ofL [.raw (.map (some gd))])),(g2,.cells 64 1 (ofL [.optr gD 0])),(g3,.cells 66 1 (ofL [fnC 181 [g1,g2,g3,g4]])),(g4,.cells 169 1 (ofL [.optr gT 0])),(gd,.gen (MapI keyI (dnL dl)))]
abbrev HY (g1 g2 g3 g4 gd gT gU gM gD gV gW:Nat) (oh:Option Nat) (o pl:List Int) (dns:List DN) (dmm:Mem3) (dl:List (Int×Int)) (og:Option Nat) (ns:List DN) (mm:Mem3):Heap:=
 (Y5 g1 g2 g3 g4 gd gT gD dl++THp gD gV gW oh o pl dns dmm)++ZHp gT gU gM og ns mm
theorem zsolw_fh (g1 g2 g3 g4 gd gT gU gM gD gV gW:Nat) {n:Nat} (h24:n≤24) {oh:Option Nat} {pl:List Int} {dns:List DN} {dmm:Mem3} (ds:TS (natL n) oh dns dmm) (hdn:dns.length≤1000000000):∀(k:Nat) (r:Int) (dl:List (Int×Int)) (og:Option Nat) (ns:List DN) (mm:Mem3),r.toNat<k→RefOk dns r→MonS (fun s=>evalD dns s r)→ZS n og ns mm→DlOk n dns ns dl→ns.length+roomS n dns r≤1000000000→
  Fh Tryz.prog 181 (HY g1 g2 g3 g4 gd gT gU gM gD gV gW oh (natL n) pl dns dmm dl og ns mm) ([.c (.int .i64 r)]++[g1,g2,g3,g4].map fun g=>.c (.optr g 0)) (fun x h=>∃dl' og' ns' mm' y,ZS n og' ns' mm'∧ZLat n ns ns' (roomS n dns r)∧DlOk n dns ns' dl'∧(∀z∈dl',z∈dl∨z.1≤r)∧SolP n (natL n) dns ns' r y∧x=.c (.int .i64 y)∧h=HY g1 g2 g3 g4 gd gT gU gM gD gV gW oh (natL n) pl dns dmm dl' og' ns' mm'):=by
 intro k
 induction k with
 |zero=>intro r dl og ns mm hk;omega
 |succ k ih=>
  intro r dl og ns mm hk hr hmon hs hd hroom
  simp only [List.cons_append,List.nil_append,List.map_cons,List.map_nil]
  refine fh_of_body Tryz.func181 rfl rfl (by simp [Tryz.ntmps181]) fun C hC=> ?_
  simp only [initS,Nat.reduceAdd]
  refine aw_nd fun hnd0=> ?_
  have hnd:=keysL hnd0
  simp only [HY,Y5,THp,TH,List.cons_append,List.nil_append,Heap.keys,List.map_cons] at hnd⊢
  replace hnd:=ndP_of hnd
  dsimp only [ndP,neA] at hnd
  refine yG hnd ?_
  refine aw_lookup2 (a:=r) (kv:=dnL dl) (Kf:=keyI) (kt:=3) (et:=3) rfl rfl rfl (by kernel_rfl) ty_ki ty_iz (zE hnd) (zE hnd) (zE hnd) keyI_rep ?_
  refine yS hnd ?_
  rw [dn_get]
  cases hf:dnGet r dl with
  |some y=>
   have hy:=hd.sem _ (dn_mem hf)
   try simp only [Option.map_some,Option.getD_some,Option.isSome_some,cstC]
   refine yGNG hnd ?_
   refine yU hnd ?_
   exact⟨dl,og,ns,mm,y,hs,ZLat.refl hs.tab _,hd,fun z hz=>.inl hz,hy,rfl,rfl⟩
  |none=>
   try simp only [Option.map_none,Option.getD_none,Option.isSome_none,cstC]
   refine yG hnd ?_
   refine yP hnd ?_
   have h2:2≤r:=by
    refine Classical.byContradiction fun h=> ?_
    exact hd.low r hr.1 om hf
   obtain⟨g,rfl⟩:∃g,oh=some g:=by
    cases oh with
    |none=>have:=ds.og rfl;unfold RefOk at hr;omega
    |some g=>exact⟨g,rfl⟩
   have hi:(r-2).toNat<dns.length:=by unfold RefOk at hr;omega
   obtain⟨w0,w1,w2,w3,w4,w5⟩:=(ds.tab.ns _ hi)
   obtain⟨kl,kh⟩:=kids_ref ds.tab hi
   have hrn:=roomS_node ds.tab h2 hr
   have h3n:0<3^n:=Nat.pow_pos om
   obtain⟨e1,e2,e3⟩:=mon_kids ds.tab h2 hr
   obtain⟨m0,m1⟩:=mon_sub e1 e2 e3 hmon
   have hst:∀{n1 n2 n3:List DN} {k2 k3:Nat} {xl xh w:Int},ZTab n n1→SolP n (natL n) dns n1 (dns.getD (r-2).toNat dn0).lo xl→ZLat n n1 n2 k2→SolP n (natL n) dns n2 (dns.getD (r-2).toNat dn0).hi xh→ZLat n n2 n3 k3→WOk n n3 xh xl w→_:=fun t1 sl l2 sh l3 wk=>sol_step ds.tab h2 hr hmon t1 sl l2 sh l3 wk
   simp only [gs,gh,List.cons_append,List.nil_append]
   clear hnd e1 e2 e3
   have hnd:=keysL hnd0
   simp only [Y5,THp,TH,gh,List.cons_append,List.nil_append,Heap.keys,List.map_cons,List.map_nil] at hnd
   replace hnd:=ndP_of hnd
   dsimp only [ndP,neA] at hnd
   generalize hx0:dns.getD (r-2).toNat dn0=nd at*
   refine yG (oj hnd hx0) ?_
   refine yA (oj hnd hx0) fun g9 hn_g9=>?_
   have J1:=oj hnd (oj hx0 hn_g9)
   refine yGWSG J1 ?_
   refine aw_callhv (hr:=[(g9,.cells 119 3 (ofL [.int .i64 nd.v,.int .i64 nd.lo,.int .i64 nd.hi]))]) (gs:=[g1,g2,g3,g4]) (ih nd.lo dl og ns mm om kl m0 hs hd om) rfl rfl rfl (zE J1) ?_ (zL J1) ?_
   ·exact List.perm_append_comm (l₁:=[(g9,_)])
   rintro _ _ ⟨dl1,og1,ns1,mm1,xl,s1,l1,d1,n1,p1,rfl,rfl⟩ _
   have ll1:=l1.len
   refine aw_perm List.perm_append_comm ?_
   clear hnd J1
   refine aw_nd fun hnd1=> ?_
   have hnd:=keysL (A:=[(g9,.cells 119 3 (ofL [.int .i64 nd.v,.int .i64 nd.lo,.int .i64 nd.hi]))]++(Y5 g1 g2 g3 g4 gd gT gD dl1++THp gD gV gW (some g) (natL n) pl dns dmm)) (B:=ZHp gT gU gM og1 ns1 mm1) hnd1
   simp only [Y5,THp,TH,gh,List.cons_append,List.nil_append,Heap.keys,List.map_cons,List.map_nil] at hnd
   replace hnd:=ndP_of hnd
   dsimp only [ndP,neA] at hnd
   simp only [HY,Y5,THp,TH,gs,gh,List.cons_append,List.nil_append]
   have J2:=oj hnd hx0
   refine ySG J2 ?_
   refine aw_cw ([(g4,.cells 169 1 (ofL [.optr gT 0])),(g3,.cells 66 1 (ofL [fnC 181 [g1,g2,g3,g4]])),(g9,.cells 119 3 (ofL [.int .i64 nd.v,.int .i64 nd.lo,.int .i64 nd.hi]))]) [(0,0),(1,0),(2,0),(3,0),(4,0),(5,0),(6,0),(7,0),(9,0),(8,1),(10,1),(11,1),(12,0)] ty_mixed (by kernel_rfl) eI ?_
   refine yG J2 ?_
   refine cw_callhv (hr:=[(g9,.cells 119 3 (ofL [.int .i64 nd.v,.int .i64 nd.lo,.int .i64 nd.hi]))]) (gs:=[g1,g2,g3,g4]) rfl (ih nd.hi dl1 og1 ns1 mm1 om kh m1 s1 d1 om) rfl rfl rfl (zE J2) (List.perm_append_comm (l₁:=[(g9,_)])) (zL J2) (by
    rintro _ _ ⟨_,_,_,_,_,_,_,_,_,_,rfl,rfl⟩;simp only [HY,Y5,List.cons_append,List.nil_append];exact eI) ?_ (hm:=.inr ⟨rfl,rfl⟩)
   rintro _ _ ⟨dl2,og2,ns2,mm2,xh,s2,l2,d2,n2,p2,rfl,rfl⟩ _
   have ll2:=l2.len
   refine ySG J2 ?_
   have hpm:∀(og:Option Nat) (ns:List DN) (mm:Mem3),(ZHp gT gU gM og ns mm++((Y5 g1 g2 g3 g4 gd gT gD dl2++THp gD gV gW (some g) (natL n) pl dns dmm)++([(g9,.cells 119 3 (ofL [.int .i64 nd.v,.int .i64 nd.lo,.int .i64 nd.hi]))]:Heap))).Perm ((g9,.cells 119 3 (ofL [.int .i64 nd.v,.int .i64 nd.lo,.int .i64 nd.hi]))::HY g1 g2 g3 g4 gd gT gU gM gD gV gW (some g) (natL n) pl dns dmm dl2 og ns mm):=fun og ns mm=>by
    rw [←List.append_assoc]
    exact(List.perm_append_singleton _ _).trans (.cons _ List.perm_append_comm)
   refine cw_callh (hc:=ZHp gT gU gM og2 ns2 mm2) (hr:=(Y5 g1 g2 g3 g4 gd gT gD dl2++THp gD gV gW (some g) (natL n) pl dns dmm)++([(g9,.cells 119 3 (ofL [.int .i64 nd.v,.int .i64 nd.lo,.int .i64 nd.hi]))]:Heap)) rfl (zwithout_fh gT gU gM h24 s2 om p2.rx (l2.ref p1.rx)) rfl rfl rfl ((List.perm_append_singleton _ _).trans (hpm og2 ns2 mm2).symm) (zL J2) (by
    rintro _ _ ⟨_,_,_,_,_,_,rfl,rfl⟩;refine has0_app2 ?_;simp only [Y5,List.cons_append,List.nil_append];exact eI) ?_ (hm:=.inr ⟨rfl,rfl⟩)
   rintro _ _ ⟨og3,ns3,mm3,w,zp,wk,rfl,rfl⟩ _
   have l3:=zp.lat
   have ll3:=l3.len
   refine ySG J2 ?_
   obtain⟨l4,sp⟩:=hst s1.tab p1 l2 p2 l3 wk
   have hB:0<3^(n+1):=Nat.pow_pos om
   refine cw_callh (hc:=ZHp gT gU gM og3 ns3 mm3) (hr:=(Y5 g1 g2 g3 g4 gd gT gD dl2++THp gD gV gW (some g) (natL n) pl dns dmm)++([(g9,.cells 119 3 (ofL [.int .i64 nd.v,.int .i64 nd.lo,.int .i64 nd.hi]))]:Heap)) rfl (zmake_fh gT gU gM og3 ns3 mm3 nd.v xl w zp.og om) rfl rfl rfl (.refl _) (zL J2) (by
    rintro _ _ ⟨_,_,rfl,rfl⟩;refine has0_app2 ?_;simp only [Y5,List.cons_append,List.nil_append];exact eI) ?_ (hm:=.inr ⟨rfl,rfl⟩)
   rintro _ _ ⟨og4,ho4,rfl,rfl⟩ _
   refine ySG J2 ?_
   generalize hmk:mkZ ns3 nd.v xl w=mk at*
   have hnew:∀z∈dl2,z.1≠r:=fun z hz=>by
    rcases n2 z hz with h|h
    ·rcases n1 z h with h|h
     ·exact dn_none hf z h
     ·omega
    ·omega
   refine aw_perm (hpm og4 mk.1 mm3) ?_
   simp only [HY,Y5,THp,TH,gs,gh,List.cons_append,List.nil_append]
   refine ySG J2 ?_
   refine aw_mapNew (a:=r) (kv:=dnL dl2) (Kf:=keyI) (v:=.int .i64 mk.2) rfl rfl rfl (kt:=3) (et:=3) (by kernel_rfl) ty_ki (zE J2) (zE J2) (zE J2) keyI_rep (cv:=.c (.int .i64 mk.2)) (zE J2) (fun S w u h=>h) (by rw [dn_get,dn_none' hnew];rfl) (zE J2) ?_
   rw [dnL_push]
   refine ySG J2 ?_
   refine aw_keep [(6,.c (.int .i64 mk.2))] (HY g1 g2 g3 g4 gd gT gU gM gD gV gW (some g) (natL n) pl dns dmm (dl2++[(r,mk.2)]) og4 mk.1 mm3) (zB J2) (List.Sublist.cons _ (List.Sublist.refl _)) ?_
   refine yU J2 ?_
   have l23:=l2.trans l3 (Nat.le_refl _)
   have l24':=l23.trans l4 (Nat.le_refl _)
   have l34:=l3.trans l4 (Nat.le_refl _)
   refine⟨dl2++[(r,mk.2)],og4,mk.1,mm3,mk.2,⟨ho4,l4.tab,zp.mem.later l4 l3.tab⟩,l1.trans l24' om,⟨fun z hz=> ?_,fun q q0 q1=>dn_app (d2.low q q0 q1)⟩,fun z hz=> ?_,sp,rfl,rfl⟩
   ·rcases List.mem_append.1 hz with hz|hz
    ·exact(d2.later s2.tab l34).sem z hz
    ·rw [List.mem_singleton] at hz;subst hz;exact sp
   ·rcases List.mem_append.1 hz with hz|hz
    ·rcases n2 z hz with h|h
     ·rcases n1 z h with h|h
      ·exact .inl h
      ·exact .inr om
     ·exact .inr om
    ·rw [List.mem_singleton] at hz;subst hz;exact .inr (Int.le_refl _)
theorem zsolutions_fh (gT gU gM gD gV gW:Nat) {n:Nat} (h24:n≤24) {oh:Option Nat} {pl:List Int} {dns:List DN} {dmm:Mem3} (ds:TS (natL n) oh dns dmm) (hdn:dns.length≤1000000000) {r:Int} (hr:RefOk dns r) (hmon:MonS fun s=>evalD dns s r) {og:Option Nat} {ns:List DN} {mm:Mem3} (hs:ZS n og ns mm) (hroom:ns.length+roomS n dns r≤1000000000):
  Fh Tryz.prog 164 (ZHp gT gU gM og ns mm++THp gD gV gW oh (natL n) pl dns dmm) [.c (.optr gT 0),.c (.optr gD 0),.c (.int .i64 r)] (fun x h=>∃og' ns' mm' y,ZS n og' ns' mm'∧ZLat n ns ns' (roomS n dns r)∧SolP n (natL n) dns ns' r y∧x=.c (.int .i64 y)∧h=ZHp gT gU gM og' ns' mm'++THp gD gV gW oh (natL n) pl dns dmm):=by
 refine fh_of_body Tryz.func164 rfl rfl (by simp [Tryz.ntmps164]) fun C hC=> ?_
 simp only [initS,Nat.reduceAdd]
 refine xG ?_
 refine xB fun g3 hn_g3=>?_
 refine yG hn_g3 ?_
 refine yB hn_g3 fun g4 hn_g4=>?_
 refine yG (oj hn_g3 hn_g4) ?_
 refine aw_makeMap (Kf:=keyI) rfl rfl rfl fun gd hn_gd=> ?_
 replace hn_gd:=Heap.ne_of hn_gd
 dsimp only [Heap.ne] at hn_gd
 have J1:=oj hn_g3 (oj hn_g4 hn_gd)
 refine ySG J1 ?_
 refine aw_insNew (a:=0) (kv:=[]) (Kf:=keyI) (v:=.int .i64 0) rfl rfl rfl (kt:=3) (et:=3) (by kernel_rfl) ty_ki (zE J1) (zE J1) (zE J1) keyI_rep (cv:=.c (.int .i64 0)) (zE J1) (fun S w u h=>h) rfl (zE J1) ?_
 refine ySG J1 ?_
 refine aw_insNew (a:=1) (kv:=[(0,.int .i64 0)]) (Kf:=keyI) (v:=.int .i64 1) rfl rfl rfl (kt:=3) (et:=3) (by kernel_rfl) ty_ki (zE J1) (zE J1) (zE J1) keyI_rep (cv:=.c (.int .i64 1)) (zE J1) (fun S w u h=>h) rfl (zE J1) ?_
 refine ySG J1 ?_
 refine yA J1 fun g7 hn_g7=>?_
 have J2:=oj hn_g3 (oj hn_g4 (oj hn_gd hn_g7))
 refine yGWSG J2 ?_
 refine yA J2 fun g8 hn_g8=>?_
 have J3:=oj hn_g3 (oj hn_g4 (oj hn_gd (oj hn_g7 hn_g8)))
 refine yG J3 ?_
 refine aw_makeFunc (gs:=[g7,g4,g8,g3]) rfl rfl rfl (zE J3) ?_
 refine ySGWSG J3 ?_
 have hd0:DlOk n dns ns [(0,0),(1,1)]:=⟨fun z hz=>by
  simp only [List.mem_cons,List.not_mem_nil,or_false] at hz
  rcases hz with rfl|rfl
  ·exact sol_leaf (natL_len n) (by decide) (by decide)
  ·exact sol_leaf (natL_len n) (by decide) (by decide),fun q q0 q1=>by
  obtain rfl|rfl:q=0∨q=1:=by omega
  ·simp [dnGet]
  ·simp [dnGet]⟩
 refine aw_callhv (hr:=[]) (zsolw_fh g7 g4 g8 g3 gd gT gU gM gD gV gW h24 (pl:=pl) ds hdn (r.toNat+1) r [(0,0),(1,1)] og ns mm om hr hmon hs hd0 hroom) rfl rfl rfl (zE J3) ?hp (zL J3) ?_
 ·rw [List.append_nil]
  show([(g8,_),(g7,_),(gd,_),(g4,_),(g3,_)]++(ZHp gT gU gM og ns mm++THp gD gV gW oh (natL n) pl dns dmm)).Perm ((Y5 g7 g4 g8 g3 gd gT gD [(0,0),(1,1)]++THp gD gV gW oh (natL n) pl dns dmm)++ZHp gT gU gM og ns mm)
  rw [List.append_assoc]
  exact(permL [(g8,_),(g7,_),(gd,_),(g4,_),(g3,_)] [0,1,2,3,4] [1,3,0,4,2] (by decide)).append List.perm_append_comm
 rintro _ _ ⟨dl',og',ns',mm',y,s1,l1,_,_,p1,rfl,rfl⟩ _
 rw [List.append_nil]
 refine ySG J3 ?_
 refine aw_perm ((show(HY g7 g4 g8 g3 gd gT gU gM gD gV gW oh (natL n) pl dns dmm dl' og' ns' mm').Perm _ from by
  unfold HY
  rw [List.append_assoc]
  exact(List.Perm.refl _).append List.perm_append_comm):(HY g7 g4 g8 g3 gd gT gU gM gD gV gW oh (natL n) pl dns dmm dl' og' ns' mm').Perm (Y5 g7 g4 g8 g3 gd gT gD dl'++(ZHp gT gU gM og' ns' mm'++THp gD gV gW oh (natL n) pl dns dmm))) ?_
 refine aw_keep [(6,.c (.int .i64 y))] (ZHp gT gU gM og' ns' mm'++THp gD gV gW oh (natL n) pl dns dmm) (zB J3) (List.sublist_append_right (Y5 g7 g4 g8 g3 gd gT gD dl') _) ?_
 refine yU J3 ?_
 exact⟨og',ns',mm',y,s1,l1,p1,rfl,rfl⟩
end Go.Proofs.YtefekdejgbceiaaGreat
namespace Go.PN
open Go.AI Go.Proofs.YtefekdejgbceiaaGreat
def SolOut (n:Nat) (f:Nat→Bool) (z:ZD):Prop:=∃F,ZOut n F z∧(∀s,F s=true↔MinT f s)∧z.nodes.length≤4096
theorem mono_n10 {n:Nat} (h:n≤10):n*monoN n≤50000000:=by
 have h1:2^n≤1024:=Nat.le_trans (Nat.pow_le_pow_right om h) (by decide)
 have h2:2^(n+1)≤2048:=Nat.le_trans (Nat.pow_le_pow_right om (show n+1≤11 by omega)) (by decide)
 have h3:=Nat.mul_le_mul h1 h2
 have h4:monoN n≤4196352:=by unfold monoN;omega
 have:=Nat.mul_le_mul h h4
 omega
theorem room_10 {n:Nat} (h:n≤10) {dns:List DN} {r:Int} (h0:0≤lvZ (natL n) dns r):roomS n dns r≤200000000:=by
 unfold roomS
 have h1:2^((n:Int)-lvZ (natL n) dns r).toNat≤1024:=Nat.le_trans (Nat.pow_le_pow_right om (show((n:Int)-lvZ (natL n) dns r).toNat≤10 by omega)) (by decide)
 have h2:3^(n+1)≤177147:=Nat.le_trans (Nat.pow_le_pow_right om (show n+1≤11 by omega)) (by decide)
 have h3:=Nat.mul_le_mul (show 2^((n:Int)-lvZ (natL n) dns r).toNat-1≤1023 by omega) h2
 omega
theorem monS_tab {n:Nat} {ns:List DN} (ht:TabOk (natL n) ns) {r:Int} (hr:RefOk ns r) (hm:MonoF n fun s=>evalD ns s r):MonS fun s=>evalD ns s r:=by
 refine monS_of hm fun s t hst=> ?_
 have hmem:∀v:Int,0≤v→v<(natL n).length→v∈natL n:=fun v h0 h1=>by
  have:=(natL_perm n).all (j:=v.toNat) om
  rwa [show((v.toNat:Nat):Int)=v from by omega] at this
 have h0:=lv3_nonneg hmem ht hr
 exact tab_indep ht (P:= -1) (fun j hj _=>hst j (by rw [natL_len] at hj;exact hj)) r.toNat r (Nat.le_refl _) hr om
end Go.PN
namespace Go.Proofs.YtefekdejgbceiaaGreat
open Go.AI Go.PN
attribute [local irreducible] aw Fa Fh DrK
theorem csol_fh (d:DG) (h0:dcode d=0) (h10:d.order.length≤10):Fh Tryz.prog 134 [] [.agg (dgc false d)] (fun x h=>h=[]∧((¬MonoF d.order.length (fun s=>evalD d.nodes s d.root)∧x=.tup [.agg [.nils,.int .i64 0],.c (errA 7)])∨
  (MonoF d.order.length (fun s=>evalD d.nodes s d.root)∧∃z,SolOut d.order.length (fun s=>evalD d.nodes s d.root) z∧x=.tup [.agg (zdc true z),.c .nilI]))):=by
 have N:=cnatural_fh d h0 om
 have hod:OdOk (natL d.order.length) (placesL (natL d.order.length)):=⟨natL_perm _,pl_ok (natL_perm _),by rw [natL_len];omega⟩
 have hol:=natL_len d.order.length
 have hmn:=mono_n10 h10
 have hp:2^(d.order.length+1)≤2048:=Nat.le_trans (Nat.pow_le_pow_right om (show d.order.length+1≤11 by omega)) (by decide)
 refine fh_of_body Tryz.func134 rfl rfl (by simp [Tryz.ntmps134]) fun C hC=> ?_
 simp only [initS,Nat.reduceAdd]
 refine xG ?_
 refine xB fun g1 hn_g1=>?_
 refine yG hn_g1 ?_
 refine yA hn_g1 fun g2 hn_g2=>?_
 have J1:=oj hn_g1 hn_g2
 refine yG J1 ?_
 refine aw_callh (hc:=[]) (hr:=[(g2,.cells 148 2 (ofL [.nils,.int .i64 0])),(g1,.cells 31 3 (ofL (dgc false d)))]) N rfl rfl rfl (.refl _) (zL J1) ?_
 rintro _ _ ⟨gD,gV,gW,og,ns,mm,r,hs,hr,he,hn,rfl,rfl⟩ _
 have M:=monotone_fh gD gV gW hod hs (by rw [hol];omega) hr
 rw [hol] at M
 refine aw_perm List.perm_append_comm ?_
 refine ySGNG J1 ?_
 refine aw_callh (hr:=[(g2,.cells 148 2 (ofL [.nils,.int .i64 0])),(g1,.cells 31 3 (ofL (dgc false d)))]) M rfl rfl rfl (List.perm_append_comm (l₁:=[(g2,_),(g1,_)])) (zL J1) ?_
 rintro _ _ ⟨b,og',ns',mm',hb,hs',hl',rfl,rfl⟩ _
 have hl2:=hl'.len
 refine aw_perm List.perm_append_comm ?_
 have hfe:(fun s=>evalD ns s r)=fun s=>evalD d.nodes s d.root:=funext he
 have hfe':(fun s=>evalD ns' s r)=fun s=>evalD d.nodes s d.root:=by rw [←hfe];exact funext fun s=>hl'.eval hs.tab hr s
 rw [hfe] at hb
 cases b
 ·have hnm:¬MonoF d.order.length (fun s=>evalD d.nodes s d.root):=fun h=>by have:=hb.2 h;cases this
  refine ySG J1 ?_
  refine yP J1 ?_
  refine yGWSG J1 ?_
  refine aw_rethw (h':=[]) rfl (List.nil_sublist _) (fun R hR=> ?_)
  simp only [go_sem,hn_g1,hn_g2]
  refine hR _ rfl ?_
  clear hR R
  exact⟨rfl,.inl ⟨hnm,rfl⟩⟩
 ·have hm:=hb.1 rfl
  have hr':=hl'.ref hr
  have hms:=monS_tab hs'.tab hr' (by rw [hfe'];exact hm)
  have J2:=oj hn_g1 hn_g2
  refine ySGNG J2 ?_
  refine aw_callh (hc:=[]) newSets_fh rfl rfl rfl (.refl _) (zL J2) ?_
  rintro _ _ ⟨gT,gU,gM,rfl,rfl⟩ _
  refine ySG J2 ?_
  have hz0:ZS d.order.length none [] []:=⟨fun _=>rfl,fun i hi=>absurd hi (Nat.not_lt_zero _),fun e he=>absurd he List.not_mem_nil⟩
  have hmem:∀v:Int,0≤v→v<(natL d.order.length).length→v∈natL d.order.length:=hod.mem
  have hrm:=room_10 h10 (dns:=ns') (r:=r) (lv3_nonneg hmem hs'.tab hr')
  have hpm:([(g2,AObj.cells 148 2 (ofL [.nils,.int .i64 0])),(g1,AObj.cells 31 3 (ofL (dgc false d)))]++THp gD gV gW og' (natL d.order.length) (placesL (natL d.order.length)) ns' mm').Perm (THp gD gV gW og' (natL d.order.length) (placesL (natL d.order.length)) ns' mm'++[(g2,AObj.cells 148 2 (ofL [.nils,.int .i64 0])),(g1,AObj.cells 31 3 (ofL (dgc false d)))]):=List.perm_append_comm
  refine aw_callh (hc:=ZHp gT gU gM none [] []++THp gD gV gW og' (natL d.order.length) (placesL (natL d.order.length)) ns' mm') (hr:=[(g2,.cells 148 2 (ofL [.nils,.int .i64 0])),(g1,.cells 31 3 (ofL (dgc false d)))]) (zsolutions_fh gT gU gM gD gV gW om hs' om hr' hms hz0 (by simp only [List.length_nil];omega)) rfl rfl rfl (by rw [List.append_assoc];exact(List.Perm.refl _).append hpm) (zL J2) ?_
  rintro _ _ ⟨oz,zn,zm,x,hz,zl,sp,rfl,rfl⟩ _
  have zlen:=zl.len
  simp only [List.length_nil] at zlen
  refine aw_perm (h':=ZHp gT gU gM oz zn zm++(THp gD gV gW og' (natL d.order.length) (placesL (natL d.order.length)) ns' mm'++[(g2,.cells 148 2 (ofL [.nils,.int .i64 0])),(g1,.cells 31 3 (ofL (dgc false d)))])) (by rw [List.append_assoc]) ?_
  refine ySG J2 ?_
  have hp10:2^d.order.length≤1024:=Nat.le_trans (Nat.pow_le_pow_right om h10) (by decide)
  refine aw_callh (hc:=ZHp gT gU gM oz zn zm) (zsmall_fh gT gU gM hz om sp.rx (most:=4096) om) rfl rfl rfl (.refl _) (zL J2) ?_
  rintro _ _ ⟨rfl,rfl⟩ _
  refine ySGNG J2 ?_
  refine aw_callh (hc:=ZHp gT gU gM oz zn zm) (zexport_fh gT gU gM hz om sp.rx) rfl rfl rfl (.refl _) (zL J2) ?_
  rintro _ _ ⟨rs,os,y,hex,rfl,rfl⟩ _
  have ho:=hex.out hz.tab sp.rx
  have hlen:os.length≤4096:=by
   have h1:=hex.len
   have h2:=hex.ok.len
   have h3:=(evZ_le hz.tab sp.rx).1
   have h4:2^((d.order.length:Int)-evZ d.order.length zn x).toNat≤2^d.order.length:=Nat.pow_le_pow_right om om
   simp only [List.length_nil] at h1
   omega
  have hso:SolOut d.order.length (fun s=>evalD d.nodes s d.root) ⟨os,y⟩:=⟨_,ho,fun s=>by rw [sp.sem s,hfe'],hlen⟩
  refine aw_perm (h':=[(g2,.cells 148 2 (ofL [.nils,.int .i64 0])),(g1,.cells 31 3 (ofL (dgc false d)))]++(ZHp gT gU gM oz zn zm++THp gD gV gW og' (natL d.order.length) (placesL (natL d.order.length)) ns' mm')) (by rw [←List.append_assoc];exact List.perm_append_comm) ?_
  refine ySGWSG J2 ?_
  refine aw_rethw (h':=[]) rfl (List.nil_sublist _) (fun R hR=> ?_)
  simp only [go_sem,hn_g1,hn_g2]
  refine hR _ rfl ?_
  clear hR R
  exact⟨rfl,.inr ⟨hm,⟨os,y⟩,hso,rfl⟩⟩
end Go.Proofs.YtefekdejgbceiaaGreat
namespace Go.PN
open Go.AI
def keyLt (a b:Nat):Bool:=decide (popN a<popN b)||(decide (popN a=popN b)&&decide (a<b))
theorem key_irr (a:Nat):keyLt a a=false:=by simp [keyLt]
theorem key_trans {a b c:Nat} (h:keyLt a b=true) (k:keyLt b c=true):keyLt a c=true:=by
 simp only [keyLt,Bool.or_eq_true,Bool.and_eq_true,decide_eq_true_eq] at*
 omega
theorem key_asym {a b:Nat} (h:keyLt a b=true):keyLt b a=false:=by
 simp only [keyLt,Bool.or_eq_true,Bool.and_eq_true,decide_eq_true_eq,Bool.or_eq_false_iff,Bool.and_eq_false_iff,decide_eq_false_iff_not] at*
 omega
theorem key_total {a b:Nat} (h:keyLt a b=false) (hne:a≠b):keyLt b a=true:=by
 simp only [keyLt,Bool.or_eq_true,Bool.and_eq_true,decide_eq_true_eq,Bool.or_eq_false_iff,Bool.and_eq_false_iff,decide_eq_false_iff_not] at*
 omega
def Srt (l:List Nat):Prop:=l.Pairwise fun a b=>keyLt a b=true
theorem srt_ext:∀{l m:List Nat},Srt l→Srt m→(∀x,x∈l↔x∈m)→l=m
 |[],[],_,_,_=>rfl
 |[],b::m,_,_,h=>absurd ((h b).2 (List.mem_cons_self ..)) List.not_mem_nil
 |a::l,[],_,_,h=>absurd ((h a).1 (List.mem_cons_self ..)) List.not_mem_nil
 |a::l,b::m,hl,hm,h=>by
  have hl':=List.pairwise_cons.1 hl
  have hm':=List.pairwise_cons.1 hm
  have e:a=b:=by
   refine Classical.byContradiction fun hne=> ?_
   have h1:a∈m:=by
    rcases List.mem_cons.1 ((h a).1 (List.mem_cons_self ..)) with h1|h1
    ·exact absurd h1 hne
    ·exact h1
   have h2:b∈l:=by
    rcases List.mem_cons.1 ((h b).2 (List.mem_cons_self ..)) with h2|h2
    ·exact absurd h2.symm hne
    ·exact h2
   have k1:=hl'.1 b h2
   have k2:=hm'.1 a h1
   rw [key_asym k1] at k2
   cases k2
  subst e
  have:l=m:=srt_ext hl'.2 hm'.2 fun x=>by
   constructor
   ·intro hx
    rcases List.mem_cons.1 ((h x).1 (List.mem_cons_of_mem _ hx)) with h1|h1
    ·subst h1
     have:=hl'.1 x hx
     rw [key_irr] at this;cases this
    ·exact h1
   ·intro hx
    rcases List.mem_cons.1 ((h x).2 (List.mem_cons_of_mem _ hx)) with h1|h1
    ·subst h1
     have:=hm'.1 x hx
     rw [key_irr] at this;cases this
    ·exact h1
  rw [this]
def insA (x:Nat) (l:List Nat) (k:Nat):List Nat:=l.take k++x::l.drop k
def insN (x:Nat) (l:List Nat):List Nat:=
 if l.getD (l.findIdx fun y=> !keyLt y x) x=x∧l.findIdx (fun y=> !keyLt y x)<l.length then l else insA x l (l.findIdx fun y=> !keyLt y x)
def sortN (xs:List Nat):List Nat:=xs.foldl (fun acc x=>insN x acc) []
theorem insA_mem {x y:Nat} {l:List Nat} {k:Nat}:y∈insA x l k↔y=x∨y∈l:=by
 unfold insA
 rw [List.mem_append,List.mem_cons]
 have:y∈l↔y∈l.take k∨y∈l.drop k:=by rw [←List.mem_append,List.take_append_drop]
 rw [this]
 constructor
 ·rintro (h|h|h)
  ·exact .inr (.inl h)
  ·exact .inl h
  ·exact .inr (.inr h)
 ·rintro (h|h|h)
  ·exact .inr (.inl h)
  ·exact .inl h
  ·exact .inr (.inr h)
theorem ins_mem {x y:Nat} {l:List Nat}:y∈insN x l↔y=x∨y∈l:=by
 unfold insN
 split
 ·rename_i h
  constructor
  ·exact .inr
  ·rintro (h1|h1)
   ·subst h1
    rw [←h.1,List.getD_eq_getElem?_getD,List.getElem?_eq_getElem h.2]
    exact List.getElem_mem _
   ·exact h1
 ·exact insA_mem
theorem ins_srt {x:Nat} {l:List Nat} (hl:Srt l):Srt (insN x l):=by
 unfold insN
 split
 ·exact hl
 ·rename_i h
  have hb:∀j (hj:j<l.length),j<(l.findIdx fun y=> !keyLt y x)→keyLt l[j] x=true:=fun j hj hlt=>by
   have:=List.not_of_lt_findIdx (p:=fun y=> !keyLt y x) (xs:=l) (i:=j) hlt
   simpa using this
  have ha:∀j (hj:j<l.length),(l.findIdx fun y=> !keyLt y x)≤j→keyLt x l[j]=true:=fun j hj hle=>by
   have hlt:(l.findIdx fun y=> !keyLt y x)<l.length:=by omega
   have h1:keyLt l[l.findIdx fun y=> !keyLt y x] x=false:=by
    have:=List.findIdx_getElem (p:=fun y=> !keyLt y x) (xs:=l) (w:=hlt)
    simpa using this
   have hne:l[l.findIdx fun y=> !keyLt y x]≠x:=fun e=>h ⟨by rw [List.getD_eq_getElem?_getD,List.getElem?_eq_getElem hlt];exact e,hlt⟩
   have h2:=key_total h1 hne
   rcases Nat.lt_or_ge (l.findIdx fun y=> !keyLt y x) j with h3|h3
   ·exact key_trans h2 (List.pairwise_iff_getElem.1 hl _ _ hlt hj h3)
   ·have:j=l.findIdx fun y=> !keyLt y x:=by omega
    subst this
    exact h2
  generalize (l.findIdx fun y=> !keyLt y x)=k at*
  unfold insA Srt
  rw [List.pairwise_append]
  refine⟨hl.sublist (List.take_sublist _ _),List.pairwise_cons.2 ⟨fun y hy=> ?_,hl.sublist (List.drop_sublist _ _)⟩,fun a hma b hmb=> ?_⟩
  ·obtain⟨i,hi,e⟩:=List.getElem_of_mem hy
   rw [List.getElem_drop] at e
   rw [←e]
   exact ha _ (by rw [List.length_drop] at hi;omega) om
  ·obtain⟨i,hi,e⟩:=List.getElem_of_mem hma
   rw [List.length_take] at hi
   rw [List.getElem_take] at e
   have h1:=hb i om om
   rw [e] at h1
   rcases List.mem_cons.1 hmb with h2|h2
   ·rw [h2];exact h1
   ·obtain⟨j,hj,e2⟩:=List.getElem_of_mem h2
    rw [List.getElem_drop] at e2
    rw [←e2]
    exact key_trans h1 (ha _ (by rw [List.length_drop] at hj;omega) om)
theorem sort_fold:∀(xs acc:List Nat),Srt acc→Srt (xs.foldl (fun acc x=>insN x acc) acc)∧∀y,y∈xs.foldl (fun acc x=>insN x acc) acc↔y∈acc∨y∈xs
 |[],acc,h=>⟨h,fun y=>by simp⟩
 |x::xs,acc,h=>by
  obtain⟨h1,h2⟩:=sort_fold xs (insN x acc) (ins_srt h)
  refine⟨h1,fun y=> ?_⟩
  show y∈xs.foldl (fun acc x=>insN x acc) (insN x acc)↔_
  rw [h2,ins_mem,List.mem_cons]
  constructor
  ·rintro ((h3|h3)|h3)
   ·exact .inr (.inl h3)
   ·exact .inl h3
   ·exact .inr (.inr h3)
  ·rintro (h3|h3|h3)
   ·exact .inl (.inr h3)
   ·exact .inl (.inl h3)
   ·exact .inr h3
theorem sort_srt (xs:List Nat):Srt (sortN xs):=(sort_fold xs [] List.Pairwise.nil).1
theorem sort_mem {xs:List Nat} {y:Nat}:y∈sortN xs↔y∈xs:=by
 have:=(sort_fold xs [] List.Pairwise.nil).2 y
 unfold sortN
 simpa using this
def zL (l:List Nat):List Int:=l.map fun(s:Nat)=>(s:Int)
theorem zL_len (l:List Nat):(zL l).length=l.length:=by simp [zL]
theorem zL_get (l:List Nat) (i:Nat):(zL l).getD i 0=((l.getD i 0:Nat):Int):=by
 unfold zL
 rw [List.getD_eq_getElem?_getD,List.getD_eq_getElem?_getD,List.getElem?_map]
 cases l[i]?<;>simp
theorem zL_push (l:List Nat) (x:Nat):zL l++[(x:Int)]=zL (l++[x]):=by simp [zL]
def subT (t s:Nat):Bool:=decide (t&&&s=t)
theorem subT_iff {t s:Nat}:subT t s=true↔SubN t s:=by
 unfold subT
 rw [decide_eq_true_eq]
 constructor
 ·intro h j hj
  rw [←h,Nat.testBit_and] at hj
  simp only [Bool.and_eq_true] at hj
  exact hj.2
 ·intro h
  refine Nat.eq_of_testBit_eq fun j=> ?_
  rw [Nat.testBit_and]
  cases ht:t.testBit j
  ·rfl
  ·rw [h j ht];rfl
end Go.PN
namespace Go.Proofs.YtefekdejgbceiaaGreat
open Go.AI Go.PN
attribute [local irreducible] aw Fa Fh DrK
theorem belowR_fa (f:FM) (ok:FrOk f):Fa Tryz.prog 112 [.agg (fmc false f)] (.c (bs true (belL f))):=by
 have v0:=ok.v0
 have v24:=ok.v24
 have n128:=ok.n128
 have t0:=ok.t0
 have t1:=ok.t1
 refine fa_of_body Tryz.func112 rfl rfl (by simp [Tryz.ntmps112]) fun C hC=> ?_
 simp only [initS,Nat.reduceAdd]
 refine xG ?_
 refine xB fun g1 hn_g1=>?_
 refine yG hn_g1 ?_
 refine aw_make (n:=f.vars.toNat+f.nodes.length) (c:=f.vars.toNat+f.nodes.length) (size:=1) (z:=[.bool false]) rfl rfl rfl (zE hn_g1) (zE hn_g1) rfl om (zE hn_g1) (zE hn_g1) om om om om om fun g3 hn_g3=> ?_
 simp only [Nat.mul_one]
 rw [make_bs]
 replace hn_g3:=Heap.ne_of hn_g3
 dsimp only [Heap.ne] at hn_g3
 have J1:=oj hn_g1 hn_g3
 refine ySGWS J1 ?_
 rw [updF_bs (i:=f.top.toNat) (zs:=List.replicate (f.vars.toNat+f.nodes.length) false) (v:=true) (by rw [List.length_replicate];omega)]
 refine yG J1 ?_
 have hN:((f.vars.toNat+f.nodes.length:Nat):Int)=f.vars+f.nodes.length:=by omega
 refine aw_lp (fun j:Nat=>[(1,.c (.optr g1 0)),(3,.c (.osl g3 1 0 (f.vars.toNat+f.nodes.length))),(4,.c (.int .i64 ((f.nodes.length:Int)-1-j)))]) (fun j=>[(g3,.cells 4 (f.vars.toNat+f.nodes.length) (bsF (belTo f j))),(g1,.cells 24 3 (ofL (fmc false f)))]) (fun j=>j≤f.nodes.length) (fun j=>f.nodes.length-j) 0 (by refine yS J1 ?_;simp) zZ (Nat.zero_le _) ?_
 rintro j hj
 have hbl:=belTo_len f j
 refine yG J1 ?_
 refine yF J1 (fun h1=>?_) fun h1=>?_
 ·have h1':j<f.nodes.length:=dT h1
  obtain⟨i,hi⟩:∃i:Nat,i=f.nodes.length-1-j:=⟨_,rfl⟩
  have hij:(f.nodes.length:Int)-1-(j:Int)=(i:Int):=by omega
  have hst:belTo f (j+1)=if(belTo f j).getD (f.vars.toNat+i) false then markTo (f.nodes.getD i fn0).args (belTo f j) (f.nodes.getD i fn0).args.length else belTo f j:=by rw [belTo,hi]
  have hil:i<f.nodes.length:=by omega
  have hidx:(f.vars+(i:Int)).toNat=f.vars.toNat+i:=by omega
  have hnx:(i:Int)-1=(f.nodes.length:Int)-1-((j+1:Nat):Int):=by omega
  have hln:=ok.len hil
  have hat:=fun q hq=>ok.at (j:=q) hil hq
  rw [hij]
  have J2:=oj hn_g1 (oj hn_g3 hidx)
  refine yG J2 ?_
  refine yF J2 (fun hm=>?_) fun hm=>?_
  ·have hm':(belTo f j).getD (f.vars.toNat+i) false=false:=by simpa using hm
   rw [if_neg (by rw [hm'];simp)] at hst
   refine yG J2 ?_
   rw [←hst]
   exact aw_stop ⟨j+1,by omega,by rw [←hnx];exact(zB J2),zZ,by omega⟩
  ·have hm':(belTo f j).getD (f.vars.toNat+i) false=true:=by simpa using hm
   rw [if_pos hm'] at hst
   generalize hx:f.nodes.getD i fn0=x at*
   have J3:=oj hn_g1 (oj hn_g3 (oj hidx hx))
   refine yG J3 ?_
   refine aw_lp (fun q:Nat=>[(1,.c (.optr g1 0)),(3,.c (.osl g3 1 0 (f.vars.toNat+f.nodes.length))),(4,.c (.int .i64 (i:Int))),(39,.c (is true x.args)),(40,.c (.int .i64 x.args.length)),(41,.c (.int .i64 q))]) (fun q=>[(g3,.cells 4 (f.vars.toNat+f.nodes.length) (bsF (markTo x.args (belTo f j) q))),(g1,.cells 24 3 (ofL (fmc false f)))]) (fun q=>q≤x.args.length) (fun q=>x.args.length-q) 0 (zB J3) zZ (Nat.zero_le _) ?_
   rintro q hq
   have hml:=markTo_len x.args (belTo f j) q
   refine yG J3 ?_
   refine yF J3 (fun h2=>?_) fun h2=>?_
   ·have h2':q<x.args.length:=dT h2
    obtain⟨a0,a1⟩:=hat q h2'
    refine yGWS J3 ?_
    rw [updF_bs om]
    refine yG J3 ?_
    exact aw_stop ⟨q+1,by omega,(zB J3),zZ,by omega⟩
   ·have h2':q=x.args.length:=dF h2
    subst h2'
    refine yG J3 ?_
    rw [←hst]
    exact aw_stop ⟨j+1,by omega,by rw [←hnx];exact(zB J3),zZ,by omega⟩
 ·have h1':j=f.nodes.length:=dF h1
  subst h1'
  refine yGT hC J1 ?_
  exact .one (.c (ler_oslbs (zE J1) hbl.symm))
theorem coherent_fa (f:FM) (ok:FrOk f):Fa Tryz.prog 66 [.agg (fmc false f)] (.c (.bool (cohTo f f.nodes.length))):=by
 have v0:=ok.v0
 have v24:=ok.v24
 have n128:=ok.n128
 refine fa_of_body Tryz.func66 rfl rfl (by simp [Tryz.ntmps66]) fun C hC=> ?_
 simp only [initS,Nat.reduceAdd]
 refine xG ?_
 refine xB fun g1 hn_g1=>?_
 refine yG hn_g1 ?_
 refine yC hn_g1 (belowR_fa f ok) ?_
 refine yG hn_g1 ?_
 refine aw_lp (fun j:Nat=>[(1,.c (.optr g1 0)),(3,.c (bs true (belL f))),(4,.c (.int .i64 j))]) (fun _=>[(g1,.cells 24 3 (ofL (fmc false f)))]) (fun j=>j≤f.nodes.length∧cohTo f j=true) (fun j=>f.nodes.length-j) 0 (zB hn_g1) zZ ⟨Nat.zero_le _,rfl⟩ ?_
 rintro j ⟨hj,hc⟩
 have hbl:(belL f).length=f.vars.toNat+f.nodes.length:=belTo_len f f.nodes.length
 refine yG hn_g1 ?_
 refine yF hn_g1 (fun h1=>?_) fun h1=>?_
 ·have h1':j<f.nodes.length:=dT h1
  have hst:cohTo f (j+1)=(cohTo f j&& !((belL f).getD (f.vars.toNat+j) false&&(decide ((f.nodes.getD j fn0).kind=1)||decide ((f.nodes.getD j fn0).kind=5)))):=rfl
  have hidx:(f.vars+(j:Int)).toNat=f.vars.toNat+j:=by omega
  rw [hc,Bool.true_and] at hst
  have fin:cohTo f (j+1)=false→cohTo f f.nodes.length=false:=fun hf=>coh_false hf _ om
  generalize belL f=ms at hbl hst⊢
  have J1:=oj hn_g1 hidx
  refine yG J1 ?_
  refine aw_split 21 (zE J1) (fun hm=> ?_) (fun hm=> ?_)<;>refine yS J1 ?_
  ·rw [hm,Bool.true_and] at hst
   refine yG J1 ?_
   refine aw_split 29 (zE J1) (fun h4=> ?_) (fun h4=> ?_)<;>refine yS J1 ?_
   ·refine yGPG J1 ?_
    rw [fin (by rw [hst,show decide ((f.nodes.getD j fn0).kind=1)=true from by simpa using h4];rfl)]
    refine yT hC J1 ?_
    exact .one (.c (.bool _))
   ·refine yG J1 ?_
    have h4':decide ((f.nodes.getD j fn0).kind=1)=false:=by simpa using h4
    rw [h4',Bool.false_or] at hst
    refine yF J1 (fun h5=>?_) fun h5=>?_
    ·refine yG J1 ?_
     rw [fin (by rw [hst,show decide ((f.nodes.getD j fn0).kind=5)=true from by simpa using h5];rfl)]
     refine yT hC J1 ?_
     exact .one (.c (.bool _))
    ·refine yG J1 ?_
     exact aw_stop ⟨j+1,by omega,(zB J1),zZ,by omega,by rw [hst,show decide ((f.nodes.getD j fn0).kind=5)=false from by simpa using h5];rfl⟩
  ·refine yGNG J1 ?_
   exact aw_stop ⟨j+1,by omega,(zB J1),zZ,by omega,by rw [hst,hm];rfl⟩
 ·have h1':j=f.nodes.length:=dF h1
  subst h1'
  refine yG hn_g1 ?_
  rw [hc]
  refine yT hC hn_g1 ?_
  exact .one (.c (.bool _))
end Go.Proofs.YtefekdejgbceiaaGreat
namespace Go.PN
open Go.AI
theorem ltake {l:List Nat} {k:Nat} (hk:k<l.length):l.take (k+1)=l.take k++[l.getD k 0]:=by
 rw [List.take_succ_eq_append_getElem hk,List.getD_eq_getElem?_getD,List.getElem?_eq_getElem hk];rfl
end Go.PN
namespace Go.Proofs.YtefekdejgbceiaaGreat
open Go.AI Go.PN
attribute [local irreducible] aw Fa Fh DrK
def failsB (l:List Nat) (s:Nat):Bool:=l.any fun t=>subT t s
end Go.Proofs.YtefekdejgbceiaaGreat
namespace Go.PN
open Go.AI Go.Proofs.YtefekdejgbceiaaGreat
theorem dn_ext {a b:List DN} (hl:a.length=b.length) (h:∀j,j<a.length→a.getD j dn0=b.getD j dn0):a=b:=by
 refine List.ext_getElem hl fun j h1 h2=> ?_
 have:=h j h1
 rwa [getDN h1,getDN h2] at this
end Go.PN
namespace Go.Proofs.YtefekdejgbceiaaGreat
open Go.AI Go.PN
attribute [local irreducible] aw Fa Fh DrK
theorem sortN_len (xs:List Nat):(sortN xs).length≤xs.length:=by
 have h:∀(xs acc:List Nat),(xs.foldl (fun acc x=>insN x acc) acc).length≤acc.length+xs.length:=by
  intro xs
  induction xs with
  |nil=>intro acc;simp
  |cons x xs ih=>
   intro acc
   have:=ih (insN x acc)
   have hl:(insN x acc).length≤acc.length+1:=by
    unfold insN
    split
    ·omega
    ·unfold insA
     rw [List.length_append,List.length_cons,List.length_take,List.length_drop]
     omega
   simp only [List.foldl_cons,List.length_cons]
   omega
 have:=h xs []
 unfold sortN
 simpa using this
end Go.Proofs.YtefekdejgbceiaaGreat
namespace Go.Proofs.YtefekdejgbceiaaGreat
open Go.AI Go.PN
attribute [local irreducible] aw Fa Fh DrK
theorem slEqDN_fa (xs ys:List DN) (hl:xs.length≤68719476736) (hl2:ys.length≤68719476736):Fa Tryz.prog 186 [.c (dns false xs),.c (dns false ys)] (.c (.bool (decide (xs=ys)))):=by
 refine fa_of_body Tryz.func186 rfl rfl (by simp [Tryz.ntmps186]) fun C hC=> ?_
 simp only [initS,Nat.reduceAdd]
 refine xG ?_
 refine xF (fun hb=>?_) fun hb=>?_
 ·refine xGT hC ?_
  refine .one (.c (ler_bool ?_))
  have:xs≠ys:=fun e=>by rw [e] at hb;simp at hb
  simp [this]
 ·have hlen:xs.length=ys.length:=by
   have:((xs.length:Int)==(ys.length:Int))=true:=by simpa [bne] using hb
   have:=eq_of_beq this;omega
  refine xG ?_
  refine aw_lp (fun i:Nat=>[(0,.c (dns false xs)),(1,.c (dns false ys)),(12,.c (.int .i64 xs.length)),(13,.c (.int .i64 i))]) (fun _=>[]) (fun i=>i≤xs.length∧∀j,j<i→xs.getD j dn0=ys.getD j dn0) (fun i=>xs.length-i) 0 eB zZ ⟨Nat.zero_le _,fun j hj=>by omega⟩ ?_
  rintro i ⟨hi,hs⟩
  refine xG ?_
  refine xF (fun hb=>?_) fun hb=>?_
  ·have hin:i<xs.length:=dT hb
   refine xG ?_
   refine aw_dr 9 ty_mixed (by kernel_rfl) ?_
   refine xG ?_
   refine xF (fun hc=>?_) fun hc=>?_
   ·have hc':¬xs.getD i dn0=ys.getD i dn0:=by
     rw [eqDN] at hc
     simpa using hc
    refine xGT hC ?_
    refine .one (.c (ler_bool ?_))
    have:xs≠ys:=fun e=>hc' (by rw [e])
    simp [this]
   ·have he:xs.getD i dn0=ys.getD i dn0:=by
     rw [eqDN] at hc
     simpa using hc
    refine xG ?_
    refine aw_stop ⟨i+1,by omega,eB,zZ,by omega,fun j hj=> ?_⟩
    by_cases hji:j=i
    ·rw [hji];exact he
    ·exact hs j om
  ·have hin:i=xs.length:=dF hb
   subst hin
   refine xGT hC ?_
   refine .one (.c (ler_bool ?_))
   have:=dn_ext hlen hs
   simp [this]
theorem bz_ty:tZ1 Tryz.prog 4=some (.bool false):=by kernel_rfl
theorem zcheck_fa {n:Nat} {F:Nat→Bool} (z:ZD) (hz:ZOut n F z) (h24:n≤24) (hn:z.nodes.length≤4096):Fa Tryz.prog 167 [.agg (zdc false z)] (.c .nilI):=by
 have ht:=hz.tab
 have hr:=hz.ref
 refine fa_of_body Tryz.func167 rfl rfl (by simp [Tryz.ntmps167]) fun C hC=> ?_
 simp only [initS,Nat.reduceAdd]
 refine xG ?_
 refine xB fun g1 hn_g1=>?_
 refine yG hn_g1 ?_
 have t0:decide ((z.nodes.length:Int)>4096)=false:=decide_eq_false om
 have J1:=oj hn_g1 t0
 refine yS J1 ?_
 refine yN J1 ?_
 refine yG J1 ?_
 refine aw_makeMap (Kf:=dkV) rfl rfl rfl fun gm hn_gm=> ?_
 replace hn_gm:=Heap.ne_of hn_gm
 dsimp only [Heap.ne] at hn_gm
 have J2:=oj hn_g1 (oj t0 hn_gm)
 refine ySG J2 ?_
 refine aw_lp (fun i:Nat=>[(1,.c (.optr g1 0)),(3,.c (.raw (.map (some gm)))),(15,.c (dns false z.nodes)),(16,.c (.int .i64 z.nodes.length)),(17,.c (.int .i64 i))]) (fun i=>[(gm,.gen (MapI dkV (dkL (z.nodes.take i)))),(g1,.cells 148 2 (ofL (zdc false z)))]) (fun i=>i≤z.nodes.length) (fun i=>z.nodes.length-i) 0 (zB J2) zZ (Nat.zero_le _) ?_
 rintro i hi
 refine yG J2 ?_
 refine yF J2 (fun h1=>?_) fun h1=>?_
 ·have hin:i<z.nodes.length:=dT h1
  have nd:=ht i hin
  obtain⟨v0,v1,l0,l1,q0,q1⟩:=nd.nk
  have nh:=nd.hi
  have bl:=nd.bl
  have bh:=nd.bh
  have nw:=nd.new
  have evl:∀r:Int,2≤r→evZ n z.nodes r=(z.nodes.getD (r-2).toNat dn0).v:=fun r hr=>evZ_node hr
  generalize hx0:z.nodes.getD i dn0=nd at*
  have c1:decide (nd.v<0)=false:=decide_eq_false om
  have c2:decide (nd.v≥24)=false:=decide_eq_false om
  have c3:decide ((if nd.hi<nd.lo then nd.hi else nd.lo)<0)=false:=decide_eq_false (by split<;>omega)
  have c4:decide ((if nd.hi>nd.lo then nd.hi else nd.lo)>1+(i:Int))=false:=decide_eq_false (by split<;>omega)
  have c5:=ieq_f nh
  refine yG J2 ?_
  refine yA J2 fun g5 hn_g5=>?_
  have J3:=oj hn_g1 (oj t0 (oj hn_gm (oj hn_g5 (oj c1 (oj c2 (oj c3 (oj c4 (oj c5 hx0))))))))
  refine yGWSGNG J3 ?_
  refine yN J3 ?_
  refine aw_seq ?_
  refine aw_cut (fun _:Unit=>[(1,.c (.optr g1 0)),(3,.c (.raw (.map (some gm)))),(5,.c (.optr g5 0)),(15,.c (dns false z.nodes)),(16,.c (.int .i64 z.nodes.length)),(17,.c (.int .i64 i)),(55,.c (.bool false))]) (fun _=>[(g5,.cells 119 3 (ofL [.int .i64 nd.v,.int .i64 nd.lo,.int .i64 nd.hi])),(gm,.gen (MapI dkV (dkL (z.nodes.take i)))),(g1,.cells 148 2 (ofL (zdc false z)))]) (fun _=>(0:Nat)=0) ?_ ?_
  ·by_cases a1:nd.lo≥2
   ·have d1:decide (nd.lo≥2)=true:=decide_eq_true a1
    have d2:decide ((z.nodes.getD (nd.lo-2).toNat dn0).v≤nd.v)=false:=decide_eq_false (by rw [evl _ a1] at bl;omega)
    by_cases a2:nd.hi≥2
    ·have d3:decide (nd.hi≥2)=true:=decide_eq_true a2
     have d4:decide ((z.nodes.getD (nd.hi-2).toNat dn0).v≤nd.v)=false:=decide_eq_false (by rw [evl _ a2] at bh;omega)
     have J4:=oj hn_g1 (oj t0 (oj hn_gm (oj hn_g5 (oj c1 (oj c2 (oj c3 (oj c4 (oj c5 (oj hx0 (oj d1 (oj d2 (oj d3 d4))))))))))))
     refine yG J4 ?_
     refine aw_dr 35 ty_mixed (by kernel_rfl) ?_
     refine yG J4 ?_
     exact aw_stop ⟨(),(zB J4),zZ,rfl⟩
    ·have d3:decide (nd.hi≥2)=false:=decide_eq_false a2
     have J5:=oj hn_g1 (oj t0 (oj hn_gm (oj hn_g5 (oj c1 (oj c2 (oj c3 (oj c4 (oj c5 (oj hx0 (oj d1 (oj d2 d3)))))))))))
     refine yG J5 ?_
     refine aw_dr 35 ty_mixed (by kernel_rfl) ?_
     refine yG J5 ?_
     exact aw_stop ⟨(),(zB J5),zZ,rfl⟩
   ·have d1:decide (nd.lo≥2)=false:=decide_eq_false a1
    by_cases a2:nd.hi≥2
    ·have d3:decide (nd.hi≥2)=true:=decide_eq_true a2
     have d4:decide ((z.nodes.getD (nd.hi-2).toNat dn0).v≤nd.v)=false:=decide_eq_false (by rw [evl _ a2] at bh;omega)
     have J6:=oj hn_g1 (oj t0 (oj hn_gm (oj hn_g5 (oj c1 (oj c2 (oj c3 (oj c4 (oj c5 (oj hx0 (oj d1 (oj d3 d4)))))))))))
     refine yG J6 ?_
     refine aw_dr 35 ty_mixed (by kernel_rfl) ?_
     refine yG J6 ?_
     exact aw_stop ⟨(),(zB J6),zZ,rfl⟩
    ·have d3:decide (nd.hi≥2)=false:=decide_eq_false a2
     have J7:=oj hn_g1 (oj t0 (oj hn_gm (oj hn_g5 (oj c1 (oj c2 (oj c3 (oj c4 (oj c5 (oj hx0 (oj d1 d3))))))))))
     refine yG J7 ?_
     refine aw_dr 35 ty_mixed (by kernel_rfl) ?_
     refine yG J7 ?_
     exact aw_stop ⟨(),(zB J7),zZ,rfl⟩
  rintro _ _
  refine yN J3 ?_
  refine yG J3 ?_
  refine aw_lookup (a:=dk nd) (kv:=dkL (z.nodes.take i)) (Kf:=dkV) (z:=.bool false) rfl rfl rfl (kt:=119) (et:=4) (by kernel_rfl) dk_ok bz_ty (zE J3) (zE J3) (zE J3) dk_rep ?_
  rw [dkL_cst,decide_eq_false nw]
  refine ySGNG J3 ?_
  refine aw_mapNew (a:=dk nd) (kv:=dkL (z.nodes.take i)) (Kf:=dkV) (v:=.bool true) rfl rfl rfl (kt:=119) (et:=4) (by kernel_rfl) dk_ok (zE J3) (zE J3) (zE J3) dk_rep (cv:=.c (.bool true)) (zE J3) (fun S w u h=>h) (by rw [dkL_get,if_neg nw]) (zE J3) ?_
  rw [←dkL_push,←hx0,←takeDN_push hin]
  have J8:=oj hn_g1 (oj t0 (oj hn_gm (oj hn_g5 (oj c1 (oj c2 (oj c3 (oj c4 (oj c5 hx0))))))))
  refine ySG J8 ?_
  exact aw_stop ⟨i+1,by omega,(zB J8),List.Sublist.cons _ (List.Sublist.refl _),by omega⟩
 ·have hin:i=z.nodes.length:=dF h1
  subst hin
  obtain⟨rs,hag⟩:=hz.again
  have r1:decide (z.root<0)=false:=decide_eq_false (by have:=hr.1;omega)
  have r2:decide (z.root>1+(z.nodes.length:Int))=false:=decide_eq_false (by have:=hr.2;omega)
  have J9:=oj hn_g1 (oj t0 (oj hn_gm (oj r1 r2)))
  refine yGNG J9 ?_
  refine aw_callh (hc:=[]) (hr:=[(gm,.gen (MapI dkV (dkL (z.nodes.take z.nodes.length)))),(g1,.cells 148 2 (ofL (zdc false z)))]) newSets_fh rfl rfl rfl (.refl _) (zL J9) ?_
  rintro _ _ ⟨gT,gU,gM,rfl,rfl⟩ _
  refine aw_perm List.perm_append_comm ?_
  refine ySG J9 ?_
  refine aw_callh (hc:=ZHp gT gU gM none [] []) (hr:=[(gm,.gen (MapI dkV (dkL (z.nodes.take z.nodes.length)))),(g1,.cells 148 2 (ofL (zdc false z)))]) (zimport_fh gT gU gM z ht hr om) rfl rfl rfl (List.perm_append_comm (l₁:=[(gm,_),(g1,_)])) (zL J9) ?_
  rintro _ _ ⟨og,hog,rfl,rfl⟩ _
  refine ySG J9 ?_
  have hs:ZS n og z.nodes []:=⟨hog,ht,fun e he=>absurd he List.not_mem_nil⟩
  refine aw_callh (hc:=ZHp gT gU gM og z.nodes []) (hr:=[(gm,.gen (MapI dkV (dkL (z.nodes.take z.nodes.length)))),(g1,.cells 148 2 (ofL (zdc false z)))]) (zexport_fh gT gU gM hs om hr) rfl rfl rfl (.refl _) (zL J9) ?_
  rintro _ _ ⟨rs',os,y,hex,rfl,rfl⟩ _
  obtain⟨_,rfl,rfl⟩:=hex.run.det hag
  refine aw_perm List.perm_append_comm ?_
  refine ySG J9 ?_
  refine yA J9 fun g7 hn_g7=>?_
  refine yG (oj hn_g1 (oj t0 (oj hn_gm (oj r1 (oj r2 hn_g7))))) ?_
  have y1:=ieq_t (rfl:z.root=z.root)
  have J10:=oj hn_g1 (oj t0 (oj hn_gm (oj r1 (oj r2 (oj hn_g7 y1)))))
  refine yW J10 ?_
  refine ySG J10 ?_
  refine aw_callq (slEqDN_fa z.nodes z.nodes om om) rfl rfl rfl (zL J10) ?_
  rw [decide_eq_true (rfl:z.nodes=z.nodes)]
  refine ySGNG J10 ?_
  refine yT hC J10 ?_
  exact .one (.c .nilI)
end Go.Proofs.YtefekdejgbceiaaGreat
namespace Go.AI
open Go.PN
def zdZ:ZD:=⟨[],0⟩
def zdsF (ds:List ZD):Nat→CV:=lf 2 (fun d:ZD=>[dns false d.nodes,CV.int .i64 d.root]) zdZ ds
@[go_sem] theorem zdsF_0 (ps:List ZD) (i:Nat):zdsF ps (i*2)=dns false (ps.getD i zdZ).nodes:=by
 have:=lf_at (s:=2) (c:=fun d:ZD=>[dns false d.nodes,CV.int .i64 d.root]) (d:=zdZ) (xs:=ps) (i:=i) (k:=0) om
 exact this
@[go_sem] theorem zdsF_1 (ps:List ZD) (i:Nat):zdsF ps (i*2+1)=.int .i64 (ps.getD i zdZ).root:=by
 have:=lf_at (s:=2) (c:=fun d:ZD=>[dns false d.nodes,CV.int .i64 d.root]) (d:=zdZ) (xs:=ps) (i:=i) (k:=1) om
 exact this
abbrev zds (t:Bool) (ds:List ZD):CV:=.row t 2 ds.length (zdsF ds)
end Go.AI
namespace Go.Proofs.YtefekdejgbceiaaGreat
open Go.AI Go.PN
attribute [local irreducible] aw Fa Fh DrK
theorem zopen_fh {n:Nat} {F:Nat→Bool} (z:ZD) (hz:ZOut n F z) (h24:n≤24) (hn:z.nodes.length≤4096):
  Fh Tryz.prog 135 [] [.c (zds false [z])] (fun x h=>∃gT gU gM og,(og=none→z.nodes.length=0)∧x=.tup [.c (.optr gT 0),.c (is true [z.root]),.c .nilI]∧h=ZHp gT gU gM og z.nodes []):=by
 refine fh_of_body Tryz.func135 rfl rfl (by simp [Tryz.ntmps135]) fun C hC=> ?_
 simp only [initS,Nat.reduceAdd]
 refine xG ?_
 refine aw_callh (hc:=[]) (hr:=[]) newSets_fh rfl rfl rfl (.refl _) eL ?_
 rintro _ _ ⟨gT,gU,gM,rfl,rfl⟩ _
 rw [List.append_nil]
 refine xSG ?_
 refine aw_lp (fun x:Nat×Option Nat×Option Nat×List DN×List Int=>[(0,.c (zds false [z])),(5,.c (.optr gT 0)),(6,.c (gs x.2.1 1 x.1)),(11,.c (zds false [z])),(12,.c (.int .i64 1)),(13,.c (.int .i64 x.1))]) (fun x=>ZHp gT gU gM x.2.2.1 x.2.2.2.1 []++gh x.2.1 3 (x.1*1) (isF x.2.2.2.2))
  (fun x=>x.1≤1∧(x.2.1=none→x.1=0)∧(x.2.2.1=none→x.2.2.2.1.length=0)∧x.2.2.2.2.length=x.1∧(x.1=0→x.2.2.2.1=[]∧x.2.2.1=none)∧(x.1=1→x.2.2.2.1=z.nodes∧x.2.2.2.2=[z.root])) (fun x=>1-x.1) (0,none,none,[],[]) eB (by simp only [gh,List.append_nil];exact List.Sublist.refl _) ⟨Nat.zero_le _,fun _=>rfl,fun _=>rfl,rfl,fun _=>⟨rfl,rfl⟩,fun h=>by cases h⟩ ?_
 rintro ⟨k,ogr,og,ns,rl⟩ ⟨hk,hogr,hog,hrl,h0,h1⟩
 dsimp only at hk hogr hog hrl h0 h1⊢
 refine xG ?_
 refine xF (fun hb=>?_) fun hb=>?_
 ·have hk0:k=0:=dT hb
  subst hk0
  obtain⟨rfl,rfl⟩:=h0 rfl
  obtain rfl:rl=[]:=List.length_eq_zero_iff.1 hrl
  refine xG ?_
  refine xA fun g8 hn_g8=>?_
  refine yGWSG hn_g8 ?_
  refine yC hn_g8 (zcheck_fa z hz h24 hn) ?_
  refine yGNG hn_g8 ?_
  refine aw_callh (hc:=ZHp gT gU gM none [] []) (hr:=(g8,.cells 148 2 (ofL [dns false z.nodes,.int .i64 z.root]))::gh ogr 3 0 (isF [])) (zimport_fh gT gU gM z hz.tab hz.ref om) rfl rfl rfl (perm_mid (g8,_) _ _) (zL hn_g8) ?_
  rintro _ _ ⟨og1,hog1,rfl,rfl⟩ _
  refine aw_perm (perm_mid (g8,_) _ _).symm ?_
  simp only [ZHp,ZH,List.cons_append,List.nil_append,List.append_assoc]
  refine ySG hn_g8 ?_
  refine aw_push (pre:=(g8,.cells 148 2 (ofL [dns false z.nodes,.int .i64 z.root]))::([(gT,.cells 205 3 (ofL [gs og1 3 z.nodes.length,.raw (.map (some gU)),.raw (.map (some gM))])),(gU,.gen (MapI dkV (uqTo z.nodes 0))),(gM,.gen (MapI keyS (mmL [])))]++gh og1 119 (z.nodes.length*3) (dnsF z.nodes))) rfl rfl rfl rfl rfl rfl rfl (zE hn_g8) (zE hn_g8) (by rfl) om om (zE hn_g8) om (by exact hogr) (zE hn_g8) (by rfl) (by rfl) (by first|rfl|simp only [Nat.mul_one,List.nil_append,List.cons_append]<;>rfl) (by unfold maxLen;omega) om (by exact(fun j hj=>is_push (zs:=[]) (n:=0) rfl z.root j hj)) fun g hn_g=> ?_
  replace hn_g:=Heap.ne_of hn_g
  first|dsimp only [Heap.ne,gh] at hn_g|dsimp only [Heap.ne] at hn_g|skip
  have J1:=oj hn_g8 hn_g
  refine ySG J1 ?_
  refine aw_stop ⟨(1,some g,og1,z.nodes,[z.root]),by dsimp only;omega,(zB J1),?_,by dsimp only;omega,some_ne,hog1,rfl,(fun h=>by cases h),fun _=>⟨rfl,rfl⟩⟩
  simp only [ZHp,ZH,List.cons_append,List.nil_append,List.append_assoc]
  exact List.Sublist.cons _ (List.Sublist.refl _)
 ·have hk1:k=1:=dF hb
  subst hk1
  obtain⟨rfl,rfl⟩:=h1 rfl
  obtain⟨g,rfl⟩:∃g,ogr=some g:=by
   cases ogr with
   |none=>have:=hogr rfl;omega
   |some g=>exact⟨g,rfl⟩
  simp only [gs,gh]
  refine xG ?_
  refine aw_nd fun hnd=> ?_
  have hg:g∉(ZHp gT gU gM og z.nodes []).keys:=by
   have h2:((ZHp gT gU gM og z.nodes []).keys++[g]).Nodup:=by simpa [Heap.keys] using hnd
   exact fun hm=>(List.nodup_append.1 h2).2.2 g hm g (by simp) rfl
  refine aw_frz (t:=3) (f:=isF [z.root]) rfl (Heap.get_app hg) om (fun h=>by have:=(hC g).1 h;simp [Heap.keys] at this) rfl (Heap.del_app hg) ?_
  have e:(CV.row true 1 1 fun j=>isF [z.root] (0+j))=is true [z.root]:=by simp only [Nat.zero_add];rfl
  rw [e]
  refine xS ?_
  refine xU ?_
  exact⟨gT,gU,gM,og,hog,rfl,rfl⟩
end Go.Proofs.YtefekdejgbceiaaGreat
namespace Go.Proofs.YtefekdejgbceiaaGreat
open Go.Shelf Go.Proofs
def sortRen:Go.Shelf.Ren:=⟨fun|6=>139|15=>173|14=>172|28=>154|29=>195|20=>187|21=>188|22=>189|23=>190|24=>191|25=>192|26=>193|27=>194|46=>202|47=>203|48=>204|49=>205|50=>206|57=>208|n=>n,fun|22=>28|24=>3|25=>100|3=>3|39=>145|0=>0|53=>139|55=>143|4=>4|46=>219|45=>218|50=>121|5=>5|9=>9|66=>225|70=>229|76=>231|77=>177|n=>n,fun n=>n⟩
theorem sortL:SlLaysF.n6 Tryz.prog sortRen where
 mixed:=by kernel_rfl
 f6:=⟨"slices.SortFunc[[]int,int]",by decide,Tryz.func139.trans (congrArg some (by kernel_rfl))⟩
 f14:=⟨"slices.pdqsortCmpFunc[int]",by decide,Tryz.func172.trans (congrArg some (by kernel_rfl))⟩
 f15:=Tryz.func173.trans (congrArg some (by kernel_rfl))
 f20:=⟨"slices.insertionSortCmpFunc[int]",by decide,Tryz.func187.trans (congrArg some (by kernel_rfl))⟩
 f21:=⟨"slices.heapSortCmpFunc[int]",by decide,Tryz.func188.trans (congrArg some (by kernel_rfl))⟩
 f22:=⟨"slices.breakPatternsCmpFunc[int]",by decide,Tryz.func189.trans (congrArg some (by kernel_rfl))⟩
 f23:=⟨"slices.choosePivotCmpFunc[int]",by decide,Tryz.func190.trans (congrArg some (by kernel_rfl))⟩
 f24:=⟨"slices.reverseRangeCmpFunc[int]",by decide,Tryz.func191.trans (congrArg some (by kernel_rfl))⟩
 f25:=⟨"slices.partialInsertionSortCmpFunc[int]",by decide,Tryz.func192.trans (congrArg some (by kernel_rfl))⟩
 f26:=⟨"slices.partitionEqualCmpFunc[int]",by decide,Tryz.func193.trans (congrArg some (by kernel_rfl))⟩
 f27:=⟨"slices.partitionCmpFunc[int]",by decide,Tryz.func194.trans (congrArg some (by kernel_rfl))⟩
 f28:=Tryz.func154.trans (congrArg some (by kernel_rfl))
 f29:=Tryz.func195.trans (congrArg some (by kernel_rfl))
 f46:=⟨"slices.siftDownCmpFunc[int]",by decide,Tryz.func202.trans (congrArg some (by kernel_rfl))⟩
 f47:=Tryz.func203.trans (congrArg some (by kernel_rfl))
 f48:=Tryz.func204.trans (congrArg some (by kernel_rfl))
 f49:=⟨"slices.medianAdjacentCmpFunc[int]",by decide,Tryz.func205.trans (congrArg some (by kernel_rfl))⟩
 f50:=⟨"slices.medianCmpFunc[int]",by decide,Tryz.func206.trans (congrArg some (by kernel_rfl))⟩
 f57:=⟨"slices.order2CmpFunc[int]",by decide,Tryz.func208.trans (congrArg some (by kernel_rfl))⟩
 t0:=Tryz.underlying0
 a0:=Tryz.isAgg0
 z0:=Tryz.sizeOf0
 v0:=Tryz.zeroValue0
 t3:=Tryz.underlying3
 a3:=Tryz.isAgg3
 z3:=Tryz.sizeOf3
 v3:=Tryz.zeroValue3
 t4:=Tryz.underlying4
 a4:=Tryz.isAgg4
 z4:=Tryz.sizeOf4
 v4:=Tryz.zeroValue4
 t5:=Tryz.underlying5
 a5:=Tryz.isAgg5
 z5:=Tryz.sizeOf5
 v5:=Tryz.zeroValue5
 t9:=Tryz.underlying9
 a9:=Tryz.isAgg9
 z9:=Tryz.sizeOf9
 v9:=Tryz.zeroValue9
 t22:=Tryz.underlying28
 a22:=Tryz.isAgg28
 z22:=Tryz.sizeOf28
 v22:=Tryz.zeroValue28
 a24:=Tryz.isAgg3
 z24:=Tryz.sizeOf3
 t25:=Tryz.underlying100
 a25:=Tryz.isAgg100
 z25:=Tryz.sizeOf100
 v25:=Tryz.zeroValue100
 t39:=Tryz.underlying145
 a39:=Tryz.isAgg145
 z39:=Tryz.sizeOf145
 v39:=Tryz.zeroValue145
 t45:=Tryz.underlying218
 a45:=Tryz.isAgg218
 z45:=Tryz.sizeOf218
 v45:=Tryz.zeroValue218
 t46:=Tryz.underlying219
 a46:=Tryz.isAgg219
 z46:=Tryz.sizeOf219
 v46:=Tryz.zeroValue219
 t50:=Tryz.underlying121
 a50:=Tryz.isAgg121
 z50:=Tryz.sizeOf121
 v50:=Tryz.zeroValue121
 t53:=Tryz.underlying139
 a53:=Tryz.isAgg139
 z53:=Tryz.sizeOf139
 v53:=Tryz.zeroValue139
 t55:=Tryz.underlying143
 a55:=Tryz.isAgg143
 z55:=Tryz.sizeOf143
 v55:=Tryz.zeroValue143
 t66:=Tryz.underlying225
 a66:=Tryz.isAgg225
 z66:=Tryz.sizeOf225
 v66:=Tryz.zeroValue225
 t70:=Tryz.underlying229
 a70:=Tryz.isAgg229
 z70:=Tryz.sizeOf229
 v70:=Tryz.zeroValue229
 t76:=Tryz.underlying231
 a76:=Tryz.isAgg231
 z76:=Tryz.sizeOf231
 v76:=Tryz.zeroValue231
 t77:=Tryz.underlying177
 a77:=Tryz.isAgg177
 z77:=Tryz.sizeOf177
 v77:=Tryz.zeroValue177
end Go.Proofs.YtefekdejgbceiaaGreat
namespace Go.AI
theorem solid_gs2 {og:Option Nat} {s n:Nat} {k:IntKind} {z:Int}:(AV.agg [gs og s n,.int k z]).cells.all CV.solid=true:=by
 cases og<;>rfl
end Go.AI

namespace Go.PN
theorem and_256 {a b c d:Nat} (ha:a<256) (hc:c<256):(a+256*b)&&&(c+256*d)=(a&&&c)+256*(b&&&d):=by
 have e:∀x y:Nat,x<256→x+256*y=2^8*y+x:=fun x y _=>by omega
 have hac:a&&&c<2^8:=Nat.and_lt_two_pow a om
 rw [e a b ha,e c d hc,e _ _ hac]
 refine Nat.eq_of_testBit_eq fun j=> ?_
 rw [Nat.testBit_and,Nat.testBit_two_pow_mul_add _ om,Nat.testBit_two_pow_mul_add _ om,Nat.testBit_two_pow_mul_add _ hac]
 split
 ·rw [Nat.testBit_and]
 ·rw [Nat.testBit_and]
def one1 (x m:Nat):Nat:=(x/2&&&m)+(x&&&m)
def one2 (x m:Nat):Nat:=(x/4&&&m)+(x&&&m)
def one3 (x m:Nat):Nat:=(x+x/16)&&&m
theorem d1:∀b<256,∀q<2,(b/2+128*q)&&&85=b/2&&&85:=by decide+kernel
theorem d2:∀b<256,∀q<4,(b/4+64*q)&&&51=b/4&&&51:=by decide+kernel
theorem d3:∀b<256,∀q<5,(one2 (one1 b 85) 51+one2 (one1 b 85) 51/16+16*q)&&&15=one3 (one2 (one1 b 85) 51) 15∧one2 (one1 b 85) 51+one2 (one1 b 85) 51/16+16*q<256:=by decide+kernel
theorem d4:∀b<256,one1 b 85<256∧one2 (one1 b 85) 51<256∧one2 (one1 b 85) 51%16<5∧one3 (one2 (one1 b 85) 51) 15=popF 8 b:=by decide+kernel
theorem d5:∀b<256,popF 8 b≤8:=by decide+kernel
theorem one1_256 {b r m:Nat} (hb:b<256):one1 (b+256*r) (85+256*m)=one1 b 85+256*one1 r m:=by
 unfold one1
 rw [show(b+256*r)/2=(b/2+128*(r%2))+256*(r/2) from by omega,and_256 om om,and_256 hb om,d1 b hb _ om]
 omega
theorem one2_256 {b r m:Nat} (hb:b<256):one2 (b+256*r) (51+256*m)=one2 b 51+256*one2 r m:=by
 unfold one2
 rw [show(b+256*r)/4=(b/4+64*(r%4))+256*(r/4) from by omega,and_256 om om,and_256 hb om,d2 b hb _ om]
 omega
theorem one3_256 {b r m:Nat} (hb:b<256) (hr:r%16<5):one3 (one2 (one1 b 85) 51+256*r) (15+256*m)=one3 (one2 (one1 b 85) 51) 15+256*one3 r m:=by
 obtain⟨e1,e2⟩:=d3 b hb (r%16) hr
 rw [←e1]
 unfold one3
 generalize one2 (one1 b 85) 51=y at*
 rw [show y+256*r+(y+256*r)/16=(y+y/16+16*(r%16))+256*(r+r/16) from by omega,and_256 e2 om]
theorem pop_byte (b r:Nat) (hb:b<256):popN (b+256*r)=popF 8 b+popN r:=by
 have step:∀y:Nat,popN y=y%2+(y/2%2+(y/2/2%2+(y/2/2/2%2+(y/2/2/2/2%2+(y/2/2/2/2/2%2+(y/2/2/2/2/2/2%2+(y/2/2/2/2/2/2/2%2+popN (y/2/2/2/2/2/2/2/2)))))))):=fun y=>by
  rw [pop_half y,pop_half (y/2),pop_half (y/2/2),pop_half (y/2/2/2),pop_half (y/2/2/2/2),pop_half (y/2/2/2/2/2),pop_half (y/2/2/2/2/2/2),pop_half (y/2/2/2/2/2/2/2)]
 rw [step,show(b+256*r)/2/2/2/2/2/2/2/2=r from by omega]
 simp only [popF]
 omega
theorem pop_small (b:Nat) (hb:b<256):popN b=popF 8 b:=pop_eq (k:=8) om
theorem ones_three {x:Nat} (hx:x<16777216):∃p q r:Nat,p≤8∧q≤8∧r≤8∧one1 x 6148914691236517205<16777216∧one2 (one1 x 6148914691236517205) 3689348814741910323<16777216∧one3 (one2 (one1 x 6148914691236517205) 3689348814741910323) 1085102592571150095=p+256*(q+256*r)∧popN x=p+q+r:=by
 obtain⟨b,c,d,hb,hc,hd,rfl⟩:∃b c d,b<256∧c<256∧d<256∧x=b+256*(c+256*d):=⟨x%256,x/256%256,x/65536,by omega,by omega,by omega,by omega⟩
 have z1:∀m,one1 d (85+256*m)=one1 d 85:=fun m=>by
  have:=one1_256 (b:=d) (r:=0) (m:=m) hd
  rw [Nat.mul_zero,Nat.add_zero] at this
  rw [this];unfold one1;simp
 have e1:one1 (b+256*(c+256*d)) 6148914691236517205=one1 b 85+256*(one1 c 85+256*one1 d 85):=by
  rw [show 6148914691236517205=85+256*(85+256*(85+256*366503875925)) from rfl,one1_256 hb,one1_256 hc,z1]
 obtain⟨b1,b2,b3,b4⟩:=d4 b hb
 obtain⟨c1,c2,c3,c4⟩:=d4 c hc
 obtain⟨d1',d2',d3',d4'⟩:=d4 d hd
 have z2:∀m,one2 (one1 d 85) (51+256*m)=one2 (one1 d 85) 51:=fun m=>by
  have:=one2_256 (b:=one1 d 85) (r:=0) (m:=m) d1'
  rw [Nat.mul_zero,Nat.add_zero] at this
  rw [this];unfold one2;simp
 have e2:one2 (one1 b 85+256*(one1 c 85+256*one1 d 85)) 3689348814741910323=one2 (one1 b 85) 51+256*(one2 (one1 c 85) 51+256*one2 (one1 d 85) 51):=by
  rw [show 3689348814741910323=51+256*(51+256*(51+256*219902325555)) from rfl,one2_256 b1,one2_256 c1,z2]
 have z3:∀m,one3 (one2 (one1 d 85) 51) (15+256*m)=one3 (one2 (one1 d 85) 51) 15:=fun m=>by
  have:=one3_256 (b:=d) (r:=0) (m:=m) hd om
  rw [Nat.mul_zero,Nat.add_zero] at this
  rw [this]
  have:one3 0 m=0:=by unfold one3;simp
  rw [this];omega
 have e3:one3 (one2 (one1 b 85) 51+256*(one2 (one1 c 85) 51+256*one2 (one1 d 85) 51)) 1085102592571150095=popF 8 b+256*(popF 8 c+256*popF 8 d):=by
  rw [show 1085102592571150095=15+256*(15+256*(15+256*64677154575)) from rfl,one3_256 hb om,one3_256 hc d3',z3,b4,c4,d4']
 refine⟨popF 8 b,popF 8 c,popF 8 d,d5 b hb,d5 c hc,d5 d hd,by rw [e1];omega,by rw [e1,e2];omega,by rw [e1,e2,e3],?_⟩
 rw [pop_byte _ _ hb,pop_byte _ _ hc,pop_small d hd]
 omega
end Go.PN
namespace Go.AI
theorem and_u64' (a b:Nat) (ha:a<18446744073709551616) (hb:b<18446744073709551616):andZ .u64 (a:Int) (b:Int)=((a&&&b:Nat):Int):=by
 have hx:a&&&b<2^64:=Nat.and_lt_two_pow a om
 rw [andZ_eq]
 show IntKind.u64.wrap (((BitVec.ofInt 64 (a:Int))&&&(BitVec.ofInt 64 (b:Int))).toNat:Int)=_
 rw [BitVec.toNat_and,ofInt64,ofInt64,Nat.mod_eq_of_lt ha,Nat.mod_eq_of_lt hb,IntKind.wrap_u64]
 omega
theorem aw_condF0 {E:Env} {K:List It} {σ:Sl} {h:Heap} {x y:Code} (k:aw E (.code y::K) σ h):aw E (.code (.cond (.const (.bool false)) x y)::K) σ h:=fun a w s=>wp_cond_split (t:=false) rfl (fun e=>by cases e) (fun _=>k a w s)
end Go.AI
namespace Go.Proofs.YtefekdejgbceiaaGreat
open Go.AI Go.PN
attribute [local irreducible] aw Fa Fh DrK
theorem ones64_fa (x:Nat) (hx:x<16777216):Fa Tryz.prog 176 [.c (.int .u64 x)] (.c (.int .i64 (popN x))):=by
 obtain⟨p,q,r,hp,hq,hr,h1,h2,h3,hpop⟩:=ones_three hx
 obtain⟨m1,hm1,hm1'⟩:∃m:Nat,m=6148914691236517205∧m<18446744073709551616:=⟨_,rfl,by decide⟩
 obtain⟨m2,hm2,hm2'⟩:∃m:Nat,m=3689348814741910323∧m<18446744073709551616:=⟨_,rfl,by decide⟩
 obtain⟨m3,hm3,hm3'⟩:∃m:Nat,m=1085102592571150095∧m<18446744073709551616:=⟨_,rfl,by decide⟩
 have c1:(6148914691236517205:Int)=(m1:Int):=by omega
 have c2:(3689348814741910323:Int)=(m2:Int):=by omega
 have c3:(1085102592571150095:Int)=(m3:Int):=by omega
 rw [←hm1,←hm2,←hm3] at h3
 rw [←hm1,←hm2] at h2
 rw [←hm1] at h1
 clear hm1 hm2 hm3
 obtain⟨a1,ha1⟩:∃a,x/2&&&m1=a:=⟨_,rfl⟩
 obtain⟨a2,ha2⟩:∃a,x&&&m1=a:=⟨_,rfl⟩
 obtain⟨y,hy⟩:∃a,one1 x m1=a:=⟨_,rfl⟩
 obtain⟨b1,hb1⟩:∃a,y/4&&&m2=a:=⟨_,rfl⟩
 obtain⟨b2,hb2⟩:∃a,y&&&m2=a:=⟨_,rfl⟩
 obtain⟨z,hz⟩:∃a,one2 y m2=a:=⟨_,rfl⟩
 rw [hy] at h1 h2 h3
 rw [hz] at h2 h3
 have s1:a1+a2=y:=by rw [←hy,←ha1,←ha2];rfl
 have s2:b1+b2=z:=by rw [←hz,←hb1,←hb2];rfl
 obtain⟨w,hw⟩:∃w,p+256*(q+256*r)=w:=⟨_,rfl⟩
 have s3:(z+z/16)&&&m3=w:=by rw [←hw,←h3];rfl
 clear h3 hy hz
 have f1:shrZ .u64 (x:Int) 1=((x/2:Nat):Int):=shr_u64 x 1 om
 have f2:andZ .u64 ((x/2:Nat):Int) 6148914691236517205=(a1:Int):=by rw [c1,and_u64' _ _ om hm1',ha1]
 have f3:andZ .u64 (x:Int) 6148914691236517205=(a2:Int):=by rw [c1,and_u64' _ _ om hm1',ha2]
 have f4:shrZ .u64 (y:Int) 2=((y/4:Nat):Int):=shr_u64 y 2 om
 have f5:andZ .u64 ((y/4:Nat):Int) 3689348814741910323=(b1:Int):=by rw [c2,and_u64' _ _ om hm2',hb1]
 have f6:andZ .u64 (y:Int) 3689348814741910323=(b2:Int):=by rw [c2,and_u64' _ _ om hm2',hb2]
 have f7:shrZ .u64 (z:Int) 4=((z/16:Nat):Int):=shr_u64 z 4 om
 have f8:andZ .u64 (((z/16:Nat):Int)+(z:Int)) 1085102592571150095=(w:Int):=by
  rw [c3,show((z/16:Nat):Int)+(z:Int)=((z+z/16:Nat):Int) from by omega,and_u64' _ _ om hm3',s3]
 have f9:shrZ .u64 (w:Int) 8=((w/256:Nat):Int):=shr_u64 w 8 om
 obtain⟨u,hu⟩:∃u,w+w/256=u:=⟨_,rfl⟩
 have f10:shrZ .u64 (u:Int) 16=((u/65536:Nat):Int):=shr_u64 u 16 om
 obtain⟨v,hv⟩:∃v,u+u/65536=v:=⟨_,rfl⟩
 have f11:shrZ .u64 (v:Int) 32=((v/4294967296:Nat):Int):=shr_u64 v 32 om
 have g1:(a1:Int)+(a2:Int)=(y:Int):=by omega
 have g2:(b1:Int)+(b2:Int)=(z:Int):=by omega
 have g3:(w:Int)+((w/256:Nat):Int)=(u:Int):=by omega
 have g4:(u:Int)+((u/65536:Nat):Int)=(v:Int):=by omega
 have hu':u=p+q+256*(q+r)+65536*r:=by
  have:w/256=q+256*r:=by omega
  omega
 have hv':v=p+q+r+256*(q+r)+65536*r:=by
  have:u/65536=r:=by omega
  omega
 have g5:(v:Int)+((v/4294967296:Nat):Int)=(v:Int):=by omega
 have f12:andZ .i64 (v:Int) 127=((popN x:Nat):Int):=by
  rw [show(127:Int)=((127:Nat):Int) from rfl,andZ_nat _ _ om om,show(127:Nat)=2^7-1 from rfl,Nat.and_two_pow_sub_one_eq_mod,hpop]
  omega
 have f13:wrapZ .i64 (v:Int)=(v:Int):=by rw [wrapZ_eq,wrap_i64 om om]
 refine fa_of_body Tryz.func176 rfl rfl (by simp [Tryz.ntmps176]) fun C hC=> ?_
 simp only [initS,Nat.reduceAdd]
 have J1:=oj f13 (oj f1 (oj f2 (oj f3 (oj f4 (oj f5 (oj f6 (oj f7 (oj f8 (oj f9 (oj f10 (oj f11 (oj f12 (oj g1 (oj g2 (oj g3 (oj g4 g5))))))))))))))))
 refine yGT hC J1 ?_
 exact .one (.c (ler_int rfl))
theorem ones_fa (x:Nat) (hx:x<16777216):Fa Tryz.prog 143 [.c (.int .u64 x)] (.c (.int .i64 (popN x))):=by
 refine fa_of_body Tryz.func143 rfl rfl (by simp [Tryz.ntmps143]) fun C hC=> ?_
 simp only [initS,Nat.reduceAdd]
 refine xG ?_
 refine aw_condF0 ?_
 refine xG ?_
 refine xC (ones64_fa x hx) ?_
 refine xGT hC ?_
 exact .one (.c (ler_int rfl))
end Go.Proofs.YtefekdejgbceiaaGreat
namespace Go.AI
open Go.Sort
theorem fr_grow {w w':World} (h:Fr (fun _=>False) w w'):∃q os',w'=grow (w.drewN q) os':=by
 refine⟨w'.drawn-w.drawn,w'.heap.extract w.heap.size w'.heap.size,?_⟩
 have h1:=h.os
 have h2:=h.tape
 have h3:=h.output
 have h4:=h.drawn
 have h5:=h.size
 have h6:=h.block
 have hh:w'.heap=w.heap++w'.heap.extract w.heap.size w'.heap.size:=by
  refine Array.ext_getElem? fun b=> ?_
  by_cases hb:b<w.heap.size
  ·rw [Array.getElem?_append_left hb];exact h6 b hb (fun x=>x)
  ·rw [Array.getElem?_append_right om,Array.getElem?_extract]
   by_cases hb2:b<w'.heap.size
   ·rw [if_pos om];congr 1;omega
   ·rw [if_neg om,Array.getElem?_eq_none om]
 have hd:w.drawn+(w'.drawn-w.drawn)=w'.drawn:=by omega
 cases w with
 |mk heap tape drawn os output=>
  cases w' with
  |mk heap' tape' drawn' os' output'=>
   simp only at h1 h2 h3 hh hd
   subst h1 h2 h3
   unfold grow World.drewN
   simp only [World.mk.injEq,true_and]
   exact⟨hh,hd.symm,trivial⟩
end Go.AI
namespace Go.PN
open Go.AI Go.Sort
def cmpC (a b:Int):Int:=if a<b then-1 else if b<a then 1 else 0
def cmpI (x y:Nat):Int:=if cmpC (popN x) (popN y)≠0 then cmpC (popN x) (popN y) else cmpC x y
abbrev SetF:=Fin 16777216
def toF (s:Nat):SetF:=Fin.ofNat 16777216 s
theorem toF_val {s:Nat} (h:s<16777216):(toF s).val=s:=Nat.mod_eq_of_lt h
instance:Inhabited SetF:=⟨toF 0⟩
def encF (x:SetF):Value:=.int .i64 (x.val:Int)
def cfF (x y:SetF):Int:=cmpI x.val y.val
theorem lt_key (x y:SetF):Go.Proofs.ltOf cfF x y=keyLt x.val y.val:=by
 unfold Go.Proofs.ltOf cfF cmpI cmpC keyLt
 rw [Bool.eq_iff_iff]
 simp only [decide_eq_true_eq,Bool.or_eq_true,Bool.and_eq_true]
 split<;>split<;>(try split)<;>(try split)<;>omega
theorem swoF:SWO (Go.Proofs.ltOf cfF) where
 irrefl x:=by rw [lt_key];exact key_irr _
 trans x y z h1 h2:=by rw [lt_key] at*;exact key_trans h1 h2
 ntrans x y z h1 h2:=by
  rw [lt_key] at*
  simp only [keyLt,Bool.or_eq_false_iff,Bool.and_eq_false_iff,decide_eq_false_iff_not] at*
  omega
theorem srt_of {d:Array SetF} (hs:SortedIn (Go.Proofs.ltOf cfF) 0 d.size d) (hn:(d.toList.map (·.val)).Nodup):Srt (d.toList.map (·.val)):=by
 unfold Srt
 rw [List.pairwise_iff_getElem]
 intro i j hi hj hij
 rw [List.length_map,Array.length_toList] at hi hj
 have h1:=hs i j (Nat.zero_le _) hij hj
 rw [lt_key,getElem!_pos d j hj,getElem!_pos d i hi] at h1
 rw [List.getElem_map,List.getElem_map,Array.getElem_toList,Array.getElem_toList]
 refine key_total h1 fun e=> ?_
 have:=List.pairwise_iff_getElem.1 hn i j (by simpa using hi) (by simpa using hj) hij
 rw [List.getElem_map,List.getElem_map,Array.getElem_toList,Array.getElem_toList] at this
 exact this e.symm
end Go.PN
namespace Go.Proofs.YtefekdejgbceiaaGreat
open Go.AI Go.PN Go.Sort
attribute [local irreducible] aw Fa Fh DrK
theorem compare_fa (a b:Int):Fa Tryz.prog 142 [.c (.int .i64 a),.c (.int .i64 b)] (.c (.int .i64 (cmpC a b))):=by
 have hnan:∀x:Int,Fa Tryz.prog 174 [.c (.int .i64 x)] (.c (.bool false)):=fun x=>by
  refine fa_of_body Tryz.func174 rfl rfl (by simp [Tryz.ntmps174]) fun C hC=> ?_
  simp only [initS,Nat.reduceAdd]
  refine xGT hC ?_
  exact .one (.c (ler_bool (by simp)))
 unfold cmpC
 refine fa_of_body Tryz.func142 rfl rfl (by simp [Tryz.ntmps142]) fun C hC=> ?_
 simp only [initS,Nat.reduceAdd]
 refine xG ?_
 refine xC (hnan a) ?_
 refine xG ?_
 refine xC (hnan b) ?_
 refine xG ?_
 refine xN ?_
 refine xG ?_
 refine xN ?_
 refine xG ?_
 refine xF (fun h1=>?_) fun h1=>?_
 ·have h1':=of_decide_eq_true h1
  rw [if_pos h1']
  refine xGT hC ?_
  exact .one (.c (ler_int rfl))
 have h1':=of_decide_eq_false h1
 rw [if_neg h1']
 refine xG ?_
 refine xF (fun h2=>?_) fun h2=>?_
 ·have h2':=of_decide_eq_true h2
  rw [if_pos om]
  refine xGT hC ?_
  exact .one (.c (ler_int rfl))
 ·have h2':=of_decide_eq_false h2
  rw [if_neg om]
  refine xGT hC ?_
  exact .one (.c (ler_int rfl))
theorem or_fa (a b:Int):Fa Tryz.prog 141 [.c (is false [a,b])] (.c (.int .i64 (if a≠0 then a else b))):=by
 refine fa_of_body Tryz.func141 rfl rfl (by simp [Tryz.ntmps141]) fun C hC=> ?_
 simp only [initS,Nat.reduceAdd]
 refine xG ?_
 refine aw_lp (fun i:Nat=>[(3,.c (.int .i64 0)),(6,.c (is false [a,b])),(7,.c (.int .i64 2)),(8,.c (.int .i64 i))]) (fun _=>[]) (fun i=>i≤2∧(0<i→a=0)∧(1<i→b=0)) (fun i=>2-i) 0 eB zZ ⟨by omega,by omega,by omega⟩ ?_
 rintro i ⟨hi,ha,hb⟩
 refine xG ?_
 refine xF (fun h1=>?_) fun h1=>?_
 ·have h1':=of_decide_eq_true h1
  refine xG ?_
  refine xF (fun h2=>?_) fun h2=>?_
  ·have h2':¬[a,b].getD i 0=0:=by simpa using h2
   refine xGT hC ?_
   refine .one (.c (ler_int ?_))
   obtain rfl|rfl:i=0∨i=1:=by omega
   ·exact(if_pos h2').symm
   ·rw [if_neg (by simp [ha])];rfl
  ·have h2':[a,b].getD i 0=0:=by simpa using h2
   refine xG ?_
   refine aw_stop ⟨i+1,by omega,eB,zZ,by omega,fun _=> ?_,fun _=> ?_⟩
   ·obtain rfl|rfl:i=0∨i=1:=by omega
    ·exact h2'
    ·exact ha om
   ·obtain rfl:i=1:=by omega
    exact h2'
 ·have h1':=of_decide_eq_false h1
  obtain rfl:i=2:=by omega
  refine xGT hC ?_
  refine .one (.c (ler_int ?_))
  rw [if_neg (by simp [ha]),hb om]
theorem listCmp_fa (x y:Nat) (hx:x<16777216) (hy:y<16777216):Fa Tryz.prog 140 [.c (.int .i64 x),.c (.int .i64 y)] (.c (.int .i64 (cmpI x y))):=by
 have w1:wrapZ .u64 (x:Int)=(x:Int):=by rw [wrapZ_eq,IntKind.wrap_u64];omega
 have w2:wrapZ .u64 (y:Int)=(y:Int):=by rw [wrapZ_eq,IntKind.wrap_u64];omega
 unfold cmpI
 refine fa_of_body Tryz.func140 rfl rfl (by simp [Tryz.ntmps140]) fun C hC=> ?_
 simp only [initS,Nat.reduceAdd]
 have J1:=oj w1 w2
 refine yG J1 ?_
 refine yC J1 (ones_fa x hx) ?_
 refine yG J1 ?_
 refine yC J1 (ones_fa y hy) ?_
 refine yG J1 ?_
 refine yC J1 (compare_fa (popN x) (popN y)) ?_
 refine yG J1 ?_
 refine yC J1 (compare_fa x y) ?_
 refine yG J1 ?_
 refine aw_buildSlice (xs:=[.tmp 11,.tmp 14]) (cells:=[.int .i64 (cmpC (popN x) (popN y)),.int .i64 (cmpC x y)]) rfl rfl rfl (zE J1) (by refine yS J1 ?_;rfl) rfl om om (by intro z hz;simp only [List.mem_cons,List.not_mem_nil,or_false] at hz;rcases hz with rfl|rfl<;>exact⟨rfl,rfl,rfl⟩) rfl fun g hg=> ?_
 refine yS J1 ?_
 refine aw_callq (or_fa (cmpC (popN x) (popN y)) (cmpC x y)) rfl rfl rfl (by refine yS J1 ?_;exact .c (.osl (ty:=3) (m:=2) (f:=ofL [.int .i64 (cmpC (popN x) (popN y)),.int .i64 (cmpC x y)]) (by simp [Heap.get]) om (fun j hj=>by match j,hj with|0,_=>exact .refl _|1,_=>exact .refl _))) ?_
 refine ySGT hC J1 ?_
 exact .one (.c (ler_int rfl))
end Go.Proofs.YtefekdejgbceiaaGreat
namespace Go.Proofs.YtefekdejgbceiaaGreat
open Go.AI Go.PN Go.Sort
theorem cmpLays (blk off size:Nat) (w:World):Go.Proofs.CmpLays1 Tryz.prog 140 #[] encF cfF blk off size w:=by
 intro m os dk _ x y
 refine((listCmp_fa x.val y.val x.isLt y.isLt).2 (fun _ _=>False) _ [encF x,encF y] (fun _ h=>h) (fun _ _ h=>h.elim) ⟨rfl,rfl,trivial⟩).mono ?_
 rintro e w' ⟨v,rfl,hr,hfr⟩
 have hv:v=.int .i64 (cmpI x.val y.val):=hr
 refine⟨by rw [hv];rfl,?_⟩
 exact fr_grow hfr
theorem sw_heap {w:World} {g n:Nat} {cs:Array Value} {ty:TypeId} {fr:Nat×Nat} (hb:w.heap[g]?=some (.cells cs ty fr)) (m:Nat) (d:Array SetF) (os:Array Obj):
  (Go.Proofs.sortWorld encF w g 0 m d os).heap[g]?=some (.cells (putCells encF 0 d cs) ty fr)∧(∀b,b<w.heap.size→b≠g→(Go.Proofs.sortWorld encF w g 0 m d os).heap[b]?=w.heap[b]?)∧w.heap.size≤(Go.Proofs.sortWorld encF w g 0 m d os).heap.size:=by
 have hg:g<w.heap.size:=(Array.getElem?_eq_some_iff.1 hb).1
 have hsz:(putRow encF (Sort.ahead w m) g 0 d).heap.size=w.heap.size:=by simp [putRow,mapBlock,Sort.ahead]
 refine⟨?_,fun b hbs hne=> ?_,?_⟩
 ·unfold Go.Proofs.sortWorld
  rw [heap_grow_old _ _ (by rw [hsz];exact hg)]
  simp only [putRow,mapBlock,Sort.ahead,Array.getElem?_modify,if_true,hb,Option.map_some]
  rfl
 ·unfold Go.Proofs.sortWorld
  rw [heap_grow_old _ _ (by rw [hsz];exact hbs)]
  simp only [putRow,mapBlock,Sort.ahead,Array.getElem?_modify]
  rw [if_neg (fun e=>hne e.symm)]
 ·unfold Go.Proofs.sortWorld
  rw [size_grow,hsz]
  omega
theorem sort_fh (g:Nat) (zs:List Nat) (hm:∀x∈zs,x<16777216) (hn:zs.Nodup) (hl:zs.length≤1000000000):
  Fh Tryz.prog 139 [(g,.cells 3 zs.length (isF (zL zs)))] [.c (.osl g 1 0 zs.length),.c (.raw (.func (.func 140) #[] #[]))] (fun x h=>x=.tup []∧h=[(g,.cells 3 zs.length (isF (zL (sortN zs))))]):=by
 refine⟨⟨_,Tryz.func139,rfl,rfl⟩,fun C vs hC hnd ho hr=> ?_⟩
 match vs,hr with
 |[v1,v2],⟨h1,h2,_⟩=>
  obtain⟨c,rfl,hnc,hcm,_⟩:∃c,v1=.slice (some ⟨g,0,none⟩) zs.length c∧zs.length≤c∧c≤maxLen∧Has C.w0 g (0+c*1):=h1
  obtain rfl:v2=.func (.func 140) #[] #[]:=h2
  obtain⟨cs,hb,hcs,hj⟩:=ho g _ (List.mem_singleton.2 rfl)
  have hgl:g<C.w0.heap.size:=(Array.getElem?_eq_some_iff.1 hb).1
  have hget:∀j,j<zs.length→cs[j]?=some (.int .i64 (zs.getD j 0:Nat)):=fun j hjl=>by
   obtain⟨u,hu,hru⟩:=hj j hjl
   have:u=.int .i64 ((zL zs).getD j 0):=hru
   rw [hu,this,zL_get]
  let d:Array SetF:=(zs.map toF).toArray
  have hds:d.size=zs.length:=by simp [d]
  have hdj:∀j,j<zs.length→encF d[j]! =.int .i64 (zs.getD j 0:Nat):=fun j hjl=>by
   have hjd:j<d.size:=by rw [hds];exact hjl
   rw [getElem!_pos d j hjd]
   have:d[j]=toF zs[j]:=by simp [d]
   unfold encF
   rw [this,toF_val (hm _ (List.getElem_mem hjl)),List.getD_eq_getElem?_getD,List.getElem?_eq_getElem hjl]
   rfl
  have hH:Holds encF C.w0 g 0 d:=fun j hjl=>by
   rw [hds] at hjl
   refine⟨?_,?_⟩
   ·unfold World.cell?
    simp only [hb,Option.isSome_none,Bool.false_eq_true,if_false,Nat.zero_add]
    rw [hget j hjl,hdj j hjl]
   ·unfold World.frozen?
    simp only [hb]
    simp
  have eg:∀args w,(callFunc 140 args).run Tryz.prog w=.ok (.enter 140 args) w:=fun args w=>(listCmp_fa 0 0 (by decide) (by decide)).1.run args w
  have hsz:d.size<4611686018427387904:=by
   rw [hds]
   unfold maxLen at hcm
   omega
  have hcon:=Go.Proofs.Any.slices_SortFunc sortL encF (fun _=>rfl) cfF swoF 140 #[] g 0 c d C.w0 eg (cmpLays g 0 d.size C.w0) hH hgl hsz
  rw [hds] at hcon
  refine hcon.mono ?_
  rintro e w' ⟨rfl,d',n,os,hp,hs,rfl⟩
  obtain⟨hp1,_,hp3⟩:=hp
  have hd's:d'.size=zs.length:=by rw [hp1,hds]
  have hpl:d'.toList.Perm d.toList:=by
   rw [←hds] at hp3
   have e1:d'.extract 0 d.size=d':=by rw [←hp1];exact Array.extract_size
   have e2:d.extract 0 d.size=d:=Array.extract_size
   rw [e1,e2] at hp3
   exact hp3
  have hdm:d.toList.map (·.val)=zs:=by
   show((zs.map toF).toArray.toList).map (·.val)=zs
   rw [List.toList_toArray,List.map_map]
   conv=>rhs;rw [←List.map_id zs]
   exact List.map_congr_left fun x hx=>toF_val (hm x hx)
  have hperm:(d'.toList.map (·.val)).Perm zs:=by rw [←hdm];exact hpl.map _
  have hsrt:Srt (d'.toList.map (·.val)):=srt_of (by rw [hp1];rw [hds];exact hs) (hperm.nodup_iff.2 hn)
  have hys:d'.toList.map (·.val)=sortN zs:=srt_ext hsrt (sort_srt zs) fun x=>by rw [sort_mem];exact hperm.mem_iff
  obtain⟨q1,q2,q3⟩:=sw_heap (n:=0) hb n d' os
  have hlen:(putCells encF 0 d' cs).size=cs.size:=by simp [putCells]
  refine⟨.tuple #[],.tup [],[(g,.cells 3 zs.length (isF (zL (sortN zs))))],rfl,⟨rfl,rfl⟩,by simp [Heap.keys],fun g' hg'=> ?_,⟨[],rfl,trivial⟩,fun g' o' hm'=> ?_,?_⟩
  ·simp only [Heap.keys,List.map_cons,List.map_nil,List.mem_singleton] at hg'
   subst hg'
   exact .inl ((hC _).2 (by simp [Heap.keys]))
  ·rw [List.mem_singleton] at hm'
   injection hm' with e1 e2
   subst e1 e2
   refine⟨putCells encF 0 d' cs,q1,by rw [hlen];exact hcs,fun j hjl=>⟨.int .i64 ((sortN zs).getD j 0:Nat),?_,?_⟩⟩
   ·have hjc:j<cs.size:=Nat.lt_of_lt_of_le hjl hcs
    unfold putCells
    rw [Array.getElem?_mapIdx,Array.getElem?_eq_getElem hjc,Option.map_some,if_pos ⟨Nat.zero_le _,by omega⟩,Nat.sub_zero,getElem!_pos d' j om]
    unfold encF
    rw [←hys,List.getD_eq_getElem?_getD,List.getElem?_map,List.getElem?_eq_getElem (by simpa using (by omega:j<d'.size))]
    simp
   ·show _=_
    rw [zL_get]
  ·refine⟨rfl,rfl,rfl,q3,?_,fun b hbs hno=>q2 b hbs (fun e=>hno ((hC b).2 (by simp [Heap.keys,e]))),fun g' m' hh=> ?_⟩
   ·show C.w0.drawn≤C.w0.drawn+n
    omega
   ·by_cases e:g'=g
    ·subst e
     obtain⟨cs',ty',⟨fr,hc'⟩,hs'⟩:=hh
     rw [hb] at hc'
     injection hc' with hc'
     injection hc' with e1 e2 e3
     subst e1
     exact⟨_,_,⟨_,q1⟩,by rw [hlen];exact hs'⟩
    ·have hl:=hh.lt
     obtain⟨cs',ty',⟨fr,hc'⟩,hs'⟩:=hh
     exact⟨cs',ty',⟨fr,(q2 g' hl e).trans hc'⟩,hs'⟩
end Go.Proofs.YtefekdejgbceiaaGreat
namespace Go.Proofs.YtefekdejgbceiaaGreat
open Go.AI Go.PN
attribute [local irreducible] aw Fa Fh DrK
theorem len64z_fa:Fa Tryz.prog 195 [.c (.int .u64 0)] (.c (.int .i64 0)):=by
 refine fa_of_body Tryz.func195 rfl rfl (by simp [Tryz.ntmps195]) fun C hC=> ?_
 simp only [initS,Nat.reduceAdd]
 refine xG ?_
 refine xN ?_
 refine xG ?_
 refine xN ?_
 refine xG ?_
 refine xN ?_
 refine xG ?_
 have w0:wrapZ .u8 (0:Int)=((0:Nat):Int):=by rw [wrapZ_eq];rfl
 refine yS w0 ?_
 refine aw_idx (i:=0) rfl rfl rfl ty_str rfl (zE w0) (by decide+kernel) om ?_
 refine ySGT hC w0 ?_
 exact .one (.c (ler_int rfl))
theorem lenz_fa:Fa Tryz.prog 173 [.c (.int .u64 0)] (.c (.int .i64 0)):=by
 refine fa_of_body Tryz.func173 rfl rfl (by simp [Tryz.ntmps173]) fun C hC=> ?_
 simp only [initS,Nat.reduceAdd]
 refine xG ?_
 refine aw_condF0 ?_
 refine xG ?_
 refine xC (len64z_fa) ?_
 refine xGT hC ?_
 exact .one (.c (ler_int rfl))
theorem insz_fh:Fh Tryz.prog 187 [] [.c .nils,.c (.int .i64 0),.c (.int .i64 0),.c (.raw (.func (.func 140) #[] #[]))] (fun x h=>x=.tup []∧h=[]):=by
 refine fh_of_body Tryz.func187 rfl rfl (by simp [Tryz.ntmps187]) fun C hC=> ?_
 simp only [initS,Nat.reduceAdd]
 refine xG ?_
 refine aw_lp (fun _:Unit=>[(8,.c (.int .i64 1)),(2,.c (.int .i64 0))]) (fun _=>[]) (fun _=>(0:Nat)=0) (fun _=>0) () eB zZ rfl ?_
 rintro _ _
 refine xG ?_
 refine xN ?_
 refine xG ?_
 refine xV ?_
 exact⟨rfl,rfl⟩
theorem pdqz_fh:Fh Tryz.prog 172 [] [.c .nils,.c (.int .i64 0),.c (.int .i64 0),.c (.int .i64 0),.c (.raw (.func (.func 140) #[] #[]))] (fun x h=>x=.tup []∧h=[]):=by
 refine fh_of_body Tryz.func172 rfl rfl (by simp [Tryz.ntmps172]) fun C hC=> ?_
 simp only [initS,Nat.reduceAdd]
 refine xG ?_
 refine aw_lp (fun _:Unit=>[(0,.c .nils),(1,.c (.int .i64 0)),(2,.c (.int .i64 0)),(4,.c (.raw (.func (.func 140) #[] #[])))]) (fun _=>[]) (fun _=>(0:Nat)=0) (fun _=>0) () eB zZ rfl ?_
 rintro _ _
 refine xG ?_
 refine xP ?_
 refine xG ?_
 refine aw_callh (hc:=[]) (hr:=[]) insz_fh rfl rfl rfl (.refl _) eL ?_
 rintro _ _ ⟨rfl,rfl⟩ _
 refine xSGU ?_
 exact⟨rfl,rfl⟩
theorem sortz_fh:Fh Tryz.prog 139 [] [.c .nils,.c (.raw (.func (.func 140) #[] #[]))] (fun x h=>x=.tup []∧h=[]):=by
 have w0:wrapZ .u64 ((0:Nat):Int)=0:=by rw [wrapZ_eq];rfl
 refine fh_of_body Tryz.func139 rfl rfl (by simp [Tryz.ntmps139]) fun C hC=> ?_
 simp only [initS,Nat.reduceAdd]
 refine yG w0 ?_
 refine yC w0 (lenz_fa) ?_
 refine yG w0 ?_
 refine aw_callh (hc:=[]) (hr:=[]) pdqz_fh rfl rfl rfl (.refl _) (zL w0) ?_
 rintro _ _ ⟨rfl,rfl⟩ _
 refine ySG w0 ?_
 refine yV w0 ?_
 exact⟨rfl,rfl⟩
abbrev LiH (g7:Nat) (x:Option Nat×List Nat):Heap:=(g7,.cells 28 1 (ofL [gs x.1 1 x.2.length]))::gh x.1 3 x.2.length (isF (zL x.2))
theorem list1_fh (g7:Nat) (x:Option Nat×List Nat) (s:Nat) (hx:x.1=none→x.2.length=0) (hl:x.2.length≤1000000000):
  Fh Tryz.prog 138 (LiH g7 x) [.c (.int .i64 s),.c (.optr g7 0)] (fun r h=>∃y:Option Nat×List Nat,y.2=x.2++[s]∧(y.1=none→y.2.length=0)∧r=.tup []∧h=LiH g7 y):=by
 obtain⟨og,l⟩:=x
 dsimp only at hx hl⊢
 have hp:∀j,j<(l.length+1)*1→appF (isF (zL l)) (l.length*1) (ofL [.int .i64 (s:Int)]) j=isF (zL (l++[s])) j:=by
  have:=is_push (zL_len l) (s:Int)
  rw [zL_push] at this
  exact this
 refine fh_of_body Tryz.func138 rfl rfl (by simp [Tryz.ntmps138]) fun C hC=> ?_
 simp only [initS,Nat.reduceAdd]
 refine aw_nd fun hnd=> ?_
 refine xG ?_
 refine aw_push (pre:=[(g7,.cells 28 1 (ofL [gs og 1 l.length]))]) rfl rfl rfl rfl rfl rfl rfl eE eE (by rfl) om om eE om (by exact hx) eE (by rfl) (by rfl) (by first|rfl|simp only [Nat.mul_one,List.nil_append,List.cons_append]<;>rfl) (by unfold maxLen;omega) om (by exact hp) fun g hn_g=> ?_
 replace hn_g:=Heap.ne_of hn_g
 first|dsimp only [Heap.ne,gh] at hn_g|dsimp only [Heap.ne] at hn_g|skip
 refine ySGWSG hn_g ?_
 refine aw_keep [] (LiH g7 (some g,l++[s])) (zB hn_g) (by
  unfold LiH
  simp only [List.length_append,List.length_cons,List.length_nil,Nat.zero_add,Nat.mul_one,gs,gh]
  exact List.Sublist.refl _) ?_
 refine yV hn_g ?_
 exact⟨(some g,l++[s]),rfl,some_ne,rfl,rfl⟩
theorem sort_nodup (l:List Nat):(sortN l).Nodup:=(sort_srt l).imp fun h e=>by
 subst e
 rw [key_irr] at h
 cases h
theorem sort_perm {l:List Nat} (h:l.Nodup):(sortN l).Perm l:=(List.perm_ext_iff_of_nodup (sort_nodup l) h).2 fun _=>sort_mem
theorem sort_len {l:List Nat} (h:l.Nodup):(sortN l).length=l.length:=(sort_perm h).length_eq
theorem RS_snoc {g7:Nat}:∀{l:List Nat} {x y:Option Nat×List Nat},RS (fun(a:Option Nat×List Nat) (s:Nat) (b:Option Nat×List Nat)=>b.2=a.2++[s]) x l y→y.2=x.2++l
 |[],x,y,h=>by
  have h:x=y:=h
  rw [h,List.append_nil]
 |s::l,x,y,⟨z,h1,h2⟩=>by
  rw [RS_snoc (g7:=g7) h2,h1,List.append_assoc]
  rfl
theorem zlist_fh {n:Nat} {F:Nat→Bool} (z:ZD) (hz:ZOut n F z) (h24:n≤24) (hn:z.nodes.length≤4096) (hc:cntZ z.nodes z.root≤1024):
  Fh Tryz.prog 106 [] [.agg (zdc false z)] (fun x h=>x=.tup [.c (is true (zL (sortN (setsZ z.nodes z.root 0)))),.c .nilI]∧h=[]):=by
 have hf:((cntZ z.nodes z.root>1024)=False):=eq_false om
 have hd:decide (cntZ z.nodes z.root>1024)=false:=decide_eq_false om
 have hlen:(setsZ z.nodes z.root 0).length≤1024:=by unfold cntZ at hc;omega
 have hb0:∀j:Nat,evZ n z.nodes z.root≤j→(0:Nat).testBit j=false:=fun j _=>Nat.zero_testBit j
 have hnd:=sets_nodup hz.tab z.root hz.ref 0 hb0
 have hm:∀s∈setsZ z.nodes z.root 0,s<16777216:=fun s hs=>by
  obtain⟨t,ht,rfl⟩:=(sets_mem hz.tab z.root hz.ref 0 hb0 s).1 hs
  rw [Nat.zero_or]
  have:=mem_bits hz.tab z.root hz.ref t ht
  have h1:t<2^n:=Nat.lt_pow_two_of_testBit _ fun j hj=>by
   cases hb:t.testBit j with
   |false=>rfl
   |true=>have:=(this j hb).2;omega
  exact Nat.lt_of_lt_of_le h1 (Nat.pow_le_pow_right om h24)
 refine fh_of_body Tryz.func106 rfl rfl (by simp [Tryz.ntmps106]) fun C hC=> ?_
 simp only [initS,Nat.reduceAdd]
 refine xG ?_
 refine xB fun g1 hn_g1=>?_
 refine yG hn_g1 ?_
 refine aw_buildSlice (xs:=[.tmp 9]) (cells:=zdc false z) rfl rfl rfl (zE hn_g1) (by refine yS hn_g1 ?_;rfl) rfl om om (by intro x hx;simp only [List.mem_singleton] at hx;subst hx;exact⟨rfl,rfl,rfl⟩) rfl fun g9 hn_g9=> ?_
 replace hn_g9:=Heap.ne_of hn_g9
 dsimp only [Heap.ne] at hn_g9
 have J1:=oj hn_g1 hn_g9
 refine yS J1 ?_
 refine aw_frzT (t:=10) (zdsF [z]) (zE J1) (zE J1) om (fun h=>by have:=(hC g9).1 h;simp [Heap.keys] at this) (fun q hq=>by match q,hq with|0,_=>rfl|1,_=>rfl) rfl (zE J1) ?_
 refine ySG J1 ?_
 refine aw_callh (hc:=[]) (hr:=[(g1,.cells 148 2 (ofL (zdc false z)))]) (zopen_fh z hz h24 hn) rfl rfl rfl (.refl _) (zL J1) ?_
 rintro _ _ ⟨gT,gU,gM,og,hog,rfl,rfl⟩ _
 have hs:ZS n og z.nodes []:=⟨hog,hz.tab,fun e he=>absurd he List.not_mem_nil⟩
 refine ySGNG J1 ?_
 refine aw_callh (hc:=ZHp gT gU gM og z.nodes []) (hr:=[(g1,.cells 148 2 (ofL (zdc false z)))]) (zcount_ok n gT gU gM h24 (z.root.toNat+1) og z.nodes [] z.root hs om hz.ref om) rfl rfl rfl (.refl _) (zL J1) ?_
 rintro _ _ ⟨mm,hzp,rfl,rfl⟩ _
 have hs1:=hzp.zs
 refine yS J1 ?_
 have J2:=oj hn_g1 (oj hn_g9 hd)
 refine yGNG J2 ?_
 refine aw_perm (List.perm_append_comm (l₂:=[(g1,AObj.cells 148 2 (ofL (zdc false z)))])) ?_
 simp only [List.cons_append,List.nil_append]
 refine yA J2 fun g7 hn_g7=>?_
 have J3:=oj hn_g1 (oj hn_g9 (oj hd hn_g7))
 refine yG J3 ?_
 refine aw_makeFunc (gs:=[g7]) rfl rfl rfl (zE J3) ?_
 refine ySG J3 ?_
 refine aw_callh (hc:=ZHp gT gU gM og z.nodes mm++LiH g7 (none,[])) (hr:=[(g1,.cells 148 2 (ofL (zdc false z)))]) (zeach_fh (LiH g7) (fun x m=>(x.1=none→x.2.length=0)∧x.2.length+m≤1024) (fun a s b=>b.2=a.2++[s]) 138 [g7] gT gU gM h24 hs1 om (fun x s m hx hs2=>(list1_fh g7 x s hx.1 om).mono fun r h ⟨y,h1,h2,h3,h4⟩=>⟨y,h1,⟨h2,by rw [h1,List.length_append,List.length_singleton];omega⟩,h3,h4⟩) hz.ref (none,[]) (m:=0) ⟨fun _=>rfl,by simp only [List.length_nil];omega⟩) rfl rfl rfl (by rw [List.append_assoc];exact List.perm_append_comm (l₁:=[(g7,_),(g1,_)])) (zL J3) ?_
 rintro _ _ ⟨⟨og7,l7⟩,hrs,hf7,rfl,rfl⟩ _
 have hl7:l7=setsZ z.nodes z.root 0:=by have:=RS_snoc (g7:=g7) hrs;simpa using this
 subst hl7
 generalize setsZ z.nodes z.root 0=l7 at*
 have hsl:=sort_len hnd
 refine aw_keep [(7,.c (.optr g7 0))] (LiH g7 (og7,l7)) (zB J3) ((List.sublist_append_right _ _).trans (List.sublist_append_left _ _)) ?_
 cases og7 with
 |none=>
  obtain rfl:l7=[]:=List.length_eq_zero_iff.1 (hf7.1 rfl)
  simp only [LiH,gs,gh,List.length_nil]
  refine ySG J3 ?_
  refine aw_callh (hc:=[]) (hr:=[(g7,.cells 28 1 (ofL [.nils]))]) sortz_fh rfl rfl rfl (.refl _) (zL J3) ?_
  rintro _ _ ⟨rfl,rfl⟩ _
  refine ySG J3 ?_
  refine aw_keep [(2,.c .nils),(3,.c .nilI)] [] (zB J3) (List.nil_sublist _) ?_
  refine aw_conv (t:=2) (v:=.c (is true [])) (fun S w u hr=>repC_nil hr) rfl ?_
  refine yS J3 ?_
  refine yU J3 ?_
  exact⟨rfl,rfl⟩
 |some g=>
  simp only [LiH,gs,gh]
  refine aw_nd fun hnk=> ?_
  have hng:((g7=g)=False∧(g=g7)=False):=by
   have h2:g7∉[g]:=(List.nodup_cons.1 hnk).1
   exact⟨eq_false fun e=>h2 (by rw [e];simp),eq_false fun e=>h2 (by rw [e];simp)⟩
  have J4:=oj hn_g1 (oj hn_g9 (oj hd (oj hn_g7 hng)))
  refine ySG J4 ?_
  refine aw_callh (hc:=[(g,.cells 3 l7.length (isF (zL l7)))]) (hr:=[(g7,.cells 28 1 (ofL [.osl g 1 0 l7.length]))]) (sort_fh g l7 hm hnd om) rfl rfl rfl (List.perm_append_comm (l₁:=[(g7,_)])) (zL J4) ?_
  rintro _ _ ⟨rfl,rfl⟩ _
  refine ySG J4 ?_
  refine aw_keep [(2,.c (.osl g 1 0 l7.length)),(3,.c .nilI)] [(g,.cells 3 l7.length (isF (zL (sortN l7))))] (zB J4) (List.sublist_append_left _ _) ?_
  refine aw_frzT (t:=2) (isF (zL (sortN l7))) (zE J4) (zE J4) om (fun h=>by have:=(hC g).1 h;simp [Heap.keys] at this) (fun q hq=>by rw [Nat.zero_add]) rfl (zE J4) ?_
  refine yS J4 ?_
  refine yU J4 ?_
  refine⟨?_,rfl⟩
  show AV.tup [.c (.row true 1 l7.length _),_]=AV.tup [.c (.row true 1 (zL (sortN l7)).length _),_]
  rw [zL_len,hsl]
end Go.Proofs.YtefekdejgbceiaaGreat
namespace Go.PN
open Go.AI
structure ToOk (f:FM) (tl:List Int) (k:Nat):Prop where
 len:tl.length=f.vars.toNat+f.nodes.length
 at':∀a:Int,0≤a→a<f.vars+k→(belL f).getD a.toNat false=true→tl.getD a.toNat 0=toR f a
end Go.PN
namespace Go.Proofs.YtefekdejgbceiaaGreat
open Go.AI Go.PN
theorem toOk_set {f:FM} (v0:0≤f.vars) {tl:List Int} {k:Nat} (hk:k<f.nodes.length) (h:ToOk f tl k):ToOk f (tl.set (f.vars.toNat+k) (f.vars+szTo f k)) (k+1):=by
 have hl:=h.len
 refine⟨by rw [List.length_set];exact hl,fun a a0 a1 hm=> ?_⟩
 by_cases e:a=f.vars+k
 ·subst e
  rw [show(f.vars+(k:Int)).toNat=f.vars.toNat+k from by omega,getZset om]
  unfold toR
  rw [if_neg om,show(f.vars+(k:Int)-f.vars).toNat=k from by omega]
 ·rw [getZset' om]
  exact h.at' a a0 om hm
theorem toOk_skip {f:FM} (v0:0≤f.vars) {tl:List Int} {k:Nat} (h:ToOk f tl k) (hm:(belL f).getD (f.vars.toNat+k) false=false):ToOk f tl (k+1):=by
 refine⟨h.len,fun a a0 a1 ha=> ?_⟩
 by_cases e:a=f.vars+k
 ·subst e
  rw [show(f.vars+(k:Int)).toNat=f.vars.toNat+k from by omega,hm] at ha
  cases ha
 ·exact h.at' a a0 om ha
attribute [local irreducible] aw Fa Fh DrK
theorem ftrim_fh (f:FM) (hn:f.nodes.length≤1099511627776) (ha:ArgsOk f) (hc:fcode f=0):Fh Tryz.prog 29 [] [.agg (fmc false f)] (fun x h=>h=[]∧x=.tup [.agg (fmc true (trimF f)),.c .nilI]):=by
 have ok:=fr_ok hc
 have v0:=ok.v0
 have v24:=ok.v24
 have n128:=ok.n128
 have t0:=ok.t0
 have t1:=ok.t1
 have z:=ieq_t hc
 have hbl:(belL f).length=f.vars.toNat+f.nodes.length:=belTo_len f f.nodes.length
 have htop:=bel_top ok f.nodes.length
 refine fh_of_body Tryz.func29 rfl rfl (by simp [Tryz.ntmps29]) fun C hC=> ?_
 simp only [initS,Nat.reduceAdd]
 refine yG z ?_
 refine yB z fun g1 hn_g1=>?_
 refine yG (oj z hn_g1) ?_
 refine yA (oj z hn_g1) fun g2 hn_g2=>?_
 have J1:=oj z (oj hn_g1 hn_g2)
 refine yG J1 ?_
 refine aw_callq (fcheck_fa f hn ha om om) rfl rfl rfl (zL J1) ?_
 refine ySGNG J1 ?_
 refine yA J1 fun g5 hn_g5=>?_
 have J2:=oj z (oj hn_g1 (oj hn_g2 hn_g5))
 refine yGWSG J2 ?_
 refine aw_make (n:=f.vars.toNat+f.nodes.length) (c:=f.vars.toNat+f.nodes.length) (size:=1) (bytes:=8) (z:=[.int .i64 0]) rfl rfl rfl (zE J2) (zE J2) rfl om (zE J2) (zE J2) om om om om om fun g6 hn_g6=> ?_
 simp only [Nat.mul_one]
 rw [make_is]
 replace hn_g6:=Heap.ne_of hn_g6
 dsimp only [Heap.ne] at hn_g6
 have J3:=oj z (oj hn_g1 (oj hn_g2 (oj hn_g5 hn_g6)))
 refine ySG J3 ?_
 obtain⟨V,hV⟩:∃V:Nat,f.vars=V:=⟨f.vars.toNat,by omega⟩
 have hVt:f.vars.toNat=V:=by omega
 refine aw_lp (fun x:Nat×List Int=>[(1,.c (.optr g1 0)),(2,.c (.optr g2 0)),(5,.c (.optr g5 0)),(6,.c (.osl g6 1 0 (f.vars.toNat+f.nodes.length))),(31,.c (.int .i64 f.vars)),(32,.c (.int .i64 x.1))]) (fun x=>[(g6,.cells 3 (f.vars.toNat+f.nodes.length) (isF x.2)),(g5,.cells 24 3 (ofL [.int .i64 f.vars,.nils,.int .i64 0])),(g2,.cells 24 3 (ofL [.int .i64 0,.nils,.int .i64 0])),(g1,.cells 24 3 (ofL (fmc false f)))]) (fun x=>x.1≤V∧x.2.length=f.vars.toNat+f.nodes.length∧∀q:Nat,q<x.1→x.2.getD q 0=q) (fun x=>V-x.1) (0,List.replicate (f.vars.toNat+f.nodes.length) 0) (zB J3) zZ ⟨Nat.zero_le _,by simp,fun q hq=>by omega⟩ ?_
 rintro ⟨i,zs⟩ ⟨hi,hzl,hz⟩
 dsimp only at hi hzl hz⊢
 refine yG J3 ?_
 refine yF J3 (fun hb1=>?_) fun hb1=>?_
 ·have hin:i<V:=dT hb1
  refine yGWS J3 ?_
  rw [updF_is om]
  refine yG J3 ?_
  refine aw_stop ⟨(i+1,zs.set i i),by dsimp only;omega,(zB J3),zZ,by dsimp only;omega,by simpa using hzl,fun k hk=> ?_⟩
  dsimp only at hk⊢
  by_cases hki:k=i
  ·subst hki;exact getZset om
  ·rw [getZset' hki];exact hz k om
 have hin:i=V:=dF hb1
 subst hin
 have to0:ToOk f zs 0:=⟨hzl,fun a a0 a1 _=>by
  have:=hz a.toNat om
  rw [this]
  unfold toR
  rw [if_pos om];omega⟩
 clear hz hb1 J3
 have J4:=oj z (oj hn_g1 (oj hn_g2 (oj hn_g5 hn_g6)))
 refine yG J4 ?_
 refine aw_dr 7 ty_mixed (by kernel_rfl) ?_
 refine yG J4 ?_
 refine yD J4 (below_fa f ok) ?_
 refine yG J4 ?_
 rw [show(belL f).length-f.vars.toNat=f.nodes.length from by omega]
 refine aw_lp (fun x:Nat×Option Nat×List Int=>[(1,.c (.optr g1 0)),(2,.c (.optr g2 0)),(5,.c (.optr g5 0)),(6,.c (.osl g6 1 0 (f.vars.toNat+f.nodes.length))),(44,.c (.row true 1 f.nodes.length fun j=>.bool ((belL f).getD (f.vars.toNat+j) false))),(45,.c (.int .i64 f.nodes.length)),(46,.c (.int .i64 x.1))])
  (fun x=>[(g6,.cells 3 (f.vars.toNat+f.nodes.length) (isF x.2.2)),(g5,.cells 24 3 (ofL [.int .i64 f.vars,gs x.2.1 3 (szTo f x.1),.int .i64 0])),(g2,.cells 24 3 (ofL [.int .i64 0,.nils,.int .i64 0])),(g1,.cells 24 3 (ofL (fmc false f)))]++gh x.2.1 68 (szTo f x.1*3) (fnsF (trTo f x.1)))
  (fun x=>x.1≤f.nodes.length∧(x.2.1=none→szTo f x.1=0)∧ToOk f x.2.2 x.1) (fun x=>f.nodes.length-x.1) (0,none,zs) (zB J4) (by simp only [gh,List.append_nil];exact List.Sublist.refl _) ⟨Nat.zero_le _,fun _=>rfl,to0⟩ ?_
 clear hzl to0 J4
 rintro ⟨k,oN,tl⟩ ⟨hk,hoN,hto⟩
 dsimp only at hk hoN hto⊢
 have htl:=hto.len
 have hsz:=szTo_le f k
 simp only [List.cons_append,List.nil_append]
 have J5:=oj z (oj hn_g1 (oj hn_g2 (oj hn_g5 hn_g6)))
 refine yG J5 ?_
 refine yF J5 (fun h1=>?_) fun h1=>?_
 ·have h1':k<f.nodes.length:=dT h1
  have hln:=ok.len h1'
  have hs1:szTo f (k+1)=szTo f k+if(belL f).getD (f.vars.toNat+k) false then 1 else 0:=rfl
  have hr1:trTo f (k+1)=if(belL f).getD (f.vars.toNat+k) false then trTo f k++[⟨(f.nodes.getD k fn0).kind,(f.nodes.getD k fn0).k,(f.nodes.getD k fn0).args.map (toR f)⟩] else trTo f k:=rfl
  refine yG J5 ?_
  refine yF J5 (fun hm=>?_) fun hm=>?_
  ·have hm':(belL f).getD (f.vars.toNat+k) false=false:=by simpa using hm
   rw [if_neg (by rw [hm'];simp)] at hs1 hr1
   refine yG J5 ?_
   refine aw_stop ⟨(k+1,oN,tl),by dsimp only;omega,(zB J5),?_,by dsimp only;omega,by dsimp only;rw [hs1];exact hoN,toOk_skip v0 hto hm'⟩
   dsimp only
   rw [hs1,hr1]
   exact List.Sublist.refl _
  have hm':(belL f).getD (f.vars.toNat+k) false=true:=by simpa using hm
  rw [if_pos hm'] at hs1 hr1
  have hargs:∀j,j<(f.nodes.getD k fn0).args.length→0≤(f.nodes.getD k fn0).args.getD j 0∧(f.nodes.getD k fn0).args.getD j 0<f.vars+k∧tl.getD ((f.nodes.getD k fn0).args.getD j 0).toNat 0=toR f ((f.nodes.getD k fn0).args.getD j 0):=fun j hj=>by
   obtain⟨a0,a1⟩:=ok.at h1' hj
   refine⟨a0,a1,hto.at' _ a0 a1 (bel_arg ok h1' hm' ?_)⟩
   rw [getDZ hj];exact List.getElem_mem hj
  refine yG J5 ?_
  generalize hx:f.nodes.getD k fn0=x at*
  refine yA (oj z (oj hn_g1 (oj hn_g2 (oj hn_g5 (oj hn_g6 hx))))) fun g10 hn_g10=>?_
  have J6:=oj z (oj hn_g1 (oj hn_g2 (oj hn_g5 (oj hn_g6 (oj hx hn_g10)))))
  refine yGWSG J6 ?_
  refine yA J6 fun g11 hn_g11=>?_
  have J7:=oj z (oj hn_g1 (oj hn_g2 (oj hn_g5 (oj hn_g6 (oj hx (oj hn_g10 hn_g11))))))
  refine yGWSG J7 ?_
  refine aw_lp (fun y:Nat×Option Nat=>[(1,.c (.optr g1 0)),(2,.c (.optr g2 0)),(5,.c (.optr g5 0)),(6,.c (.osl g6 1 0 (f.vars.toNat+f.nodes.length))),(44,.c (.row true 1 f.nodes.length fun j=>.bool ((belL f).getD (f.vars.toNat+j) false))),(45,.c (.int .i64 f.nodes.length)),(46,.c (.int .i64 k)),(8,.c (.int .i64 k)),(11,.c (.optr g11 0)),(64,.c (is true x.args)),(65,.c (.int .i64 x.args.length)),(66,.c (.int .i64 y.1))])
   (fun y=>((g11,.cells 68 3 (ofL [.int .i64 x.kind,.int .i64 x.k,gs y.2 1 y.1]))::(g6,.cells 3 (f.vars.toNat+f.nodes.length) (isF tl))::(g5,.cells 24 3 (ofL [.int .i64 f.vars,gs oN 3 (szTo f k),.int .i64 0]))::(g2,.cells 24 3 (ofL [.int .i64 0,.nils,.int .i64 0]))::(g1,.cells 24 3 (ofL (fmc false f)))::gh oN 68 (szTo f k*3) (fnsF (trTo f k)))++gh y.2 3 y.1 (isF ((x.args.take y.1).map (toR f))))
   (fun y=>y.1≤x.args.length∧(y.2=none→y.1=0)) (fun y=>x.args.length-y.1) (0,none) (zB J7) (by
    simp only [gh,gs,List.append_nil]
    exact List.Sublist.cons_cons _ (List.Sublist.cons _ (List.Sublist.refl _))) ⟨Nat.zero_le _,fun _=>rfl⟩ ?_
  rintro ⟨j,oa⟩ ⟨hj,hoa⟩
  dsimp only at hj hoa⊢
  simp only [List.cons_append]
  refine yG J7 ?_
  refine yF J7 (fun h2=>?_) fun h2=>?_
  ·have h2':j<x.args.length:=dT h2
   obtain⟨a0,a1,a2⟩:=hargs j h2'
   obtain⟨i2,hi2⟩:=Int.eq_ofNat_of_zero_le a0
   rw [hi2] at a1
   have a2':=a2
   rw [hi2,Int.toNat_natCast] at a2'
   have htk:x.args.take (j+1)=x.args.take j++[x.args.getD j 0]:=by rw [getDZ h2',List.take_succ_eq_append_getElem h2']
   have hlk:((x.args.take j).map (toR f)).length=j:=by rw [List.length_map,List.length_take];omega
   refine yG (oj z (oj hn_g1 (oj hn_g2 (oj hn_g5 (oj hn_g6 (oj hx (oj hn_g10 (oj hn_g11 hi2)))))))) ?_
   refine aw_drB 7 ty_mixed (by kernel_rfl) ?_
   repeat first|(refine drb_2q true rfl (fun R hR=> ?_);simp only [go_sem,z,hn_g1,hn_g2,hn_g5,hn_g6,hx,hn_g10,hn_g11,hi2];(with_reducible refine hR _ _ ?_ ?_);(focus (((try simp only [inRange])<;>and_intros<;>first|exact True.intro|omega|trivial);done));clear hR R)|fail
   refine drb_new rfl (NewX.buildSlice (xs:=[.tmp 75]) (cells:=[.int .i64 (tl.getD i2 0)]) rfl rfl rfl (zE (oj z (oj hn_g1 (oj hn_g2 (oj hn_g5 (oj hn_g6 (oj hx (oj hn_g10 (oj hn_g11 hi2))))))))) (by refine yS (oj z (oj hn_g1 (oj hn_g2 (oj hn_g5 (oj hn_g6 (oj hx (oj hn_g10 (oj hn_g11 hi2)))))))) ?_;rfl) rfl om om (by intro x hx;simp only [List.mem_singleton] at hx;subst hx;exact⟨rfl,rfl,rfl⟩) rfl (by simp [Op.operands])) (by kernel_rfl) ?_
   have J8:=oj z (oj hn_g1 (oj hn_g2 (oj hn_g5 (oj hn_g6 (oj hx (oj hn_g10 (oj hn_g11 hi2)))))))
   refine yS J8 ?_
   refine drb_nil fun γ=> ?_
   refine yS J8 ?_
   rw [a2']
   generalize γ 6=gt
   refine aw_push2 (e:=3) (size:=1) (bytes:=8) (n:=j) (z:=[.int .i64 0]) (og:=oa) (f:=isF ((x.args.take j).map (toR f))) (pre:=(g11,.cells 68 3 (ofL [.int .i64 x.kind,.int .i64 x.k,gs oa 1 j]))::(g6,.cells 3 (f.vars.toNat+f.nodes.length) (isF tl))::(g5,.cells 24 3 (ofL [.int .i64 f.vars,gs oN 3 (szTo f k),.int .i64 0]))::(g2,.cells 24 3 (ofL [.int .i64 0,.nils,.int .i64 0]))::(g1,.cells 24 3 (ofL (fmc false f)))::gh oN 68 (szTo f k*3) (fnsF (trTo f k))) (f':=isF ((x.args.take (j+1)).map (toR f))) (v:=.c (.int .i64 (toR f i2))) rfl rfl rfl (zE J8) (zE J8) rfl om om (zE J8) (zE J8) hoa (by rfl) (by rfl) (by simp only [Nat.mul_one,List.cons_append];rfl) (by unfold maxLen;omega) om (by rw [htk,List.map_append,hi2];exact is_push hlk _) fun g hn_g=> ?_
   have J9:=oj z (oj hn_g1 (oj hn_g2 (oj hn_g5 (oj hn_g6 (oj hx (oj hn_g10 (oj hn_g11 hi2)))))))
   refine yS J9 ?_
   try simp only [List.cons_append,Nat.mul_one]
   refine yH J9 ?_
   refine yW J9 ?_
   refine ySG J9 ?_
   refine aw_stop ⟨(j+1,some g),by dsimp only;omega,(zB J9),?_,by dsimp only;omega,fun e=>by cases e⟩
   exact List.Sublist.refl _
  ·have h2':j=x.args.length:=dF h2
   subst h2'
   rw [List.take_length]
   refine aw_perm (h':=(g11,.cells 68 3 (ofL [.int .i64 x.kind,.int .i64 x.k,gs oa 1 x.args.length]))::(gh oa 3 (x.args.length*1) (isF (x.args.map (toR f)))++((g6,.cells 3 (f.vars.toNat+f.nodes.length) (isF tl))::(g5,.cells 24 3 (ofL [.int .i64 f.vars,gs oN 3 (szTo f k),.int .i64 0]))::(g2,.cells 24 3 (ofL [.int .i64 0,.nils,.int .i64 0]))::(g1,.cells 24 3 (ofL (fmc false f)))::gh oN 68 (szTo f k*3) (fnsF (trTo f k))))) (by
    rw [Nat.mul_one]
    exact List.Perm.cons _ (List.perm_append_comm (l₁:=(g6,.cells 3 (f.vars.toNat+f.nodes.length) (isF tl))::(g5,.cells 24 3 (ofL [.int .i64 f.vars,gs oN 3 (szTo f k),.int .i64 0]))::(g2,.cells 24 3 (ofL [.int .i64 0,.nils,.int .i64 0]))::(g1,.cells 24 3 (ofL (fmc false f)))::gh oN 68 (szTo f k*3) (fnsF (trTo f k))))) ?_
   refine aw_frzG (j0:=2) (og:=oa) (s:=1) (n:=x.args.length) (f':=ofL [.int .i64 x.kind,.int .i64 x.k,is true (x.args.map (toR f))]) rfl (by show CV.row true 1 (x.args.map (toR f)).length _=_;rw [List.length_map]) (fun j hj hne=> ?_) hoa (fun g e=> ?_) ?_
   ·match j,hj,hne with
    |0,_,_=>rfl
    |1,_,_=>rfl
    |2,_,hne=>exact absurd rfl hne
   ·exact fun h=>by have:=(hC g).1 h;simp [Heap.keys] at this
   have hvk:f.vars+(k:Int)=((i+k:Nat):Int):=by omega
   have hlen:=lenCV_gs (s:=3) hoN
   repeat first|apply wa1|apply wa2|apply wa3|apply wa4|apply wa5 rfl|apply wa6|apply wa7|(refine wb1 rfl fun R r=>?_;simp only[go_sem,z,hn_g1,hn_g2,hn_g5,hn_g6,hx,hn_g10,hn_g11,hvk,↓hlen];with_reducible show R (some _);with_reducible refine r _ _ ?_;clear r R)
   refine aw_store rfl rfl rfl rfl (by simp only[go_sem,z,hn_g1,hn_g2,hn_g5,hn_g6,hx,hn_g10,hn_g11,hvk,↓hlen]<;>rfl) (by simp only[go_sem,z,hn_g1,hn_g2,hn_g5,hn_g6,hx,hn_g10,hn_g11,hvk,↓hlen]<;>rfl) (by simp only[go_sem,z,hn_g1,hn_g2,hn_g5,hn_g6,hx,hn_g10,hn_g11,hvk,↓hlen]<;>rfl) (by simp only[go_sem,z,hn_g1,hn_g2,hn_g5,hn_g6,hx,hn_g10,hn_g11,hvk,↓hlen]<;>rfl) (fun _ e=>by cases e) (by first|rfl|exact solid_gs3|exact solid_gs2) (by rfl) (by first|omega|simp) rfl ?_
   (try simp only[go_sem,z,hn_g1,hn_g2,hn_g5,hn_g6,hx,hn_g10,hn_g11,hvk,↓hlen])
   rw [updF_is om]
   repeat first|apply wa1|apply wa2|apply wa3|apply wa4|apply wa5 rfl|apply wa6|apply wa7|(refine wb1 rfl fun R r=>?_;simp only[go_sem,z,hn_g1,hn_g2,hn_g5,hn_g6,hx,hn_g10,hn_g11,hvk,↓hlen];with_reducible show R (some _);with_reducible refine r _ _ ?_;clear r R)
   refine aw_push (pre:=[(g11,.cells 68 3 (ofL [.int .i64 x.kind,.int .i64 x.k,is true (x.args.map (toR f))])),(g6,.cells 3 (f.vars.toNat+f.nodes.length) (isF (tl.set (i+k) (f.vars+szTo f k)))),(g5,.cells 24 3 (ofL [.int .i64 f.vars,gs oN 3 (szTo f k),.int .i64 0])),(g2,.cells 24 3 (ofL [.int .i64 0,.nils,.int .i64 0])),(g1,.cells 24 3 (ofL (fmc false f)))]) rfl rfl rfl rfl rfl rfl rfl (by simp only[go_sem,z,hn_g1,hn_g2,hn_g5,hn_g6,hx,hn_g10,hn_g11,hvk,↓hlen]<;>rfl) (by simp only[go_sem,z,hn_g1,hn_g2,hn_g5,hn_g6,hx,hn_g10,hn_g11,hvk,↓hlen]<;>rfl) (by rfl) om om (by simp only[go_sem,z,hn_g1,hn_g2,hn_g5,hn_g6,hx,hn_g10,hn_g11,hvk,↓hlen]<;>rfl) om (by exact hoN) (by simp only[go_sem,z,hn_g1,hn_g2,hn_g5,hn_g6,hx,hn_g10,hn_g11,hvk,↓hlen]<;>rfl) (by rfl) (by rfl) (by first|rfl|simp only [Nat.mul_one,List.nil_append,List.cons_append]<;>rfl) (by unfold maxLen;omega) om (by exact lf_push (xs:=trTo f k) (trTo_len f k) (⟨x.kind,x.k,x.args.map (toR f)⟩:FN) om) fun g hn_g=> ?_
   replace hn_g:=Heap.ne_of hn_g
   first|dsimp only [Heap.ne,gh] at hn_g|dsimp only [Heap.ne] at hn_g|skip
   (try simp only[go_sem,z,hn_g1,hn_g2,hn_g5,hn_g6,hx,hn_g10,hn_g11,hvk,↓hlen,hn_g])
   repeat first|apply wa1|apply wa2|apply wa3|apply wa4|apply wa5 rfl|apply wa6|apply wa7|(refine wb1 rfl fun R r=>?_;simp only[go_sem,z,hn_g1,hn_g2,hn_g5,hn_g6,hx,hn_g10,hn_g11,hvk,↓hlen,hn_g];with_reducible show R (some _);with_reducible refine r _ _ ?_;clear r R)
   refine aw_store rfl rfl rfl rfl (by simp only[go_sem,z,hn_g1,hn_g2,hn_g5,hn_g6,hx,hn_g10,hn_g11,hvk,↓hlen,hn_g]<;>rfl) (by simp only[go_sem,z,hn_g1,hn_g2,hn_g5,hn_g6,hx,hn_g10,hn_g11,hvk,↓hlen,hn_g]<;>rfl) (by simp only[go_sem,z,hn_g1,hn_g2,hn_g5,hn_g6,hx,hn_g10,hn_g11,hvk,↓hlen,hn_g]<;>rfl) (by simp only[go_sem,z,hn_g1,hn_g2,hn_g5,hn_g6,hx,hn_g10,hn_g11,hvk,↓hlen,hn_g]<;>rfl) (fun _ e=>by cases e) (by first|rfl|exact solid_gs3|exact solid_gs2) (by rfl) (by first|omega|simp) rfl ?_
   (try simp only[go_sem,z,hn_g1,hn_g2,hn_g5,hn_g6,hx,hn_g10,hn_g11,hvk,↓hlen,hn_g])
   repeat first|apply wa1|apply wa2|apply wa3|apply wa4|apply wa5 rfl|apply wa6|apply wa7|(refine wb1 rfl fun R r=>?_;simp only[go_sem,z,hn_g1,hn_g2,hn_g5,hn_g6,hx,hn_g10,hn_g11,hvk,↓hlen,hn_g];with_reducible show R (some _);with_reducible refine r _ _ ?_;clear r R)
   refine aw_stop ⟨(k+1,some g,tl.set (i+k) (f.vars+szTo f k)),by dsimp only;omega,(by simp only[go_sem,z,hn_g1,hn_g2,hn_g5,hn_g6,hx,hn_g10,hn_g11,hvk,↓hlen,hn_g]<;>and_intros<;>first|exact True.intro|(with_reducible rfl)|exact c_int om|rfl),?_,by dsimp only;omega,fun e=>(by cases e),?_⟩
   ·dsimp only
    rw [hs1,hr1]
    exact List.Sublist.cons _ (List.Sublist.refl _)
   ·have:=toOk_set v0 h1' hto
    rwa [hVt] at this
 ·have h1':k=f.nodes.length:=dF h1
  subst h1'
  obtain⟨tp,htp⟩:=Int.eq_ofNat_of_zero_le t0
  have htt:=hto.at' f.top t0 t1 htop
  rw [htp,Int.toNat_natCast,←htp] at htt
  have J10:=oj z (oj hn_g1 (oj hn_g2 (oj hn_g5 (oj hn_g6 htp))))
  refine yGWS J10 ?_
  rw [htt]
  refine aw_perm (h':=(g5,.cells 24 3 (ofL [.int .i64 f.vars,gs oN 3 (szTo f f.nodes.length),.int .i64 (toR f f.top)]))::(gh oN 68 (szTo f f.nodes.length*3) (fnsF (trTo f f.nodes.length))++[(g6,.cells 3 (f.vars.toNat+f.nodes.length) (isF tl)),(g2,.cells 24 3 (ofL [.int .i64 0,.nils,.int .i64 0])),(g1,.cells 24 3 (ofL (fmc false f)))])) ((List.Perm.swap _ _ _).trans (List.Perm.cons _ (List.perm_append_comm (l₁:=([(g6,.cells 3 (f.vars.toNat+f.nodes.length) (isF tl)),(g2,.cells 24 3 (ofL [.int .i64 0,.nils,.int .i64 0])),(g1,.cells 24 3 (ofL (fmc false f)))]:Heap))))) ?_
  refine aw_frzG (j0:=1) (og:=oN) (s:=3) (n:=szTo f f.nodes.length) (f':=ofL (fmc true (trimF f))) rfl (by show CV.row true 3 (trTo f f.nodes.length).length _=_;rw [trTo_len];rfl) (fun j hj hne=> ?_) hoN (fun g e=> ?_) ?_
  ·match j,hj,hne with
   |0,_,_=>rfl
   |1,_,hne=>exact absurd rfl hne
   |2,_,_=>rfl
  ·exact fun h=>by have:=(hC g).1 h;simp [Heap.keys] at this
  refine yGWSG J10 ?_
  refine aw_rethw (h':=[]) rfl (List.nil_sublist _) (fun R hR=> ?_)
  simp only [go_sem,z,hn_g1,hn_g2,hn_g5,hn_g6,htp]
  refine hR _ rfl ?_
  exact⟨rfl,rfl⟩
end Go.Proofs.YtefekdejgbceiaaGreat
