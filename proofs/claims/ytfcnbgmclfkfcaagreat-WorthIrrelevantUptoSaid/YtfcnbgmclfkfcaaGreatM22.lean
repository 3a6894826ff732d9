/- Parts of one proof, laid by a program. -/
import Derived.Test.YtfcnbgmclfkfcaaGreatM00
import Derived.Test.YtfcnbgmclfkfcaaGreatM21
set_option linter.unusedSimpArgs false
set_option linter.unusedVariables false
namespace Go.Proofs.YtfcnbgmclfkfcaaGreat
open Go.AI Go.PN
attribute [local irreducible] aw Fa Fh DrK
@[go_sem] theorem ty_fii_s:tSz Tryz.prog 91=some (false,1):=by kernel_rfl
@[go_sem] theorem ty_fii_z:tZero Tryz.prog 91=some [.raw .nilFunc]:=by kernel_rfl
theorem ty_ki:KeyOk Tryz.prog 3 keyI:=keyI_ok Tryz.underlying3
theorem keyI_rep {r:Int}:∀(S:Bool→Nat→Prop) (w:World) (u:Value),Rep S w (.c (.int .i64 r)) u→u=keyI r:=fun _ _ _ h=>h
abbrev W6 (g1 g2 g3 g4 g5 gd gT:Nat) (e:Nat) (y:Int) (dl:List (Int×Int)):Heap:=
 [(g1,.cells 88 1 (ofL [.optr gT 0])),(g2,.cells 3 1 (ofL [.int .i64 e])),(g3,.cells 159 1 (ofL [.raw (.map (some gd))])),(g4,.cells 3 1 (ofL [.int .i64 y])),(g5,.cells 91 1 (ofL [fnC 244 [g1,g2,g3,g4,g5]])),(gd,.gen (MapI keyI (dnL dl)))]
abbrev HW (g1 g2 g3 g4 g5 gd gT gU gM:Nat) (og:Option Nat) (o pl:List Int) (ns:List DN) (mm:Mem3) (e:Nat) (y:Int) (dl:List (Int×Int)):Heap:=W6 g1 g2 g3 g4 g5 gd gT e y dl++THp gT gU gM og o pl ns mm
def roomN (o:List Int) (ns:List DN) (r:Int):Nat:=2^((o.length:Int)-lvZ o ns r).toNat*2^(o.length+1)
theorem room_ge {o:List Int} {ns:List DN} {r:Int}:2^(o.length+1)≤roomN o ns r:=Nat.le_mul_of_pos_left _ (Nat.pow_pos om)
theorem room_le {o:List Int} {ns:List DN} {r:Int} (h:0≤lvZ o ns r):roomN o ns r≤2^o.length*2^(o.length+1):=Nat.mul_le_mul_right _ (Nat.pow_le_pow_right om om)
theorem room_node {o:List Int} {ns:List DN} (ht:TabOk o ns) {r:Int} (h2:2≤r) (hr:r<ns.length+2):roomN o ns (ns.getD (r-2).toNat dn0).lo+roomN o ns (ns.getD (r-2).toNat dn0).hi≤roomN o ns r:=by
 have nd:=ht (r-2).toNat om
 have b1:=nd.bl
 have b2:=nd.bh
 have hlr:lvZ o ns r=placeZ o (ns.getD (r-2).toNat dn0).v:=by unfold lvZ;rw [if_neg om]
 have ll:=lv_le (o:=o) (ns:=ns) (r:=(ns.getD (r-2).toNat dn0).lo)
 have lh:=lv_le (o:=o) (ns:=ns) (r:=(ns.getD (r-2).toNat dn0).hi)
 unfold roomN
 rw [←Nat.add_mul]
 refine Nat.mul_le_mul_right _ ?_
 obtain⟨q,hq⟩:∃q,((o.length:Int)-lvZ o ns r).toNat=q+1:=⟨((o.length:Int)-lvZ o ns r).toNat-1,by omega⟩
 have pa:2^((o.length:Int)-lvZ o ns (ns.getD (r-2).toNat dn0).lo).toNat≤2^q:=Nat.pow_le_pow_right om om
 have pb:2^((o.length:Int)-lvZ o ns (ns.getD (r-2).toNat dn0).hi).toNat≤2^q:=Nat.pow_le_pow_right om om
 rw [hq,Nat.pow_succ]
 omega
def WkQ (g1 g2 g3 g4 g5 gd gT gU gM:Nat) (o pl:List Int) (ns0:List DN) (e:Nat) (y:Int) (ns:List DN) (dl:List (Int×Int)) (r:Int) (x:AV) (h:Heap):Prop:=
 ∃og' ns' mm' dl' x',TS o og' ns' mm'∧CmOk o ns0 e y ns' mm' dl'∧Later o ns ns' ns'.length∧CmR ns0 e y ns' r x'∧ns'.length+2^(o.length+1)≤ns.length+roomN o ns0 r∧(∃zs,dl'=dl++zs)∧(∀z∈dl',z∈dl∨z.1≤r)∧x=.c (.int .i64 x')∧h=HW g1 g2 g3 g4 g5 gd gT gU gM og' o pl ns' mm' e y dl'
theorem perm_rot2 {α:Type} (a:α) (l k:List α):(l++(k++[a])).Perm (k++(a::l)):=by
 have:=List.perm_append_comm (l₁:=l) (l₂:=k++[a])
 rwa [List.append_assoc k,List.singleton_append] at this
theorem perm_rot {α:Type} (a:α) (l k:List α):(k++(a::l)).Perm ((l++k)++[a]):=List.perm_append_comm.trans (List.perm_append_singleton a (l++k)).symm
set_option maxRecDepth 100000 in
set_option maxHeartbeats 6400000 in
theorem walk_fh (g1 g2 g3 g4 g5 gd gT gU gM:Nat) {o pl:List Int} (ho:OdOk o pl) {ns0:List DN} (ht0:TabOk o ns0) {e:Nat} (he:e<o.length) {y:Int} (hy:RefOk ns0 y):∀(k:Nat) (r:Int) (og:Option Nat) (ns:List DN) (mm:Mem3) (dl:List (Int×Int)),r.toNat<k→RefOk ns0 r→TS o og ns mm→CmOk o ns0 e y ns mm dl→ns.length+roomN o ns0 r≤1000000000→
 Fh Tryz.prog 244 (HW g1 g2 g3 g4 g5 gd gT gU gM og o pl ns mm e y dl) ([.c (.int .i64 r)]++[g1,g2,g3,g4,g5].map fun g=>.c (.optr g 0)) (WkQ g1 g2 g3 g4 g5 gd gT gU gM o pl ns0 e y ns dl r):=by
 intro k
 induction k with
 |zero=>intro r og ns mm dl hk;omega
 |succ k ih=>
  intro r og ns mm dl hk hr hs hc hn
  have hB:0<2^(o.length+1):=Nat.pow_pos om
  have hlat:=hc.lat
  have hge:=room_ge (o:=o) (ns:=ns0) (r:=r)
  have l24:=ho.l24
  have hrn:RefOk ns r:=hlat.ref hr
  have hpe:=ho.pl.2 e he
  have hplen:=ho.pl.1
  simp only [List.cons_append,List.nil_append,List.map_cons,List.map_nil]
  refine fh_of_body Tryz.func244 rfl rfl (by simp [Tryz.ntmps244]) fun C hC=> ?_
  simp only [initS,Nat.reduceAdd]
  simp only [HW,W6,THp,TH,List.cons_append,List.nil_append]
  refine aw_nd fun hnd=> ?_
  simp only [Heap.keys,List.map_cons] at hnd
  replace hnd:=ndP_of hnd
  dsimp only [ndP,neA] at hnd
  have J1:=oj hnd hpe
  refine yG J1 ?_
  refine aw_cw ([(g1,.cells 88 1 (ofL [.optr gT 0])),(g2,.cells 3 1 (ofL [.int .i64 e])),(gT,.cells 140 5 (ofL [is true o,is true pl,gs og 3 ns.length,.raw (.map (some gU)),.raw (.map (some gM))]))]) [(0,0),(1,0),(3,0),(4,0),(5,0),(6,0),(7,0),(8,0),(9,0),(2,1),(10,0)] ty_mixed (by kernel_rfl) eI ?_
  refine yG J1 ?_
  refine cw_callh (hc:=THp gT gU gM og o pl ns mm) (hr:=W6 g1 g2 g3 g4 g5 gd gT e y dl) rfl (level_fh gT gU gM og o pl ns mm r hs.og om hs.tab hrn ho.pl om) rfl rfl rfl (List.perm_append_comm (l₁:=W6 g1 g2 g3 g4 g5 gd gT e y dl)) (zL J1) (by rintro _ _ ⟨rfl,rfl⟩;unfold THp TH;exact eI) ?_ (hm:=.inr ⟨rfl,rfl⟩)
  rintro _ _ ⟨rfl,rfl⟩ _
  rw [hlat.lv hr]
  refine cw_perm List.perm_append_comm ?_
  unfold W6 THp TH
  simp only [List.cons_append,List.nil_append]
  refine ySG J1 ?_
  by_cases hlv:placeZ o e<lvZ o ns0 r
  ·have hlv':decide (lvZ o ns0 r>placeZ o e)=true:=decide_eq_true hlv
   have J2:=oj hnd (oj hpe hlv')
   refine yP J2 ?_
   refine yG J2 ?_
   refine yU J2 ?_
   exact⟨og,ns,mm,dl,r,hs,hc,Later.refl hs.tab _,cm_same ht0 hlat hr hlv,by omega,⟨[],by simp⟩,fun z hz=>.inl hz,rfl,rfl⟩
  have hlv':decide (lvZ o ns0 r>placeZ o e)=false:=decide_eq_false hlv
  have J3:=oj hnd (oj hpe hlv')
  refine yN J3 ?_
  refine yG J3 ?_
  have h2:2≤r:=by
   refine Classical.byContradiction fun hc=> ?_
   unfold lvZ at hlv
   rw [if_pos om] at hlv
   exact hlv place_lt
  refine aw_lookup2 (a:=r) (kv:=dnL dl) (Kf:=keyI) (kt:=3) (et:=3) rfl rfl rfl (by kernel_rfl) ty_ki ty_iz (zE J3) (zE J3) (zE J3) keyI_rep ?_
  refine yS J3 ?_
  rw [dn_get]
  cases hf:dnGet r dl with
  |some x=>
   try simp only [Option.map_some,Option.getD_some,Option.isSome_some,cstC]
   refine yGPGU J3 ?_
   exact⟨og,ns,mm,dl,x,hs,hc,Later.refl hs.tab _,hc.sem _ (dn_mem hf),by omega,⟨[],by simp⟩,fun z hz=>.inl hz,rfl,rfl⟩
  |none=>
   try simp only [Option.map_none,Option.getD_none,Option.isSome_none,cstC]
   refine yG J3 ?_
   refine yN J3 ?_
   obtain⟨g,rfl⟩:∃g,og=some g:=by
    cases og with
    |none=>have:=hs.og rfl;unfold RefOk at hrn;omega
    |some g=>exact⟨g,rfl⟩
   simp only [gh,List.map_cons,List.map_nil,neA,ndP] at hnd
   simp only [gs,gh]
   have hi0:(r-2).toNat<ns0.length:=by unfold RefOk at hr;omega
   have hi1:(r-2).toNat<ns.length:=by unfold RefOk at hrn;omega
   have hgn:ns.getD (r-2).toNat dn0=ns0.getD (r-2).toNat dn0:=by
    obtain⟨xs,hx⟩:=hlat.pre
    rw [hx,getD_app hi0]
   obtain⟨w0,w1,w2,w3,w4,w5⟩:=(ht0 _ hi0).nk
   obtain⟨kl,kh⟩:=kids_ref ht0 hi0
   have hroom:=room_node ht0 h2 hr.2
   have hgl:=room_ge (o:=o) (ns:=ns0) (r:=(ns0.getD (r-2).toNat dn0).lo)
   have hgh:=room_ge (o:=o) (ns:=ns0) (r:=(ns0.getD (r-2).toNat dn0).hi)
   refine yG (oj hnd (oj hpe hlv')) ?_
   refine yA (oj hnd (oj hpe hlv')) fun g10 hn_g10=>?_
   clear hn_g10
   refine aw_nd fun hnd2=> ?_
   simp only [Heap.keys,List.map_cons,List.map_nil] at hnd2
   replace hnd2:=ndP_of hnd2
   dsimp only [ndP,neA] at hnd2
   clear hnd
   refine yGWS hnd2 ?_
   rw [hgn]
   generalize hx0:ns0.getD (r-2).toNat dn0=nd at*
   refine yG hnd2 ?_
   have hnew:=dn_none hf
   have hr2:r<ns0.length+2:=hr.2
   refine aw_cut (fun(p:Option Nat×List DN×Mem3×List (Int×Int)×Int)=>[(0,.c (.int .i64 r)),(3,.c (.optr g3 0)),(11,.c (.int .i64 p.2.2.2.2))]) (fun p=>W6 g1 g2 g3 g4 g5 gd gT e y p.2.2.2.1++THp gT gU gM p.1 o pl p.2.1 p.2.2.1)
    (fun p=>TS o p.1 p.2.1 p.2.2.1∧CmOk o ns0 e y p.2.1 p.2.2.1 p.2.2.2.1∧Later o ns p.2.1 p.2.1.length∧CmR ns0 e y p.2.1 r p.2.2.2.2∧p.2.1.length+2^(o.length+1)≤ns.length+roomN o ns0 r∧(∃zs,p.2.2.2.1=dl++zs)∧(∀z∈p.2.2.2.1,z∈dl∨z.1<r)) ?_ ?_
   ·refine yG hnd2 ?_
    refine yF hnd2 (fun hv=>?_) fun hv=>?_
    ·have hv':nd.v=e:=by simpa using hv
     refine yG hnd2 ?_
     refine aw_callh (hc:=THp gT gU gM (some g) o pl ns mm) (hr:=(g10,.cells 145 3 (ofL [.int .i64 nd.v,.int .i64 nd.lo,.int .i64 nd.hi]))::W6 g1 g2 g3 g4 g5 gd gT e y dl) (choose_fh gT gU gM ho hs om (hlat.ref hy) (hlat.ref kh) (hlat.ref kl)) rfl rfl rfl (List.perm_append_comm (l₁:=(g10,.cells 145 3 (ofL [.int .i64 nd.v,.int .i64 nd.lo,.int .i64 nd.hi]))::W6 g1 g2 g3 g4 g5 gd gT e y dl)) (zL hnd2) ?_
     rintro _ _ ⟨og4,ns4,mm4,x,e1,e2,e3,e4,rfl,rfl⟩ _
     refine aw_perm List.perm_append_comm ?_
     refine ySG hnd2 ?_
     have hl4:=e2.len
     refine aw_stop ⟨(og4,ns4,mm4,dl,x),(zB hnd2),List.Sublist.cons _ (List.Sublist.refl _),e1,hc.later e2 e1.mem,e2.loose,?_,by dsimp only;omega,⟨[],by simp⟩,fun z hz=>.inl hz⟩
     exact cm_here ht0 hlat e2 h2 hr hy (by rw [hx0];exact hv') e3 (by rw [hx0];exact e4)
    ·have hv':¬nd.v=e:=by simpa using hv
     refine yG hnd2 ?_
     refine aw_cw ([(g1,.cells 88 1 (ofL [.optr gT 0])),(g5,.cells 91 1 (ofL [fnC 244 [g1,g2,g3,g4,g5]])),(g10,.cells 145 3 (ofL [.int .i64 nd.v,.int .i64 nd.lo,.int .i64 nd.hi]))]) [(0,0),(1,0),(2,0),(3,0),(5,0),(6,0),(7,0),(9,0),(10,0),(11,0),(4,1),(8,1),(12,1),(13,1),(14,0)] ty_mixed (by kernel_rfl) eI ?_
     refine yG hnd2 ?_
     refine cw_callh (hc:=THp gT gU gM (some g) o pl ns mm) (hr:=(g10,.cells 145 3 (ofL [.int .i64 nd.v,.int .i64 nd.lo,.int .i64 nd.hi]))::W6 g1 g2 g3 g4 g5 gd gT e y dl) rfl (tevent_fh gT gU gM hs om w0 w1) rfl rfl rfl (List.perm_append_comm (l₁:=(g10,.cells 145 3 (ofL [.int .i64 nd.v,.int .i64 nd.lo,.int .i64 nd.hi]))::W6 g1 g2 g3 g4 g5 gd gT e y dl)) (zL hnd2) (by
      rintro _ _ ⟨_,_,_,_,_,_,_,_,rfl,rfl⟩;unfold W6;exact has0_app2 eI) ?_ (hm:=.inr ⟨rfl,rfl⟩)
     rintro _ _ ⟨og1,ns1,mm1,c1,e1,e2,e3,e4,rfl,rfl⟩ _
     have hl1:=e2.len
     refine ySG hnd2 ?_
     refine cw_callhv (gs:=[g1,g2,g3,g4,g5]) (hr:=[(g10,.cells 145 3 (ofL [.int .i64 nd.v,.int .i64 nd.lo,.int .i64 nd.hi]))]) rfl (ih nd.hi og1 ns1 mm1 dl om kh e1 (hc.later e2 e1.mem) om) rfl rfl rfl (zE hnd2) (perm_rot _ _ _) (zL hnd2) (by
      rintro _ _ ⟨_,_,_,_,_,_,_,_,_,_,_,_,rfl,rfl⟩;unfold HW W6;simp only [List.append_assoc,List.cons_append,List.nil_append];exact eI) ?_ (hm:=.inr ⟨rfl,rfl⟩)
     rintro _ _ ⟨og2,ns2,mm2,dl2,x2,s2,k2,l2,r2,b2,⟨z2,q2⟩,n2,rfl,rfl⟩ _
     refine ySG hnd2 ?_
     refine cw_callhv (gs:=[g1,g2,g3,g4,g5]) (hr:=[(g10,.cells 145 3 (ofL [.int .i64 nd.v,.int .i64 nd.lo,.int .i64 nd.hi]))]) rfl (ih nd.lo og2 ns2 mm2 dl2 om kl s2 k2 om) rfl rfl rfl (zE hnd2) (.refl _) (zL hnd2) (by
      rintro _ _ ⟨_,_,_,_,_,_,_,_,_,_,_,_,rfl,rfl⟩;unfold HW W6;simp only [List.append_assoc,List.cons_append,List.nil_append];exact eI) ?_ (hm:=.inr ⟨rfl,rfl⟩)
     rintro _ _ ⟨og3,ns3,mm3,dl3,x3,s3,k3,l3,r3,b3,⟨z3,q3⟩,n3,rfl,rfl⟩ _
     have hbelow:∀z∈dl3,z∈dl∨z.1<r:=fun z hz=>by
      rcases n3 z hz with h|h
      ·rcases n2 z h with h|h
       ·exact .inl h
       ·exact .inr om
      ·exact .inr om
     have hnew3:∀z∈dl3,z.1≠r:=fun z hz=>by
      rcases hbelow z hz with h|h
      ·exact hnew z h
      ·omega
     refine ySG hnd2 ?_
     refine cw_callh (hc:=THp gT gU gM og3 o pl ns3 mm3) (hr:=(g10,.cells 145 3 (ofL [.int .i64 nd.v,.int .i64 nd.lo,.int .i64 nd.hi]))::W6 g1 g2 g3 g4 g5 gd gT e y dl3) rfl (choose_fh gT gU gM ho s3 om (l3.ref (l2.ref e3)) (r2.later k2.lat.tab l3).1 r3.1) rfl rfl rfl (perm_rot2 (g10,_) (W6 g1 g2 g3 g4 g5 gd gT e y dl3) (THp gT gU gM og3 o pl ns3 mm3)) (zL hnd2) (by
      rintro _ _ ⟨_,_,_,_,_,_,_,_,rfl,rfl⟩;unfold W6;exact has0_app2 eI) ?_ (hm:=.inr ⟨rfl,rfl⟩)
     rintro _ _ ⟨og4,ns4,mm4,x,f1,f2,f3,f4,rfl,rfl⟩ _
     have hl4:=f2.len
     refine cw_perm List.perm_append_comm ?_
     refine ySG hnd2 ?_
     refine aw_stop ⟨(og4,ns4,mm4,dl3,x),(zB hnd2),List.Sublist.cons _ (List.Sublist.refl _),f1,k3.later f2 f1.mem,(((e2.trans l2 (Nat.le_refl _)).trans l3 (Nat.le_refl _)).trans f2 (Nat.le_refl _)).loose,?_,by dsimp only;omega,⟨z2++z3,by rw [q3,q2,List.append_assoc]⟩,hbelow⟩
     refine cm_node (c:=c1) (a:=x2) (b:=x3) (ns:=ns3) ht0 h2 hr (by rw [hx0];exact hv') (fun s=> ?_) (by rw [hx0];exact r2.later k2.lat.tab l3) (by rw [hx0];exact r3) f3 f4
     rw [l3.eval k2.lat.tab (l2.ref e3),l2.eval e2.tab e3,e4,hx0]
   rintro ⟨og',ns',mm',dl',x⟩ ⟨s',k',l',r',b',⟨z',q'⟩,n'⟩
   dsimp only at s' k' l' r' b' q' n'⊢
   have hnew':∀z∈dl',z.1≠r:=fun z hz=>by
    rcases n' z hz with h|h
    ·exact hnew z h
    ·omega
   unfold W6
   simp only [List.cons_append,List.nil_append]
   refine yG hnd2 ?_
   refine aw_mapNew (a:=r) (kv:=dnL dl') (Kf:=keyI) (v:=.int .i64 x) rfl rfl rfl (kt:=3) (et:=3) (by kernel_rfl) ty_ki (zE hnd2) (zE hnd2) (zE hnd2) keyI_rep (cv:=.c (.int .i64 x)) (zE hnd2) (fun S w u h=>h) (by rw [dn_get,dn_none' hnew'];rfl) (zE hnd2) ?_
   rw [dnL_push]
   refine ySG hnd2 ?_
   refine yU hnd2 ?_
   refine⟨og',ns',mm',dl'++[(r,x)],x,s',k'.push h2 hr2 hnew' r',l',r',b',⟨z'++[(r,x)],by rw [q',List.append_assoc]⟩,fun z hz=> ?_,rfl,rfl⟩
   rcases List.mem_append.1 hz with hz|hz
   ·rcases n' z hz with h|h
    ·exact .inl h
    ·exact .inr om
   ·rw [List.mem_singleton] at hz;subst hz;exact .inr (Int.le_refl _)
set_option maxRecDepth 100000 in
set_option maxHeartbeats 3200000 in
theorem compose_fh (gT gU gM:Nat) {o pl:List Int} (ho:OdOk o pl) {ns0:List DN} (ht0:TabOk o ns0) {e:Nat} (he:e<o.length) {y:Int} (hy:RefOk ns0 y) {og:Option Nat} {mm:Mem3} (hs:TS o og ns0 mm) (hn:ns0.length+2^o.length*2^(o.length+1)≤1000000000) {r:Int} (hr:RefOk ns0 r):
 Fh Tryz.prog 234 (THp gT gU gM og o pl ns0 mm) [.c (.optr gT 0),.c (.int .i64 r),.c (.int .i64 e),.c (.int .i64 y)] (OpQ gT gU gM o pl ns0 (2^o.length*2^(o.length+1)) fun s=>evalD ns0 (setB s e (evalD ns0 s y)) r):=by
 refine fh_of_body Tryz.func234 rfl rfl (by simp [Tryz.ntmps234]) fun C hC=> ?_
 simp only [initS,Nat.reduceAdd]
 unfold THp TH
 simp only [List.cons_append,List.nil_append]
 refine xG ?_
 refine xB fun g4 hn_g4=>?_
 refine yG hn_g4 ?_
 refine yB hn_g4 fun g6 hn_g6=>?_
 refine yG (oj hn_g4 hn_g6) ?_
 refine yB (oj hn_g4 hn_g6) fun g7 hn_g7=>?_
 refine yG (oj hn_g4 (oj hn_g6 hn_g7)) ?_
 refine aw_makeMap (Kf:=keyI) rfl rfl rfl fun gd hn_gd=> ?_
 replace hn_gd:=Heap.ne_of hn_gd
 dsimp only [Heap.ne,gh] at hn_gd
 have J1:=oj hn_g4 (oj hn_g6 (oj hn_g7 hn_gd))
 refine ySG J1 ?_
 refine yA J1 fun g9 hn_g9=>?_
 have J2:=oj hn_g4 (oj hn_g6 (oj hn_g7 (oj hn_gd hn_g9)))
 refine yGWSG J2 ?_
 refine yA J2 fun g10 hn_g10=>?_
 have J3:=oj hn_g4 (oj hn_g6 (oj hn_g7 (oj hn_gd (oj hn_g9 hn_g10))))
 refine yG J3 ?_
 refine aw_makeFunc (gs:=[g4,g6,g9,g7,g10]) rfl rfl rfl (zE J3) ?_
 refine ySGWSG J3 ?_
 refine aw_callhv (hr:=[]) (walk_fh g4 g6 g9 g7 g10 gd gT gU gM ho hs.tab he hy (ns0.length+3) r og ns0 mm [] (by unfold RefOk at hr;omega) hr hs (CmOk.zero hs.tab hs.mem) (by have:=room_le (lv3_nonneg ho.mem hs.tab hr);omega)) rfl rfl rfl (zE J3) ?hp (zL J3) ?_
 ·rw [List.append_nil]
  exact(permL [(g10,_),(g9,_),(gd,_),(g7,_),(g6,_),(g4,_)] [0,1,2,3,4,5] [5,4,1,3,0,2] (by decide)).append_right (THp gT gU gM og o pl ns0 mm)
 rintro _ _ ⟨og',ns',mm',dl',x,s',k',l',r',b',_,_,rfl,rfl⟩ _
 rw [List.append_nil]
 refine ySG J3 ?_
 refine aw_keep [(8,.c (.int .i64 x))] (THp gT gU gM og' o pl ns' mm') (zB J3) (List.sublist_append_right (W6 g4 g6 g9 g7 g10 gd gT e y dl') _) ?_
 refine yU J3 ?_
 have hrl:=room_le (lv3_nonneg ho.mem hs.tab hr)
 have hp2:=Nat.pow_pos (n:=o.length) (show 0<2 by omega)
 exact⟨og',ns',mm',x,s',⟨l'.tab,l'.pre,by omega⟩,r'.1,r'.2,rfl,rfl⟩
theorem restrict_fh (gT gU gM:Nat) {o pl:List Int} (ho:OdOk o pl) {e:Nat} (he:e<o.length) {og:Option Nat} {ns:List DN} {mm:Mem3} (hs:TS o og ns mm) (hn:ns.length+2^o.length*2^(o.length+1)≤1000000000) {r:Int} (hr:RefOk ns r) (b:Bool):
 Fh Tryz.prog 216 (THp gT gU gM og o pl ns mm) [.c (.optr gT 0),.c (.int .i64 r),.c (.int .i64 e),.c (.bool b)] (OpQ gT gU gM o pl ns (2^o.length*2^(o.length+1)) fun s=>evalD ns (setB s e b) r):=by
 refine fh_of_body Tryz.func216 rfl rfl (by simp [Tryz.ntmps216]) fun C hC=> ?_
 simp only [initS,Nat.reduceAdd]
 refine xG ?_
 refine xF (fun h1=>?_) fun h1=>?_
 ·subst h1
  refine xG ?_
  refine aw_callh (hr:=[]) (compose_fh gT gU gM ho hs.tab he ref1 hs hn hr) rfl rfl rfl (by rw [List.append_nil]) eL ?_
  rintro _ _ ⟨og',ns',mm',x,e1,e2,e3,e4,rfl,rfl⟩ _
  rw [List.append_nil]
  refine xSGU ?_
  exact⟨og',ns',mm',x,e1,e2,e3,fun s=>by rw [e4];dsimp only;rw [ev1],rfl,rfl⟩
 ·subst h1
  refine xG ?_
  refine aw_callh (hr:=[]) (compose_fh gT gU gM ho hs.tab he ref0 hs hn hr) rfl rfl rfl (by rw [List.append_nil]) eL ?_
  rintro _ _ ⟨og',ns',mm',x,e1,e2,e3,e4,rfl,rfl⟩ _
  rw [List.append_nil]
  refine xSGU ?_
  exact⟨og',ns',mm',x,e1,e2,e3,fun s=>by rw [e4];dsimp only;rw [ev0],rfl,rfl⟩
end Go.Proofs.YtfcnbgmclfkfcaaGreat
namespace Go.Proofs.YtfcnbgmclfkfcaaGreat
open Go.AI Go.PN
attribute [local irreducible] aw Fa Fh DrK
structure CnOk (o:List Int) (ns:List DN) (dl:List (Int×Int)):Prop where
 sem:∀z∈dl,z.2=cntR o ns z.1
 low:∀q:Int,0≤q→q<2→dnGet q dl≠none
theorem dn_app {r:Int} {dl zs:List (Int×Int)} (h:dnGet r dl≠none):dnGet r (dl++zs)≠none:=by
 induction dl with
 |nil=>exact absurd rfl h
 |cons e dl ih=>
  rw [List.cons_append,dnGet]
  rw [dnGet] at h
  split
  ·simp
  ·rename_i hne
   rw [if_neg hne] at h
   exact ih h
end Go.Proofs.YtfcnbgmclfkfcaaGreat
namespace Go.AI
@[go_sem] theorem one_map (m:Option Nat):(Value.map m).oneCell'=true:=rfl
@[go_sem] theorem one_ptr (m:Option Addr):(Value.pointer m).oneCell'=true:=rfl
section
variable {E : Env} {K : List It} {σ σ' : Sl} {h : Heap}
theorem aw_frzC {gT gP m n n' j0:Nat} {ty tp:TypeId} {f f' fp:Nat→CV} (hf:f j0=.osl gP 1 0 n') (hn:n'≤n) (hf':f' j0=.row true 1 n' fp) (hfo:∀j,j<m→j≠j0→f' j=f j) (ho:¬E.C.own0 gP)
 (k:aw E K σ ((gT,.cells ty m f')::h)):aw E K σ ((gT,.cells ty m f)::(gP,.cells tp n fp)::h):=fun a w st=>by
 refine k a w ?_
 have hnd:=st.nodup
 simp only [Heap.keys,List.map_cons,List.nodup_cons,List.mem_cons,not_or] at hnd
 obtain⟨⟨hTP,hTh⟩,hPh,hh⟩:=hnd
 have hgm:(gP,AObj.cells tp n fp)∈(gT,AObj.cells ty m f)::(gP,.cells tp n fp)::h:=List.mem_cons_of_mem _ (List.mem_cons_self ..)
 have hkg:gP∈Heap.keys ((gT,AObj.cells ty m f)::(gP,.cells tp n fp)::h):=List.mem_map.2 ⟨_,hgm,rfl⟩
 have hks:∀b,b∈Heap.keys ((gT,AObj.cells ty m f')::h)→b∈Heap.keys ((gT,AObj.cells ty m f)::(gP,.cells tp n fp)::h):=fun b hb=>by
  simp only [Heap.keys,List.map_cons,List.mem_cons] at hb⊢
  exact hb.imp id .inr
 have kp:Keeps (Stab E.C ((gT,.cells ty m f)::(gP,.cells tp n fp)::h) w) (Stab E.C ((gT,.cells ty m f')::h) w) w w:=⟨fun t b hb=>⟨hb.1,hb.2.1,fun hm=>hb.2.2 (hks b hm)⟩,fun _ _ _=>rfl,fun _ _ e=>e⟩
 refine⟨st.size,st.defers,fun t=>Rep.keep kp (st.slots t),fun g ob hm=> ?_,?_,fun g hg=>st.keys g (hks g hg),st.frame⟩
 ·rcases List.mem_cons.1 hm with e|hm
  ·rw [Prod.mk.injEq] at e
   obtain⟨e1,e2⟩:=e
   rw [e1,e2]
   clear hm e1 e2
   obtain⟨cs,hb,hcs,hj⟩:=st.heap gT _ (List.mem_cons_self ..)
   refine⟨cs,hb,hcs,fun j hjm=> ?_⟩
   obtain⟨u,hu,hr⟩:=hj j hjm
   refine⟨u,hu,?_⟩
   by_cases e:j=j0
   ·subst e
    rw [hf] at hr
    rw [hf']
    obtain⟨c,hv,hc,_,_⟩:=hr
    obtain⟨cs2,hb2,hcs2,hj2⟩:=st.heap gP _ hgm
    refine⟨some ⟨gP,0,none⟩,c,hv,hc,fun _=>⟨⟨gP,0,none⟩,rfl,⟨.inr ((st.keys gP hkg).resolve_left ho),st.klt hkg,?_⟩,fun q hq=> ?_⟩⟩
    ·simp only [Heap.keys,List.map_cons,List.mem_cons,not_or]
     exact⟨fun e=>hTP e.symm,hPh⟩
    ·obtain⟨u2,hu2,hr2⟩:=hj2 q om
     exact⟨u2,by rw [add_mk,Nat.zero_add,cell_own hb2];exact hu2,hr2.keep kp⟩
   ·rw [hfo j hjm e]
    exact hr.keep kp
  ·exact ORep.keep kp rfl (st.heap g ob (List.mem_cons_of_mem _ (List.mem_cons_of_mem _ hm)))
 ·simp only [Heap.keys,List.map_cons,List.nodup_cons]
  exact⟨hTh,hh⟩
end
end Go.AI
namespace Go.Proofs.YtfcnbgmclfkfcaaGreat
open Go.AI Go.PN
attribute [local irreducible] aw Fa Fh DrK
theorem make_is' (n:Nat):(fun j=>[CV.int .i64 0][j%1]?.getD .any)=isF (List.replicate n 0):=by
 have:=make_is n
 simpa only [ofL_at] using this
theorem pl_ok {o:List Int} (hp:Perm0 o):PlOk o (placesL o):=⟨placesL_len o,fun _ hv=>placesL_get hv⟩
set_option maxRecDepth 100000 in
set_option maxHeartbeats 3200000 in
theorem new_fh (o:List Int) (hp:Perm0 o) (h24:o.length≤24):
 Fh Tryz.prog 59 [] [.c (is false o)] (fun x h=>∃gT gU gM,x=.c (.optr gT 0)∧h=THp gT gU gM none o (placesL o) [] []):=by
 refine fh_of_body Tryz.func59 rfl rfl (by simp [Tryz.ntmps59]) fun C hC=> ?_
 simp only [initS,Nat.reduceAdd]
 refine xG ?_
 refine aw_drB 7 ty_mixed (by kernel_rfl) ?_
 repeat first|(refine drb_2q true rfl (fun R hR=> ?_);simp only [go_sem];(with_reducible refine hR _ _ ?_ ?_);(focus (((try simp only [inRange])<;>and_intros<;>first|exact True.intro|omega|trivial);done));clear hR R)|fail
 refine drb_calm (CalmX.copy (size:=1) (z:=[.int .i64 0]) rfl rfl rfl eE eE rfl om eE eE .row (by unfold maxLen;omega) om) ?_
 refine xS ?_
 repeat first|(refine drb_2q true rfl (fun R hR=> ?_);simp only [go_sem];(with_reducible refine hR _ _ ?_ ?_);(focus (((try simp only [inRange])<;>and_intros<;>first|exact True.intro|omega|trivial);done));clear hR R)|fail
 refine drb_new rfl (NewX.make (n:=o.length) (c:=o.length) (size:=1) (z:=[.int .i64 0]) rfl rfl rfl eE eE rfl om eE eE rfl rfl om om om) (by kernel_rfl) ?_
 refine xS ?_
 refine drb_new rfl (NewX.makeMap (Kf:=dkV) rfl rfl rfl) (by kernel_rfl) ?_
 refine xS ?_
 refine drb_new rfl (NewX.makeMap (Kf:=key3) rfl rfl rfl) (by kernel_rfl) ?_
 refine xS ?_
 refine drb_nil fun γ=> ?_
 refine xS ?_
 rw [make_is' o.length]
 generalize γ 4=gP
 generalize γ 5=gU
 generalize γ 6=gM
 refine xG ?_
 refine xB fun gT hn_gT=>?_
 refine yG hn_gT ?_
 refine aw_nd fun hnd=> ?_
 simp only [Heap.keys,List.map_cons,List.map_nil] at hnd
 replace hnd:=ndP_of hnd
 dsimp only [ndP,neA] at hnd
 clear hn_gT
 refine aw_lp (fun x:Nat×List Int=>[(0,.c (is false o)),(3,.c (.optr gT 0)),(15,.c (is false o)),(16,.c (.int .i64 o.length)),(17,.c (.int .i64 x.1))]) (fun x=>[(gT,.cells 140 5 (ofL [is true o,.osl gP 1 0 o.length,.nils,.raw (.map (some gU)),.raw (.map (some gM))])),(gP,.cells 3 o.length (isF x.2)),(gU,.gen (MapI dkV [])),(gM,.gen (MapI key3 []))])
  (fun x=>x.1≤o.length∧x.2.length=o.length∧∀j,j<x.1→x.2.getD (o.getD j 0).toNat 0=j) (fun x=>o.length-x.1) (0,List.replicate o.length 0) (zB hnd) zZ ⟨Nat.zero_le _,List.length_replicate ..,fun j hj=>by omega⟩ ?_
 rintro ⟨k,zs⟩ ⟨hk,hzl,hz⟩
 dsimp only at hk hzl hz⊢
 refine yG hnd ?_
 refine yF hnd (fun h1=>?_) fun h1=>?_
 ·have h1':k<o.length:=dT h1
  have hrg:=hp.range (o.getD k 0) (by rw [getDZ h1'];exact List.getElem_mem h1')
  refine yGWS hnd ?_
  obtain⟨v,hv⟩:∃v:Nat,o.getD k 0=v:=⟨(o.getD k 0).toNat,by omega⟩
  rw [hv,Int.toNat_natCast,updF_is om]
  refine yG hnd ?_
  refine aw_stop ⟨(k+1,zs.set v k),by dsimp only;omega,(zB hnd),zZ,by dsimp only;omega,by simpa using hzl,fun j hj=> ?_⟩
  dsimp only at hj⊢
  by_cases e:j=k
  ·subst e
   rw [hv,Int.toNat_natCast,List.getD_eq_getElem?_getD,List.getElem?_set_self om]
   rfl
  ·have hne:(o.getD j 0).toNat≠v:=fun e2=>by
    have hj':j<o.length:=by omega
    have hr2:=hp.range (o.getD j 0) (by rw [getDZ hj'];exact List.getElem_mem hj')
    have p1:=place_get hp.nodup hj'
    have p2:=place_get hp.nodup h1'
    rw [show o.getD j 0=o.getD k 0 from by omega] at p1
    omega
   rw [List.getD_eq_getElem?_getD,List.getElem?_set_ne (fun e=>hne e.symm),←List.getD_eq_getElem?_getD]
   exact hz j om
 ·have h1':k=o.length:=dF h1
  subst h1'
  have hpl:=places_end hp hzl hz
  subst hpl
  refine yG hnd ?_
  refine aw_frzC (j0:=1) (n':=o.length) (f':=ofL [is true o,is true (placesL o),.nils,.raw (.map (some gU)),.raw (.map (some gM))]) rfl (Nat.le_refl _) (by show CV.row true 1 (placesL o).length _=_;rw [placesL_len]) (fun j hj hne=> ?_) ?_ ?_
  ·match j,hj,hne with
   |0,_,_=>rfl
   |1,_,hne=>exact absurd rfl hne
   |2,_,_=>rfl
   |3,_,_=>rfl
   |4,_,_=>rfl
  ·exact fun h=>by have:=(hC gP).1 h;simp [Heap.keys] at this
  refine yU hnd ?_
  exact⟨gT,gU,gM,rfl,rfl⟩
theorem getZset {l:List Int} {i:Nat} {v:Int} (h:i<l.length):(l.set i v).getD i 0=v:=by
 rw [List.getD_eq_getElem?_getD,List.getElem?_set_self h];rfl
theorem getZset' {l:List Int} {i j:Nat} {v:Int} (h:j≠i):(l.set i v).getD j 0=l.getD j 0:=by
 rw [List.getD_eq_getElem?_getD,List.getElem?_set_ne (fun e=>h e.symm),←List.getD_eq_getElem?_getD]
structure ImOk (d:DG) (ns:List DN) (rs:List Int) (k:Nat):Prop where
 ref:∀r:Nat,r<k+2→RefOk ns (rs.getD r 0)∧lvZ d.order d.nodes r≤lvZ d.order ns (rs.getD r 0)∧∀s,evalD ns s (rs.getD r 0)=evalD d.nodes s r
end Go.Proofs.YtfcnbgmclfkfcaaGreat
namespace Go.AI
section
variable {E : Env} {K : List It} {σ σ' : Sl} {h : Heap} {all rest : List Oper} {o : Oper}
theorem lenMap_run {P:Program} {α:Type} {Kf:α→Value} {t kt et:TypeId} {kv:List (α×Value)} {x:Operand} {e:Operand→Value} {g:Nat} {w:World} {es:Array MapEntry} {c:Nat} (hop:o.op=.call {callee:=.builtin .len,args:= #[x],argTypes:= #[t]}) (ht:tMap P t=some (kt,et)) (hx:e x=.map (some g)) (hb:w.heap[g]?=some (.map es c))
 (hes:es.toList.map (fun e=>(e.key,e.val))=kv.map (fun p=>(Kf p.1,p.2))):(execOp e o).run P w=.ok (.value (.int .i64 (kv.length:Int))) w:=by
 have hl:es.size=kv.length:=by
  have:=congrArg List.length hes
  simpa using this
 simp [execOp,hop,resolve,invoke,Go.builtin,Builtin.len_,hx,run_underlying (tMap_spec ht),runGet hb,goInt,hl]
theorem aw_lenMap {α:Type} {Kf:α→Value} {t kt et g:TypeId} {kv:List (α×Value)} {x:Operand} (hop:o.op=.call {callee:=.builtin .len,args:= #[x],argTypes:= #[t]}) (hw:wantA all σ o=some true) (hd:dstOk E.N o.dst=true)
 (ht:tMap E.P t=some (kt,et)) (hx:ev σ x=.c (.raw (.map (some g)))) (hg:h.get g=some (.gen (MapI Kf kv)))
 (k:aw E (.ops all rest::K) (σ.setO o.dst (.c (.int .i64 (kv.length:Int)))) h):aw E (.ops all (o::rest)::K) σ h:=by
 refine aw_step hw (fun ac w s=> ?_) k
 have h1:=ev_rep s x
 rw [hx] at h1
 have h1':ac.eval x=.map (some g):=h1
 obtain⟨ob,hb,es,c,rfl,hes⟩:=s.heap g _ (Heap.get_mem hg)
 exact⟨_,w,.inl (lenMap_run hop ht h1' hb hes),s.put hd rfl⟩
end
end Go.AI
namespace Go.Proofs.YtfcnbgmclfkfcaaGreat
open Go.AI Go.PN
attribute [local irreducible] aw Fa Fh DrK
theorem ty_bz:tZ1 Tryz.prog 4=some (.bool false):=by kernel_rfl
@[go_sem] theorem ty_mib_s:tSz Tryz.prog 157=some (false,1):=by kernel_rfl
@[go_sem] theorem ty_mib_z:tZero Tryz.prog 157=some [.raw (.map none)]:=by kernel_rfl
abbrev S6 (g1 g2 g3 g4 gd gT:Nat) (most:Int) (sl:List Int):Heap:=
 [(g1,.cells 157 1 (ofL [.raw (.map (some gd))])),(g2,.cells 3 1 (ofL [.int .i64 most])),(g3,.cells 158 1 (ofL [fnC 129 [g1,g2,g3,g4]])),(g4,.cells 88 1 (ofL [.optr gT 0])),(gd,.gen (MapI keyI (snL sl)))]
set_option maxRecDepth 100000 in
set_option maxHeartbeats 6400000 in
theorem swalk_fh (g1 g2 g3 g4 gd gT gU gM:Nat) (most:Int) {o pl:List Int} {og:Option Nat} {ns:List DN} {mm:Mem3} (hs:TS o og ns mm) (hn:ns.length≤1000000000):∀(k:Nat) (r:Int) (sl:List Int),r.toNat<k→RefOk ns r→
 Fh Tryz.prog 129 (S6 g1 g2 g3 g4 gd gT most sl++THp gT gU gM og o pl ns mm) ([.c (.int .i64 r)]++[g1,g2,g3,g4].map fun g=>.c (.optr g 0)) (fun x h=>∃sl',Sm o ns sl sl' r∧x=.tup []∧h=S6 g1 g2 g3 g4 gd gT most sl'++THp gT gU gM og o pl ns mm):=by
 intro k
 induction k with
 |zero=>intro r sl hk;omega
 |succ k ih=>
  intro r sl hk hr
  simp only [List.cons_append,List.nil_append,List.map_cons,List.map_nil]
  refine fh_of_body Tryz.func129 rfl rfl (by simp [Tryz.ntmps129]) fun C hC=> ?_
  simp only [initS,Nat.reduceAdd]
  simp only [S6,THp,TH,List.cons_append,List.nil_append]
  refine aw_nd fun hnd=> ?_
  simp only [Heap.keys,List.map_cons] at hnd
  replace hnd:=ndP_of hnd
  dsimp only [ndP,neA] at hnd
  refine yG hnd ?_
  refine aw_split 8 (zE hnd) (fun h1=> ?_) (fun h1=> ?_)<;>refine yS hnd ?_
  ·refine yGPGU hnd ?_
   exact⟨sl,Sm.same,rfl,rfl⟩
  have h1':=of_decide_eq_false h1
  have h2:2≤r:=by omega
  refine yG hnd ?_
  refine aw_lookup (a:=r) (kv:=snL sl) (Kf:=keyI) (kt:=3) (et:=4) rfl rfl rfl (by kernel_rfl) ty_ki ty_bz (zE hnd) (zE hnd) (zE hnd) keyI_rep ?_
  refine yS hnd ?_
  rw [sn_get]
  by_cases hm:r∈sl
  ·rw [if_pos hm]
   simp only [Option.getD_some,cstC]
   refine yGPGU hnd ?_
   exact⟨sl,Sm.same,rfl,rfl⟩
  rw [if_neg hm]
  simp only [Option.getD_none,cstC]
  refine yG hnd ?_
  refine aw_lenMap (kv:=snL sl) (Kf:=keyI) (kt:=3) (et:=4) rfl rfl rfl (by kernel_rfl) (zE hnd) (zE hnd) ?_
  refine ySG hnd ?_
  refine yF hnd (fun h3=>?_) fun h3=>?_
  ·refine yG hnd ?_
   refine yU hnd ?_
   exact⟨sl,Sm.same,rfl,rfl⟩
  obtain⟨g,rfl⟩:∃g,og=some g:=by
   cases og with
   |none=>have:=hs.og rfl;unfold RefOk at hr;omega
   |some g=>exact⟨g,rfl⟩
  simp only [gh,List.map_cons,List.map_nil,neA,ndP] at hnd
  simp only [gs,gh]
  have hi:(r-2).toNat<ns.length:=by unfold RefOk at hr;omega
  obtain⟨w0,w1,w2,w3,w4,w5⟩:=(hs.tab.ns _ hi)
  obtain⟨kl,kh⟩:=kids_ref hs.tab hi
  have hrl:r<ns.length+2:=hr.2
  have nd0:∀s1 s2,Sm o ns (sl++[r]) s1 (ns.getD (r-2).toNat dn0).lo→Sm o ns s1 s2 (ns.getD (r-2).toNat dn0).hi→Sm o ns sl s2 r:=fun s1 s2 a b=>Sm.node hs.tab h2 hrl a b
  generalize hx0:ns.getD (r-2).toNat dn0=nd at*
  have J1:=oj hnd hx0
  refine yG J1 ?_
  refine aw_mapNew (a:=r) (kv:=snL sl) (Kf:=keyI) (v:=.bool true) rfl rfl rfl (kt:=3) (et:=4) (by kernel_rfl) ty_ki (zE J1) (zE J1) (zE J1) keyI_rep (cv:=.c (.bool true)) (zE J1) (fun S w u h=>h) (by rw [sn_get,if_neg hm]) (zE J1) ?_
  rw [sn_push]
  refine ySG J1 ?_
  refine aw_cw ([(g3,.cells 158 1 (ofL [fnC 129 [g1,g2,g3,g4]])),(g4,.cells 88 1 (ofL [.optr gT 0])),(gT,.cells 140 5 (ofL [is true o,is true pl,.osl g 3 0 ns.length,.raw (.map (some gU)),.raw (.map (some gM))])),(g,.cells 145 (ns.length*3) (dnsF ns))]) [(0,0),(1,0),(2,0),(3,0),(4,0),(5,0),(6,0),(7,0),(8,0),(9,0),(10,1)] ty_mixed (by kernel_rfl) eI ?_
  refine yG J1 ?_
  refine cw_callhv (gs:=[g1,g2,g3,g4]) (hr:=[]) rfl (ih nd.lo (sl++[r]) om kl) rfl rfl rfl (zE J1) (by rw [List.append_nil];exact .refl _) (zL J1) (by
   rintro _ _ ⟨_,_,rfl,rfl⟩;simp only [S6,THp,TH,gs,gh,List.append_assoc,List.cons_append,List.nil_append];exact eI) ?_ (hm:=.inr ⟨rfl,rfl⟩)
  rintro _ _ ⟨sl1,m1,rfl,rfl⟩ _
  rw [List.append_nil]
  simp only [S6,THp,TH,gs,gh,List.cons_append,List.nil_append]
  refine ySG J1 ?_
  refine aw_cw ([(g3,.cells 158 1 (ofL [fnC 129 [g1,g2,g3,g4]])),(g4,.cells 88 1 (ofL [.optr gT 0])),(gT,.cells 140 5 (ofL [is true o,is true pl,.osl g 3 0 ns.length,.raw (.map (some gU)),.raw (.map (some gM))])),(g,.cells 145 (ns.length*3) (dnsF ns))]) [(0,0),(1,0),(2,0),(3,0),(4,0),(5,0),(6,0),(7,0),(8,0),(9,0),(10,1)] ty_mixed (by kernel_rfl) eI ?_
  refine yG J1 ?_
  refine cw_callhv (gs:=[g1,g2,g3,g4]) (hr:=[]) rfl (ih nd.hi sl1 om kh) rfl rfl rfl (zE J1) (by rw [List.append_nil];exact .refl _) (zL J1) (by
   rintro _ _ ⟨_,_,rfl,rfl⟩;simp only [S6,THp,TH,gs,gh,List.append_assoc,List.cons_append,List.nil_append];exact eI) ?_ (hm:=.inr ⟨rfl,rfl⟩)
  rintro _ _ ⟨sl2,m2,rfl,rfl⟩ _
  rw [List.append_nil]
  refine ySG J1 ?_
  refine yV J1 ?_
  exact⟨sl2,nd0 sl1 sl2 m1 m2,rfl,rfl⟩
set_option maxRecDepth 100000 in
set_option maxHeartbeats 3200000 in
theorem small_fh (gT gU gM:Nat) {o pl:List Int} (ho:OdOk o pl) {og:Option Nat} {ns:List DN} {mm:Mem3} (hs:TS o og ns mm) (hn:ns.length≤1000000000) {r:Int} (hr:RefOk ns r) {most:Int} (hm:((2^o.length:Nat):Int)≤most+1):
 Fh Tryz.prog 78 (THp gT gU gM og o pl ns mm) [.c (.optr gT 0),.c (.int .i64 r),.c (.int .i64 most)] (fun x h=>x=.c (.bool true)∧h=THp gT gU gM og o pl ns mm):=by
 refine fh_of_body Tryz.func78 rfl rfl (by simp [Tryz.ntmps78]) fun C hC=> ?_
 simp only [initS,Nat.reduceAdd]
 unfold THp TH
 simp only [List.cons_append,List.nil_append]
 refine xG ?_
 refine xB fun g3 hn_g3=>?_
 refine yG hn_g3 ?_
 refine yB hn_g3 fun g5 hn_g5=>?_
 refine yG (oj hn_g3 hn_g5) ?_
 refine aw_makeMap (Kf:=keyI) rfl rfl rfl fun gd hn_gd=> ?_
 replace hn_gd:=Heap.ne_of hn_gd
 dsimp only [Heap.ne,gh] at hn_gd
 have J1:=oj hn_g3 (oj hn_g5 hn_gd)
 refine ySG J1 ?_
 refine yA J1 fun g7 hn_g7=>?_
 have J2:=oj hn_g3 (oj hn_g5 (oj hn_gd hn_g7))
 refine yGWSG J2 ?_
 refine yA J2 fun g8 hn_g8=>?_
 have J3:=oj hn_g3 (oj hn_g5 (oj hn_gd (oj hn_g7 hn_g8)))
 refine yG J3 ?_
 refine aw_makeFunc (gs:=[g7,g5,g8,g3]) rfl rfl rfl (zE J3) ?_
 refine ySGWSG J3 ?_
 refine aw_callhv (hr:=[]) (swalk_fh (pl:=pl) g7 g5 g8 g3 gd gT gU gM most hs hn (r.toNat+1) r [] om hr) rfl rfl rfl (zE J3) ?hp (zL J3) ?_
 ·rw [List.append_nil]
  exact(permL [(g8,_),(g7,_),(gd,_),(g5,_),(g3,_)] [0,1,2,3,4] [1,3,0,4,2] (by decide)).append_right (THp gT gU gM og o pl ns mm)
 rintro _ _ ⟨sl,m,rfl,rfl⟩ _
 rw [List.append_nil]
 have hl:sl.length≤2^o.length-1:=by
  have h0:=lv3_nonneg ho.mem hs.tab hr
  have:=m.len
  have hp:2^((o.length:Int)-lvZ o ns r).toNat≤2^o.length:=Nat.pow_le_pow_right om om
  simp only [List.length_nil] at this
  omega
 have hd:decide ((sl.length:Int)≤most)=true:=decide_eq_true (by
  have:=Nat.pow_pos (n:=o.length) (show 0<2 by omega)
  omega)
 unfold THp TH S6
 simp only [List.cons_append,List.nil_append]
 refine ySG J3 ?_
 refine aw_lenMap (kv:=snL sl) (Kf:=keyI) (kt:=3) (et:=4) rfl rfl rfl (by kernel_rfl) (zE J3) (zE J3) ?_
 rw [show(snL sl).length=sl.length from by simp [snL]]
 have J4:=oj hn_g3 (oj hn_g5 (oj hn_gd (oj hn_g7 (oj hn_g8 hd))))
 refine ySG J4 ?_
 refine aw_keep [(6,.c (.bool true))] (THp gT gU gM og o pl ns mm) (zB J4) (List.sublist_append_right (S6 g7 g5 g8 g3 gd gT most sl) _) ?_
 refine yU J4 ?_
 exact⟨rfl,rfl⟩
end Go.Proofs.YtfcnbgmclfkfcaaGreat
namespace Go.AI
section
variable {E : Env} {K : List It} {σ σ' : Sl} {h : Heap} {all rest : List Oper} {o : Oper}
theorem aw_frzG {gT m s n j0:Nat} {og:Option Nat} {ty tp:TypeId} {f f' fp:Nat→CV} (hf:f j0=gs og s n) (hf':f' j0=.row true s n fp) (hfo:∀j,j<m→j≠j0→f' j=f j) (hog:og=none→n=0) (ho:∀g,og=some g→¬E.C.own0 g)
 (k:aw E K σ ((gT,.cells ty m f')::h)):aw E K σ ((gT,.cells ty m f)::(gh og tp (n*s) fp++h)):=by
 cases og with
 |none=>
  have hn:=hog rfl
  subst hn
  refine aw_convR (f':=f') (fun j hj S w u hr=> ?_) k
  by_cases e:j=j0
  ·subst e
   rw [hf] at hr
   rw [hf']
   exact repC_nil hr
  ·rw [hfo j hj e];exact hr
 |some gP=>
  have ho:=ho gP rfl
  show aw E K σ ((gT,.cells ty m f)::(gP,.cells tp (n*s) fp)::h)
  intro a w st
  refine k a w ?_
  have hnd:=st.nodup
  simp only [Heap.keys,List.map_cons,List.nodup_cons,List.mem_cons,not_or] at hnd
  obtain⟨⟨hTP,hTh⟩,hPh,hh⟩:=hnd
  have hgm:(gP,AObj.cells tp (n*s) fp)∈(gT,AObj.cells ty m f)::(gP,.cells tp (n*s) fp)::h:=List.mem_cons_of_mem _ (List.mem_cons_self ..)
  have hkg:gP∈Heap.keys ((gT,AObj.cells ty m f)::(gP,.cells tp (n*s) fp)::h):=List.mem_map.2 ⟨_,hgm,rfl⟩
  have hks:∀b,b∈Heap.keys ((gT,AObj.cells ty m f')::h)→b∈Heap.keys ((gT,AObj.cells ty m f)::(gP,.cells tp (n*s) fp)::h):=fun b hb=>by
   simp only [Heap.keys,List.map_cons,List.mem_cons] at hb⊢
   exact hb.imp id .inr
  have kp:Keeps (Stab E.C ((gT,.cells ty m f)::(gP,.cells tp (n*s) fp)::h) w) (Stab E.C ((gT,.cells ty m f')::h) w) w w:=⟨fun t b hb=>⟨hb.1,hb.2.1,fun hm=>hb.2.2 (hks b hm)⟩,fun _ _ _=>rfl,fun _ _ e=>e⟩
  refine⟨st.size,st.defers,fun t=>Rep.keep kp (st.slots t),fun g ob hm=> ?_,?_,fun g hg=>st.keys g (hks g hg),st.frame⟩
  ·rcases List.mem_cons.1 hm with e|hm
   ·rw [Prod.mk.injEq] at e
    obtain⟨e1,e2⟩:=e
    rw [e1,e2]
    clear hm e1 e2
    obtain⟨cs,hb,hcs,hj⟩:=st.heap gT _ (List.mem_cons_self ..)
    refine⟨cs,hb,hcs,fun j hjm=> ?_⟩
    obtain⟨u,hu,hr⟩:=hj j hjm
    refine⟨u,hu,?_⟩
    by_cases e:j=j0
    ·subst e
     rw [hf] at hr
     rw [hf']
     obtain⟨c,hv,hc,_,_⟩:=hr
     obtain⟨cs2,hb2,hcs2,hj2⟩:=st.heap gP _ hgm
     refine⟨some ⟨gP,0,none⟩,c,hv,hc,fun _=>⟨⟨gP,0,none⟩,rfl,⟨.inr ((st.keys gP hkg).resolve_left ho),st.klt hkg,?_⟩,fun q hq=> ?_⟩⟩
     ·simp only [Heap.keys,List.map_cons,List.mem_cons,not_or]
      exact⟨fun e=>hTP e.symm,hPh⟩
     ·obtain⟨u2,hu2,hr2⟩:=hj2 q hq
      exact⟨u2,by rw [add_mk,Nat.zero_add,cell_own hb2];exact hu2,hr2.keep kp⟩
    ·rw [hfo j hjm e]
     exact hr.keep kp
   ·exact ORep.keep kp rfl (st.heap g ob (List.mem_cons_of_mem _ (List.mem_cons_of_mem _ hm)))
  ·simp only [Heap.keys,List.map_cons,List.nodup_cons]
   exact⟨hTh,hh⟩
theorem aw_calmX {r:AV} (hc:CalmX E h all σ o r) (k:aw E (.ops all rest::K) (σ.setO o.dst r) h):aw E (.ops all (o::rest)::K) σ h:=fun a w s=>by
 show wpList _ _ _ _ _ _
 unfold wpList
 have:=hc.2 σ [] a w (exW E K) (fun _ _=>rfl) (by simpa using s)
 split
 ·rename_i hw
  rw [if_pos hw] at this
  exact .inl (Oper.wp_mono (fun a' w' s'=>k a' w' (by simpa using s')) this)
 ·rename_i hw
  rw [if_neg hw] at this
  subst this
  exact k _ _ (s.put hc.1 (r:=.tup []) ⟨[],rfl,trivial⟩)
theorem aw_copy {t e size bytes k:Nat} {z:List CV} {f2:Nat→CV} {s x:Operand} {cx:CV} (hop:o.op=.call {callee:=.builtin .append,args:= #[s,x],argTypes:= #[t,t]}) (hw:wantA all σ o=some true) (hd:dstOk E.N o.dst=true)
 (ht:tElem E.P t=some (e,size,bytes)) (hz:tZero E.P e=some z) (hzl:z.length=size) (hs0:0<size) (hs:ev σ s=.c .nils) (hx:ev σ x=.c cx) (hsrc:Src h size cx k f2)
 (h63:k≤maxLen) (hby:k*bytes≤140737488355328) (kk:aw E (.ops all rest::K) (σ.setO o.dst (.c (.row true size k f2))) h):aw E (.ops all (o::rest)::K) σ h:=
 aw_calmX (CalmX.copy hop hw hd ht hz hzl hs0 hs hx hsrc h63 hby) kk
end
end Go.AI
