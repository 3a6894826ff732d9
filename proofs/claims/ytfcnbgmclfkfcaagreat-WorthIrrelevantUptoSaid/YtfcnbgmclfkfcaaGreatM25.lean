/- Parts of one proof, laid by a program. -/
import Derived.Test.YtfcnbgmclfkfcaaGreatM00
import Derived.Test.YtfcnbgmclfkfcaaGreatM24
set_option linter.unusedSimpArgs false
set_option linter.unusedVariables false
namespace Go.Proofs.YtfcnbgmclfkfcaaGreat
open Go.AI Go.PN
attribute [local irreducible] aw Fa Fh DrK
structure TrOk (d:DG) (ns:List DN) (rs:List Int) (k:Nat):Prop where
 ref:∀r:Nat,r<k+2→RefOk ns (rs.getD r 0)∧∀s,evalD ns s (rs.getD r 0)=evalD d.nodes s r
theorem tr_step {d:DG} (ok:DgOk d) {o:List Int} {ns ns2:List DN} (ht:TabOk o ns) {m:Nat} (hl2:Later o ns ns2 m) {rs:List Int} {k:Nat} (hk:k<d.nodes.length) (hl:k+2<rs.length) (h:TrOk d ns rs k) {x:Int} (hx:RefOk ns2 x)
 (he:∀s,evalD ns2 s x=if s.testBit (d.nodes.getD k dn0).v.toNat then evalD ns s (rs.getD (d.nodes.getD k dn0).hi.toNat 0) else evalD ns s (rs.getD (d.nodes.getD k dn0).lo.toNat 0)):TrOk d ns2 (rs.set (2+k) x) (k+1):=by
 obtain⟨v0,v1,l0,l1,g0,g1⟩:=ok.ns k hk
 obtain⟨r1,r3⟩:=h.ref (d.nodes.getD k dn0).lo.toNat om
 obtain⟨q1,q3⟩:=h.ref (d.nodes.getD k dn0).hi.toNat om
 rw [show(((d.nodes.getD k dn0).lo.toNat:Nat):Int)=(d.nodes.getD k dn0).lo from by omega] at r3
 rw [show(((d.nodes.getD k dn0).hi.toNat:Nat):Int)=(d.nodes.getD k dn0).hi from by omega] at q3
 refine⟨fun r hr=> ?_⟩
 by_cases e:r=2+k
 ·subst e
  rw [getZset om]
  refine⟨hx,fun s=> ?_⟩
  show evalD _ s _=evalD d.nodes s ((2+k:Nat):Int)
  rw [show(((2+k:Nat)):Int)=2+(k:Int) from by omega,evalD_step ok.ns om om]
  unfold kid
  rw [show((2:Int)+(k:Int)-2).toNat=k from by omega,he s,r3 s,q3 s]
  split<;>rfl
 ·rw [getZset' e]
  obtain⟨a1,a3⟩:=h.ref r om
  exact⟨hl2.ref a1,fun s=>by rw [hl2.eval ht a1,a3 s]⟩
theorem tr_zero {d:DG} {ns:List DN} {n:Nat} (hn:0<n):TrOk d ns ((List.replicate (n+1) 0).set 1 1) 0:=⟨fun r hr=>by
 obtain rfl|rfl:r=0∨r=1:=by omega
 ·rw [getZset' om,show(List.replicate (n+1) (0:Int)).getD 0 0=0 from by simp]
  exact⟨ref0,fun s=>by show evalD ns s 0=evalD d.nodes s 0;rw [ev0,ev0]⟩
 ·rw [getZset (by rw [List.length_replicate];omega)]
  exact⟨ref1,fun s=>by show evalD ns s 1=evalD d.nodes s 1;rw [ev1,ev1]⟩⟩
set_option maxRecDepth 100000 in
set_option maxHeartbeats 3200000 in
theorem translate_fh (gT gU gM:Nat) (d:DG) (ok:DgOk d) {o pl:List Int} (ho:OdOk o pl) (hol:o.length=d.order.length) {og:Option Nat} {ns:List DN} {mm:Mem3} (hs:TS o og ns mm) (hn:ns.length+d.nodes.length*2^(o.length+1)+1≤1000000000):
 Fh Tryz.prog 215 (THp gT gU gM og o pl ns mm) [.c (.optr gT 0),.agg (dgc false d)] (OpQ gT gU gM o pl ns (d.nodes.length*2^(o.length+1)) fun s=>evalD d.nodes s d.root):=by
 have k1:=ok.n4096
 have k2:=ok.r0
 have k3:=ok.r1
 have hB:0<2^(o.length+1):=Nat.pow_pos om
 refine fh_of_body Tryz.func215 rfl rfl (by simp [Tryz.ntmps215]) fun C hC=> ?_
 simp only [initS,Nat.reduceAdd]
 simp only [THp,TH,List.cons_append,List.nil_append]
 refine xG ?_
 refine xB fun g3 hn_g3=>?_
 refine yG hn_g3 ?_
 refine aw_make (n:=d.nodes.length+2) (c:=d.nodes.length+2) (size:=1) (bytes:=8) (z:=[.int .i64 0]) rfl rfl rfl (zE hn_g3) (zE hn_g3) rfl om (zE hn_g3) (zE hn_g3) om om om om om fun g5 hn_g5=> ?_
 clear hn_g5 hn_g3
 simp only [Nat.mul_one]
 rw [make_is]
 refine aw_nd fun hnd=> ?_
 simp only [Heap.keys,List.map_cons] at hnd
 replace hnd:=ndP_of hnd
 dsimp only [ndP,neA] at hnd
 refine ySGWS hnd ?_
 rw [updF_is (zs:=List.replicate (d.nodes.length+2) 0) (i:=1) (v:=1) (by rw [List.length_replicate];omega)]
 refine yG hnd ?_
 refine aw_lp (fun x:Nat×Option Nat×List DN×Mem3×List Int=>[(0,.c (.optr gT 0)),(3,.c (.optr g3 0)),(5,.c (.osl g5 1 0 (d.nodes.length+2))),(16,.c (dns false d.nodes)),(17,.c (.int .i64 d.nodes.length)),(18,.c (.int .i64 x.1))]) (fun x=>[(g5,.cells 3 (d.nodes.length+2) (isF x.2.2.2.2)),(g3,.cells 55 3 (ofL (dgc false d)))]++THp gT gU gM x.2.1 o pl x.2.2.1 x.2.2.2.1)
  (fun x=>x.1≤d.nodes.length∧TS o x.2.1 x.2.2.1 x.2.2.2.1∧Later o ns x.2.2.1 (x.1*2^(o.length+1))∧x.2.2.2.2.length=d.nodes.length+2∧TrOk d x.2.2.1 x.2.2.2.2 x.1) (fun x=>d.nodes.length-x.1) (0,og,ns,mm,(List.replicate (d.nodes.length+2) 0).set 1 1) (zB hnd) zZ ⟨Nat.zero_le _,hs,Later.refl hs.tab _,by simp,tr_zero om⟩ ?_
 clear hnd
 rintro ⟨k,og',ns',mm',rs⟩ ⟨hk,hs',hl',hrl,hi⟩
 dsimp only at hk hs' hl' hrl hi⊢
 simp only [THp,TH,List.cons_append,List.nil_append]
 refine aw_nd fun hnd=> ?_
 simp only [Heap.keys,List.map_cons] at hnd
 replace hnd:=ndP_of hnd
 dsimp only [ndP,neA] at hnd
 have hln:=hl'.len
 refine yG hnd ?_
 refine yF hnd (fun h1=>?_) fun h1=>?_
 ·have h1':k<d.nodes.length:=dT h1
  have hkb:k*2^(o.length+1)+2^(o.length+1)≤d.nodes.length*2^(o.length+1):=by
   have:=Nat.mul_le_mul_right (2^(o.length+1)) (show k+1≤d.nodes.length by omega)
   rwa [Nat.add_mul,Nat.one_mul] at this
  obtain⟨v0,v1,l0,l1,q0,q1⟩:=ok.ns k h1'
  obtain⟨r1,_⟩:=hi.ref (d.nodes.getD k dn0).lo.toNat om
  obtain⟨r2,_⟩:=hi.ref (d.nodes.getD k dn0).hi.toNat om
  have hst:∀{ns2:List DN} {m:Nat} {x:Int},Later o ns' ns2 m→RefOk ns2 x→(∀s,evalD ns2 s x=if s.testBit (d.nodes.getD k dn0).v.toNat then evalD ns' s (rs.getD (d.nodes.getD k dn0).hi.toNat 0) else evalD ns' s (rs.getD (d.nodes.getD k dn0).lo.toNat 0))→TrOk d ns2 (rs.set (2+k) x) (k+1):=fun a b c=>tr_step ok hs'.tab a h1' om hi b c
  refine yG hnd ?_
  refine yA hnd fun g7 hn_g7=>?_
  clear hn_g7
  refine aw_nd fun hnd2=> ?_
  simp only [Heap.keys,List.map_cons] at hnd2
  replace hnd2:=ndP_of hnd2
  dsimp only [ndP,neA] at hnd2
  clear hnd
  refine yGWS hnd2 ?_
  generalize hx0:d.nodes.getD k dn0=nd at*
  have J1:=oj hnd2 hx0
  refine yG J1 ?_
  refine aw_cw ([(g5,.cells 3 (d.nodes.length+2) (isF rs)),(g7,.cells 145 3 (ofL [.int .i64 nd.v,.int .i64 nd.lo,.int .i64 nd.hi]))]) [(0,0),(1,0),(2,0),(3,0),(4,0),(5,0),(6,0),(8,0),(9,0),(10,0),(11,0),(12,0),(13,0),(14,0),(15,0),(16,0),(17,0),(7,1),(18,1),(19,0),(20,2)] ty_mixed (by kernel_rfl) eI ?_
  refine yG J1 ?_
  refine cw_callh (hc:=THp gT gU gM og' o pl ns' mm') (hr:=[(g7,.cells 145 3 (ofL [.int .i64 nd.v,.int .i64 nd.lo,.int .i64 nd.hi])),(g5,.cells 3 (d.nodes.length+2) (isF rs)),(g3,.cells 55 3 (ofL (dgc false d)))]) rfl (tevent_fh gT gU gM hs' om v0 om) rfl rfl rfl (List.perm_append_comm (l₁:=[(g7,_),(g5,_),(g3,_)])) (zL J1) (by
   rintro _ _ ⟨_,_,_,_,_,_,_,_,rfl,rfl⟩;exact has0_app2 eI) ?_ (hm:=.inr ⟨rfl,rfl⟩)
  rintro _ _ ⟨og1,ns1,mm1,c1,e1,e2,e3,e4,rfl,rfl⟩ _
  have n1:=e2.len
  refine ySG J1 ?_
  refine cw_callh (hc:=THp gT gU gM og1 o pl ns1 mm1) (hr:=[(g7,.cells 145 3 (ofL [.int .i64 nd.v,.int .i64 nd.lo,.int .i64 nd.hi])),(g5,.cells 3 (d.nodes.length+2) (isF rs)),(g3,.cells 55 3 (ofL (dgc false d)))]) rfl (choose_fh gT gU gM ho e1 om e3 (e2.ref r2) (e2.ref r1)) rfl rfl rfl (.refl _) (zL J1) (by
   rintro _ _ ⟨_,_,_,_,_,_,_,_,rfl,rfl⟩;exact has0_app2 eI) ?_ (hm:=.inr ⟨rfl,rfl⟩)
  rintro _ _ ⟨og2,ns2,mm2,x,f1,f2,f3,f4,rfl,rfl⟩ _
  have n2:=f2.len
  refine yS J1 ?_
  refine cw_perm List.perm_append_comm ?_
  simp only [List.cons_append,List.nil_append]
  refine ySG J1 ?_
  refine cw_store (FP':=[]) rfl rfl rfl rfl rfl (zE J1) (zE J1) (zE J1) (zE J1) (fun _ e=>by cases e) rfl rfl (by show(2+(k:Int)).toNat+1≤_;omega) rfl has0_nil ?_
  simp only [AV.cells]
  rw [show((2:Int)+(k:Int)).toNat=2+k from by omega,updF_is om]
  refine ySG J1 ?_
  have l02:=e2.trans f2 (Nat.le_refl _)
  have hk1:(k+1)*2^(o.length+1)=k*2^(o.length+1)+2^(o.length+1):=by rw [Nat.add_mul,Nat.one_mul]
  refine aw_stop ⟨(k+1,og2,ns2,mm2,rs.set (2+k) x),by dsimp only;omega,(zB J1),List.Sublist.cons _ (List.Sublist.refl _),by dsimp only;omega,f1,hl'.trans l02 (by dsimp only;omega),by dsimp only;rw [List.length_set];exact hrl,?_⟩
  refine hst l02 f3 fun s=> ?_
  rw [f4 s]
  dsimp only
  rw [e4 s,e2.eval hs'.tab r1,e2.eval hs'.tab r2]
 ·have h1':k=d.nodes.length:=dF h1
  subst h1'
  have hrt:((d.root.toNat:Nat):Int)=d.root:=by omega
  obtain⟨r1,r3⟩:=hi.ref d.root.toNat om
  rw [hrt] at r3
  refine yG hnd ?_
  refine aw_keep [(4,.c (.int .i64 (rs.getD d.root.toNat 0)))] (THp gT gU gM og' o pl ns' mm') (zB hnd) (List.Sublist.cons _ (List.Sublist.cons _ (List.Sublist.refl _))) ?_
  refine yU hnd ?_
  exact⟨og',ns',mm',_,hs',hl',r1,r3,rfl,rfl⟩
end Go.Proofs.YtfcnbgmclfkfcaaGreat
namespace Go.AI
def dgZ:DG:=⟨[],[],0⟩
def dgsF (ds:List DG):Nat→CV:=lf 3 (fun d:DG=>[is false d.order,dns false d.nodes,CV.int .i64 d.root]) dgZ ds
@[go_sem] theorem dgsF_0 (ps:List DG) (i:Nat):dgsF ps (i*3)=is false (ps.getD i dgZ).order:=by
 have:=lf_at (s:=3) (c:=fun d:DG=>[is false d.order,dns false d.nodes,CV.int .i64 d.root]) (d:=dgZ) (xs:=ps) (i:=i) (k:=0) om
 exact this
@[go_sem] theorem dgsF_1 (ps:List DG) (i:Nat):dgsF ps (i*3+1)=dns false (ps.getD i dgZ).nodes:=by
 have:=lf_at (s:=3) (c:=fun d:DG=>[is false d.order,dns false d.nodes,CV.int .i64 d.root]) (d:=dgZ) (xs:=ps) (i:=i) (k:=1) om
 exact this
@[go_sem] theorem dgsF_2 (ps:List DG) (i:Nat):dgsF ps (i*3+2)=.int .i64 (ps.getD i dgZ).root:=by
 have:=lf_at (s:=3) (c:=fun d:DG=>[is false d.order,dns false d.nodes,CV.int .i64 d.root]) (d:=dgZ) (xs:=ps) (i:=i) (k:=2) om
 exact this
@[go_sem] theorem dgsF_00 (ps:List DG):dgsF ps 0=is false (ps.getD 0 dgZ).order:=dgsF_0 ps 0
end Go.AI
namespace Go.PN
open Go.AI
instance c16dec (ds:List DG):Decidable (∀j,j<ds.length→(ds.getD j dgZ).order=(ds.getD 0 dgZ).order):=Nat.decidableBallLT _ _
theorem perm_mid {α:Type} (a:α) (T R:List α):(a::(T++R)).Perm (T++(a::R)):=List.perm_middle.symm
structure OpS (ds:List DG) (k:Nat) (ns:List DN) (rl:List Int):Prop where
 len:rl.length=k
 ref:∀j,j<k→RefOk ns (rl.getD j 0)∧∀s,evalD ns s (rl.getD j 0)=evalD (ds.getD j dgZ).nodes s (ds.getD j dgZ).root
theorem OpS.push {ds:List DG} {k:Nat} {o:List Int} {ns ns':List DN} {m:Nat} {rl:List Int} {x:Int} (h:OpS ds k ns rl) (ht:TabOk o ns) (hl:Later o ns ns' m) (hx:RefOk ns' x) (he:∀s,evalD ns' s x=evalD (ds.getD k dgZ).nodes s (ds.getD k dgZ).root):OpS ds (k+1) ns' (rl++[x]):=by
 have hlen:=h.len
 refine⟨by simp [h.len],fun j hj=> ?_⟩
 by_cases e:j=k
 ·have e1:(rl++[x]).getD j 0=x:=by
   rw [List.getD_eq_getElem?_getD,List.getElem?_append_right om,show j-rl.length=0 from by omega];rfl
  rw [e1,e]
  exact⟨hx,he⟩
 ·obtain⟨a,b⟩:=h.ref j om
  have e1:(rl++[x]).getD j 0=rl.getD j 0:=by
   rw [List.getD_eq_getElem?_getD,List.getElem?_append_left om,←List.getD_eq_getElem?_getD]
  rw [e1]
  exact⟨hl.ref a,fun s=>by rw [hl.eval ht a];exact b s⟩
end Go.PN

namespace Go.PN
open Go.AI
structure DOut (o:List Int) (f:Nat→Bool) (D:DG):Prop where
 order:D.order=o
 code:dcode D=0
 ev:∀s,evalD D.nodes s D.root=f s
theorem dout_of {o:List Int} {ns:List DN} {rs:List Int} {os:List DN} {r x:Int} (ho:ocode o o.length=0) (h12:o.length≤12) (hm:∀v:Int,0≤v→v<o.length→v∈o) (ht:TabOk o ns) (hr:RefOk ns r) (h:Ex o ns [] [] rs os r x):DOut o (fun s=>evalD ns s r) ⟨o,os,x⟩:=by
 refine⟨rfl,ex_code ho ht hr h ?_,fun s=>h.ok.eval ht s x.toNat r x (Nat.le_refl _) hr.1 hr.2 h.ref⟩
 have h0:=lv3_nonneg hm ht hr
 have hl:=h.len
 have hp:2^((o.length:Int)-lvZ o ns r).toNat≤2^12:=Nat.pow_le_pow_right om om
 rw [h.ok.len]
 simp only [List.length_nil] at hl
 omega
end Go.PN

namespace Go.PN
open Go.AI
theorem lv_eq_node {o:List Int} {ns:List DN} {r:Int} (h2:2≤r):lvZ o ns r=placeZ o (ns.getD (r-2).toNat dn0).v:=by unfold lvZ;rw [if_neg om]
theorem place_inj {o:List Int} {a b:Int} (ha:a∈o) (hb:b∈o) (h:placeZ o a=placeZ o b):a=b:=by
 have h0:=place_nonneg ha
 have e1:=place_at (o:=o) (v:=a) rfl h0 ha
 have e2:=place_at (o:=o) (v:=b) (L:=placeZ o a) h.symm h0 hb
 rw [←e1,←e2]
theorem node_told {o:List Int} {ns:List DN} (ht:TabOk o ns) {r:Int} (h2:2≤r) (hr:r<ns.length+2) (s:Nat) (b:Bool):
 evalD ns (setB s (ns.getD (r-2).toNat dn0).v.toNat b) r=evalD ns s (if b then(ns.getD (r-2).toNat dn0).hi else(ns.getD (r-2).toNat dn0).lo):=by
 have hi':(r-2).toNat<ns.length:=by omega
 have nd:=ht _ hi'
 obtain⟨v0,v1,_,_,_,_⟩:=nd.nk
 obtain⟨r1,r2⟩:=kids_ref ht hi'
 have hv:(((ns.getD (r-2).toNat dn0).v.toNat:Nat):Int)=(ns.getD (r-2).toNat dn0).v:=by omega
 rw [evalD_step ht.ns h2 hr]
 unfold kid
 rw [setB_bit,if_pos rfl]
 cases b with
 |true=>exact setB_indep ht r2 (by rw [hv];exact nd.bh) s true
 |false=>exact setB_indep ht r1 (by rw [hv];exact nd.bl) s false
theorem tab_canon {o:List Int} {ns:List DN} (hm:∀v:Int,0≤v→v<o.length→v∈o) (ht:TabOk o ns):∀(k:Nat) (a b:Int),RefOk ns a→RefOk ns b→(o.length-lvZ o ns a).toNat≤k→(o.length-lvZ o ns b).toNat≤k→(∀s,evalD ns s a=evalD ns s b)→a=b:=by
 intro k
 induction k with
 |zero=>
  intro a b ha hb la lb h
  have leaf:∀r:Int,RefOk ns r→(o.length-lvZ o ns r).toNat≤0→r<2:=fun r hr hl=>by
   refine Classical.byContradiction fun hc=> ?_
   have:=lv_lt ht hr om
   omega
  have a2:=leaf a ha la
  have b2:=leaf b hb lb
  have:=h 0
  rw [evalD_leaf om,evalD_leaf om] at this
  unfold RefOk at ha hb
  have e:decide (a=1)=decide (b=1):=by simpa using this
  rw [decide_eq_decide] at e
  omega
 |succ k ih=>
  have below:∀a b:Int,RefOk ns a→RefOk ns b→(o.length-lvZ o ns a).toNat≤k+1→2≤a→lvZ o ns a<lvZ o ns b→(∀s,evalD ns s a=evalD ns s b)→False:=by
   intro a b ha hb la a2 hlt h
   have hi':(a-2).toNat<ns.length:=by unfold RefOk at ha;omega
   have nd:=ht _ hi'
   obtain⟨v0,v1,_,_,_,_⟩:=nd.nk
   obtain⟨r1,r2⟩:=kids_ref ht hi'
   have hv:(((ns.getD (a-2).toNat dn0).v.toNat:Nat):Int)=(ns.getD (a-2).toNat dn0).v:=by omega
   have hla:=lv_eq_node (o:=o) (ns:=ns) a2
   have b1:=nd.bl
   have b2:=nd.bh
   refine nd.ne (ih _ _ r1 r2 om om fun s=> ?_)
   have t:=node_told ht a2 ha.2 s true
   have f:=node_told ht a2 ha.2 s false
   rw [if_pos rfl] at t
   rw [if_neg (by simp)] at f
   rw [←f,←t,h,h,setB_indep ht hb (by rw [hv,←hla];exact hlt),setB_indep ht hb (by rw [hv,←hla];exact hlt)]
  intro a b ha hb la lb h
  by_cases hl:lvZ o ns a=lvZ o ns b
  ·by_cases a2:2≤a
   ·have b2:2≤b:=by
     refine Classical.byContradiction fun hc=> ?_
     have h1:=lv_lt ht ha a2
     have h3:lvZ o ns b=o.length:=by unfold lvZ;rw [if_pos om]
     omega
    have hia:(a-2).toNat<ns.length:=by unfold RefOk at ha;omega
    have hib:(b-2).toNat<ns.length:=by unfold RefOk at hb;omega
    have na:=ht _ hia
    have nb:=ht _ hib
    obtain⟨v0,v1,_,_,_,_⟩:=na.nk
    obtain⟨u0,u1,_,_,_,_⟩:=nb.nk
    obtain⟨ra,sa⟩:=kids_ref ht hia
    obtain⟨rb,sb⟩:=kids_ref ht hib
    have hla:=lv_eq_node (o:=o) (ns:=ns) a2
    have hlb:=lv_eq_node (o:=o) (ns:=ns) b2
    have ev:(ns.getD (a-2).toNat dn0).v=(ns.getD (b-2).toNat dn0).v:=place_inj (hm _ v0 v1) (hm _ u0 u1) om
    have q1:=na.bl
    have q2:=na.bh
    have q3:=nb.bl
    have q4:=nb.bh
    have el:(ns.getD (a-2).toNat dn0).lo=(ns.getD (b-2).toNat dn0).lo:=ih _ _ ra rb om om fun s=>by
     have f:=node_told ht a2 ha.2 s false
     have g:=node_told ht b2 hb.2 s false
     rw [if_neg (by simp)] at f g
     rw [←f,←g,ev,h]
    have eh:(ns.getD (a-2).toNat dn0).hi=(ns.getD (b-2).toNat dn0).hi:=ih _ _ sa sb om om fun s=>by
     have f:=node_told ht a2 ha.2 s true
     have g:=node_told ht b2 hb.2 s true
     rw [if_pos rfl] at f g
     rw [←f,←g,ev,h]
    have same:ns.getD (a-2).toNat dn0=ns.getD (b-2).toNat dn0:=by
     cases hA:ns.getD (a-2).toNat dn0
     cases hB:ns.getD (b-2).toNat dn0
     rw [hA,hB] at ev el eh
     dsimp only at ev el eh
     rw [ev,el,eh]
    refine Classical.byContradiction fun hne=> ?_
    rcases Nat.lt_or_gt_of_ne (show(a-2).toNat≠(b-2).toNat from fun e=>hne om) with hlt|hlt
    ·refine nb.new ?_
     rw [←same]
     exact take_memN.2 ⟨_,hlt,hia,rfl⟩
    ·refine na.new ?_
     rw [same]
     exact take_memN.2 ⟨_,hlt,hib,rfl⟩
   ·have b2:b<2:=by
     refine Classical.byContradiction fun hc=> ?_
     have h1:=lv_lt ht hb om
     have h3:lvZ o ns a=o.length:=by unfold lvZ;rw [if_pos om]
     omega
    have:=h 0
    rw [evalD_leaf om,evalD_leaf om] at this
    unfold RefOk at ha hb
    have e:decide (a=1)=decide (b=1):=by simpa using this
    rw [decide_eq_decide] at e
    omega
  ·exfalso
   rcases Int.lt_or_gt_of_ne hl with hlt|hlt
   ·refine below a b ha hb la ?_ hlt h
    refine Classical.byContradiction fun hc=> ?_
    have h3:lvZ o ns a=o.length:=by unfold lvZ;rw [if_pos om]
    have:=lv_le (o:=o) (ns:=ns) (r:=b)
    omega
   ·refine below b a hb ha lb ?_ hlt fun s=>(h s).symm
    refine Classical.byContradiction fun hc=> ?_
    have h3:lvZ o ns b=o.length:=by unfold lvZ;rw [if_pos om]
    have:=lv_le (o:=o) (ns:=ns) (r:=a)
    omega
end Go.PN
namespace Go.PN
open Go.AI
def natL (n:Nat):List Int:=(List.range n).map fun(i:Nat)=>(i:Int)
theorem natL_len (n:Nat):(natL n).length=n:=by simp [natL]
theorem natL_perm (n:Nat):Perm0 (natL n):=by
 refine⟨fun x hx=> ?_,?_⟩
 ·unfold natL at hx
  obtain⟨i,hi,rfl⟩:=List.mem_map.1 hx
  rw [List.mem_range] at hi
  rw [natL_len]
  omega
 ·exact List.Pairwise.map _ (fun a b h e=>h om) List.nodup_range
theorem ints_extZ {xs ys:List Int} (hl:xs.length=ys.length) (h:∀j,j<xs.length→xs.getD j 0=ys.getD j 0):xs=ys:=by
 apply List.ext_getElem hl
 intro i h1 h2
 have:=h i h1
 rw [List.getD_eq_getElem?_getD,List.getD_eq_getElem?_getD,List.getElem?_eq_getElem h1,List.getElem?_eq_getElem h2] at this
 exact this
theorem natL_end {zs:List Int} {n:Nat} (hl:zs.length=n) (h:∀j,j<n→zs.getD j 0=j):zs=natL n:=by
 refine ints_extZ (by rw [hl,natL_len]) fun j hj=> ?_
 rw [h j om]
 unfold natL
 rw [List.getD_eq_getElem?_getD,List.getElem?_map,List.getElem?_range om];rfl
end Go.PN
namespace Go.Proofs.YtfcnbgmclfkfcaaGreat
open Go.AI Go.PN
attribute [local irreducible] aw Fa Fh DrK
theorem canon1 {o:List Int} {ns:List DN} (hm:∀v:Int,0≤v→v<o.length→v∈o) (ht:TabOk o ns) {r:Int} (hr:RefOk ns r):r=1↔∀s,evalD ns s r=true:=by
 constructor
 ·rintro rfl s;exact ev1
 ·intro h
  have h1:RefOk ns 1:=ref1
  exact tab_canon hm ht o.length r 1 hr h1 (by have:=lv3_nonneg hm ht hr;omega) (by have:=lv3_nonneg hm ht h1;omega) fun s=>by rw [h s,ev1]
set_option maxHeartbeats 800000 in
theorem natural_fa (n:Nat) (hn:n≤24):Fa Tryz.prog 233 [.c (.int .i64 n)] (.c (is true (natL n))):=by
 refine fa_of_body Tryz.func233 rfl rfl (by simp [Tryz.ntmps233]) fun C hC=> ?_
 simp only [initS,Nat.reduceAdd]
 refine xG ?_
 refine aw_make (n:=n) (c:=n) (size:=1) (z:=[.int .i64 0]) rfl rfl rfl eE eE rfl om eE eE rfl rfl om om om fun g hg=> ?_
 rw [make_is n]
 refine xSG ?_
 refine aw_lp (fun x:Nat×List Int=>[(3,.c (.osl g 1 0 n)),(8,.c (.int .i64 n)),(9,.c (.int .i64 x.1))]) (fun x=>[(g,.cells 3 n (isF x.2))])
  (fun x=>x.1≤n∧x.2.length=n∧∀k,k<x.1→x.2.getD k 0=k) (fun x=>n-x.1) (0,List.replicate n 0) eB zZ ⟨Nat.zero_le _,by simp,fun k hk=>by omega⟩ ?_
 rintro ⟨i,zs⟩ ⟨hi,hzl,hz⟩
 dsimp only at hi hzl hz⊢
 refine xG ?_
 refine xF (fun hb1=>?_) fun hb1=>?_
 ·have hin:i<n:=dT hb1
  refine xG ?_
  refine xW ?_
  refine xS ?_
  rw [updF_is om]
  refine xG ?_
  refine aw_stop ⟨(i+1,zs.set i i),by dsimp only;omega,eB,zZ,by dsimp only;omega,by simpa using hzl,fun k hk=> ?_⟩
  dsimp only at hk⊢
  by_cases hki:k=i
  ·subst hki;exact getZset om
  ·rw [getZset' hki];exact hz k om
 ·have hin:i=n:=dF hb1
  subst hin
  refine xGT hC ?_
  rw [←natL_end hzl hz]
  exact .one (.c (ler_oslis eE hzl.symm))
set_option maxHeartbeats 800000 in
theorem Natural_fa (n:Nat) (hn:n≤24):Fa Tryz.prog 214 [.c (.int .i64 n)] (.tup [.c (is true (natL n)),.c .nilI]):=by
 have z1:decide ((n:Int)<0)=false:=decide_eq_false om
 have z2:decide ((n:Int)>24)=false:=decide_eq_false om
 refine fa_of_body Tryz.func214 rfl rfl (by simp [Tryz.ntmps214]) fun C hC=> ?_
 simp only [initS,Nat.reduceAdd]
 have J1:=oj z1 z2
 refine yGNG J1 ?_
 refine yC J1 (natural_fa n hn) ?_
 refine yGT hC J1 ?_
 exact .tup ⟨.c ler_is,.c .nilI,trivial⟩
set_option maxRecDepth 100000 in
set_option maxHeartbeats 3200000 in
theorem cnatural_fh (d:DG) (h0:dcode d=0) (h12:d.order.length≤12):Fh Tryz.prog 193 [] [.agg (dgc false d)] (fun x h=>∃gT gU gM og ns mm r,TS (natL d.order.length) og ns mm∧RefOk ns r∧(∀s,evalD ns s r=evalD d.nodes s d.root)∧ns.length≤4096*2^(d.order.length+1)∧x=.tup [.c (.optr gT 0),.c (.int .i64 r),.c .nilI]∧h=THp gT gU gM og (natL d.order.length) (placesL (natL d.order.length)) ns mm):=by
 have ok:=dg_ok h0
 have k1:=ok.n4096
 have hod:OdOk (natL d.order.length) (placesL (natL d.order.length)):=⟨natL_perm _,pl_ok (natL_perm _),by rw [natL_len];omega⟩
 have hol:=natL_len d.order.length
 have hp:2^(d.order.length+1)≤2^13:=Nat.pow_le_pow_right om om
 have hm:=Nat.mul_le_mul k1 hp
 have hm2:=Nat.mul_le_mul_right (2^(d.order.length+1)) k1
 have z0:=ieq_t h0
 have ts0:TS (natL d.order.length) none [] []:=⟨fun _=>rfl,fun i hi=>absurd hi (Nat.not_lt_zero _),fun e he=>absurd he List.not_mem_nil⟩
 refine fh_of_body Tryz.func193 rfl rfl (by simp [Tryz.ntmps193]) fun C hC=> ?_
 simp only [initS,Nat.reduceAdd]
 refine yG z0 ?_
 refine yB z0 fun g1 hn_g1=>?_
 have J1:=oj z0 hn_g1
 refine yG J1 ?_
 refine aw_callq (dcheck_fa d om om) rfl rfl rfl (zL J1) ?_
 refine ySGNG J1 ?_
 refine aw_callq (Natural_fa d.order.length om) rfl rfl rfl (zL J1) ?_
 refine ySGNG J1 ?_
 generalize natL d.order.length=o at*
 refine aw_callh (hc:=[]) (hr:=[(g1,.cells 55 3 (ofL (dgc false d)))]) (new_fh o hod.perm hod.l24) rfl rfl rfl (.refl _) (zL J1) ?_
 rintro _ _ ⟨gT,gU,gM,rfl,rfl⟩ hfr
 refine yS J1 ?_
 refine aw_perm List.perm_append_comm ?_
 refine ySG J1 ?_
 refine aw_perm (h':=THp gT gU gM none o (placesL o) [] []++[(g1,.cells 55 3 (ofL (dgc false d)))]) (List.perm_append_comm (l₁:=[(g1,_)])) ?_
 refine aw_callh (translate_fh gT gU gM d ok hod hol ts0 (by rw [hol];simp only [List.length_nil];omega)) rfl rfl rfl (.refl _) (zL J1) ?_
 rintro _ _ ⟨og1,ns1,mm1,r1,s1,l1,p1,f1,rfl,rfl⟩ _
 have n1:=l1.len
 rw [hol] at n1
 simp only [List.length_nil] at n1
 refine ySG J1 ?_
 refine aw_rethw (h':=THp gT gU gM og1 o (placesL o) ns1 mm1) rfl (List.sublist_append_left _ _) (fun R hR=> ?_)
 simp only [go_sem,z0,hn_g1]
 refine hR _ rfl ?_
 clear hR R
 exact⟨gT,gU,gM,og1,ns1,mm1,r1,s1,p1,f1,by omega,rfl,rfl⟩
def monoN (n:Nat):Nat:=2*(2^n*2^(n+1))+2^(n+1)
set_option maxRecDepth 100000 in
set_option maxHeartbeats 3200000 in
theorem monotone_fh (gT gU gM:Nat) {o pl:List Int} (ho:OdOk o pl) {og:Option Nat} {ns:List DN} {mm:Mem3} (hs:TS o og ns mm) (hn:ns.length+o.length*monoN o.length≤1000000000) {r:Int} (hr:RefOk ns r):
 Fh Tryz.prog 194 (THp gT gU gM og o pl ns mm) [.c (.optr gT 0),.c (.int .i64 r),.c (.int .i64 o.length)] (fun x h=>∃b og' ns' mm',(b=true↔MonoF o.length fun s=>evalD ns s r)∧TS o og' ns' mm'∧Later o ns ns' (o.length*monoN o.length)∧x=.c (.bool b)∧h=THp gT gU gM og' o pl ns' mm'):=by
 have l24:=ho.l24
 have hB:0<2^(o.length+1):=Nat.pow_pos om
 refine fh_of_body Tryz.func194 rfl rfl (by simp [Tryz.ntmps194]) fun C hC=> ?_
 simp only [initS,Nat.reduceAdd]
 refine xG ?_
 refine aw_lp (fun x:Nat×Option Nat×List DN×Mem3=>[(0,.c (.optr gT 0)),(1,.c (.int .i64 r)),(8,.c (.int .i64 o.length)),(9,.c (.int .i64 x.1))]) (fun x=>THp gT gU gM x.2.1 o pl x.2.2.1 x.2.2.2)
  (fun x=>x.1≤o.length∧TS o x.2.1 x.2.2.1 x.2.2.2∧Later o ns x.2.2.1 (x.1*monoN o.length)∧∀j,j<x.1→∀s,evalD ns (setB s j false) r=true→evalD ns (setB s j true) r=true) (fun x=>o.length-x.1) (0,og,ns,mm) eB zZ ⟨Nat.zero_le _,hs,Later.refl hs.tab _,fun j hj=>by omega⟩ ?_
 rintro ⟨i,og0,ns0,mm0⟩ ⟨hi,hs0,hl0,hm0⟩
 dsimp only at hi hs0 hl0 hm0⊢
 have hln:=hl0.len
 refine xG ?_
 refine xF (fun hb1=>?_) fun hb1=>?_
 ·have hin:i<o.length:=dT hb1
  have hst:(i+1)*monoN o.length=i*monoN o.length+monoN o.length:=by rw [Nat.add_mul,Nat.one_mul]
  have hle:(i+1)*monoN o.length≤o.length*monoN o.length:=Nat.mul_le_mul_right _ hin
  have hmn:monoN o.length=2*(2^o.length*2^(o.length+1))+2^(o.length+1):=rfl
  have hr0:=hl0.ref hr
  refine xG ?_
  refine aw_callh (hr:=[]) (restrict_fh gT gU gM ho hin hs0 om hr0 false) rfl rfl rfl (by rw [List.append_nil]) eL ?_
  rintro _ _ ⟨og1,ns1,mm1,r1,s1,l1,q1,f1,rfl,rfl⟩ _
  rw [List.append_nil]
  have n1:=l1.len
  refine xSG ?_
  refine aw_callh (hr:=[]) (restrict_fh gT gU gM ho hin s1 om (l1.ref hr0) true) rfl rfl rfl (by rw [List.append_nil]) eL ?_
  rintro _ _ ⟨og2,ns2,mm2,r2,s2,l2,q2,f2,rfl,rfl⟩ _
  rw [List.append_nil]
  have n2:=l2.len
  refine xSG ?_
  refine aw_callh (hr:=[]) (choose_fh gT gU gM ho s2 om (l2.ref q1) q2 ref1) rfl rfl rfl (by rw [List.append_nil]) eL ?_
  rintro _ _ ⟨og3,ns3,mm3,r3,s3,l3,q3,f3,rfl,rfl⟩ _
  rw [List.append_nil]
  have n3:=l3.len
  have lat:Later o ns ns3 ((i+1)*monoN o.length):=((hl0.trans l1 (Nat.le_refl _)).trans l2 (Nat.le_refl _)).trans l3 om
  have hsem:∀s,evalD ns3 s r3=if evalD ns (setB s i false) r then evalD ns (setB s i true) r else true:=fun s=>by
   have a1:evalD ns2 s r1=evalD ns (setB s i false) r:=by rw [l2.eval s1.tab q1,f1 s];dsimp only;rw [hl0.eval hs.tab hr]
   have a2:evalD ns2 s r2=evalD ns (setB s i true) r:=by rw [f2 s];dsimp only;rw [l1.eval hs0.tab hr0,hl0.eval hs.tab hr]
   rw [f3 s]
   dsimp only
   rw [a1,a2,ev1]
  have hc:=canon1 ho.mem s3.tab q3
  refine xSG ?_
  refine xF (fun hb2=>?_) fun hb2=>?_
  ·have hne:¬r3=1:=by simpa using hb2
   refine xGU ?_
   refine⟨false,og3,ns3,mm3,⟨fun h=>(Bool.false_ne_true h).elim,fun hmono=> ?_⟩,s3,⟨lat.tab,lat.pre,by have:=lat.len;omega⟩,rfl,rfl⟩
   refine absurd (hc.2 fun s=> ?_) hne
   rw [hsem s]
   split
   ·rename_i h;exact hmono i hin s h
   ·rfl
  ·have heq:r3=1:=by simpa using hb2
   have hall:=hc.1 heq
   refine xG ?_
   refine aw_stop ⟨(i+1,og3,ns3,mm3),by dsimp only;omega,eB,zZ,by dsimp only;omega,s3,lat,fun j hj s h=> ?_⟩
   by_cases hji:j=i
   ·subst hji
    have:=hall s
    rw [hsem s,if_pos h] at this
    exact this
   ·exact hm0 j (by dsimp only at hj;omega) s h
 ·have hin:i=o.length:=dF hb1
  subst hin
  refine xGU ?_
  exact⟨true,og0,ns0,mm0,⟨fun _=>hm0,fun _=>rfl⟩,hs0,hl0,rfl,rfl⟩
end Go.Proofs.YtfcnbgmclfkfcaaGreat
namespace Go.PN
open Go.AI Go.Proofs.YtfcnbgmclfkfcaaGreat
theorem sub_le {t s:Nat} (h:SubN t s):t≤s:=by
 have:t&&&s=t:=Nat.eq_of_testBit_eq fun j=>by
  rw [Nat.testBit_and]
  cases ht:t.testBit j
  ·rfl
  ·rw [h j ht];rfl
 rw [←this]
 exact Nat.and_le_right
theorem sub_trans {a b c:Nat} (h:SubN a b) (k:SubN b c):SubN a c:=fun j hj=>k j (h j hj)
theorem sub_refl (a:Nat):SubN a a:=fun _ h=>h
def MonS (f:Nat→Bool):Prop:=∀s t,SubN s t→f s=true→f t=true
def mixN (k s t:Nat):Nat:=t%2^k|||highN k s
theorem mix_bit (k s t j:Nat):(mixN k s t).testBit j=if j<k then t.testBit j else s.testBit j:=by
 unfold mixN
 rw [Nat.testBit_or,high_bit,Nat.testBit_mod_two_pow]
 by_cases h:j<k
 ·rw [if_pos h,decide_eq_true h,decide_eq_false (by omega:¬k≤j)];simp
 ·rw [if_neg h,decide_eq_false h,decide_eq_true (by omega:k≤j)];simp
theorem monS_of {n:Nat} {f:Nat→Bool} (hm:MonoF n f) (hi:∀s t:Nat,(∀j:Nat,j<n→s.testBit j=t.testBit j)→f s=f t):MonS f:=by
 intro s t hst hs
 have key:∀k,k≤n→f (mixN k s t)=true:=by
  intro k
  induction k with
  |zero=>
   intro _
   have:mixN 0 s t=s:=Nat.eq_of_testBit_eq fun j=>by rw [mix_bit,if_neg om]
   rw [this];exact hs
  |succ k ih=>
   intro hk
   have h1:=ih om
   by_cases hb:(mixN k s t).testBit k=(mixN (k+1) s t).testBit k
   ·have:mixN (k+1) s t=mixN k s t:=Nat.eq_of_testBit_eq fun j=>by
     by_cases e:j=k
     ·subst e;exact hb.symm
     ·rw [mix_bit,mix_bit]
      by_cases hj:j<k
      ·rw [if_pos hj,if_pos om]
      ·rw [if_neg hj,if_neg om]
    rw [this];exact h1
   ·rw [mix_bit,mix_bit,if_neg om,if_pos om] at hb
    have hsk:s.testBit k=false:=by
     cases h:s.testBit k
     ·rfl
     ·rw [h,hst k h] at hb;exact absurd rfl hb
    have htk:t.testBit k=true:=by
     cases h:t.testBit k
     ·rw [hsk,h] at hb;exact absurd rfl hb
     ·rfl
    have e1:mixN k s t=setB (mixN k s t) k false:=Nat.eq_of_testBit_eq fun j=>by
     rw [setB_bit]
     split
     ·rename_i e;subst e;rw [mix_bit,if_neg om,hsk]
     ·rfl
    have e2:mixN (k+1) s t=setB (mixN k s t) k true:=Nat.eq_of_testBit_eq fun j=>by
     rw [setB_bit]
     split
     ·rename_i e;subst e;rw [mix_bit,if_pos om,htk]
     ·rw [mix_bit,mix_bit]
      by_cases hj:j<k
      ·rw [if_pos hj,if_pos om]
      ·rw [if_neg hj,if_neg om]
    rw [e2]
    exact hm k om _ (by rw [←e1];exact h1)
 rw [←key n (Nat.le_refl n)]
 exact hi _ _ fun j hj=>by rw [mix_bit,if_pos hj]
def MinT (f:Nat→Bool) (s:Nat):Prop:=f s=true∧∀t,SubN t s→f t=true→t=s
theorem min_ex {f:Nat→Bool}:∀(s:Nat),f s=true→∃t,SubN t s∧MinT f t:=by
 intro s
 induction s using Nat.strongRecOn with
 |ind s ih=>
  intro hs
  by_cases h:∃t,SubN t s∧f t=true∧t≠s
  ·obtain⟨t,t1,t2,t3⟩:=h
   obtain⟨u,u1,u2⟩:=ih t (by have:=sub_le t1;omega) t2
   exact⟨u,sub_trans u1 t1,u2⟩
  ·exact⟨s,sub_refl s,hs,fun t h1 h2=>Classical.byContradiction fun h3=>h ⟨t,h1,h2,h3⟩⟩
structure SolP (n:Nat) (o:List Int) (dns ns:List DN) (r x:Int):Prop where
 rr:RefOk dns r
 rx:RefOk ns x
 lv:lvZ o dns r≤evZ n ns x
 sem:∀s,memZ ns x s=true↔MinT (fun s=>evalD dns s r) s
theorem SolP.later {n:Nat} {o:List Int} {dns a b:List DN} {r x:Int} {k:Nat} (h:SolP n o dns a r x) (ha:ZTab n a) (l:ZLat n a b k):SolP n o dns b r x:=
 ⟨h.rr,l.ref h.rx,by rw [l.ev h.rx];exact h.lv,fun s=>by rw [l.mem ha h.rx];exact h.sem s⟩
theorem SolP.hit {n:Nat} {o:List Int} {dns ns:List DN} {r x:Int} (ht:ZTab n ns) (h:SolP n o dns ns r x) (hm:MonS fun s=>evalD dns s r) (s:Nat):hitZ ns x s=true↔evalD dns s r=true:=by
 rw [hit_iff ht x h.rx]
 constructor
 ·rintro ⟨t,t1,t2⟩
  exact hm t s t1 ((h.sem t).1 t2).1
 ·intro hs
  obtain⟨t,t1,t2⟩:=min_ex (f:=fun s=>evalD dns s r) s hs
  exact⟨t,t1,(h.sem t).2 t2⟩
theorem sub_zero {t:Nat} (h:SubN t 0):t=0:=by have:=sub_le h;omega
theorem zero_sub (s:Nat):SubN 0 s:=fun j hj=>by simp at hj
theorem sol_leaf {n:Nat} {o:List Int} (ho:o.length=n) {dns ns:List DN} {r:Int} (h0:0≤r) (h1:r<2):SolP n o dns ns r r:=by
 refine⟨⟨h0,by omega⟩,⟨h0,by omega⟩,by rw [ev_leaf h1];have:=lv_le (o:=o) (ns:=dns) (r:=r);omega,fun s=> ?_⟩
 have e:∀s,evalD dns s r=decide (r=1):=fun s=>evalD_leaf om
 rw [mem_leaf om]
 unfold MinT
 simp only [e]
 by_cases hr:r=1
 ·subst hr
  simp only [decide_true,Bool.true_and,decide_eq_true_eq,true_and]
  constructor
  ·rintro rfl
   exact fun t ht _=>sub_zero ht
  ·intro h
   exact(h 0 (zero_sub s) trivial).symm
 ·simp [hr]
theorem place_natL {n:Nat} {v:Int} (h0:0≤v) (h1:v<n):placeZ (natL n) v=v:=by
 have:=place_get (natL_perm n).nodup (k:=v.toNat) (by rw [natL_len];omega)
 have e:(natL n).getD v.toNat 0=v:=by
  rw [getDZ (by rw [natL_len];omega)]
  simp [natL]
  omega
 rw [e] at this
 omega
theorem setB_xor {s v:Nat} (h:s.testBit v=true):setB s v false=s^^^2^v:=by
 unfold setB
 rw [if_neg (by rw [h];simp)]
theorem sub_setB {s t:Nat} (h:SubN s t) (v:Nat) (b:Bool):SubN (setB s v b) (setB t v b):=fun j hj=>by
 rw [setB_bit] at hj⊢
 split
 ·rename_i e;rw [if_pos e] at hj;exact hj
 ·rename_i e;rw [if_neg e] at hj;exact h j hj
theorem min_step {f f0 f1:Nat→Bool} {v:Nat} (hf:∀s,f s=if s.testBit v then f1 s else f0 s) (h0:∀s b,f0 (setB s v b)=f0 s) (h1:∀s b,f1 (setB s v b)=f1 s) (hm:MonS f) (s:Nat):
 MinT f s↔if s.testBit v then MinT f1 (s^^^2^v)∧¬f0 (s^^^2^v)=true else MinT f0 s:=by
 have m0:MonS f0:=fun a b hab ha=>by
  have:=hm _ _ (sub_setB hab v false) (by rw [hf,setB_bit,if_pos rfl,if_neg (by simp),h0];exact ha)
  rwa [hf,setB_bit,if_pos rfl,if_neg (by simp),h0] at this
 cases hs:s.testBit v
 ·rw [if_neg (by simp)]
  have key:∀t,SubN t s→f t=f0 t:=fun t ht=>by
   rw [hf,if_neg]
   intro hb
   have:=ht v hb
   rw [hs] at this
   cases this
  unfold MinT
  rw [key s (sub_refl s)]
  constructor
  ·rintro ⟨a,b⟩;exact⟨a,fun t t1 t2=>b t t1 (by rw [key t t1];exact t2)⟩
  ·rintro ⟨a,b⟩;exact⟨a,fun t t1 t2=>b t t1 (by rw [←key t t1];exact t2)⟩
 ·rw [if_pos rfl]
  have hx:s^^^2^v=setB s v false:=(setB_xor hs).symm
  rw [hx]
  have hoff:(setB s v false).testBit v=false:=by rw [setB_bit,if_pos rfl]
  have hsub:SubN (setB s v false) s:=fun j hj=>by
   rw [setB_bit] at hj
   split at hj
   ·cases hj
   ·exact hj
  have hon:setB (setB s v false) v true=s:=Nat.eq_of_testBit_eq fun j=>by
   rw [setB_bit,setB_bit]
   by_cases e:j=v
   ·subst e;rw [if_pos rfl,hs]
   ·rw [if_neg e,if_neg e]
  constructor
  ·rintro ⟨a,b⟩
   rw [hf,hs,if_pos rfl] at a
   refine⟨⟨by rw [h1];exact a,fun t t1 t2=> ?_⟩,fun hc=> ?_⟩
   ·have tv:t.testBit v=false:=by
     cases h:t.testBit v
     ·rfl
     ·have:=t1 v h;rw [hoff] at this;cases this
    have:=b (setB t v true) (by have:=sub_setB t1 v true;rwa [hon] at this) (by rw [hf,setB_bit,if_pos rfl,if_pos rfl,h1];exact t2)
    rw [←this]
    refine Nat.eq_of_testBit_eq fun j=> ?_
    rw [setB_bit,setB_bit]
    by_cases e:j=v
    ·subst e;rw [if_pos rfl,tv]
    ·rw [if_neg e,if_neg e]
   ·have:=b (setB s v false) hsub (by rw [hf,hoff,if_neg (by simp)];exact hc)
    rw [this,hs] at hoff
    cases hoff
  ·rintro ⟨⟨a,b⟩,c⟩
   rw [h1] at a
   refine⟨by rw [hf,hs,if_pos rfl];exact a,fun t t1 t2=> ?_⟩
   rw [hf] at t2
   cases htv:t.testBit v
   ·rw [htv,if_neg (by simp)] at t2
    exfalso
    refine c (m0 t _ (fun j hj=> ?_) t2)
    rw [setB_bit]
    split
    ·rename_i e;subst e;rw [htv] at hj;cases hj
    ·exact t1 j hj
   ·rw [htv,if_pos rfl] at t2
    have:=b (setB t v false) (sub_setB t1 v false) (by rw [h1];exact t2)
    rw [←hon,←this]
    refine Nat.eq_of_testBit_eq fun j=> ?_
    rw [setB_bit,setB_bit]
    by_cases e:j=v
    ·subst e;rw [if_pos rfl,htv]
    ·rw [if_neg e,if_neg e]
theorem mon_kids {n:Nat} {dns:List DN} (ht:TabOk (natL n) dns) {r:Int} (h2:2≤r) (hr:RefOk dns r):
 (∀s,evalD dns s r=if s.testBit (dns.getD (r-2).toNat dn0).v.toNat then evalD dns s (dns.getD (r-2).toNat dn0).hi else evalD dns s (dns.getD (r-2).toNat dn0).lo)∧
 (∀s b,evalD dns (setB s (dns.getD (r-2).toNat dn0).v.toNat b) (dns.getD (r-2).toNat dn0).lo=evalD dns s (dns.getD (r-2).toNat dn0).lo)∧
 (∀s b,evalD dns (setB s (dns.getD (r-2).toNat dn0).v.toNat b) (dns.getD (r-2).toNat dn0).hi=evalD dns s (dns.getD (r-2).toNat dn0).hi):=by
 have hi:(r-2).toNat<dns.length:=by unfold RefOk at hr;omega
 obtain⟨kl,kh⟩:=kids_ref ht hi
 have nd:=ht _ hi
 have nk:=nd.nk
 obtain⟨v0,v1,_⟩:=nk
 have hvv:(((dns.getD (r-2).toNat dn0).v.toNat:Nat):Int)=(dns.getD (r-2).toNat dn0).v:=by omega
 refine⟨fun s=> ?_,fun s b=>setB_indep ht kl (by rw [hvv];exact nd.bl) s b,fun s b=>setB_indep ht kh (by rw [hvv];exact nd.bh) s b⟩
 have:=eval_node ht hi (v:=(dns.getD (r-2).toNat dn0).v) (lo:=(dns.getD (r-2).toNat dn0).lo) (hi':=(dns.getD (r-2).toNat dn0).hi) rfl s
 rwa [show(2:Int)+(((r-2).toNat:Nat):Int)=r from by omega] at this
theorem mon_sub {f f0 f1:Nat→Bool} {v:Nat} (hf:∀s,f s=if s.testBit v then f1 s else f0 s) (h0:∀s b,f0 (setB s v b)=f0 s) (h1:∀s b,f1 (setB s v b)=f1 s) (hm:MonS f):MonS f0∧MonS f1:=
 ⟨fun a b hab ha=>by
  have:=hm _ _ (sub_setB hab v false) (by rw [hf,setB_bit,if_pos rfl,if_neg (by simp),h0];exact ha)
  rwa [hf,setB_bit,if_pos rfl,if_neg (by simp),h0] at this,fun a b hab ha=>by
  have:=hm _ _ (sub_setB hab v true) (by rw [hf,setB_bit,if_pos rfl,if_pos rfl,h1];exact ha)
  rwa [hf,setB_bit,if_pos rfl,if_pos rfl,h1] at this⟩
theorem sol_step {n:Nat} {dns n1 n2 n3:List DN} {k2 k3:Nat} (ht:TabOk (natL n) dns) {r xl xh w:Int} (h2:2≤r) (hr:RefOk dns r) (hm:MonS fun s=>evalD dns s r) (t1:ZTab n n1)
 (sl:SolP n (natL n) dns n1 (dns.getD (r-2).toNat dn0).lo xl) (l2:ZLat n n1 n2 k2) (sh:SolP n (natL n) dns n2 (dns.getD (r-2).toNat dn0).hi xh) (l3:ZLat n n2 n3 k3) (wk:WOk n n3 xh xl w):
 ZLat n n3 (mkZ n3 (dns.getD (r-2).toNat dn0).v xl w).1 1∧SolP n (natL n) dns (mkZ n3 (dns.getD (r-2).toNat dn0).v xl w).1 r (mkZ n3 (dns.getD (r-2).toNat dn0).v xl w).2:=by
 have hi:(r-2).toNat<dns.length:=by unfold RefOk at hr;omega
 have nd:=ht _ hi
 obtain⟨v0,v1,_⟩:=nd.nk
 rw [natL_len] at v1
 have hpl:=place_natL v0 v1
 have bl:=nd.bl
 have bh:=nd.bh
 rw [hpl] at bl bh
 obtain⟨e1,e2,e3⟩:=mon_kids ht h2 hr
 obtain⟨m0,m1⟩:=mon_sub e1 e2 e3 hm
 have ms:=min_step e1 e2 e3 hm
 have hlr:lvZ (natL n) dns r=(dns.getD (r-2).toNat dn0).v:=by unfold lvZ;rw [if_neg om];exact hpl
 generalize (dns.getD (r-2).toNat dn0).v=v at*
 generalize (dns.getD (r-2).toNat dn0).lo=lo at*
 generalize (dns.getD (r-2).toNat dn0).hi=hi' at*
 have s1:=(sl.later t1 l2).later l2.tab l3
 have s2:=sh.later l2.tab l3
 have ex:v<evZ n n3 xl:=by have:=s1.lv;omega
 have ew:v<evZ n n3 w:=by have:=wk.ev;have:=s1.lv;have:=s2.lv;omega
 obtain⟨q1,q2,q3,q4⟩:=mkZ_ok l3.tab v0 v1 s1.rx wk.pr ex ew
 refine⟨q1,hr,q2,by omega,fun s=> ?_⟩
 rw [q4,ms s]
 split
 ·rw [wk.sem]
  have a1:=s2.sem (s^^^2^v.toNat)
  have a2:=s1.hit l3.tab m0 (s^^^2^v.toNat)
  rw [Bool.and_eq_true,a1,Bool.not_eq_true',←Bool.not_eq_true,a2]
 ·exact s1.sem s
end Go.PN
