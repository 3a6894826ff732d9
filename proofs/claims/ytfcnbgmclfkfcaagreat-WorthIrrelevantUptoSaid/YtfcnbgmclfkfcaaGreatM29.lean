/- Parts of one proof, laid by a program. -/
import Derived.Test.YtfcnbgmclfkfcaaGreatM00
import Derived.Test.YtfcnbgmclfkfcaaGreatM27
import Derived.Test.YtfcnbgmclfkfcaaGreatM28
set_option linter.unusedSimpArgs false
set_option linter.unusedVariables false
namespace Go.Proofs.YtfcnbgmclfkfcaaGreat
open Go.AI Go.PN
attribute [local irreducible] aw Fa Fh DrK
structure Same (f f':FM):Prop where
 ok:FrOk f'
 vars:f'.vars=f.vars
 val:∀s,valF f' s f'.top=valF f s f.top
theorem same_trim {f:FM} (ok:FrOk f):Same f (trimF f):=⟨trim_ok ok,rfl,trim_top ok⟩
theorem same_nil {f:FM} (ok:FrOk f) (h:szTo f f.nodes.length=0):Same f ⟨f.vars,[],f.top⟩:=by
 have ht:=sz_zero ok h
 refine⟨⟨ok.v0,ok.v24,by simp,fun i hi=> ?_,fun i hi=> ?_,fun i hi=> ?_,fun i hi=> ?_,ok.t0,by simpa using ht⟩,rfl,fun s=> ?_⟩
 ·exact absurd hi (by simp)
 ·exact absurd hi (by simp)
 ·exact absurd hi (by simp)
 ·exact absurd hi (by simp)
 ·rw [val_event (f:=f) ht]
  exact val_event (f:=⟨f.vars,[],f.top⟩) ht
structure RefsOk (f:FM) (n:Nat) (ns:List DN) (zs:List Int) (b:Nat):Prop where
 len:zs.length=n
 at':∀a,a<b→RefOk ns (zs.getD a 0)∧∀s,evalD ns s (zs.getD a 0)=valF f s a
theorem refs_step {o:List Int} {f:FM} {n m b:Nat} {ns ns':List DN} {zs:List Int} (ht:TabOk o ns) (h:RefsOk f n ns zs b) (hl:Later o ns ns' m) (hb:b<n) {r:Int} (hr:RefOk ns' r) (hv:∀s,evalD ns' s r=valF f s b):RefsOk f n ns' (zs.set b r) (b+1):=by
 have hz:=h.len
 refine⟨by rw [List.length_set];exact hz,fun a ha=> ?_⟩
 by_cases e:a=b
 ·subst e
  rw [getZset om]
  exact⟨hr,hv⟩
 ·rw [getZset' e]
  obtain⟨h1,h2⟩:=h.at' a om
  exact⟨hl.ref h1,fun s=>by rw [hl.eval ht h1,h2 s]⟩
set_option maxRecDepth 100000 in
set_option maxHeartbeats 12800000 in
theorem build_fh (f:FM) (hn:f.nodes.length≤1099511627776) (ha:ArgsOk f) (hc:fcode f=0) (o:List Int) (ho:ocode o o.length=0) (hol:o.length=f.vars.toNat) (h12:o.length≤12):Fh Tryz.prog 32 [] [.agg (fmc false f),.c (is false o)] (fun x h=>h=[]∧∃D,DOut o (fun s=>valF f s f.top) D∧x=.tup [.agg (dgc true D),.c .nilI]):=by
 have ok:=fr_ok hc
 have v0:=ok.v0
 have v24:=ok.v24
 have n128:=ok.n128
 have hov:ocode o f.vars=0:=by rw [show f.vars=(o.length:Int) from by omega];exact ho
 have z:=ieq_t hov
 have hsz:=szTo_le f f.nodes.length
 refine fh_of_body Tryz.func32 rfl rfl (by simp [Tryz.ntmps32]) fun C hC=> ?_
 simp only [initS,Nat.reduceAdd]
 refine yG z ?_
 refine yB z fun g2 hn_g2=>?_
 refine yG (oj z hn_g2) ?_
 refine yA (oj z hn_g2) fun g4 hn_g4=>?_
 have J1:=oj z (oj hn_g2 hn_g4)
 refine yG J1 ?_
 refine aw_callq (fsize_fa f hn ha hc) rfl rfl rfl (zL J1) ?_
 refine ySGNG J1 ?_
 refine aw_callq (ocheck_fa o f.vars om) rfl rfl rfl (zL J1) ?_
 refine ySGNG J1 ?_
 refine aw_cut (fun f':FM=>[(1,.c (is false o)),(2,.c (.optr g2 0)),(4,.c (.optr g4 0))]) (fun f'=>[(g4,.cells 55 3 (ofL [.nils,.nils,.int .i64 0])),(g2,.cells 24 3 (ofL (fmc true f')))]) (fun f'=>Same f f') ?_ ?_
 ·refine yF J1 (fun hs=>?_) fun hs=>?_
  ·refine yG J1 ?_
   refine aw_callh (hc:=[]) (hr:=[(g4,.cells 55 3 (ofL [.nils,.nils,.int .i64 0])),(g2,.cells 24 3 (ofL (fmc false f)))]) (ftrim_fh f hn ha hc) rfl rfl rfl (.refl _) (zL J1) ?_
   rintro _ _ ⟨rfl,rfl⟩ _
   refine ySGWSG J1 ?_
   refine yN J1 ?_
   refine yG J1 ?_
   exact aw_stop ⟨trimF f,(zB J1),zZ,same_trim ok⟩
  ·have hs0:szTo f f.nodes.length=0:=dF hs
   refine yGWS J1 ?_
   refine aw_perm (List.Perm.swap _ _ _) ?_
   refine aw_frzG (j0:=1) (og:=none) (s:=3) (n:=0) (tp:=106) (fp:=fnsF []) (h:=[(g4,.cells 55 3 (ofL [.nils,.nils,.int .i64 0]))]) (f':=ofL (fmc true ⟨f.vars,[],f.top⟩)) rfl rfl (fun j hj hne=> ?_) (fun _=>rfl) (fun g e=>by cases e) ?_
   ·match j,hj,hne with
    |0,_,_=>rfl
    |1,_,hne=>exact absurd rfl hne
    |2,_,_=>rfl
   refine aw_perm (List.Perm.swap _ _ _) ?_
   refine yG J1 ?_
   exact aw_stop ⟨⟨f.vars,[],f.top⟩,(zB J1),zZ,same_nil ok hs0⟩
 rintro f' ⟨ok',hv',hval⟩
 have hod:OdOk o (placesL o):=⟨(ocode_ok ho).1,pl_ok (ocode_ok ho).1,(ocode_ok ho).2⟩
 have ts0:TS o none [] []:=⟨fun _=>rfl,fun i hi=>absurd hi (Nat.not_lt_zero _),fun e he=>absurd he List.not_mem_nil⟩
 have v0':=ok'.v0
 have n128':=ok'.n128
 have t0':=ok'.t0
 have t1':=ok'.t1
 have hN:f'.vars+(f'.nodes.length:Int)=((o.length+f'.nodes.length:Nat):Int):=by omega
 have hvo:f'.vars=(o.length:Int):=by omega
 clear hsz z hov J1
 refine xG ?_
 refine aw_callh (hc:=[]) (hr:=[(g4,.cells 55 3 (ofL [.nils,.nils,.int .i64 0])),(g2,.cells 24 3 (ofL (fmc true f')))]) (new_fh o hod.perm hod.l24) rfl rfl rfl (.refl _) eL ?_
 rintro _ _ ⟨gT,gU,gM,rfl,rfl⟩ _
 refine yS hN ?_
 refine aw_perm (List.perm_append_comm (l₂:=([(g4,.cells 55 3 (ofL [.nils,.nils,.int .i64 0])),(g2,.cells 24 3 (ofL (fmc true f')))]:Heap))) ?_
 simp only [THp,TH,List.cons_append,List.nil_append]
 refine aw_nd fun hnd=> ?_
 simp only [Heap.keys,List.map_cons] at hnd
 replace hnd:=ndP_of hnd
 dsimp only [ndP,neA] at hnd
 have J2:=oj hN hnd
 refine yG J2 ?_
 refine aw_make (n:=o.length+f'.nodes.length) (c:=o.length+f'.nodes.length) (size:=1) (bytes:=8) (z:=[.int .i64 0]) rfl rfl rfl (zE J2) (zE J2) rfl om (zE J2) (zE J2) om om om om om fun gR hn_gR=> ?_
 clear hn_gR J2
 clear hnd
 simp only [Nat.mul_one]
 rw [make_is]
 refine aw_nd fun hnd=> ?_
 simp only [Heap.keys,List.map_cons] at hnd
 replace hnd:=ndP_of hnd
 dsimp only [ndP,neA] at hnd
 have J3:=oj hnd hvo
 refine ySG J3 ?_
 have hp13:2^(o.length+1)≤2^13:=Nat.pow_le_pow_right om om
 have hp14:2^(o.length+2)≤2^14:=Nat.pow_le_pow_right om om
 have hp12:2^o.length≤2^12:=Nat.pow_le_pow_right om h12
 refine aw_lp (fun y:Nat×Option Nat×List DN×Mem3×List Int=>[(2,.c (.optr g2 0)),(4,.c (.optr g4 0)),(10,.c (.optr gT 0)),(11,.c (.osl gR 1 0 (o.length+f'.nodes.length))),(58,.c (.int .i64 o.length)),(59,.c (.int .i64 y.1))]) (fun y=>(gR,.cells 3 (o.length+f'.nodes.length) (isF y.2.2.2.2))::(g4,.cells 55 3 (ofL [.nils,.nils,.int .i64 0]))::(g2,.cells 24 3 (ofL (fmc true f')))::THp gT gU gM y.2.1 o (placesL o) y.2.2.1 y.2.2.2.1)
  (fun y=>y.1≤o.length∧TS o y.2.1 y.2.2.1 y.2.2.2.1∧y.2.2.1.length≤y.1∧RefsOk f' (o.length+f'.nodes.length) y.2.2.1 y.2.2.2.2 y.1) (fun y=>o.length-y.1) (0,none,[],[],List.replicate (o.length+f'.nodes.length) 0) (zB J3) zZ ⟨Nat.zero_le _,ts0,Nat.le_refl _,⟨List.length_replicate ..,fun a ha=>by omega⟩⟩ ?_
 clear ts0 J3
 rintro ⟨i,og,ns,mm,zs⟩ ⟨hi,hs,hnl,hz⟩
 dsimp only at hi hs hnl hz⊢
 have hzl:=hz.len
 have J4:=oj hnd hvo
 refine yG J4 ?_
 refine yF J4 (fun hb=>?_) fun hb=>?_
 ·have hb':i<o.length:=dT hb
  refine yG J4 ?_
  refine aw_callh (hc:=THp gT gU gM og o (placesL o) ns mm) (hr:=[(gR,.cells 3 (o.length+f'.nodes.length) (isF zs)),(g4,.cells 55 3 (ofL [.nils,.nils,.int .i64 0])),(g2,.cells 24 3 (ofL (fmc true f')))]) (tevent_fh (v:=(i:Int)) gT gU gM hs om om om) rfl rfl rfl (List.perm_append_comm (l₁:=[(gR,_),(g4,_),(g2,_)])) (zL J4) ?_
  rintro _ _ ⟨og1,ns1,mm1,r,e1,e2,e3,e4,rfl,rfl⟩ _
  refine aw_perm List.perm_append_comm ?_
  have he:=e2.len
  have hz2:=refs_step hs.tab hz e2 om e3 (fun s=>by rw [e4 s,val_event om])
  refine yS J4 ?_
  simp only [THp,TH,List.cons_append,List.nil_append]
  refine yGWS J4 ?_
  rw [updF_is om]
  refine yG J4 ?_
  exact aw_stop ⟨(i+1,og1,ns1,mm1,zs.set i r),by dsimp only;omega,(zB J4),zZ,by dsimp only;omega,e1,by dsimp only;omega,hz2⟩
 ·have hb':i=o.length:=dF hb
  subst hb'
  refine yG J4 ?_
  clear hb hzl hi J4
  refine aw_lp (fun y:Nat×Option Nat×List DN×Mem3×List Int=>[(2,.c (.optr g2 0)),(4,.c (.optr g4 0)),(10,.c (.optr gT 0)),(11,.c (.osl gR 1 0 (o.length+f'.nodes.length))),(70,.c (fns true f'.nodes)),(71,.c (.int .i64 f'.nodes.length)),(72,.c (.int .i64 y.1))]) (fun y=>(gR,.cells 3 (o.length+f'.nodes.length) (isF y.2.2.2.2))::(g4,.cells 55 3 (ofL [.nils,.nils,.int .i64 0]))::(g2,.cells 24 3 (ofL (fmc true f')))::THp gT gU gM y.2.1 o (placesL o) y.2.2.1 y.2.2.2.1)
   (fun y=>y.1≤f'.nodes.length∧TS o y.2.1 y.2.2.1 y.2.2.2.1∧y.2.2.1.length≤o.length+y.1*(256*2^(o.length+2))∧RefsOk f' (o.length+f'.nodes.length) y.2.2.1 y.2.2.2.2 (o.length+y.1)) (fun y=>f'.nodes.length-y.1) (0,og,ns,mm,zs) (zB (oj hnd hvo)) zZ ⟨Nat.zero_le _,hs,by dsimp only;rw [Nat.zero_mul];omega,hz⟩ ?_
  clear hs hz hnl og ns mm zs
  rintro ⟨k,og,ns,mm,zs⟩ ⟨hk,hs,hnl,hz⟩
  dsimp only at hk hs hnl hz⊢
  have hzl:=hz.len
  have hW:(k+1)*(256*2^(o.length+2))=k*(256*2^(o.length+2))+256*2^(o.length+2):=Nat.succ_mul ..
  have hW1:k*(256*2^(o.length+2))≤128*(256*2^14):=Nat.mul_le_mul om (Nat.mul_le_mul_left _ hp14)
  have J5:=oj hnd hvo
  refine yG J5 ?_
  refine yF J5 (fun hb=>?_) fun hb=>?_
  ·have hk':k<f'.nodes.length:=dT hb
   refine yG J5 ?_
   refine yA J5 fun g14 hn_g14=>?_
   clear hn_g14 J5
   clear hnd
   refine aw_nd fun hnd=> ?_
   simp only [THp,TH,List.cons_append,List.nil_append] at hnd
   simp only [Heap.keys,List.map_cons] at hnd
   replace hnd:=ndP_of hnd
   dsimp only [ndP,neA] at hnd
   refine yGWS (oj hnd hvo) ?_
   have x1:=ok'.kind k hk'
   have x2:=ok'.ari k hk'
   have x3:=ok'.kc k hk'
   have x4:=ok'.arg k hk'
   have x5:=ok'.len hk'
   have x6:=fun s=>val_node ok' (s:=s) hk'
   generalize hx0:f'.nodes.getD k fn0=x at*
   have J6:=oj hnd (oj hvo hx0)
   refine yG J6 ?_
   refine aw_lp (fun y:Nat×Option Nat=>[(2,.c (.optr g2 0)),(4,.c (.optr g4 0)),(10,.c (.optr gT 0)),(11,.c (.osl gR 1 0 (o.length+f'.nodes.length))),(70,.c (fns true f'.nodes)),(71,.c (.int .i64 f'.nodes.length)),(72,.c (.int .i64 k)),(13,.c (.int .i64 k)),(14,.c (.optr g14 0)),(15,.c (gs y.2 1 y.1)),(78,.c (is true x.args)),(79,.c (.int .i64 x.args.length)),(80,.c (.int .i64 y.1))])
    (fun y=>((g14,.cells 106 3 (ofL [.int .i64 x.kind,.int .i64 x.k,is true x.args]))::(gR,.cells 3 (o.length+f'.nodes.length) (isF zs))::(g4,.cells 55 3 (ofL [.nils,.nils,.int .i64 0]))::(g2,.cells 24 3 (ofL (fmc true f')))::THp gT gU gM og o (placesL o) ns mm)++gh y.2 3 y.1 (isF ((x.args.take y.1).map fun a=>zs.getD a.toNat 0)))
    (fun y=>y.1≤x.args.length∧(y.2=none→y.1=0)) (fun y=>x.args.length-y.1) (0,none) (zB J6) (by
     show List.Sublist (((g14,.cells 106 3 (ofL [.int .i64 x.kind,.int .i64 x.k,is true x.args]))::(gR,.cells 3 (o.length+f'.nodes.length) (isF zs))::(g4,.cells 55 3 (ofL [.nils,.nils,.int .i64 0]))::(g2,.cells 24 3 (ofL (fmc true f')))::THp gT gU gM og o (placesL o) ns mm)++[]) _
     rw [List.append_nil]
     exact List.Sublist.refl _) ⟨Nat.zero_le _,fun _=>rfl⟩ ?_
   rintro ⟨j,oa⟩ ⟨hj,hoa⟩
   dsimp only at hj hoa⊢
   simp only [List.cons_append]
   refine yG J6 ?_
   refine yF J6 (fun h2=>?_) fun h2=>?_
   ·have h2':j<x.args.length:=dT h2
    have ham:x.args.getD j 0∈x.args:=by rw [getDZ h2'];exact List.getElem_mem h2'
    obtain⟨a0,a1⟩:=x4 _ ham
    obtain⟨i2,hi2⟩:=Int.eq_ofNat_of_zero_le a0
    rw [hi2] at a1
    have htk:x.args.take (j+1)=x.args.take j++[x.args.getD j 0]:=by rw [getDZ h2',List.take_succ_eq_append_getElem h2']
    have hlk:((x.args.take j).map fun a=>zs.getD a.toNat 0).length=j:=by rw [List.length_map,List.length_take];omega
    have J7:=oj hnd (oj hvo (oj hx0 hi2))
    refine yG J7 ?_
    refine aw_push (pre:=(g14,.cells 106 3 (ofL [.int .i64 x.kind,.int .i64 x.k,is true x.args]))::(gR,.cells 3 (o.length+f'.nodes.length) (isF zs))::(g4,.cells 55 3 (ofL [.nils,.nils,.int .i64 0]))::(g2,.cells 24 3 (ofL (fmc true f')))::THp gT gU gM og o (placesL o) ns mm) rfl rfl rfl rfl rfl rfl rfl (zE J7) (zE J7) (by rfl) om om (zE J7) om (by exact hoa) (zE J7) (by rfl) (by rfl) (by first|rfl|simp only [Nat.mul_one,List.nil_append,List.cons_append]<;>rfl) (by unfold maxLen;omega) om (by exact is_push hlk (zs.getD i2 0)) fun g hn_g=> ?_
    replace hn_g:=Heap.ne_of hn_g
    first|dsimp only [Heap.ne,gh] at hn_g|dsimp only [Heap.ne] at hn_g|skip
    have J8:=oj hnd (oj hvo (oj hx0 (oj hi2 hn_g)))
    refine ySG J8 ?_
    refine aw_stop ⟨(j+1,some g),by dsimp only;omega,(zB J8),?_,by dsimp only;omega,fun e=>(by cases e)⟩
    dsimp only
    rw [htk,List.map_append,hi2]
    exact List.Sublist.refl _
   ·have h2':j=x.args.length:=dF h2
    subst h2'
    rw [List.take_length]
    have hlm:(x.args.map fun a=>zs.getD a.toNat 0).length=x.args.length:=List.length_map ..
    have hrs:∀r∈x.args.map fun a=>zs.getD a.toNat 0,RefOk ns r:=fun r hr=>by
     obtain⟨a,ha,rfl⟩:=List.mem_map.1 hr
     obtain⟨a0,a1⟩:=x4 a ha
     exact(hz.at' a.toNat om).1
    have hval2:∀s,nodeV (evalD ns s) ⟨x.kind,x.k,x.args.map fun a=>zs.getD a.toNat 0⟩=valF f' s ((o.length+k:Nat):Int):=fun s=>by
     rw [show((o.length+k:Nat):Int)=f'.vars+k from by omega,x6 s]
     unfold nodeV
     dsimp only
     rw [cntV_map (v:=evalD ns s) (w:=valF f' s) (fun a ha=>by
      obtain⟨a0,a1⟩:=x4 a ha
      rw [(hz.at' a.toNat om).2 s,show((a.toNat:Nat):Int)=a from by omega]),List.length_map]
    generalize (x.args.map fun a=>zs.getD a.toNat 0)=rs at*
    refine aw_nd fun hnd2=> ?_
    refine aw_frzg (t:=15) (n:=x.args.length) (s:=1) (e:=3) (f:=isF rs) (pre:=(g14,.cells 106 3 (ofL [.int .i64 x.kind,.int .i64 x.k,is true x.args]))::(gR,.cells 3 (o.length+f'.nodes.length) (isF zs))::(g4,.cells 55 3 (ofL [.nils,.nils,.int .i64 0]))::(g2,.cells 24 3 (ofL (fmc true f')))::THp gT gU gM og o (placesL o) ns mm) (zE J6) hoa (by simp only [Nat.mul_one,List.cons_append]) (fun g e hm=> ?_) (fun g h=>by have:=(hC g).1 h;simp [Heap.keys] at this) rfl ?_
    ·subst e
     have h3:(Heap.keys (((g14,.cells 106 3 (ofL [.int .i64 x.kind,.int .i64 x.k,is true x.args]))::(gR,.cells 3 (o.length+f'.nodes.length) (isF zs))::(g4,.cells 55 3 (ofL [.nils,.nils,.int .i64 0]))::(g2,.cells 24 3 (ofL (fmc true f')))::THp gT gU gM og o (placesL o) ns mm)++gh (some g) 3 x.args.length (isF rs))).Nodup:=hnd2
     unfold Heap.keys at h3
     rw [List.map_append,List.nodup_append] at h3
     exact h3.2.2 g hm g (by simp [gh]) rfl
    clear hnd2 J6
    have hbn:=bnode_fh gT gU gM hod hs x rs x1.1 x1.2 (by rw [hlm];exact x2) (by unfold kcode at x3⊢;dsimp only;rw [hlm];exact x3) om hrs
    dsimp only [is] at hbn
    rw [hlm] at hbn
    have hok2:(o.length:Int)+(k:Int)=((o.length+k:Nat):Int):=by omega
    have J9:=oj hnd (oj hvo (oj hx0 hok2))
    refine ySG J9 ?_
    refine aw_cw ([(gR,.cells 3 (o.length+f'.nodes.length) (isF zs)),(g14,.cells 106 3 (ofL [.int .i64 x.kind,.int .i64 x.k,is true x.args])),(g2,.cells 24 3 (ofL (fmc true f')))]) [(0,0),(1,0),(2,0),(3,0),(4,0),(5,0),(6,0),(7,0),(8,1),(9,0),(10,2)] ty_mixed (by kernel_rfl) eI ?_
    refine yG J9 ?_
    refine cw_callh (hc:=THp gT gU gM og o (placesL o) ns mm) (hr:=[(g14,.cells 106 3 (ofL [.int .i64 x.kind,.int .i64 x.k,is true x.args])),(gR,.cells 3 (o.length+f'.nodes.length) (isF zs)),(g4,.cells 55 3 (ofL [.nils,.nils,.int .i64 0])),(g2,.cells 24 3 (ofL (fmc true f')))]) rfl hbn rfl rfl rfl (List.perm_append_comm (l₁:=[(g14,_),(gR,_),(g4,_),(g2,_)])) (zL J9) (by
     rintro _ _ ⟨_,_,_,_,_,_,_,_,rfl,rfl⟩;exact has0_app2 eI) ?_ (hm:=.inr ⟨rfl,rfl⟩)
    rintro _ _ ⟨og2,ns2,mm2,r,e1,e2,e3,e4,rfl,rfl⟩ _
    have he2:=e2.len
    have hz2:=refs_step hs.tab hz e2 om e3 (fun s=>by rw [e4 s];exact hval2 s)
    refine yS J9 ?_
    refine cw_perm List.perm_append_comm ?_
    simp only [List.cons_append,List.nil_append]
    refine ySG J9 ?_
    refine cw_store (FP':=[]) rfl rfl rfl rfl rfl (zE J9) (zE J9) (zE J9) (zE J9) (fun _ e=>by cases e) rfl rfl (by show(o.length+k)+1≤_;omega) rfl has0_nil ?_
    simp only [AV.cells]
    rw [updF_is om]
    have hgz:(zs.set (o.length+k) r).getD (o.length+k) 0=r:=getZset om
    have J10:=oj hnd (oj hvo (oj hx0 (oj hok2 hgz)))
    refine ySG J10 ?_
    refine aw_callh (hc:=THp gT gU gM og2 o (placesL o) ns2 mm2) (hr:=[(g14,.cells 106 3 (ofL [.int .i64 x.kind,.int .i64 x.k,is true x.args])),(gR,.cells 3 (o.length+f'.nodes.length) (isF (zs.set (o.length+k) r))),(g4,.cells 55 3 (ofL [.nils,.nils,.int .i64 0])),(g2,.cells 24 3 (ofL (fmc true f')))]) (small_fh gT gU gM hod e1 om e3 (most:=4096) om) rfl rfl rfl (List.perm_append_comm (l₁:=[(g14,_),(gR,_),(g4,_),(g2,_)])) (zL J10) ?_
    rintro _ _ ⟨rfl,rfl⟩ _
    refine aw_perm List.perm_append_comm ?_
    refine yS J10 ?_
    simp only [THp,TH,List.cons_append,List.nil_append]
    refine yGNG J10 ?_
    exact aw_stop ⟨(k+1,og2,ns2,mm2,zs.set (o.length+k) r),by dsimp only;omega,(zB J10),List.Sublist.cons _ (List.Sublist.refl _),by dsimp only;omega,e1,by dsimp only;omega,hz2⟩
  ·have hk':k=f'.nodes.length:=dF hb
   subst hk'
   obtain⟨tp,htp⟩:=Int.eq_ofNat_of_zero_le t0'
   obtain⟨q1,q2⟩:=hz.at' tp om
   have J11:=oj hnd (oj hvo htp)
   refine yG J11 ?_
   refine aw_callh (hc:=THp gT gU gM og o (placesL o) ns mm) (hr:=[(gR,.cells 3 (o.length+f'.nodes.length) (isF zs)),(g4,.cells 55 3 (ofL [.nils,.nils,.int .i64 0])),(g2,.cells 24 3 (ofL (fmc true f')))]) (export_fh gT gU gM hod hs om q1) rfl rfl rfl (List.perm_append_comm (l₁:=[(gR,_),(g4,_),(g2,_)])) (zL J11) ?_
   rintro _ _ ⟨rs,os,y,hex,rfl,rfl⟩ _
   refine aw_perm List.perm_append_comm ?_
   refine ySGWSG J11 ?_
   refine aw_rethw (h':=[]) rfl (List.nil_sublist _) (fun R hR=> ?_)
   simp only [go_sem,hnd,hvo,htp]
   refine hR _ rfl ?_
   clear hR R
   have DO:=dout_of ho h12 hod.mem hs.tab q1 hex
   exact⟨rfl,_,⟨DO.order,DO.code,fun s=>by rw [DO.ev s,←hval s,htp];exact q2 s⟩,rfl⟩
end Go.Proofs.YtfcnbgmclfkfcaaGreat
namespace Go.PN
open Go.AI
theorem trim_coh (f:FM):∀k,(trTo f k).all (fun x=> !(decide (x.kind=1)||decide (x.kind=5)))=cohTo f k
 |0=>rfl
 |k+1=>by
  rw [trTo,cohTo,←trim_coh f k]
  cases hm:(belL f).getD (f.vars.toNat+k) false
  ·simp
  ·simp
end Go.PN
namespace Go.Proofs.YtfcnbgmclfkfcaaGreat
open Go.AI Go.PN
attribute [local irreducible] aw Fa Fh DrK
set_option maxRecDepth 100000 in
set_option maxHeartbeats 1600000 in
theorem csyntax_fa (f:FM) (hn:f.nodes.length≤1099511627776) (ha:ArgsOk f) (hc:fcode f=0):Fa Tryz.prog 97 [.agg (fmc false f)] (.tup [.c (.bool (cohTo f f.nodes.length)),.c .nilI]):=by
 have htc:=trim_coh f f.nodes.length
 have n128:=(trim_ok (fr_ok hc)).n128
 rw [show trTo f f.nodes.length=(trimF f).nodes from rfl] at htc
 have htr:=ftrim_fh f hn ha hc
 refine fa_of_body Tryz.func97 rfl rfl (by simp [Tryz.ntmps97]) fun C hC=> ?_
 simp only [initS,Nat.reduceAdd]
 refine xG ?_
 refine xB fun g1 hn_g1=>?_
 refine yG hn_g1 ?_
 refine aw_callh (hc:=[]) (hr:=[(g1,.cells 24 3 (ofL (fmc false f)))]) htr rfl rfl rfl (.refl _) (zL hn_g1) ?_
 rintro _ _ ⟨rfl,rfl⟩ _
 generalize trimF f=t at*
 refine ySG hn_g1 ?_
 refine yA hn_g1 fun g4 hn_g4=>?_
 have J1:=oj hn_g1 hn_g4
 refine yGWSGNG J1 ?_
 refine aw_lp (fun k:Nat=>[(17,.c (fns true t.nodes)),(18,.c (.int .i64 t.nodes.length)),(19,.c (.int .i64 k))]) (fun _=>[]) (fun k=>k≤t.nodes.length∧(t.nodes.take k).all (fun x=> !(decide (x.kind=1)||decide (x.kind=5)))=true) (fun k=>t.nodes.length-k) 0 (zB J1) (List.nil_sublist _) ⟨Nat.zero_le _,rfl⟩ ?_
 rintro k ⟨hk,hok⟩
 refine yG J1 ?_
 refine yF J1 (fun h1=>?_) fun h1=>?_
 ·have h1':k<t.nodes.length:=dT h1
  have hst:(t.nodes.take (k+1)).all (fun x=> !(decide (x.kind=1)||decide (x.kind=5)))= !(decide ((t.nodes.getD k fn0).kind=1)||decide ((t.nodes.getD k fn0).kind=5)):=by
   rw [List.take_succ_eq_append_getElem h1',List.all_append,hok,List.getD_eq_getElem?_getD,List.getElem?_eq_getElem h1']
   simp
  have hbad:(decide ((t.nodes.getD k fn0).kind=1)||decide ((t.nodes.getD k fn0).kind=5))=true→cohTo f f.nodes.length=false:=fun h=>by
   rw [←htc,List.all_eq_false]
   refine⟨t.nodes.getD k fn0,?_,by rw [h];simp⟩
   rw [List.getD_eq_getElem?_getD,List.getElem?_eq_getElem h1']
   exact List.getElem_mem _
  refine yG J1 ?_
  refine yA J1 fun g7 hn_g7=>?_
  generalize t.nodes.getD k fn0=y at*
  have J2:=oj hn_g1 (oj hn_g4 hn_g7)
  refine yGWS J2 ?_
  refine aw_conv1 (f':=ofL [.int .i64 y.kind,.int .i64 y.k,is true y.args]) (fun j hj=>by match j,hj with|0,_=>rfl|1,_=>rfl|2,_=>rfl) ?_
  refine yG J2 ?_
  refine aw_split 26 (zE J2) (fun h4=> ?_) (fun h4=> ?_)<;>refine yS J2 ?_
  ·refine yGPG J2 ?_
   rw [hbad (by rw [show decide (y.kind=1)=true from by simpa using h4];rfl)]
   refine yT hC J2 ?_
   exact .tup ⟨.c (.bool _),.c .nilI,trivial⟩
  ·have h4':decide (y.kind=1)=false:=by simpa using h4
   refine yG J2 ?_
   refine yF J2 (fun h5=>?_) fun h5=>?_
   ·refine yG J2 ?_
    rw [hbad (by rw [h4',show decide (y.kind=5)=true from by simpa using h5];rfl)]
    refine yT hC J2 ?_
    exact .tup ⟨.c (.bool _),.c .nilI,trivial⟩
   ·refine yG J2 ?_
    exact aw_stop ⟨k+1,by omega,(zB J2),List.nil_sublist _,by omega,by rw [hst,h4',show decide (y.kind=5)=false from by simpa using h5];rfl⟩
 ·have h1':k=t.nodes.length:=dF h1
  subst h1'
  rw [List.take_length] at hok
  refine yG J1 ?_
  rw [←htc,hok]
  refine yT hC J1 ?_
  exact .tup ⟨.c (.bool _),.c .nilI,trivial⟩
end Go.Proofs.YtfcnbgmclfkfcaaGreat
namespace Go.PN
open Go.AI
theorem coh_monoF {f:FM} (ok:FrOk f) (hc:cohTo f f.nodes.length=true) (n:Nat):MonoF n fun s=>valF f s f.top:=fun i _ s h=>
 coh_mono ok hc (fun j hj=>by
  rw [setB_bit] at hj⊢
  split
  ·rfl
  ·rename_i e
   rw [if_neg e] at hj;exact hj) h
def CutL (f:Nat→Bool) (l:List Nat):Prop:=Srt l∧∀s,s∈l↔MinT f s
theorem sol_cnt {n:Nat} {F:Nat→Bool} {z:ZD} (hz:ZOut n F z) (h:n≤10):cntZ z.nodes z.root≤1024:=by
 have h1:=cntZ_le hz.tab z.root hz.ref
 have h2:2^(n-(evZ n z.nodes z.root).toNat)≤2^10:=Nat.pow_le_pow_right om om
 have h3:((2:Int)^(n-(evZ n z.nodes z.root).toNat))=((2^(n-(evZ n z.nodes z.root).toNat):Nat):Int):=by simp
 rw [h3] at h1
 have h4:(2:Nat)^10=1024:=rfl
 omega
theorem out_mem {n:Nat} {F:Nat→Bool} {z:ZD} (hz:ZOut n F z) (s:Nat):s∈sortN (setsZ z.nodes z.root 0)↔F s=true:=by
 rw [sort_mem,sets_mem hz.tab z.root hz.ref 0 (fun j _=>Nat.zero_testBit j),←hz.mem]
 constructor
 ·rintro ⟨t,ht,rfl⟩
  rw [Nat.zero_or];exact ht
 ·exact fun h=>⟨s,h,by rw [Nat.zero_or]⟩
end Go.PN

namespace Go.Proofs.YtfcnbgmclfkfcaaGreat
open Go.AI Go.PN
noncomputable def wV (f:FM) (p:List RD):Rat:=exQ (prP p) p.length fun s=>evB (valF f s f.top)
def cutsI (l:List Nat) (i:Nat):List Nat:=l.filter fun c=>c.testBit i
noncomputable def wF (l:List Nat) (p:List RD) (i:Nat):Rat:=exQ (prP p) p.length fun s=>evB (failsB (cutsI l i) s)
theorem prS_wV {f:FM} {o:List Int} {D:DG} {p:List RD} (hD:DOut o (fun s=>valF f s f.top) D) (hl:D.order.length=p.length):prS D p=wV f p:=by
 rw [prS_ex hl]
 exact ex_congr _ _ _ fun s _=>by rw [hD.ev s]
end Go.Proofs.YtfcnbgmclfkfcaaGreat
namespace Go.PN
open Go.AI
structure WalkOk (f:FM) (oe:Option Nat) (e:List Int) (s:List Bool):Prop where
 len:s.length=f.vars.toNat+f.nodes.length
 nodup:e.Nodup
 mem:∀x:Int,x∈e↔0≤x∧x<f.vars∧s.getD x.toNat false=true
 none':oe=none→e.length=0
theorem WalkOk.le {f:FM} {oe:Option Nat} {e:List Int} {s:List Bool} (h:WalkOk f oe e s):e.length≤f.vars.toNat:=by
 have:=nodup_le (m:=(List.range f.vars.toNat).map fun(i:Nat)=>(i:Int)) h.nodup (fun x hx=>by
  have h1:=(h.mem x).1 hx
  exact List.mem_map.2 ⟨x.toNat,List.mem_range.2 om,by omega⟩)
 simpa using this
theorem WalkOk.event {f:FM} (v0:0≤f.vars) {oe:Option Nat} {e:List Int} {s:List Bool} (h:WalkOk f oe e s) {a:Nat} (ha:(a:Int)<f.vars) (hs:s.getD a false=false) (g:Nat):WalkOk f (some g) (e++[(a:Int)]) (s.set a true):=by
 have hl:=h.len
 refine⟨by rw [List.length_set];exact hl,?_,fun x=> ?_,fun e=>by cases e⟩
 ·rw [List.nodup_append]
  refine⟨h.nodup,by simp,fun x hx y hy=> ?_⟩
  rw [List.mem_singleton] at hy
  subst hy
  intro he
  subst he
  have:=((h.mem _).1 hx).2.2
  rw [Int.toNat_natCast,hs] at this
  cases this
 ·rw [List.mem_append,List.mem_singleton]
  by_cases e1:x=a
  ·subst e1
   rw [Int.toNat_natCast,getDset' om]
   exact⟨fun _=>⟨by omega,ha,rfl⟩,fun _=>.inr rfl⟩
  ·constructor
   ·rintro (hx|hx)
    ·have h1:=(h.mem x).1 hx
     exact⟨h1.1,h1.2.1,by rw [getDset om];exact h1.2.2⟩
    ·exact absurd hx e1
   ·rintro ⟨h0,h1,h2⟩
    rw [getDset om] at h2
    exact .inl ((h.mem x).2 ⟨h0,h1,h2⟩)
theorem WalkOk.gate {f:FM} (v0:0≤f.vars) {oe:Option Nat} {e:List Int} {s:List Bool} (h:WalkOk f oe e s) {a:Nat} (ha:f.vars≤a):WalkOk f oe e (s.set a true):=by
 refine⟨by rw [List.length_set];exact h.len,h.nodup,fun x=> ?_,h.none'⟩
 rw [h.mem x]
 constructor<;>rintro ⟨h0,h1,h2⟩<;>refine⟨h0,h1,?_⟩
 ·rw [getDset om];exact h2
 ·rw [getDset om] at h2;exact h2
end Go.PN
namespace Go.Proofs.YtfcnbgmclfkfcaaGreat
open Go.AI Go.PN
attribute [local irreducible] aw Fa Fh DrK
abbrev WH (f:FM) (gW gS:Nat) (oe:Option Nat) (e:List Int) (s:List Bool):Heap:=
 (gW,.cells 202 5 (ofL [.int .i64 f.vars,fns false f.nodes,.int .i64 f.top,gs oe 1 e.length,.osl gS 1 0 (f.vars.toNat+f.nodes.length)]))::(gS,.cells 4 (f.vars.toNat+f.nodes.length) (bsF s))::gh oe 3 e.length (isF e)
set_option maxRecDepth 100000 in
set_option maxHeartbeats 6400000 in
theorem visit_fh (f:FM) (ok:FrOk f) (gW gS:Nat):∀(m a:Nat) (oe:Option Nat) (e:List Int) (s:List Bool),a<m→(a:Int)<f.vars+f.nodes.length→WalkOk f oe e s→
 Fh Tryz.prog 178 (WH f gW gS oe e s) [.c (.optr gW 0),.c (.int .i64 a)] (fun r h=>r=.tup []∧∃oe' e' s',h=WH f gW gS oe' e' s'∧WalkOk f oe' e' s'):=by
 have v0:=ok.v0
 have v24:=ok.v24
 have n128:=ok.n128
 intro m
 induction m with
 |zero=>intro a oe e s h;omega
 |succ m ih=>
  intro a oe e s ham han hw
  have hsl:=hw.len
  have hel:=hw.le
  refine fh_of_body Tryz.func178 rfl rfl (by simp [Tryz.ntmps178]) fun C hC=> ?_
  simp only [initS,Nat.reduceAdd]
  refine aw_nd fun hnd=> ?_
  have hne:gW≠gS:=fun h=>by
   subst h
   exact(List.nodup_cons.1 hnd).1 (List.mem_cons_self ..)
  clear hnd
  have hq:(gW=gS)=False∧(gS=gW)=False:=⟨eq_false hne,eq_false (Ne.symm hne)⟩
  refine yG hq ?_
  refine yF hq (fun hb=>?_) fun hb=>?_
  ·refine yG hq ?_
   refine yU hq ?_
   exact⟨rfl,oe,e,s,rfl,hw⟩
  ·have hb':s.getD a false=false:=by simpa using hb
   refine yGWS hq ?_
   rw [updF_bs om]
   refine yG hq ?_
   refine yF hq (fun hv=>?_) fun hv=>?_
   ·have hv':(a:Int)<f.vars:=of_decide_eq_true hv
    have hw2:=fun g=>hw.event v0 hv' hb' g
    refine yG hq ?_
    refine aw_push (pre:=[(gW,.cells 202 5 (ofL [.int .i64 f.vars,fns false f.nodes,.int .i64 f.top,gs oe 1 e.length,.osl gS 1 0 (f.vars.toNat+f.nodes.length)])),(gS,.cells 4 (f.vars.toNat+f.nodes.length) (bsF (s.set a true)))]) rfl rfl rfl rfl rfl rfl rfl (zE hq) (zE hq) (by rfl) om om (zE hq) om (by exact hw.none') (zE hq) (by rfl) (by rfl) (by first|rfl|simp only [Nat.mul_one,List.nil_append,List.cons_append]<;>rfl) (by unfold maxLen;omega) om (by exact is_push rfl (a:Int)) fun g hn_g=> ?_
    replace hn_g:=Heap.ne_of hn_g
    first|dsimp only [Heap.ne,gh] at hn_g|dsimp only [Heap.ne] at hn_g|skip
    have J1:=oj hq hn_g
    refine ySGWSG J1 ?_
    rw [updF_at _ 3 _ (by simp)]
    refine yU J1 ?_
    have hl1:(e++[(a:Int)]).length=e.length+1:=by simp
    exact⟨rfl,some g,e++[(a:Int)],s.set a true,by rw [WH,hl1];rfl,hw2 g⟩
   ·have hv':f.vars≤a:=dF hv
    have hw2:=hw.gate v0 hv'
    have hak:(a:Int)-f.vars=((a-f.vars.toNat:Nat):Int):=by omega
    have hkl:a-f.vars.toNat<f.nodes.length:=by omega
    have hln:=ok.len hkl
    have hargs:∀j,j<(f.nodes.getD (a-f.vars.toNat) fn0).args.length→0≤(f.nodes.getD (a-f.vars.toNat) fn0).args.getD j 0∧(f.nodes.getD (a-f.vars.toNat) fn0).args.getD j 0<a:=fun j hj=>by
     obtain⟨a0,a1⟩:=ok.at hkl hj
     exact⟨a0,by omega⟩
    generalize s.set a true=s1 at hw2
    generalize hk:a-f.vars.toNat=k at*
    generalize hx:f.nodes.getD k fn0=x at*
    clear hb hsl hel hw
    have J2:=oj hq (oj hak hx)
    refine yG J2 ?_
    refine aw_dr 17 ty_mixed (by kernel_rfl) ?_
    refine yG J2 ?_
    refine aw_lp (fun y:Nat×Option Nat×List Int×List Bool=>[(0,.c (.optr gW 0)),(50,.c (is true x.args)),(51,.c (.int .i64 x.args.length)),(52,.c (.int .i64 y.1))]) (fun y=>WH f gW gS y.2.1 y.2.2.1 y.2.2.2)
     (fun y=>y.1≤x.args.length∧WalkOk f y.2.1 y.2.2.1 y.2.2.2) (fun y=>x.args.length-y.1) (0,oe,e,s1) (zB J2) zZ ⟨Nat.zero_le _,hw2⟩ ?_
    clear hw2 J2
    rintro ⟨j,oe1,e1,s1⟩ ⟨hj,hw1⟩
    dsimp only at hj hw1⊢
    have J3:=oj hq (oj hak hx)
    refine yG J3 ?_
    refine yF J3 (fun h2=>?_) fun h2=>?_
    ·have h2':j<x.args.length:=dT h2
     obtain⟨a0,a1⟩:=hargs j h2'
     obtain⟨i2,hi2⟩:=Int.eq_ofNat_of_zero_le a0
     rw [hi2] at a1
     have J4:=oj hq (oj hak (oj hx hi2))
     refine yG J4 ?_
     refine aw_callh (hr:=[]) (ih i2 oe1 e1 s1 om om hw1) rfl rfl rfl (by rw [List.append_nil]) (zL J4) ?_
     rintro _ _ ⟨rfl,oe2,e2,s2,rfl,hw2⟩ _
     rw [List.append_nil]
     refine ySG J4 ?_
     exact aw_stop ⟨(j+1,oe2,e2,s2),by dsimp only;omega,(zB J4),zZ,by dsimp only;omega,hw2⟩
    ·refine yG J3 ?_
     refine yV J3 ?_
     exact⟨rfl,oe1,e1,s1,rfl,hw1⟩
end Go.Proofs.YtfcnbgmclfkfcaaGreat
namespace Go.PN
open Go.AI
structure DepOk (f:FM) (s:List Bool) (i:Nat) (oe:Option Nat) (e:List Int):Prop where
 nodup:e.Nodup
 mem:∀x:Int,x∈e↔0≤x∧x<f.vars∧(s.getD x.toNat false=true∨x<i)
 none':oe=none→e.length=0
theorem DepOk.le {f:FM} {s:List Bool} {i:Nat} {oe:Option Nat} {e:List Int} (h:DepOk f s i oe e):e.length≤f.vars.toNat:=by
 have:=nodup_le (m:=(List.range f.vars.toNat).map fun(i:Nat)=>(i:Int)) h.nodup (fun x hx=>by
  have h1:=(h.mem x).1 hx
  exact List.mem_map.2 ⟨x.toNat,List.mem_range.2 om,by omega⟩)
 simpa using this
theorem DepOk.start {f:FM} {s:List Bool} {oe:Option Nat} {e:List Int} (h:WalkOk f oe e s):DepOk f s 0 oe e:=by
 refine⟨h.nodup,fun x=> ?_,h.none'⟩
 rw [h.mem x]
 constructor
 ·rintro ⟨h0,h1,h2⟩;exact⟨h0,h1,.inl h2⟩
 ·rintro ⟨h0,h1,h2|h2⟩
  ·exact⟨h0,h1,h2⟩
  ·omega
theorem DepOk.skip {f:FM} {s:List Bool} {i:Nat} {oe:Option Nat} {e:List Int} (h:DepOk f s i oe e) (hs:s.getD i false=true):DepOk f s (i+1) oe e:=by
 refine⟨h.nodup,fun x=> ?_,h.none'⟩
 rw [h.mem x]
 constructor
 ·rintro ⟨h0,h1,h2|h2⟩
  ·exact⟨h0,h1,.inl h2⟩
  ·exact⟨h0,h1,.inr om⟩
 ·rintro ⟨h0,h1,h2|h2⟩
  ·exact⟨h0,h1,.inl h2⟩
  ·by_cases e1:x=i
   ·subst e1;exact⟨h0,h1,.inl (by rw [Int.toNat_natCast];exact hs)⟩
   ·exact⟨h0,h1,.inr om⟩
theorem DepOk.push {f:FM} {s:List Bool} {i:Nat} {oe:Option Nat} {e:List Int} (h:DepOk f s i oe e) (hi:(i:Int)<f.vars) (hs:s.getD i false=false) (g:Nat):DepOk f s (i+1) (some g) (e++[(i:Int)]):=by
 refine⟨?_,fun x=> ?_,fun e=>by cases e⟩
 ·rw [List.nodup_append]
  refine⟨h.nodup,by simp,fun x hx y hy=> ?_⟩
  rw [List.mem_singleton] at hy
  subst hy
  intro he
  subst he
  rcases((h.mem _).1 hx).2.2 with h1|h1
  ·rw [Int.toNat_natCast,hs] at h1;cases h1
  ·omega
 ·rw [List.mem_append,List.mem_singleton,h.mem x]
  constructor
  ·rintro (⟨h0,h1,h2|h2⟩|e1)
   ·exact⟨h0,h1,.inl h2⟩
   ·exact⟨h0,h1,.inr om⟩
   ·exact⟨by omega,by omega,.inr om⟩
  ·rintro ⟨h0,h1,h2|h2⟩
   ·exact .inl ⟨h0,h1,.inl h2⟩
   ·by_cases e1:x=i
    ·exact .inr e1
    ·exact .inl ⟨h0,h1,.inr om⟩
theorem DepOk.done {f:FM} {s:List Bool} {i:Nat} {oe:Option Nat} {e:List Int} (h:DepOk f s i oe e) (v0:0≤f.vars) (hi:f.vars≤i):Perm0 e∧e.length=f.vars.toNat:=by
 have h1:=h.le
 have h2:=nodup_le (l:=(List.range f.vars.toNat).map fun(i:Nat)=>(i:Int)) (m:=e) (List.Pairwise.map _ (fun a b (h:a≠b) (e:(a:Int)=b)=>h om) List.nodup_range) (fun x hx=>by
  obtain⟨q,hq,rfl⟩:=List.mem_map.1 hx
  rw [List.mem_range] at hq
  exact(h.mem _).2 ⟨by omega,by omega,.inr om⟩)
 rw [List.length_map,List.length_range] at h2
 have h3:e.length=f.vars.toNat:=by omega
 exact⟨⟨fun x hx=>by have:=(h.mem x).1 hx;omega,h.nodup⟩,h3⟩
theorem walk_start (f:FM):WalkOk f none [] (List.replicate (f.vars.toNat+f.nodes.length) false):=by
 refine⟨List.length_replicate ..,List.nodup_nil,fun x=> ?_,fun _=>rfl⟩
 constructor
 ·intro h;cases h
 ·rintro ⟨_,_,h⟩
  rw [List.getD_eq_getElem?_getD,List.getElem?_replicate] at h
  split at h<;>cases h
end Go.PN
namespace Go.Proofs.YtfcnbgmclfkfcaaGreat
open Go.AI Go.PN
attribute [local irreducible] aw Fa Fh DrK
theorem make_bs' (n:Nat):(fun j=>[CV.bool false][j%1]?.getD .any)=bsF (List.replicate n false):=by
 rw [←make_bs n]
 funext j
 rw [Nat.mod_one];rfl
set_option maxRecDepth 100000 in
set_option maxHeartbeats 6400000 in
theorem odepth_fh (f:FM) (ok:FrOk f):Fh Tryz.prog 136 [] [.agg (fmc false f)] (fun x h=>h=[]∧∃(o:List Int) (s:List Bool),x=.tup [.c (is true o),.c (.row true 1 (f.vars.toNat+f.nodes.length) (bsF s))]∧Perm0 o∧o.length=f.vars.toNat):=by
 have v0:=ok.v0
 have v24:=ok.v24
 have n128:=ok.n128
 have t0:=ok.t0
 have t1:=ok.t1
 obtain⟨V,hV⟩:=Int.eq_ofNat_of_zero_le v0
 obtain⟨T,hT⟩:=Int.eq_ofNat_of_zero_le t0
 have hN:f.vars+(f.nodes.length:Int)=((f.vars.toNat+f.nodes.length:Nat):Int):=by omega
 refine fh_of_body Tryz.func136 rfl rfl (by simp [Tryz.ntmps136]) fun C hC=> ?_
 simp only [initS,Nat.reduceAdd]
 refine xG ?_
 refine xB fun g1 hn_g1=>?_
 refine yG hn_g1 ?_
 refine aw_drB 8 ty_mixed (by kernel_rfl) ?_
 repeat first|(refine drb_2q true rfl (fun R hR=> ?_);simp only [go_sem,hn_g1,hN];(with_reducible refine hR _ _ ?_ ?_);(focus (((try simp only [inRange])<;>and_intros<;>first|exact True.intro|omega|trivial);done));clear hR R)|fail
 refine drb_new rfl (NewX.make (n:=f.vars.toNat+f.nodes.length) (c:=f.vars.toNat+f.nodes.length) (size:=1) (z:=[.bool false]) rfl rfl rfl (zE (oj hn_g1 hN)) (zE (oj hn_g1 hN)) rfl om (zE (oj hn_g1 hN)) (zE (oj hn_g1 hN)) rfl rfl om om om) (by kernel_rfl) ?_
 have J1:=oj hn_g1 hN
 refine yS J1 ?_
 refine drb_nil fun γ=> ?_
 refine yS J1 ?_
 rw [make_bs' (f.vars.toNat+f.nodes.length)]
 generalize γ 7=gS
 refine yG J1 ?_
 refine yB J1 fun gW hn_gW=>?_
 refine yG (oj hn_g1 (oj hN hn_gW)) ?_
 refine aw_nd fun hnd=> ?_
 simp only [Heap.keys,List.map_cons,List.map_nil] at hnd
 replace hnd:=ndP_of hnd
 dsimp only [ndP,neA] at hnd
 refine yG hnd ?_
 refine aw_callh (hr:=[(g1,.cells 24 3 (ofL (fmc false f)))]) (visit_fh f ok gW gS (T+1) T none [] (List.replicate (f.vars.toNat+f.nodes.length) false) om om (walk_start f)) rfl rfl rfl (List.Perm.refl _) (by rw [hT];exact(zL hnd)) ?_
 rintro _ _ ⟨rfl,oe,e,s,rfl,hw⟩ hk
 have hd0:=DepOk.start hw
 have hsl:=hw.len
 clear hw hk J1
 refine yS hnd ?_
 refine aw_perm (h':=([(g1,.cells 24 3 (ofL (fmc false f)))]:Heap)++WH f gW gS oe e s) (List.perm_append_comm (l₁:=WH f gW gS oe e s) (l₂:=([(g1,.cells 24 3 (ofL (fmc false f)))]:Heap))) ?_
 simp only [List.cons_append,List.nil_append]
 refine yG hnd ?_
 refine aw_lp (fun y:Nat×Option Nat×List Int=>[(4,.c (.optr gW 0)),(21,.c (.int .i64 f.vars)),(22,.c (.int .i64 y.1))]) (fun y=>WH f gW gS y.2.1 y.2.2 s)
  (fun y=>(y.1:Int)≤f.vars∧DepOk f s y.1 y.2.1 y.2.2) (fun y=>f.vars.toNat-y.1) (0,oe,e) (zB hnd) (List.Sublist.cons _ (List.Sublist.refl _)) ⟨v0,hd0⟩ ?_
 clear hd0
 clear oe e
 rintro ⟨i,oe,e⟩ ⟨hi,hd⟩
 dsimp only at hi hd⊢
 have hel:=hd.le
 refine yG hnd ?_
 refine yF hnd (fun h1=>?_) fun h1=>?_
 ·have h1':(i:Int)<f.vars:=of_decide_eq_true h1
  refine yG hnd ?_
  refine yF hnd (fun h2=>?_) fun h2=>?_
  ·have h2':s.getD i false=false:=by simpa using h2
   have hd2:=fun g=>hd.push h1' h2' g
   refine yG hnd ?_
   refine aw_push (pre:=[(gW,.cells 202 5 (ofL [.int .i64 f.vars,fns false f.nodes,.int .i64 f.top,gs oe 1 e.length,.osl gS 1 0 (f.vars.toNat+f.nodes.length)])),(gS,.cells 4 (f.vars.toNat+f.nodes.length) (bsF s))]) rfl rfl rfl rfl rfl rfl rfl (zE hnd) (zE hnd) (by rfl) om om (zE hnd) om (by exact hd.none') (zE hnd) (by rfl) (by rfl) (by first|rfl|simp only [Nat.mul_one,List.nil_append,List.cons_append]<;>rfl) (by unfold maxLen;omega) om (by exact is_push rfl (i:Int)) fun g hn_g=> ?_
   replace hn_g:=Heap.ne_of hn_g
   first|dsimp only [Heap.ne,gh] at hn_g|dsimp only [Heap.ne] at hn_g|skip
   have J2:=oj hnd hn_g
   refine ySGWSG J2 ?_
   rw [updF_at _ 3 _ (by simp)]
   have hl1:(e++[(i:Int)]).length=e.length+1:=by simp
   exact aw_stop ⟨(i+1,some g,e++[(i:Int)]),by dsimp only;omega,(zB J2),(by dsimp only;rw [WH,hl1];exact List.Sublist.refl _),by dsimp only;omega,hd2 g⟩
  ·have h2':s.getD i false=true:=by simpa using h2
   refine yG hnd ?_
   exact aw_stop ⟨(i+1,oe,e),by dsimp only;omega,(zB hnd),zZ,by dsimp only;omega,hd.skip h2'⟩
 ·have h1':f.vars≤i:=dF h1
  obtain⟨hp,hl⟩:=hd.done v0 h1'
  refine yG hnd ?_
  refine aw_perm (h':=(gW,.cells 202 5 (ofL [.int .i64 f.vars,fns false f.nodes,.int .i64 f.top,gs oe 1 e.length,.osl gS 1 0 (f.vars.toNat+f.nodes.length)]))::(gh oe 3 (e.length*1) (isF e)++[(gS,.cells 4 (f.vars.toNat+f.nodes.length) (bsF s))])) (by
   rw [Nat.mul_one]
   exact List.Perm.cons _ (List.perm_append_comm (l₁:=([(gS,.cells 4 (f.vars.toNat+f.nodes.length) (bsF s))]:Heap)))) ?_
  refine aw_frzG (j0:=3) (og:=oe) (s:=1) (n:=e.length) (f':=ofL [.int .i64 f.vars,fns false f.nodes,.int .i64 f.top,is true e,.osl gS 1 0 (f.vars.toNat+f.nodes.length)]) rfl rfl (fun j hj hne=> ?_) hd.none' (fun g e=> ?_) ?_
  ·match j,hj,hne with
   |0,_,_=>rfl
   |1,_,_=>rfl
   |2,_,_=>rfl
   |3,_,hne=>exact absurd rfl hne
   |4,_,_=>rfl
  ·exact fun h=>by have:=(hC g).1 h;simp [Heap.keys] at this
  refine aw_frzC (j0:=4) (n':=f.vars.toNat+f.nodes.length) (f':=ofL [.int .i64 f.vars,fns false f.nodes,.int .i64 f.top,is true e,.row true 1 (f.vars.toNat+f.nodes.length) (bsF s)]) rfl (Nat.le_refl _) rfl (fun j hj hne=> ?_) ?_ ?_
  ·match j,hj,hne with
   |0,_,_=>rfl
   |1,_,_=>rfl
   |2,_,_=>rfl
   |3,_,_=>rfl
   |4,_,hne=>exact absurd rfl hne
  ·exact fun h=>by have:=(hC gS).1 h;simp [Heap.keys] at this
  refine yG hnd ?_
  refine aw_dr 10 ty_mixed (by kernel_rfl) ?_
  refine yG hnd ?_
  refine aw_rethw (h':=[]) rfl (List.nil_sublist _) (fun R hR=> ?_)
  simp only [go_sem,hnd]
  refine hR _ rfl ?_
  exact⟨rfl,e,s,rfl,hp,hl⟩
set_option maxHeartbeats 3200000 in
theorem oDepth_fh (f:FM) (hn:f.nodes.length≤1099511627776) (ha:ArgsOk f) (hc:fcode f=0):Fh Tryz.prog 85 [] [.agg (fmc false f)] (fun x h=>h=[]∧∃(o:List Int),x=.tup [.c (is true o),.c .nilI]∧Perm0 o∧o.length=f.vars.toNat):=by
 have ok:=fr_ok hc
 have v0:=ok.v0
 have v24:=ok.v24
 have n128:=ok.n128
 have t0:=ok.t0
 have t1:=ok.t1
 have z:=ieq_t hc
 refine fh_of_body Tryz.func85 rfl rfl (by simp [Tryz.ntmps85]) fun C hC=> ?_
 simp only [initS,Nat.reduceAdd]
 refine yG z ?_
 refine yB z fun g1 hn_g1=>?_
 have J1:=oj z hn_g1
 refine yG J1 ?_
 refine aw_callq (fcheck_fa f hn ha om om) rfl rfl rfl (zL J1) ?_
 refine ySGNG J1 ?_
 refine aw_callh (hr:=[(g1,.cells 24 3 (ofL (fmc false f)))]) (odepth_fh f ok) rfl rfl rfl (List.Perm.refl _) (zL J1) ?_
 rintro _ _ ⟨rfl,o,s,rfl,hp,hl⟩ _
 refine ySG J1 ?_
 refine aw_rethw (h':=[]) rfl (List.nil_sublist _) (fun R hR=> ?_)
 simp only [go_sem,z,hn_g1]
 refine hR _ rfl ?_
 exact⟨rfl,o,rfl,hp,hl⟩
end Go.Proofs.YtfcnbgmclfkfcaaGreat
namespace Go.PN
theorem oscan_zero {vars:Int}:∀(o seen:List Int),(∀x∈o,0≤x∧x<vars)→(seen++o).Nodup→oscan vars seen o=0
 |[],_,_,_=>rfl
 |x::o,seen,h,hs=>by
  rw [oscan,if_neg (by have:=h x (List.mem_cons_self ..);omega),if_neg (fun hm=>by
   rw [List.nodup_append] at hs
   exact hs.2.2 x hm x (List.mem_cons_self ..) rfl)]
  exact oscan_zero o (seen++[x]) (fun y hy=>h y (List.mem_cons_of_mem _ hy)) (by simpa using hs)
theorem perm_code {o:List Int} (hp:Perm0 o) (hl:o.length≤24):ocode o o.length=0:=by
 unfold ocode
 rw [if_neg om,if_neg (by simp)]
 exact oscan_zero o [] hp.range (by simpa using hp.nodup)
end Go.PN

namespace Go.Proofs.YtfcnbgmclfkfcaaGreat
open Go.AI Go.PN
attribute [local irreducible] aw Fa Fh DrK
theorem form_range (f:FM):∀n,formTo f n=(List.range n).map fun s=>valF f s f.top
 |0=>rfl
 |n+1=>by rw [formTo,form_range f n,List.range_succ,List.map_append];rfl
end Go.Proofs.YtfcnbgmclfkfcaaGreat
namespace Go.PN
open Go.AI
structure K33 (f:FM) (o:List Int):Prop where
 c:fcode f=0
 oc:ocode o f.vars=0
 coh:cohTo f f.nodes.length=true
theorem ocode_len {o:List Int} {v:Int} (h:ocode o v=0):(o.length:Int)=v:=by
 unfold ocode at h
 by_cases h1:v<0∨24<v
 ·rw [if_pos h1] at h;cases h
 ·rw [if_neg h1] at h
  by_cases h2:(o.length:Int)≠v
  ·rw [if_pos h2] at h;cases h
  ·exact Classical.not_not.1 h2
theorem out_cut {n:Nat} {F:Nat→Bool} {z:ZD} (hz:ZOut n F z) {f:Nat→Bool} (hF:∀s,F s=true↔MinT f s):CutL f (sortN (setsZ z.nodes z.root 0)):=⟨sort_srt _,fun s=>by rw [out_mem hz,hF]⟩
theorem out_lt {n:Nat} {F:Nat→Bool} {z:ZD} (hz:ZOut n F z):∀s∈sortN (setsZ z.nodes z.root 0),s<2^n:=fun s hs=>by
 have hm:=(out_mem hz s).1 hs
 rw [←hz.mem] at hm
 have:=mem_bits hz.tab z.root hz.ref s hm
 refine Nat.lt_pow_two_of_testBit _ fun j hj=> ?_
 cases hb:s.testBit j with
 |false=>rfl
 |true=>have:=(this j hb).2;omega
end Go.PN
namespace Go.Proofs.YtfcnbgmclfkfcaaGreat
open Go.AI Go.PN
attribute [local irreducible] aw Fa Fh DrK
set_option maxRecDepth 100000 in
set_option maxHeartbeats 3200000 in
theorem csolve_fh (f:FM) (o:List Int) (hk:K33 f o) (h10:f.vars≤10) (hn:f.nodes.length≤1099511627776) (ha:ArgsOk f):
 Fh Tryz.prog 108 [] [.agg (fmc false f),.c (is false o)] (fun x h=>h=[]∧∃z,SolOut f.vars.toNat (fun s=>valF f s f.top) z∧x=.tup [.agg (zdc true z),.c .nilI]):=by
 have ok:=fr_ok hk.c
 have v0:=ok.v0
 have n128:=ok.n128
 have t0:=ok.t0
 have t1:=ok.t1
 have hol:=ocode_len hk.oc
 have z1:=ieq_t hk.c
 have z2:=ieq_t hk.oc
 have hoo:ocode o o.length=0:=by rw [hol];exact hk.oc
 have hbl:=build_fh f hn ha hk.c o hoo om om
 refine fh_of_body Tryz.func108 rfl rfl (by simp [Tryz.ntmps108]) fun C hC=> ?_
 simp only [initS,Nat.reduceAdd]
 refine yG (oj z1 z2) ?_
 refine yB (oj z1 z2) fun g2 hn_g2=>?_
 have J1:=oj z1 (oj z2 hn_g2)
 refine yG J1 ?_
 refine yA J1 fun g4 hn_g4=>?_
 have J2:=oj z1 (oj z2 (oj hn_g2 hn_g4))
 refine yG J2 ?_
 refine yC J2 (fcheck_fa f hn ha ?_ ?_) ?_
 ·omega
 ·omega
 refine yGNG J2 ?_
 refine yC J2 (ocheck_fa o f.vars ?_) ?_
 ·omega
 refine yGNG J2 ?_
 refine yC J2 (csyntax_fa f hn ha hk.c) ?_
 rw [hk.coh]
 refine ySGNGNG J2 ?_
 refine aw_callh (hc:=[]) (hr:=[(g4,.cells 133 2 (ofL [.nils,.int .i64 0])),(g2,.cells 24 3 (ofL (fmc false f)))]) hbl rfl rfl rfl (.refl _) (zL J2) ?_
 rintro _ _ ⟨rfl,D,hD,rfl⟩ _
 have hDl:D.order.length=f.vars.toNat:=by rw [hD.order];omega
 have hDf:(fun s=>evalD D.nodes s D.root)=fun s=>valF f s f.top:=funext hD.ev
 refine ySG J2 ?_
 refine yA J2 fun g10 hn_g10=>?_
 have J3:=oj z1 (oj z2 (oj hn_g2 (oj hn_g4 hn_g10)))
 refine yGWSGNG J3 ?_
 refine aw_callh (hc:=[]) (hr:=[(g10,.cells 55 3 (ofL (dgc true D))),(g4,.cells 133 2 (ofL [.nils,.int .i64 0])),(g2,.cells 24 3 (ofL (fmc false f)))]) (csol_fh D hD.code om) rfl rfl rfl (.refl _) (zL J3) ?_
 rintro _ _ ⟨rfl,hcs⟩ _
 rw [hDf,hDl] at hcs
 rcases hcs with ⟨hnm,rfl⟩|⟨hm,z,hz,rfl⟩
 ·exact absurd (coh_monoF ok hk.coh _) hnm
 refine ySGWSG J3 ?_
 refine aw_rethw (h':=[]) rfl (List.nil_sublist _) (fun R hR=> ?_)
 simp only [go_sem,z1,z2,hn_g2,hn_g4,hn_g10]
 refine hR _ rfl ?_
 clear hR R
 exact⟨rfl,z,hz,rfl⟩
set_option maxRecDepth 100000 in
set_option maxHeartbeats 1600000 in
theorem Cuts_fh (f:FM) (o:List Int) (hk:K33 f o) (h10:f.vars≤10) (hn:f.nodes.length≤1099511627776) (ha:ArgsOk f):
 Fh Tryz.prog 58 [] [.agg (fmc false f),.c (is false o)] (fun x h=>h=[]∧∃l,CutL (fun s=>valF f s f.top) l∧l.length≤1024∧(∀s∈l,s<2^f.vars.toNat)∧x=.tup [.c (is true (zL l)),.c .nilI]):=by
 refine fh_of_body Tryz.func58 rfl rfl (by simp [Tryz.ntmps58]) fun C hC=> ?_
 simp only [initS,Nat.reduceAdd]
 refine xG ?_
 refine xB fun g2 hn_g2=>?_
 refine yG hn_g2 ?_
 refine aw_callh (hc:=[]) (hr:=[(g2,.cells 24 3 (ofL (fmc false f)))]) (csolve_fh f o hk h10 hn ha) rfl rfl rfl (.refl _) (zL hn_g2) ?_
 rintro _ _ ⟨rfl,z,⟨F,hz,hF,hzn⟩,rfl⟩ _
 have hct:=sol_cnt hz om
 refine ySG hn_g2 ?_
 refine yA hn_g2 fun g6 hn_g6=>?_
 have J1:=oj hn_g2 hn_g6
 refine yGWSGNG J1 ?_
 refine aw_callh (hc:=[]) (hr:=[(g6,.cells 133 2 (ofL (zdc true z))),(g2,.cells 24 3 (ofL (fmc false f)))]) (zlist_fh z hz om hzn hct) rfl rfl rfl (.refl _) (zL J1) ?_
 rintro _ _ ⟨rfl,rfl⟩ _
 refine ySG J1 ?_
 refine aw_rethw (h':=[]) rfl (List.nil_sublist _) (fun R hR=> ?_)
 simp only [go_sem,hn_g2,hn_g6]
 refine hR _ rfl ?_
 clear hR R
 refine⟨rfl,_,out_cut hz hF,?_,out_lt hz,rfl⟩
 rw [sort_len (sets_nodup hz.tab z.root hz.ref 0 fun j _=>Nat.zero_testBit j)]
 unfold cntZ at hct
 omega
end Go.Proofs.YtfcnbgmclfkfcaaGreat
namespace Go.PN
open Go.AI
def leastT (tb:List Bool) (s k:Nat):Bool:=tb.getD s false&&(List.range k).all fun u=> !subT u s|| !tb.getD u false
def solN (tb:List Bool) (k:Nat):List Nat:=(List.range k).filter fun s=>leastT tb s s
theorem sol_len_le (tb:List Bool) (k:Nat):(solN tb k).length≤k:=Nat.le_trans (List.length_filter_le _ _) (by rw [List.length_range];exact Nat.le_refl _)
theorem sol_ltN {tb:List Bool} {k x:Nat} (h:x∈solN tb k):x<k:=List.mem_range.1 (List.mem_filter.1 h).1
end Go.PN

namespace Go.PN
open Go.AI
theorem tab_get (f:Nat→Bool) (n s:Nat) (h:s<n):((List.range n).map f).getD s false=f s:=by
 rw [List.getD_eq_getElem?_getD,List.getElem?_map,List.getElem?_range h];rfl
theorem least_min {f:Nat→Bool} {n s:Nat} (h:s<n):leastT ((List.range n).map f) s s=true↔MinT f s:=by
 unfold leastT
 rw [Bool.and_eq_true,tab_get f n s h,List.all_eq_true]
 constructor
 ·rintro ⟨h1,h2⟩
  refine⟨h1,fun t ht hf=> ?_⟩
  have hle:=sub_le ht
  rcases Nat.lt_or_ge t s with hlt|hge
  ·have:=h2 t (List.mem_range.2 hlt)
   rw [tab_get f n t om,hf,subT_iff.2 ht] at this
   cases this
  ·omega
 ·rintro ⟨h1,h2⟩
  refine⟨h1,fun u hu=> ?_⟩
  have hlt:=List.mem_range.1 hu
  rw [tab_get f n u om]
  cases hs:subT u s
  ·rfl
  ·cases hf:f u
   ·rfl
   ·have:=h2 u (subT_iff.1 hs) hf;omega
theorem sol_is {f:Nat→Bool} {n:Nat} {l:List Nat} (hc:CutL f l) (hl:∀s∈l,s<n):sortN (solN ((List.range n).map f) n)=l:=
 srt_ext (sort_srt _) hc.1 fun s=>by
  rw [sort_mem,hc.2]
  unfold solN
  rw [List.mem_filter,List.mem_range]
  constructor
  ·rintro ⟨h1,h2⟩
   exact(least_min h1).1 h2
  ·intro h
   have h1:=hl s ((hc.2 s).2 h)
   exact⟨h1,(least_min h1).2 h⟩
end Go.PN
