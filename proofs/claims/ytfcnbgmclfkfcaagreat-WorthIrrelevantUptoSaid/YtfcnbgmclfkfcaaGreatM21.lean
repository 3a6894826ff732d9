/- Parts of one proof, laid by a program. -/
import Derived.Test.YtfcnbgmclfkfcaaGreatM00
import Derived.Test.YtfcnbgmclfkfcaaGreatM20
set_option linter.unusedSimpArgs false
set_option linter.unusedVariables false
namespace Go.PN
open Go.AI
def ZMe (n:Nat) (ns:List DN) (e:(Int×Int×Int)×Int):Prop:=
 (e.1.1=119∧WOk n ns e.1.2.1 e.1.2.2 e.2)∨(e.1.1=107∧UOk n ns e.1.2.1 e.1.2.2 e.2)∨(e.1.1=99∧RefOk ns e.1.2.1∧e.2=cntZ ns e.1.2.1)
def ZMem (n:Nat) (ns:List DN) (mm:Mem3):Prop:=∀e∈mm,ZMe n ns e
def lvE (n:Nat) (ns:List DN) (k:Int×Int×Int):Int:=if k.1=119 then min (evZ n ns k.2.1) (evZ n ns k.2.2) else evZ n ns k.2.1
theorem ZMe.later {n:Nat} {x y:List DN} {k:Nat} (h:ZLat n x y k) (hx:ZTab n x) {e:(Int×Int×Int)×Int} (he:ZMe n x e):ZMe n y e:=by
 rcases he with ⟨e1,e2⟩|⟨e1,e2⟩|⟨e1,e2,e3⟩
 ·exact .inl ⟨e1,e2.later h hx⟩
 ·exact .inr (.inl ⟨e1,e2.later h hx⟩)
 ·refine .inr (.inr ⟨e1,h.ref e2,?_⟩)
  obtain⟨zs,rfl⟩:=h.pre
  rw [cnt_app hx e2];exact e3
theorem ZMem.later {n:Nat} {x y:List DN} {k:Nat} (h:ZLat n x y k) (hx:ZTab n x) {mm:Mem3} (hm:ZMem n x mm):ZMem n y mm:=fun e he=>(hm e he).later h hx
theorem ZMe.lv {n:Nat} {x y:List DN} {k:Nat} (h:ZLat n x y k) {e:(Int×Int×Int)×Int} (he:ZMe n x e):lvE n y e.1=lvE n x e.1:=by
 unfold lvE
 rcases he with ⟨e1,e2⟩|⟨e1,e2⟩|⟨e1,e2,e3⟩
 ·rw [if_pos e1,if_pos e1,h.ev e2.pa,h.ev e2.pb]
 ·rw [if_neg om,if_neg om,h.ev e2.pa]
 ·rw [if_neg om,if_neg om,h.ev e2]
structure ZS (n:Nat) (og:Option Nat) (ns:List DN) (mm:Mem3):Prop where
 og:og=none→ns.length=0
 tab:ZTab n ns
 mem:ZMem n ns mm
structure ZP (n:Nat) (ns:List DN) (mm:Mem3) (L:Int) (k:Nat) (og':Option Nat) (ns':List DN) (mm':Mem3):Prop where
 og:og'=none→ns'.length=0
 lat:ZLat n ns ns' k
 mem:ZMem n ns' mm'
 new:∀e∈mm',e∈mm∨L≤lvE n ns' e.1
theorem ZP.zs {n:Nat} {ns:List DN} {mm:Mem3} {L:Int} {k:Nat} {og':Option Nat} {ns':List DN} {mm':Mem3} (h:ZP n ns mm L k og' ns' mm'):ZS n og' ns' mm':=⟨h.og,h.lat.tab,h.mem⟩
theorem ZS.same {n:Nat} {og:Option Nat} {ns:List DN} {mm:Mem3} (h:ZS n og ns mm) (L:Int) (k:Nat):ZP n ns mm L k og ns mm:=⟨h.og,ZLat.refl h.tab k,h.mem,fun _ he=>.inl he⟩
theorem ZP.trans {n:Nat} {ns ns1 ns2:List DN} {mm mm1 mm2:Mem3} {L L1 L2:Int} {i j k:Nat} {o1 o2:Option Nat} (h:ZP n ns mm L1 i o1 ns1 mm1) (h2:ZP n ns1 mm1 L2 j o2 ns2 mm2) (hk:i+j≤k) (l1:L≤L1) (l2:L≤L2):ZP n ns mm L k o2 ns2 mm2:=
 ⟨h2.og,h.lat.trans h2.lat hk,h2.mem,fun e he=>by
  rcases h2.new e he with h3|h3
  ·rcases h.new e h3 with h4|h4
   ·exact .inl h4
   ·right
    rw [(h.mem e h3).lv h2.lat]
    omega
  ·exact .inr om⟩
theorem ZP.mono {n:Nat} {ns ns1:List DN} {mm mm1:Mem3} {L L1:Int} {i k:Nat} {o1:Option Nat} (h:ZP n ns mm L1 i o1 ns1 mm1) (hk:i≤k) (l1:L≤L1):ZP n ns mm L k o1 ns1 mm1:=
 ⟨h.og,⟨h.lat.tab,h.lat.pre,Nat.le_trans h.lat.len (Nat.add_le_add_left hk _)⟩,h.mem,fun e he=>(h.new e he).imp id fun x=>Int.le_trans l1 x⟩
theorem ZP.make {n:Nat} {ns ns1:List DN} {mm mm1:Mem3} {L:Int} {i k:Nat} {o1 o2:Option Nat} (h:ZP n ns mm L i o1 ns1 mm1) {ns2:List DN} (l:ZLat n ns1 ns2 1) (ho:o2=none→ns2.length=0) (hk:i+1≤k):ZP n ns mm L k o2 ns2 mm1:=
 ⟨ho,h.lat.trans l hk,h.mem.later l h.lat.tab,fun e he=>(h.new e he).imp id fun x=>by rw [(h.mem e he).lv l];exact x⟩
theorem ZP.note {n:Nat} {ns ns1:List DN} {mm mm1:Mem3} {L L':Int} {i:Nat} {o1:Option Nat} (h:ZP n ns mm L' i o1 ns1 mm1) {e:(Int×Int×Int)×Int} (he:ZMe n ns1 e) (hL:L≤L') (hl:L≤lvE n ns1 e.1):ZP n ns mm L i o1 ns1 (mm1++[e]):=
 ⟨h.og,h.lat,fun x hx=>by
  rcases List.mem_append.1 hx with hx|hx
  ·exact h.mem x hx
  ·rw [List.mem_singleton] at hx;subst hx;exact he,fun x hx=>by
  rcases List.mem_append.1 hx with hx|hx
  ·exact(h.new x hx).imp id fun y=>Int.le_trans hL y
  ·rw [List.mem_singleton] at hx;subst hx;exact .inr hl⟩
theorem ZP.absent {n:Nat} {ns ns1:List DN} {mm mm1:Mem3} {L:Int} {i:Nat} {o1:Option Nat} (h:ZP n ns mm L i o1 ns1 mm1) {k:Int×Int×Int} (hk:memGet k mm=none) (hl:lvE n ns1 k<L):memGet k mm1=none:=
 mem_none' fun e he hc=>by
  rcases h.new e he with h1|h1
  ·exact mem_none hk e h1 hc
  ·rw [hc] at h1;omega
end Go.PN
namespace Go.Proofs.YtfcnbgmclfkfcaaGreat
open Go.AI Go.PN
attribute [local irreducible] aw Fa Fh DrK
set_option maxRecDepth 100000 in
set_option maxHeartbeats 3200000 in
theorem remember_fh (gT gU gM:Nat) {og:Option Nat} {ns:List DN} {mm:Mem3} (hb:Heap) (f:FuncId) (gs':List Nat) (op a b:Int) (hog:og=none→ns.length=0) (hn:ns.length≤1000000000) (Q:Option Nat→List DN→Mem3→Int→Prop)
 (hf:memGet (op,a,b) mm=none→Fh Tryz.prog f (ZHp gT gU gM og ns mm++hb) ([]++gs'.map fun g=>.c (.optr g 0)) (fun x h=>∃og' ns' mm' r,Q og' ns' mm' r∧(og'=none→ns'.length=0)∧ns'.length≤1000000000∧memGet (op,a,b) mm'=none∧x=.c (.int .i64 r)∧h=ZHp gT gU gM og' ns' mm'++hb)):
 Fh Tryz.prog 201 (ZHp gT gU gM og ns mm++hb) [.c (.optr gT 0),.c (.int .u8 op),.c (.int .i64 a),.c (.int .i64 b),.c (fnC f gs')]
  (fun x h=>(∃r,memGet (op,a,b) mm=some r∧x=.c (.int .i64 r)∧h=ZHp gT gU gM og ns mm++hb)∨(memGet (op,a,b) mm=none∧∃og' ns' mm' r,Q og' ns' mm' r∧x=.c (.int .i64 r)∧h=ZHp gT gU gM og' ns' (mm'++[((op,a,b),r)])++hb)):=by
 refine fh_of_body Tryz.func201 rfl rfl (by simp [Tryz.ntmps201]) fun C hC=> ?_
 simp only [initS,Nat.reduceAdd]
 refine aw_nd fun hnd=> ?_
 have hnd0:(ZHp gT gU gM og ns mm).keys.Nodup:=(List.sublist_append_left _ _).map _|>.nodup hnd
 obtain⟨d,d4⟩:=zh_ne hnd0
 have hlen:=lenCV_gs (s:=3) hog
 unfold ZHp ZH
 simp only [List.cons_append,List.nil_append]
 repeat first|apply wa1|apply wa2|apply wa3|apply wa4|apply wa5 rfl|apply wa6|apply wa7|(refine wb1 rfl fun R r=>?_;simp only[go_sem,d,↓hlen];with_reducible show R (some _);with_reducible refine r _ _ ?_;clear r R)
 refine aw_alloc rfl rfl rfl (by simp only[go_sem,d,↓hlen]<;>rfl) fun g9 hn_g9=> ?_
 replace hn_g9:=Heap.ne_of hn_g9
 first|dsimp only [Heap.ne,gh] at hn_g9|dsimp only [Heap.ne] at hn_g9|skip
 (try simp only[go_sem,d,↓hlen,hn_g9])
 repeat first|apply wa1|apply wa2|apply wa3|apply wa4|apply wa5 rfl|apply wa6|apply wa7|(refine wb1 rfl fun R r=>?_;simp only[go_sem,d,↓hlen,hn_g9];with_reducible show R (some _);with_reducible refine r _ _ ?_;clear r R)
 refine aw_store rfl rfl rfl rfl (by simp only[go_sem,d,↓hlen,hn_g9]<;>rfl) (by simp only[go_sem,d,↓hlen,hn_g9]<;>rfl) (by simp only[go_sem,d,↓hlen,hn_g9]<;>rfl) (by simp only[go_sem,d,↓hlen,hn_g9]<;>rfl) (fun _ e=>by cases e) (by rfl) (by rfl) (by first|omega|simp) rfl ?_
 (try simp only[go_sem,d,↓hlen,hn_g9])
 repeat first|apply wa1|apply wa2|apply wa3|apply wa4|apply wa5 rfl|apply wa6|apply wa7|(refine wb1 rfl fun R r=>?_;simp only[go_sem,d,↓hlen,hn_g9];with_reducible show R (some _);with_reducible refine r _ _ ?_;clear r R)
 refine aw_dr 11 ty_mixed (by kernel_rfl) ?_
 repeat first|apply wa1|apply wa2|apply wa3|apply wa4|apply wa5 rfl|apply wa6|apply wa7|(refine wb1 rfl fun R r=>?_;simp only[go_sem,d,↓hlen,hn_g9];with_reducible show R (some _);with_reducible refine r _ _ ?_;clear r R)|apply wa8|(refine wd1 rfl fun R r=>?_;simp only[go_sem,d,↓hlen,hn_g9];with_reducible show R (some _);with_reducible refine r _ _ ?_;clear r R)
 refine drk_lookup2 (a:=(op,a,b)) (kv:=mmL mm) (Kf:=keyS) (kt:=234) (et:=3) rfl rfl rfl (by kernel_rfl) ty_ks ty_iz (by simp only[go_sem,d,↓hlen,hn_g9]<;>rfl) (by simp only[go_sem,d,↓hlen,hn_g9]<;>rfl) (by simp only[go_sem,d,↓hlen,hn_g9]<;>rfl) keyS_rep ?_
 (try simp only[go_sem,d,↓hlen,hn_g9])
 rw [mm_get]
 cases hfm:memGet (op,a,b) mm with
 |some r=>
  try simp only [Option.map_some,Option.getD_some,Option.isSome_some,cstC]
  repeat first|apply wa1|apply wa2|apply wa3|apply wa4|apply wa5 rfl|apply wa6|apply wa7|(refine wb1 rfl fun R r=>?_;simp only[go_sem,d,↓hlen,hn_g9];with_reducible show R (some _);with_reducible refine r _ _ ?_;clear r R)|apply wa8|(refine wd1 rfl fun R r=>?_;simp only[go_sem,d,↓hlen,hn_g9];with_reducible show R (some _);with_reducible refine r _ _ ?_;clear r R)
  refine aw_condF (by simp only[go_sem,d,↓hlen,hn_g9]<;>rfl) ?_
  repeat first|apply wa1|apply wa2|apply wa3|apply wa4|apply wa5 rfl|apply wa6|apply wa7|(refine wb1 rfl fun R r=>?_;simp only[go_sem,d,↓hlen,hn_g9];with_reducible show R (some _);with_reducible refine r _ _ ?_;clear r R)|apply wa8|(refine wd1 rfl fun R r=>?_;simp only[go_sem,d,↓hlen,hn_g9];with_reducible show R (some _);with_reducible refine r _ _ ?_;clear r R)
  refine aw_keep [(10,.c (.int .i64 r))] (ZHp gT gU gM og ns mm++hb) (by simp only[go_sem,d,↓hlen,hn_g9]<;>and_intros<;>first|exact True.intro|(with_reducible rfl)|exact c_int om|rfl) (List.Sublist.cons _ (List.Sublist.refl _)) ?_
  (refine aw_rethq rfl fun R r=>?_;simp only[go_sem,d,↓hlen,hn_g9];refine r _ rfl ?_;clear r R)
  exact .inl ⟨r,rfl,rfl,rfl⟩
 |none=>
  try simp only [Option.map_none,Option.getD_none,Option.isSome_none,cstC]
  repeat first|apply wa1|apply wa2|apply wa3|apply wa4|apply wa5 rfl|apply wa6|apply wa7|(refine wb1 rfl fun R r=>?_;simp only[go_sem,d,↓hlen,hn_g9];with_reducible show R (some _);with_reducible refine r _ _ ?_;clear r R)|apply wa8|(refine wd1 rfl fun R r=>?_;simp only[go_sem,d,↓hlen,hn_g9];with_reducible show R (some _);with_reducible refine r _ _ ?_;clear r R)
  refine aw_condT (by simp only[go_sem,d,↓hlen,hn_g9]<;>rfl) ?_
  repeat first|apply wa1|apply wa2|apply wa3|apply wa4|apply wa5 rfl|apply wa6|apply wa7|(refine wb1 rfl fun R r=>?_;simp only[go_sem,d,↓hlen,hn_g9];with_reducible show R (some _);with_reducible refine r _ _ ?_;clear r R)
  refine aw_callhv (gs:=gs') (hc:=ZHp gT gU gM og ns mm++hb) (hr:=[(g9,.cells 234 3 (ofL [.int .u8 op,.int .i64 a,.int .i64 b]))]) (hf hfm) rfl rfl rfl (by simp only[go_sem,d,↓hlen,hn_g9]<;>rfl) (List.perm_append_singleton _ _).symm (by first|exact True.intro|simp only[go_sem,d,↓hlen,hn_g9]<;>and_intros<;>first|exact True.intro|exact .c (.refl _)|exact .c wl2|exact .agg (lel_refl _)|exact .agg (by simp only[LeL];and_intros<;>first|exact True.intro|exact .refl _|exact wl2)|exact .c .nils) ?_
  rintro _ _ ⟨og1,ns1,mm1,r,hq,hog1,hl1,hm1,rfl,rfl⟩ _
  (try simp only[go_sem,d,↓hlen,hn_g9])
  refine aw_perm (List.perm_append_singleton _ _) ?_
  refine aw_nd fun hnd2=> ?_
  have hnd3:=(List.nodup_cons.1 hnd2).2
  have hnd4:(ZHp gT gU gM og1 ns1 mm1).keys.Nodup:=(List.sublist_append_left _ _).map _|>.nodup hnd3
  have e9:=Heap.ne_of (List.nodup_cons.1 hnd2).1
  unfold ZHp ZH at e9⊢
  simp only [List.cons_append,List.nil_append] at e9⊢
  dsimp only [Heap.ne] at e9
  have e9':=And.intro e9.1 (And.intro e9.2.1 e9.2.2.1)
  have hlen1:=lenCV_gs (s:=3) hog1
  repeat first|apply wa1|apply wa2|apply wa3|apply wa4|apply wa5 rfl|apply wa6|apply wa7|(refine wb1 rfl fun R r=>?_;simp only[go_sem,d,↓hlen,hn_g9,e9',↓hlen1];with_reducible show R (some _);with_reducible refine r _ _ ?_;clear r R)
  refine aw_dr 6 ty_mixed (by kernel_rfl) ?_
  repeat first|apply wa1|apply wa2|apply wa3|apply wa4|apply wa5 rfl|apply wa6|apply wa7|(refine wb1 rfl fun R r=>?_;simp only[go_sem,d,↓hlen,hn_g9,e9',↓hlen1];with_reducible show R (some _);with_reducible refine r _ _ ?_;clear r R)|apply wa8|(refine wd1 rfl fun R r=>?_;simp only[go_sem,d,↓hlen,hn_g9,e9',↓hlen1];with_reducible show R (some _);with_reducible refine r _ _ ?_;clear r R)
  refine aw_mapNew (a:=(op,a,b)) (kv:=mmL mm1) (Kf:=keyS) (v:=.int .i64 r) rfl rfl rfl (kt:=234) (et:=3) (by kernel_rfl) ty_ks (by simp only[go_sem,d,↓hlen,hn_g9,e9',↓hlen1]<;>rfl) (by simp only[go_sem,d,↓hlen,hn_g9,e9',↓hlen1]<;>rfl) (by simp only[go_sem,d,↓hlen,hn_g9,e9',↓hlen1]<;>rfl) keyS_rep (cv:=.c (.int .i64 r)) (by simp only[go_sem,d,↓hlen,hn_g9,e9',↓hlen1]<;>rfl) (fun S w u h=>h) (by rw [mm_get,hm1];rfl) (by simp only[go_sem,d,↓hlen,hn_g9,e9',↓hlen1]<;>rfl) ?_
  rw [mmL_push]
  (try simp only[go_sem,d,↓hlen,hn_g9,e9',↓hlen1])
  repeat first|apply wa1|apply wa2|apply wa3|apply wa4|apply wa5 rfl|apply wa6|apply wa7|(refine wb1 rfl fun R r=>?_;simp only[go_sem,d,↓hlen,hn_g9,e9',↓hlen1];with_reducible show R (some _);with_reducible refine r _ _ ?_;clear r R)|apply wa8|(refine wd1 rfl fun R r=>?_;simp only[go_sem,d,↓hlen,hn_g9,e9',↓hlen1];with_reducible show R (some _);with_reducible refine r _ _ ?_;clear r R)
  refine aw_keep [(10,.c (.int .i64 r))] (ZHp gT gU gM og1 ns1 (mm1++[((op,a,b),r)])++hb) (by simp only[go_sem,d,↓hlen,hn_g9,e9',↓hlen1]<;>and_intros<;>first|exact True.intro|(with_reducible rfl)|exact c_int om|rfl) (List.Sublist.cons _ (List.Sublist.refl _)) ?_
  (refine aw_rethq rfl fun R r=>?_;simp only[go_sem,d,↓hlen,hn_g9,e9',↓hlen1];refine r _ rfl ?_;clear r R)
  first|exact .inr ⟨rfl,og1,ns1,mm1,r,hq,rfl,rfl⟩|exact .inr ⟨og1,ns1,mm1,r,hq,rfl,rfl⟩|exact⟨og1,ns1,mm1,r,hq,rfl,rfl⟩
end Go.Proofs.YtfcnbgmclfkfcaaGreat
namespace Go.PN
open Go.AI
theorem ev24 {n:Nat} {ns:List DN} {r:Int} (h2:2≤r):evZ 24 ns r=evZ n ns r:=by rw [evZ_node h2,evZ_node h2]
theorem kids24 {n:Nat} {ns:List DN} {r v:Int} (hv:v<n) (hn:n≤24):kidsZ 24 ns r v=kidsZ n ns r v:=by
 unfold kidsZ
 by_cases h2:r<2
 ·rw [ev_leaf h2,ev_leaf h2,if_pos om,if_pos om]
 ·rw [ev24 (n:=n) om]
end Go.PN
namespace Go.Proofs.YtfcnbgmclfkfcaaGreat
open Go.AI Go.PN
attribute [local irreducible] aw Fa Fh DrK
abbrev WB (gA gB gC gT:Nat) (a b:Int):Heap:=[(gC,.cells 3 1 (ofL [.int .i64 b])),(gB,.cells 3 1 (ofL [.int .i64 a])),(gA,.cells 181 1 (ofL [.optr gT 0]))]
def WithoutOk (n gT gU gM:Nat) (k:Nat):Prop:=∀(og:Option Nat) (ns:List DN) (mm:Mem3) (a b:Int),ZS n og ns mm→ns.length+3^k≤1000000000→RefOk ns a→RefOk ns b→(n:Int)+1≤min (evZ n ns a) (evZ n ns b)+k→
    Fh Tryz.prog 219 (ZHp gT gU gM og ns mm) [.c (.optr gT 0),.c (.int .i64 a),.c (.int .i64 b)]
     (fun x h=>∃og' ns' mm' r,ZP n ns mm (min (evZ n ns a) (evZ n ns b)) (3^k-1) og' ns' mm'∧WOk n ns' a b r∧x=.c (.int .i64 r)∧h=ZHp gT gU gM og' ns' mm')
set_option maxRecDepth 100000 in
set_option maxHeartbeats 6400000 in
theorem zwclo_fh (n gT gU gM:Nat) (h24:n≤24) (k:Nat) (ih:WithoutOk n gT gU gM k) (gA gB gC:Nat) (og:Option Nat) (ns:List DN) (mm:Mem3) (a b:Int) (hs:ZS n og ns mm) (hn:ns.length+3^(k+1)≤1000000000) (ha:RefOk ns a) (hb:RefOk ns b) (ha2:2≤a) (hb2:2≤b) (hk:(n:Int)+1≤min (evZ n ns a) (evZ n ns b)+(k+1)):
 Fh Tryz.prog 236 (ZHp gT gU gM og ns mm++WB gA gB gC gT a b) ([]++[gA,gB,gC].map fun g=>.c (.optr g 0))
  (fun x h=>∃og' ns' mm' r,(ZP n ns mm (min (evZ n ns a) (evZ n ns b)+1) (3^(k+1)-1) og' ns' mm'∧WOk n ns' a b r)∧(og'=none→ns'.length=0)∧ns'.length≤1000000000∧x=.c (.int .i64 r)∧h=ZHp gT gU gM og' ns' mm'++WB gA gB gC gT a b):=by
 have hp3:3^(k+1)=3^k+3^k+3^k:=by rw [Nat.pow_succ];omega
 have hp1:0<3^k:=Nat.pow_pos om
 simp only [List.nil_append,List.map_cons,List.map_nil]
 refine fh_of_body Tryz.func236 rfl rfl (by simp [Tryz.ntmps236]) fun C hC=> ?_
 simp only [initS,Nat.reduceAdd]
 refine aw_nd fun hnd=> ?_
 have hnd0:(WB gA gB gC gT a b).keys.Nodup:=(List.sublist_append_right _ _).map _|>.nodup hnd
 simp only [Heap.keys,List.map_cons,List.map_nil] at hnd0
 replace hnd0:=ndP_of hnd0
 dsimp only [ndP,neA] at hnd0
 refine aw_perm (List.perm_append_comm) ?_
 simp only [WB,List.cons_append,List.nil_append]
 refine yG hnd0 ?_
 refine aw_cw ([(gC,.cells 3 1 (ofL [.int .i64 b])),(gB,.cells 3 1 (ofL [.int .i64 a])),(gA,.cells 181 1 (ofL [.optr gT 0]))]) [(0,0),(1,0),(3,0),(4,0),(2,1),(5,1),(6,0),(7,0)] ty_mixed (by kernel_rfl) eI ?_
 refine yG hnd0 ?_
 refine cw_callh (hc:=ZHp gT gU gM og ns mm) (hr:=WB gA gB gC gT a b) rfl (zevent_fh gT gU gM og ns mm a hs.og om ha) rfl rfl rfl (List.perm_append_comm (l₁:=WB gA gB gC gT a b)) (zL hnd0) (by rintro _ _ ⟨rfl,rfl⟩;exact has0_app2 eI) ?_ (hm:=.inr ⟨rfl,rfl⟩)
 rintro _ _ ⟨rfl,rfl⟩ _
 refine ySG hnd0 ?_
 refine cw_callh (hc:=ZHp gT gU gM og ns mm) (hr:=WB gA gB gC gT a b) rfl (zevent_fh gT gU gM og ns mm b hs.og om hb) rfl rfl rfl (.refl _) (zL hnd0) (by rintro _ _ ⟨rfl,rfl⟩;exact has0_app2 eI) ?_ (hm:=.inr ⟨rfl,rfl⟩)
 rintro _ _ ⟨rfl,rfl⟩ _
 refine ySG hnd0 ?_
 obtain⟨v,hv⟩:∃v,min (evZ n ns a) (evZ n ns b)=v:=⟨_,rfl⟩
 have hvm:(if evZ 24 ns b<evZ 24 ns a then evZ 24 ns b else evZ 24 ns a)=v:=by
  rw [ev24 (n:=n) ha2,ev24 (n:=n) hb2]
  split<;>omega
 have va:=evZ_le hs.tab ha
 have vb:=evZ_le hs.tab hb
 have va2:=va.2.2 ha2
 rw [hvm]
 rw [hv] at hk⊢
 have ka:=kidsZ_ok hs.tab ha (v:=v) om om om
 have kb:=kidsZ_ok hs.tab hb (v:=v) om om om
 refine aw_perm (List.perm_append_comm (l₁:=ZHp gT gU gM og ns mm)) ?_
 simp only [WB,List.cons_append,List.nil_append]
 refine yG hnd0 ?_
 refine aw_callh (hc:=ZHp gT gU gM og ns mm) (hr:=WB gA gB gC gT a b) (zkids_fh gT gU gM og ns mm a v hs.og om ha om) rfl rfl rfl (List.perm_append_comm (l₁:=WB gA gB gC gT a b)) (zL hnd0) ?_
 rintro _ _ ⟨rfl,rfl⟩ _
 rw [kids24 (n:=n) om h24]
 refine yS hnd0 ?_
 refine aw_perm (List.perm_append_comm (l₁:=ZHp gT gU gM og ns mm)) ?_
 simp only [WB,List.cons_append,List.nil_append]
 refine yG hnd0 ?_
 refine aw_callh (hc:=ZHp gT gU gM og ns mm) (hr:=WB gA gB gC gT a b) (zkids_fh gT gU gM og ns mm b v hs.og om hb om) rfl rfl rfl (List.perm_append_comm (l₁:=WB gA gB gC gT a b)) (zL hnd0) ?_
 rintro _ _ ⟨rfl,rfl⟩ _
 rw [kids24 (n:=n) om h24]
 refine yS hnd0 ?_
 refine aw_perm (List.perm_append_comm (l₁:=ZHp gT gU gM og ns mm)) ?_
 simp only [WB,List.cons_append,List.nil_append]
 refine yG hnd0 ?_
 generalize (kidsZ n ns a v).1=a0 at*
 generalize (kidsZ n ns a v).2=a1 at*
 generalize (kidsZ n ns b v).1=b0 at*
 generalize (kidsZ n ns b v).2=b1 at*
 refine aw_cw ([(gC,.cells 3 1 (ofL [.int .i64 b])),(gB,.cells 3 1 (ofL [.int .i64 a])),(gA,.cells 181 1 (ofL [.optr gT 0]))]) [(0,0),(1,0),(2,0),(3,0),(4,0),(6,0),(7,0),(8,0),(9,0),(11,0),(5,1),(10,1),(12,1),(13,1),(14,0)] ty_mixed (by kernel_rfl) eI ?_
 refine yG hnd0 ?_
 have q1:=ka.ea
 have q2:=ka.eb
 have q3:=kb.ea
 have q4:=kb.eb
 refine cw_callh (hc:=ZHp gT gU gM og ns mm) (hr:=WB gA gB gC gT a b) rfl (ih og ns mm a0 b0 hs om ka.ra kb.ra om) rfl rfl rfl (List.perm_append_comm (l₁:=WB gA gB gC gT a b)) (zL hnd0) (by rintro _ _ ⟨_,_,_,_,_,_,rfl,rfl⟩;exact has0_app2 eI) ?_ (hm:=.inr ⟨rfl,rfl⟩)
 rintro _ _ ⟨og1,ns1,mm1,x,p1,w1,rfl,rfl⟩ _
 refine ySG hnd0 ?_
 have ll1:=p1.lat.len
 refine cw_callh (hc:=ZHp gT gU gM og1 ns1 mm1) (hr:=WB gA gB gC gT a b) rfl (ih og1 ns1 mm1 a1 b0 p1.zs om (p1.lat.ref ka.rb) (p1.lat.ref kb.ra) (by rw [p1.lat.ev ka.rb,p1.lat.ev kb.ra];omega)) rfl rfl rfl (.refl _) (zL hnd0) (by rintro _ _ ⟨_,_,_,_,_,_,rfl,rfl⟩;exact has0_app2 eI) ?_ (hm:=.inr ⟨rfl,rfl⟩)
 rw [p1.lat.ev ka.rb,p1.lat.ev kb.ra]
 rintro _ _ ⟨og2,ns2,mm2,y,p2,w2,rfl,rfl⟩ _
 refine ySG hnd0 ?_
 have l12:=p1.lat.trans p2.lat (Nat.le_refl _)
 have ll2:=p2.lat.len
 have wy:=w2.ev
 rw [l12.ev ka.rb,l12.ev kb.ra] at wy
 refine cw_callh (hc:=ZHp gT gU gM og2 ns2 mm2) (hr:=WB gA gB gC gT a b) rfl (ih og2 ns2 mm2 y b1 p2.zs om w2.pr (l12.ref kb.rb) (by rw [l12.ev kb.rb];omega)) rfl rfl rfl (.refl _) (zL hnd0) (by rintro _ _ ⟨_,_,_,_,_,_,rfl,rfl⟩;exact has0_app2 eI) ?_ (hm:=.inr ⟨rfl,rfl⟩)
 rw [l12.ev kb.rb]
 rintro _ _ ⟨og3,ns3,mm3,z,p3,w3,rfl,rfl⟩ _
 refine ySG hnd0 ?_
 have ll3:=p3.lat.len
 have pa:=(p1.trans p2 (Nat.le_refl _) (L:=v+1) om om).trans p3 (Nat.le_refl _) (L:=v+1) om om
 refine cw_callh (hc:=ZHp gT gU gM og3 ns3 mm3) (hr:=WB gA gB gC gT a b) rfl (zmake_fh gT gU gM og3 ns3 mm3 v x z p3.og om) rfl rfl rfl (.refl _) (zL hnd0) (by rintro _ _ ⟨_,_,rfl,rfl⟩;exact has0_app2 eI) ?_ (hm:=.inr ⟨rfl,rfl⟩)
 rintro _ _ ⟨og4,ho4,rfl,rfl⟩ _
 refine ySG hnd0 ?_
 obtain⟨m1,m2,m3,_⟩:=w_step hs.tab ha hb om om hv.symm ka kb p1.lat w1 p2.lat w2 p3.lat w3
 refine yU hnd0 ?_
 exact⟨og4,_,mm3,_,⟨pa.make m1 ho4 om,m3⟩,ho4,by have:=m2.len;omega,rfl,rfl⟩
set_option maxRecDepth 100000 in
set_option maxHeartbeats 6400000 in
theorem zwithout_ok (n gT gU gM:Nat) (h24:n≤24):∀k,WithoutOk n gT gU gM k:=by
 intro k
 induction k with
 |zero=>
  intro og ns mm a b hs _ ha _ hk
  have:=(evZ_le hs.tab ha).2.1
  omega
 |succ k ih=>
  intro og ns mm a b hs hn ha hb hk
  have hp1:0<3^(k+1):=Nat.pow_pos om
  refine fh_of_body Tryz.func219 rfl rfl (by simp [Tryz.ntmps219]) fun C hC=> ?_
  simp only [initS,Nat.reduceAdd]
  refine xG ?_
  refine xB fun gA hn_gA=>?_
  refine yG hn_gA ?_
  refine yB hn_gA fun gB hn_gB=>?_
  refine yG (oj hn_gA hn_gB) ?_
  refine yB (oj hn_gA hn_gB) fun gC hn_gC=>?_
  have J1:=oj hn_gA (oj hn_gB hn_gC)
  refine yG J1 ?_
  refine aw_split 10 (zE J1) (fun h1=> ?_) (fun h1=> ?_)<;>refine yS J1 ?_
  ·refine yGPG J1 ?_
   have h1':a=0:=by simpa using h1
   refine aw_keep [(6,.c (.int .i64 0))] (ZHp gT gU gM og ns mm) (zB J1) (List.Sublist.cons _ (List.Sublist.cons _ (List.Sublist.cons _ (List.Sublist.refl _)))) ?_
   refine yU J1 ?_
   exact⟨og,ns,mm,0,hs.same _ _,w_base hs.tab ha hb (.inl h1'),rfl,rfl⟩
  have h1':¬a=0:=by simpa using h1
  refine yG J1 ?_
  refine aw_callh (hc:=ZHp gT gU gM og ns mm) (hr:=WB gA gB gC gT a b) (zempty_fh gT gU gM og ns mm b hs.og om hs.tab hb) rfl rfl rfl (List.perm_append_comm (l₁:=WB gA gB gC gT a b)) (zL J1) ?_
  rintro _ _ ⟨rfl,rfl⟩ _
  refine aw_perm (List.perm_append_comm (l₁:=ZHp gT gU gM og ns mm)) ?_
  simp only [WB,List.cons_append,List.nil_append]
  refine yS J1 ?_
  cases hme:memZ ns b 0
  case true=>
   refine yGPG J1 ?_
   refine aw_keep [(6,.c (.int .i64 0))] (ZHp gT gU gM og ns mm) (zB J1) (List.Sublist.cons _ (List.Sublist.cons _ (List.Sublist.cons _ (List.Sublist.refl _)))) ?_
   refine yU J1 ?_
   exact⟨og,ns,mm,0,hs.same _ _,w_base hs.tab ha hb (.inr hme),rfl,rfl⟩
  refine yGNG J1 ?_
  refine aw_split 18 (zE J1) (fun h2=> ?_) (fun h2=> ?_)<;>refine yS J1 ?_
  ·refine yGPG J1 ?_
   have h2':b=0:=by simpa using h2
   refine aw_keep [(6,.c (.int .i64 a))] (ZHp gT gU gM og ns mm) (zB J1) (List.Sublist.cons _ (List.Sublist.cons _ (List.Sublist.cons _ (List.Sublist.refl _)))) ?_
   refine yU J1 ?_
   exact⟨og,ns,mm,a,hs.same _ _,w_base2 hs.tab ha hb hme (.inl h2'),rfl,rfl⟩
  have h2':¬b=0:=by simpa using h2
  refine yG J1 ?_
  refine yF J1 (fun h3=>?_) fun h3=>?_
  ·refine yG J1 ?_
   have h3':a=1:=by simpa using h3
   refine aw_keep [(6,.c (.int .i64 a))] (ZHp gT gU gM og ns mm) (zB J1) (List.Sublist.cons _ (List.Sublist.cons _ (List.Sublist.cons _ (List.Sublist.refl _)))) ?_
   refine yU J1 ?_
   exact⟨og,ns,mm,a,hs.same _ _,w_base2 hs.tab ha hb hme (.inr h3'),rfl,rfl⟩
  have h3':¬a=1:=by simpa using h3
  have h4:¬b=1:=fun e=>by
   subst e
   rw [mem_leaf om] at hme
   simp at hme
  refine yG J1 ?_
  refine aw_makeFunc (f:=236) (gs:=[gA,gB,gC]) rfl rfl rfl (zE J1) ?_
  refine yS J1 ?_
  have hm1:memGet (119,a,b) mm=none→Fh Tryz.prog 236 (ZHp gT gU gM og ns mm++WB gA gB gC gT a b) ([]++[gA,gB,gC].map fun g=>.c (.optr g 0)) (fun x h=>∃og' ns' mm' r,(ZP n ns mm (min (evZ n ns a) (evZ n ns b)+1) (3^(k+1)-1) og' ns' mm'∧WOk n ns' a b r)∧(og'=none→ns'.length=0)∧ns'.length≤1000000000∧memGet (119,a,b) mm'=none∧x=.c (.int .i64 r)∧h=ZHp gT gU gM og' ns' mm'++WB gA gB gC gT a b):=fun hm=>by
   refine(zwclo_fh n gT gU gM h24 k ih gA gB gC og ns mm a b hs hn ha hb (by unfold RefOk at ha;omega) (by unfold RefOk at hb;omega) om).mono ?_
   rintro x h ⟨og',ns',mm',r,⟨p,w⟩,e1,e2,e3,e4⟩
   refine⟨og',ns',mm',r,⟨p,w⟩,e1,e2,p.absent hm ?_,e3,e4⟩
   unfold lvE
   rw [if_pos rfl,p.lat.ev ha,p.lat.ev hb]
   omega
  refine aw_callh (hc:=ZHp gT gU gM og ns mm++WB gA gB gC gT a b) (hr:=[]) (remember_fh gT gU gM (WB gA gB gC gT a b) 236 [gA,gB,gC] 119 a b hs.og om _ hm1) rfl rfl rfl (by rw [List.append_nil];exact List.perm_append_comm (l₁:=WB gA gB gC gT a b)) (zL J1) ?_
  rintro _ _ (⟨r,hm,rfl,rfl⟩|⟨hm,og',ns',mm',r,⟨p,w⟩,rfl,rfl⟩) _
  ·rw [List.append_nil]
   refine ySG J1 ?_
   refine aw_keep [(6,.c (.int .i64 r))] (ZHp gT gU gM og ns mm) (zB J1) (List.sublist_append_left _ _) ?_
   refine yU J1 ?_
   have me:=hs.mem _ (mem_mem hm)
   rcases me with ⟨_,e2⟩|⟨e1,_⟩|⟨e1,_⟩
   ·exact⟨og,ns,mm,r,hs.same _ _,e2,rfl,rfl⟩
   ·cases e1
   ·cases e1
  ·rw [List.append_nil]
   refine ySG J1 ?_
   refine aw_keep [(6,.c (.int .i64 r))] (ZHp gT gU gM og' ns' (mm'++[((119,a,b),r)])) (zB J1) (List.sublist_append_left _ _) ?_
   refine yU J1 ?_
   refine⟨og',ns',_,r,p.note (.inl ⟨rfl,w⟩) om ?_,w,rfl,rfl⟩
   unfold lvE
   rw [if_pos rfl,p.lat.ev ha,p.lat.ev hb]
   exact Int.le_refl _
theorem zwithout_fh {n:Nat} (gT gU gM:Nat) (h24:n≤24) {og:Option Nat} {ns:List DN} {mm:Mem3} {a b:Int} (hs:ZS n og ns mm) (hn:ns.length+3^(n+1)≤1000000000) (ha:RefOk ns a) (hb:RefOk ns b):
 Fh Tryz.prog 219 (ZHp gT gU gM og ns mm) [.c (.optr gT 0),.c (.int .i64 a),.c (.int .i64 b)]
  (fun x h=>∃og' ns' mm' r,ZP n ns mm (min (evZ n ns a) (evZ n ns b)) (3^(n+1)-1) og' ns' mm'∧WOk n ns' a b r∧x=.c (.int .i64 r)∧h=ZHp gT gU gM og' ns' mm'):=
 zwithout_ok n gT gU gM h24 (n+1) og ns mm a b hs hn ha hb (by have:=evZ_le hs.tab ha;have:=evZ_le hs.tab hb;omega)
end Go.Proofs.YtfcnbgmclfkfcaaGreat
namespace Go.PN
open Go.AI Go.Proofs.YtfcnbgmclfkfcaaGreat
def exR (rs:List Int) (r:Int):Option Int:=if r<2 then some r else if r∈rs then some ((rs.idxOf r:Int)+2) else none
theorem exR_app {rs zs:List Int} {r x:Int} (h:exR rs r=some x):exR (rs++zs) r=some x:=by
 unfold exR at h⊢
 split at h
 ·rename_i h2;rw [if_pos h2];exact h
 ·rename_i h2
  rw [if_neg h2]
  split at h
  ·rename_i hm
   rw [if_pos (List.mem_append_left _ hm),List.idxOf_append,if_pos hm]
   exact h
  ·cases h
theorem exR_take {rs:List Int} {r x:Int} {j:Nat} (h:exR (rs.take j) r=some x):exR rs r=some x:=by
 have:=exR_app (zs:=rs.drop j) h
 rwa [List.take_append_drop] at this
theorem exR_lt {rs:List Int} {r x:Int} (h0:0≤r) (h:exR rs r=some x):0≤x∧x<rs.length+2:=by
 unfold exR at h
 split at h
 ·injection h with h;omega
 ·split at h
  ·rename_i hm
   injection h with h
   have:=List.idxOf_lt_length_of_mem hm
   omega
  ·cases h
theorem exR_inj {rs:List Int} {a b x:Int} (ha:exR rs a=some x) (hb:exR rs b=some x):a=b:=by
 unfold exR at ha hb
 split at ha
 ·injection ha with ha
  split at hb
  ·injection hb with hb;omega
  ·split at hb
   ·injection hb with hb;omega
   ·cases hb
 ·split at ha
  ·rename_i h1 hm
   injection ha with ha
   split at hb
   ·injection hb with hb;omega
   ·split at hb
    ·rename_i h2 hm2
     injection hb with hb
     have e:rs.idxOf a=rs.idxOf b:=by omega
     have l1:=List.idxOf_lt_length_of_mem hm
     have l2:=List.idxOf_lt_length_of_mem hm2
     have e1:=List.getElem_idxOf l1
     have e2:=List.getElem_idxOf l2
     rw [←e1,←e2]
     simp only [e]
    ·cases hb
  ·cases ha
structure ExOk (ns:List DN) (rs:List Int) (os:List DN):Prop where
 len:os.length=rs.length
 nd:rs.Nodup
 bd:∀r∈rs,2≤r∧r<ns.length+2
 node:∀j,j<rs.length→∃lo hi,exR (rs.take j) (ns.getD (rs.getD j 0-2).toNat dn0).lo=some lo∧exR (rs.take j) (ns.getD (rs.getD j 0-2).toNat dn0).hi=some hi∧os.getD j dn0=⟨(ns.getD (rs.getD j 0-2).toNat dn0).v,lo,hi⟩
theorem ExOk.nil (ns:List DN):ExOk ns [] []:=⟨rfl,List.nodup_nil,fun x hx=>absurd hx List.not_mem_nil,fun j hj=>absurd hj (Nat.not_lt_zero _)⟩
theorem ExOk.ref {ns:List DN} {rs:List Int} {os:List DN} (h:ExOk ns rs os) {j:Nat} (hj:j<rs.length):2≤rs.getD j 0∧rs.getD j 0<ns.length+2:=by
 rw [getDZ hj];exact h.bd _ (List.getElem_mem hj)
theorem ExOk.nsok {o:List Int} {ns:List DN} {rs:List Int} {os:List DN} (ht:TabOk o ns) (h:ExOk ns rs os):NsOk o.length os:=fun j hj=>by
 have hj':j<rs.length:=by rw [←h.len];exact hj
 obtain⟨lo,hi,e1,e2,e3⟩:=h.node j hj'
 have hb:=h.ref hj'
 have hi':(rs.getD j 0-2).toNat<ns.length:=by omega
 obtain⟨v0,v1,_,_,_,_⟩:=(ht _ hi').nk
 obtain⟨r1,r2⟩:=kids_ref ht hi'
 have b1:=exR_lt r1.1 e1
 have b2:=exR_lt r2.1 e2
 rw [List.length_take] at b1 b2
 rw [e3]
 exact⟨v0,v1,b1.1,by show lo<j+2;omega,b2.1,by show hi<j+2;omega⟩
theorem ExOk.find {ns:List DN} {rs:List Int} {os:List DN} (h:ExOk ns rs os) {r x:Int} (h2:2≤r) (e:exR rs r=some x):∃j,j<rs.length∧rs.getD j 0=r∧x=2+(j:Int):=by
 unfold exR at e
 rw [if_neg om] at e
 split at e
 ·rename_i hm
  injection e with e
  have l:=List.idxOf_lt_length_of_mem hm
  refine⟨_,l,?_,by omega⟩
  rw [getDZ l]
  exact List.getElem_idxOf l
 ·cases e
theorem ExOk.eval {o:List Int} {ns:List DN} {rs:List Int} {os:List DN} (ht:TabOk o ns) (h:ExOk ns rs os) (s:Nat):∀(n:Nat) (r x:Int),x.toNat≤n→0≤r→r<ns.length+2→exR rs r=some x→evalD os s x=evalD ns s r:=by
 intro n
 induction n with
 |zero=>
  intro r x hn h0 hr e
  have:=exR_lt h0 e
  by_cases h2:r<2
  ·unfold exR at e;rw [if_pos h2] at e;injection e with e;subst e
   rw [evalD_leaf om,evalD_leaf om]
  ·obtain⟨j,_,_,rfl⟩:=h.find om e
   omega
 |succ n ih=>
  intro r x hn h0 hr e
  by_cases h2:r<2
  ·unfold exR at e;rw [if_pos h2] at e;injection e with e;subst e
   rw [evalD_leaf om,evalD_leaf om]
  ·obtain⟨j,hj,er,rfl⟩:=h.find om e
   obtain⟨lo,hi,e1,e2,e3⟩:=h.node j hj
   rw [er] at e1 e2 e3
   have hi':(r-2).toNat<ns.length:=by omega
   obtain⟨r1,r2⟩:=kids_ref ht hi'
   have b1:=exR_lt r1.1 e1
   have b2:=exR_lt r2.1 e2
   rw [List.length_take] at b1 b2
   rw [evalD_step (h.nsok ht) om (by rw [h.len];omega)]
   unfold kid
   rw [show((2:Int)+(j:Int)-2).toNat=j from by omega,e3]
   rw [evalD_step ht.ns om hr]
   unfold kid
   dsimp only
   split
   ·exact ih _ _ om r2.1 r2.2 (exR_take e2)
   ·exact ih _ _ om r1.1 r1.2 (exR_take e1)
theorem ExOk.lv {o:List Int} {ns:List DN} {rs:List Int} {os:List DN} (h:ExOk ns rs os) {r x:Int} (e:exR rs r=some x):lvZ o os x=lvZ o ns r:=by
 by_cases h2:r<2
 ·unfold exR at e;rw [if_pos h2] at e;injection e with e;subst e
  unfold lvZ;rw [if_pos h2,if_pos h2]
 ·obtain⟨j,hj,er,rfl⟩:=h.find om e
  obtain⟨lo,hi,e1,e2,e3⟩:=h.node j hj
  unfold lvZ
  rw [if_neg om,if_neg h2,show((2:Int)+(j:Int)-2).toNat=j from by omega,e3,er]
theorem behind_lv {o:List Int} {os:List DN} {root x v:Int} (h:placeZ o v<lvZ o os x):behindB ⟨o,os,root⟩ x v=true:=by
 unfold behindB
 by_cases h2:x<2
 ·rw [decide_eq_true h2];rfl
 ·unfold lvZ at h
  rw [if_neg h2] at h
  rw [decide_eq_false h2,Bool.false_or]
  exact decide_eq_true h
theorem ExOk.ncode {o:List Int} {ns:List DN} {rs:List Int} {os:List DN} (ht:TabOk o ns) (h:ExOk ns rs os) (root:Int) {j:Nat} (hj:j<os.length):Go.PN.ncode ⟨o,os,root⟩ j=0:=by
 have hj':j<rs.length:=by rw [←h.len];exact hj
 obtain⟨lo,hi,e1,e2,e3⟩:=h.node j hj'
 have hb:=h.ref hj'
 have hi':(rs.getD j 0-2).toNat<ns.length:=by omega
 have nd:=ht _ hi'
 have nk:=h.nsok ht j hj
 rw [e3] at nk
 obtain⟨v0,v1,l0,l1,g0,g1⟩:=nk
 dsimp only at v0 v1 l0 l1 g0 g1
 unfold Go.PN.ncode
 rw [show(⟨o,os,root⟩:DG).nodes=os from rfl,e3]
 rw [if_neg (by unfold nrange;dsimp only;omega),if_neg ?_,if_neg ?_,if_neg ?_]
 ·intro hm
  obtain⟨k,hk,hkl,ek⟩:=take_memN.1 hm
  have hk':k<rs.length:=by omega
  obtain⟨lo',hi'',f1,f2,f3⟩:=h.node k hk'
  rw [f3] at ek
  injection ek with ev el eh
  subst el eh
  have q1:=exR_inj (exR_take f1) (exR_take e1)
  have q2:=exR_inj (exR_take f2) (exR_take e2)
  have hkb:=h.ref hk'
  have same:ns.getD (rs.getD k 0-2).toNat dn0=ns.getD (rs.getD j 0-2).toNat dn0:=by
   cases hA:ns.getD (rs.getD k 0-2).toNat dn0
   cases hB:ns.getD (rs.getD j 0-2).toNat dn0
   rw [hA,hB] at q1 q2 ev
   dsimp only at q1 q2 ev
   rw [q1,q2,ev]
  have hne:rs.getD k 0≠rs.getD j 0:=fun e=>by
   have p1:=place_get h.nd hk'
   have p2:=place_get h.nd hj'
   rw [e] at p1
   omega
  have hik:(rs.getD k 0-2).toNat<ns.length:=by omega
  rcases Nat.lt_or_gt_of_ne (show(rs.getD k 0-2).toNat≠(rs.getD j 0-2).toNat from fun e=>hne om) with hl|hl
  ·refine nd.new ?_
   rw [←same]
   exact take_memN.2 ⟨_,hl,hik,rfl⟩
  ·refine(ht _ hik).new ?_
   rw [same]
   exact take_memN.2 ⟨_,hl,hi',rfl⟩
 ·have b1:=nd.bl
  have b2:=nd.bh
  dsimp only
  rw [behind_lv (by rw [h.lv (exR_take e1)];exact b1),behind_lv (by rw [h.lv (exR_take e2)];exact b2)]
  simp
 ·dsimp only
  intro e
  subst e
  exact nd.ne (exR_inj (exR_take e1) (exR_take e2))
structure Ex (o:List Int) (ns:List DN) (rs:List Int) (os:List DN) (rs':List Int) (os':List DN) (r x:Int):Prop where
 ok:ExOk ns rs' os'
 pre:∃zs,rs'=rs++zs
 preo:∃ys,os'=os++ys
 ref:exR rs' r=some x
 num:∀ys,∀k,x.toNat≤k→numF (os'++ys) k x (numsL rs.length)=numsL rs'.length
 below:∀z∈rs',z∈rs∨z≤r
 len:rs'.length≤rs.length+(2^(o.length-lvZ o ns r).toNat-1)
theorem mem_numsL {n:Nat} {x:Int}:x∈numsL n↔2≤x∧x<n+2:=by
 unfold numsL
 rw [List.mem_map]
 constructor
 ·rintro ⟨i,hi,rfl⟩
  rw [List.mem_range] at hi
  omega
 ·intro h
  exact⟨(x-2).toNat,List.mem_range.2 om,by omega⟩
theorem numsL_succ' (n:Nat):numsL (n+1)=numsL n++[(n:Int)+2]:=by simp [numsL,List.range_succ]
theorem ex_same {o:List Int} {ns:List DN} {rs:List Int} {os:List DN} {r x:Int} (h:ExOk ns rs os) (h0:0≤r) (e:exR rs r=some x):Ex o ns rs os rs os r x:=
 ⟨h,⟨[],by simp⟩,⟨[],by simp⟩,e,fun ys k _=>by
  have hx:=exR_lt h0 e
  cases k with
  |zero=>rfl
  |succ k=>rw [numF,if_pos];rw [mem_numsL];omega,fun z hz=>.inl hz,by omega⟩
theorem ex_node {o:List Int} {ns:List DN} {rs rs1 rs2:List Int} {os os1 os2:List DN} {r xl xh:Int} (ht:TabOk o ns) (h2:2≤r) (hr:r<ns.length+2) (hnew:r∉rs)
 (a:Ex o ns rs os rs1 os1 (ns.getD (r-2).toNat dn0).lo xl) (b:Ex o ns rs1 os1 rs2 os2 (ns.getD (r-2).toNat dn0).hi xh):
 r∉rs2∧Ex o ns rs os (rs2++[r]) (os2++[⟨(ns.getD (r-2).toNat dn0).v,xl,xh⟩]) r ((rs2.length:Int)+2):=by
 have hi':(r-2).toNat<ns.length:=by omega
 have nk:=(ht _ hi').nk
 obtain⟨v0,v1,l0,l1,g0,g1⟩:=nk
 obtain⟨z1,e1⟩:=a.pre
 obtain⟨z2,e2⟩:=b.pre
 obtain⟨y1,f1⟩:=a.preo
 obtain⟨y2,f2⟩:=b.preo
 have hout:r∉rs2:=fun hm=>by
  rcases b.below r hm with hm|hm
  ·rcases a.below r hm with hm|hm
   ·exact hnew hm
   ·omega
  ·omega
 have hax:exR rs2 (ns.getD (r-2).toNat dn0).lo=some xl:=by rw [e2];exact exR_app a.ref
 have hxl:=exR_lt l0 hax
 have hxh:=exR_lt g0 b.ref
 have hlen2:=b.ok.len
 refine⟨hout,⟨⟨by simp [hlen2],?_,fun z hz=> ?_,fun j hj=> ?_⟩,⟨z1++z2++[r],by rw [e2,e1];simp⟩,⟨y1++y2++[⟨(ns.getD (r-2).toNat dn0).v,xl,xh⟩],by rw [f2,f1];simp only [List.append_assoc]⟩,?_,fun ys k hk=> ?_,fun z hz=> ?_,?_⟩⟩
 ·exact List.nodup_append.2 ⟨b.ok.nd,by simp,fun a ha c hc=>by
   rw [List.mem_singleton] at hc;subst hc;exact fun e=>hout (e▸ha)⟩
 ·rcases List.mem_append.1 hz with hz|hz
  ·exact b.ok.bd z hz
  ·rw [List.mem_singleton] at hz;subst hz;exact⟨h2,hr⟩
 ·rw [List.length_append,List.length_singleton] at hj
  by_cases hjl:j<rs2.length
  ·obtain⟨lo,hi,q1,q2,q3⟩:=b.ok.node j hjl
   have e:(rs2++[r]).getD j 0=rs2.getD j 0:=by
    rw [List.getD_eq_getElem?_getD,List.getD_eq_getElem?_getD,List.getElem?_append_left hjl]
   rw [e,List.take_append_of_le_length om]
   exact⟨lo,hi,q1,q2,by rw [getD_app om];exact q3⟩
  ·have hj':j=rs2.length:=by omega
   subst hj'
   have e:(rs2++[r]).getD rs2.length 0=r:=by
    rw [List.getD_eq_getElem?_getD,List.getElem?_append_right (Nat.le_refl _),Nat.sub_self];rfl
   rw [e,List.take_append_of_le_length (Nat.le_refl _),List.take_length]
   refine⟨xl,xh,hax,b.ref,?_⟩
   rw [←hlen2,List.getD_eq_getElem?_getD,List.getElem?_append_right (Nat.le_refl _),Nat.sub_self];rfl
 ·unfold exR
  rw [if_neg om,if_pos (by simp),List.idxOf_append,if_neg hout]
  simp
 ·obtain⟨k',rfl⟩:∃k',k=k'+1:=⟨k-1,by omega⟩
  have hlen:(rs2++[r]).length=rs2.length+1:=by simp
  have hg:((os2++[(⟨(ns.getD (r-2).toNat dn0).v,xl,xh⟩:DN)])++ys).getD ((rs2.length:Int)+2-2).toNat dn0=⟨(ns.getD (r-2).toNat dn0).v,xl,xh⟩:=by
   rw [show((rs2.length:Int)+2-2).toNat=os2.length from by omega,List.append_assoc,List.getD_eq_getElem?_getD,List.getElem?_append_right (Nat.le_refl _),Nat.sub_self];rfl
  have hle:rs.length≤rs2.length:=by rw [e2,e1];simp only [List.length_append];omega
  rw [numF,if_neg (by rw [mem_numsL];omega),hg]
  dsimp only
  have a1:=a.num (y2++[(⟨(ns.getD (r-2).toNat dn0).v,xl,xh⟩:DN)]++ys) k' om
  have b1:=b.num ([(⟨(ns.getD (r-2).toNat dn0).v,xl,xh⟩:DN)]++ys) k' om
  have ea:os1++(y2++[(⟨(ns.getD (r-2).toNat dn0).v,xl,xh⟩:DN)]++ys)=os2++[(⟨(ns.getD (r-2).toNat dn0).v,xl,xh⟩:DN)]++ys:=by rw [f2];simp
  rw [ea] at a1
  rw [←List.append_assoc] at b1
  rw [a1,b1,hlen,numsL_succ']
 ·rcases List.mem_append.1 hz with hz|hz
  ·rcases b.below z hz with h|h
   ·rcases a.below z h with h|h
    ·exact .inl h
    ·exact .inr om
   ·exact .inr om
  ·rw [List.mem_singleton] at hz;exact .inr om
 ·have nd:=ht _ hi'
  have b1:=nd.bl
  have b2:=nd.bh
  have hlr:lvZ o ns r=placeZ o (ns.getD (r-2).toNat dn0).v:=by unfold lvZ;rw [if_neg om]
  have ll:=lv_le (o:=o) (ns:=ns) (r:=(ns.getD (r-2).toNat dn0).lo)
  have lh:=lv_le (o:=o) (ns:=ns) (r:=(ns.getD (r-2).toNat dn0).hi)
  have la:=a.len
  have lb:=b.len
  obtain⟨q,hq⟩:∃q,(o.length-lvZ o ns r).toNat=q+1:=⟨(o.length-lvZ o ns r).toNat-1,by omega⟩
  have pa:2^((o.length:Int)-lvZ o ns (ns.getD (r-2).toNat dn0).lo).toNat≤2^q:=Nat.pow_le_pow_right om om
  have pb:2^((o.length:Int)-lvZ o ns (ns.getD (r-2).toNat dn0).hi).toNat≤2^q:=Nat.pow_le_pow_right om om
  have pq:0<2^q:=Nat.pow_pos om
  rw [hq,Nat.pow_succ,List.length_append,List.length_singleton]
  omega
theorem ex_code {o:List Int} {ns:List DN} {rs:List Int} {os:List DN} {r x:Int} (ho:ocode o o.length=0) (ht:TabOk o ns) (hr:RefOk ns r) (h:Ex o ns [] [] rs os r x) (hl:os.length≤4096):dcode ⟨o,os,x⟩=0:=by
 have hx:=exR_lt hr.1 h.ref
 have hlen:=h.ok.len
 unfold dcode
 have hz:∀(k i:Nat),i+k≤os.length→nfirst ⟨o,os,x⟩ i k=0:=by
  intro k
  induction k with
  |zero=>intro i _;rfl
  |succ k ih=>
   intro i hi
   rw [nfirst,if_neg (by rw [h.ok.ncode ht x om];simp)]
   exact ih (i+1) om
 rw [if_neg (by simpa using ho),if_neg (by simpa using hl),if_neg (by rw [hz _ _ (by simp)];simp),if_neg (by dsimp only;omega)]
 have hn:=h.num [] x.toNat (Nat.le_refl _)
 rw [List.append_nil] at hn
 rw [if_pos]
 show numF os x.toNat x []=numsL os.length
 rw [hlen,←hn]
 rfl
end Go.PN
namespace Go.Proofs.YtfcnbgmclfkfcaaGreat
open Go.AI Go.PN
attribute [local irreducible] aw Fa Fh DrK
theorem ref0 {ns:List DN}:RefOk ns 0:=⟨by omega,by omega⟩
theorem ref1 {ns:List DN}:RefOk ns 1:=⟨by omega,by omega⟩
theorem ev0 {ns:List DN} {s:Nat}:evalD ns s 0=false:=by rw [evalD_leaf om];rfl
theorem ev1 {ns:List DN} {s:Nat}:evalD ns s 1=true:=by rw [evalD_leaf om];rfl
theorem tnot_fh (gT gU gM:Nat) {o pl:List Int} (ho:OdOk o pl) {og:Option Nat} {ns:List DN} {mm:Mem3} (hs:TS o og ns mm) (hn:ns.length+2^(o.length+1)≤1000000000) {a:Int} (ha:RefOk ns a):
 Fh Tryz.prog 125 (THp gT gU gM og o pl ns mm) [.c (.optr gT 0),.c (.int .i64 a)] (OpQ gT gU gM o pl ns (2^(o.length+1)-1) fun s=> !evalD ns s a):=by
 refine fh_of_body Tryz.func125 rfl rfl (by simp [Tryz.ntmps125]) fun C hC=> ?_
 simp only [initS,Nat.reduceAdd]
 refine xG ?_
 refine aw_callh (hr:=[]) (choose_fh gT gU gM ho hs hn ha ref0 ref1) rfl rfl rfl (by rw [List.append_nil]) eL ?_
 rintro _ _ ⟨og',ns',mm',r,e1,e2,e3,e4,rfl,rfl⟩ _
 rw [List.append_nil]
 refine xSGU ?_
 exact⟨og',ns',mm',r,e1,e2,e3,fun s=>by rw [e4];dsimp only;rw [ev0,ev1];cases evalD ns s a<;>rfl,rfl,rfl⟩
theorem tand_fh (gT gU gM:Nat) {o pl:List Int} (ho:OdOk o pl) {og:Option Nat} {ns:List DN} {mm:Mem3} (hs:TS o og ns mm) (hn:ns.length+2^(o.length+1)≤1000000000) {a b:Int} (ha:RefOk ns a) (hb:RefOk ns b):
 Fh Tryz.prog 61 (THp gT gU gM og o pl ns mm) [.c (.optr gT 0),.c (.int .i64 a),.c (.int .i64 b)] (OpQ gT gU gM o pl ns (2^(o.length+1)-1) fun s=>evalD ns s a&&evalD ns s b):=by
 refine fh_of_body Tryz.func61 rfl rfl (by simp [Tryz.ntmps61]) fun C hC=> ?_
 simp only [initS,Nat.reduceAdd]
 refine xG ?_
 refine aw_callh (hr:=[]) (choose_fh gT gU gM ho hs hn ha hb ref0) rfl rfl rfl (by rw [List.append_nil]) eL ?_
 rintro _ _ ⟨og',ns',mm',r,e1,e2,e3,e4,rfl,rfl⟩ _
 rw [List.append_nil]
 refine xSGU ?_
 exact⟨og',ns',mm',r,e1,e2,e3,fun s=>by rw [e4];dsimp only;rw [ev0];cases evalD ns s a<;>rfl,rfl,rfl⟩
theorem tor_fh (gT gU gM:Nat) {o pl:List Int} (ho:OdOk o pl) {og:Option Nat} {ns:List DN} {mm:Mem3} (hs:TS o og ns mm) (hn:ns.length+2^(o.length+1)≤1000000000) {a b:Int} (ha:RefOk ns a) (hb:RefOk ns b):
 Fh Tryz.prog 63 (THp gT gU gM og o pl ns mm) [.c (.optr gT 0),.c (.int .i64 a),.c (.int .i64 b)] (OpQ gT gU gM o pl ns (2^(o.length+1)-1) fun s=>evalD ns s a||evalD ns s b):=by
 refine fh_of_body Tryz.func63 rfl rfl (by simp [Tryz.ntmps63]) fun C hC=> ?_
 simp only [initS,Nat.reduceAdd]
 refine xG ?_
 refine aw_callh (hr:=[]) (choose_fh gT gU gM ho hs hn ha ref1 hb) rfl rfl rfl (by rw [List.append_nil]) eL ?_
 rintro _ _ ⟨og',ns',mm',r,e1,e2,e3,e4,rfl,rfl⟩ _
 rw [List.append_nil]
 refine xSGU ?_
 exact⟨og',ns',mm',r,e1,e2,e3,fun s=>by rw [e4];dsimp only;rw [ev1];cases evalD ns s a<;>rfl,rfl,rfl⟩
theorem txor_fh (gT gU gM:Nat) {o pl:List Int} (ho:OdOk o pl) {og:Option Nat} {ns:List DN} {mm:Mem3} (hs:TS o og ns mm) (hn:ns.length+2^(o.length+1)+2^(o.length+1)≤1000000000) {a b:Int} (ha:RefOk ns a) (hb:RefOk ns b):
 Fh Tryz.prog 127 (THp gT gU gM og o pl ns mm) [.c (.optr gT 0),.c (.int .i64 a),.c (.int .i64 b)] (OpQ gT gU gM o pl ns (2^(o.length+1)+2^(o.length+1)) fun s=>evalD ns s a !=evalD ns s b):=by
 have hB:0<2^(o.length+1):=Nat.pow_pos om
 refine fh_of_body Tryz.func127 rfl rfl (by simp [Tryz.ntmps127]) fun C hC=> ?_
 simp only [initS,Nat.reduceAdd]
 refine xG ?_
 refine aw_callh (hr:=[]) (tnot_fh gT gU gM ho hs om hb) rfl rfl rfl (by rw [List.append_nil]) eL ?_
 rintro _ _ ⟨og1,ns1,mm1,r1,e1,e2,e3,e4,rfl,rfl⟩ _
 rw [List.append_nil]
 have hl:=e2.len
 refine xSG ?_
 refine aw_callh (hr:=[]) (choose_fh gT gU gM ho e1 om (e2.ref ha) e3 (e2.ref hb)) rfl rfl rfl (by rw [List.append_nil]) eL ?_
 rintro _ _ ⟨og',ns',mm',r,f1,f2,f3,f4,rfl,rfl⟩ _
 rw [List.append_nil]
 refine xSGU ?_
 exact⟨og',ns',mm',r,f1,e2.trans f2 om,f3,fun s=>by rw [f4];dsimp only;rw [e4];dsimp only;rw [e2.eval hs.tab ha,e2.eval hs.tab hb];cases evalD ns s a<;>cases evalD ns s b<;>rfl,rfl,rfl⟩
theorem tevent_fh (gT gU gM:Nat) {o pl:List Int} {og:Option Nat} {ns:List DN} {mm:Mem3} (hs:TS o og ns mm) (hn:ns.length≤1000000000) {v:Int} (v0:0≤v) (v1:v<o.length):
 Fh Tryz.prog 62 (THp gT gU gM og o pl ns mm) [.c (.optr gT 0),.c (.int .i64 v)] (OpQ gT gU gM o pl ns 1 fun s=>s.testBit v.toNat):=by
 refine(event_fh gT gU gM og o pl ns mm v hs.og hn).mono ?_
 rintro x h ⟨og',h1,h2,h3⟩
 have hlv:∀r:Int,r<2→placeZ o v<lvZ o ns r:=fun r hr=>by
  unfold lvZ;rw [if_pos hr];exact place_lt
 obtain⟨m1,m2,m3,m4⟩:=mk_ok hs.tab v0 v1 ref0 ref1 (hlv 0 om) (hlv 1 om)
 refine⟨og',_,_,_,⟨h1,m1.tab,hs.mem.later m1 hs.tab⟩,m1,m2,fun s=> ?_,h2,h3⟩
 rw [m4,ev0,ev1]
 dsimp only
 cases s.testBit v.toNat<;>rfl
end Go.Proofs.YtfcnbgmclfkfcaaGreat
